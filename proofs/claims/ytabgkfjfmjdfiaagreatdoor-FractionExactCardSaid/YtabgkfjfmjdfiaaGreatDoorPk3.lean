import Derived.Test.YtabgkfjfmjdfiaaGreatDoorPk2
namespace Go.Proofs.YtabgkfjfmjdfiaaGreatDoor.Lmb
theorem QQ {s:Nat} (hs:s≤29):∃ c:Int,2≤c∧(2:Int) ^ s * c=1073741824∧1≤(2:Int) ^ s∧(2:Int) ^ s≤536870912:=by
  refine⟨2 ^ (30 - s),?_,?_,?_,?_⟩
  · have h:(2:Nat) ^ 1≤2 ^ (30 - s):=Nat.pow_le_pow_right (by decide) (by omega)
    have:((2 ^ (30 - s):Nat):Int)=(2:Int) ^ (30 - s):=by simp
    omega
  · rw[← Int.pow_add]
    have:s+(30 - s)=30:=by omega
    rw[this];decide
  · have h:1≤(2:Nat) ^ s:=Nat.one_le_two_pow
    have:((2 ^ s:Nat):Int)=(2:Int) ^ s:=by simp
    omega
  · have h:(2:Nat) ^ s≤2 ^ 29:=Nat.pow_le_pow_right (by decide) hs
    have h2:(2:Nat) ^ 29=536870912:=by decide
    have:((2 ^ s:Nat):Int)=(2:Int) ^ s:=by simp
    omega
theorem shl_bound {x:Int} {s:Nat} (hx:0≤x∧x<1073741824) (hs:s≤29):0≤x * 2 ^ s∧x * 2 ^ s≤576460752303423488:=by
  obtain⟨c,_,_,p0,p1⟩:=QQ hs;refine⟨Int.mul_nonneg hx.1 (by omega),?_⟩
  have:x * 2 ^ s≤1073741824 * 2 ^ s:=Int.mul_le_mul_of_nonneg_right (by omega) (by omega)
  omega
theorem shl_low {x:Int} {s:Nat} (hs:s≤29):(x * 2 ^ s) % 1073741824≤1073741824 - 2 ^ s∧∃ y,(x * 2 ^ s) % 1073741824=2 ^ s * y:=by
  obtain⟨c,c2,hc,p0,p1⟩:=QQ hs
  have e:(x * 2 ^ s) % 1073741824=2 ^ s * (x % c):=by
    rw[← hc,Int.mul_comm x,Int.mul_emod_mul_of_pos _ _ (by omega)]
  have h1:=Int.emod_lt_of_pos x (show 0<c by omega);have h2:(2:Int) ^ s * (x % c)≤2 ^ s * (c - 1):=Int.mul_le_mul_of_nonneg_left (by omega) (by omega);rw[Int.mul_sub,hc] at h2;exact⟨by rw[e];omega,_,e⟩
structure ShiftInv (xs os:List Int) (s i:Nat):Prop where
  len:os.length=xs.length+1
  limbs:Qv os
  val:val os=val (xs.take i) * 2 ^ s
  low:os.getD i 0<2 ^ s
  zero:∀ t,i<t→os.getD t 0=0
theorem ShiftInv.start (xs:List Int) {s:Nat} (hs:s≤29):ShiftInv xs (List.replicate (xs.length+1) 0) s 0:=by
  obtain⟨c,_,_,p0,p1⟩:=QQ hs
  have hz:∀ t,(List.replicate (xs.length+1) (0:Int)).getD t 0=0:=fun t=>by
    simp only[List.getD,List.getElem?_replicate];split<;>rfl
  exact⟨by simp,QL _,by simp [val_replicate,QE],by rw[hz];omega,fun t _=>hz t⟩
theorem ShiftInv.step {xs os:List Int} {s i:Nat} (h:ShiftInv xs os s i) (hx:Qv xs) (hs:s≤29) (hi:i<xs.length) :
    ShiftInv xs ((os.set i (os.getD i 0+(xs.getD i 0 * 2 ^ s) % 1073741824)).set (i+1) ((xs.getD i 0 * 2 ^ s) / 1073741824)) s (i+1):=by
  have bx:=Qh hx i;have bo:=Qh h.limbs i;have hl:=h.len;have hv:=h.val;have hlow:=h.low;have hb:=shl_bound bx hs;obtain⟨hr,_⟩:=shl_low (x:=xs.getD i 0) hs;obtain⟨c,_,_,p0,p1⟩:=QQ hs;have ht:=QR xs i hi
  have hy:xs.getD i 0 * 2 ^ s / 1073741824<2 ^ s:=by
    refine Int.ediv_lt_of_lt_mul (by omega) ?_;rw[Int.mul_comm (2 ^ s)];exact Int.mul_lt_mul_of_pos_right bx.2 (by omega)
  have hs1:=val_set os i (by omega) (os.getD i 0+(xs.getD i 0 * 2 ^ s) % 1073741824);have hs2:=val_set (os.set i (os.getD i 0+(xs.getD i 0 * 2 ^ s) % 1073741824)) (i+1) (by simp;omega) ((xs.getD i 0 * 2 ^ s) / 1073741824);rw[QU _ _ _ (by omega),if_neg (by omega),h.zero (i+1) (by omega),hs1] at hs2;have e3:1073741824 * (xs.getD i 0 * 2 ^ s / 1073741824)+xs.getD i 0 * 2 ^ s % 1073741824=xs.getD i 0 * 2 ^ s:=Int.mul_ediv_add_emod _ _
  have e5:(Lmb.val (xs.take i)+pw i * xs.getD i 0) * 2 ^ s=Lmb.val (xs.take i) * 2 ^ s+pw i * (xs.getD i 0 * 2 ^ s):=by
    rw[Int.add_mul,Int.mul_assoc]
  generalize xs.getD i 0 * 2 ^ s=y at *;generalize os.getD i 0=o at *;refine⟨by simpa using hl,QP (QP h.limbs _ _ (by omega)) _ _ (by omega),?_,?_,fun t hlt=>?_⟩
  · have e4:pw i * (1073741824 * (y / 1073741824)+y % 1073741824)=pw i * y:=by rw[e3]
    rw[Int.mul_add,Int.mul_left_comm] at e4;have ec:o+y % 1073741824 - o=y % 1073741824:=by omega
    rw[hs2,ht,e5,QF,Int.sub_zero,ec,Int.mul_assoc];omega
  · rw[QU _ _ _ (by simp;omega),if_pos rfl];exact hy
  · rw[QU _ _ _ (by simp;omega),if_neg (by omega),QU _ _ _ (by omega),if_neg (by omega)]
    exact h.zero t (by omega)
theorem ShiftInv.done {xs os:List Int} {s:Nat} (h:ShiftInv xs os s xs.length):Lmb.val os=Lmb.val xs * 2 ^ s:=by
  have:=h.val
  rwa [List.take_of_length_le (Nat.le_refl _)] at this
structure BackInv (rs os:List Int) (s i:Nat):Prop where
  len:os.length=rs.length
  limbs:Qv os
  val:val (os.drop i)=val (rs.drop i) / 2 ^ s
theorem BackInv.start (rs:List Int) (s:Nat):BackInv rs (List.replicate rs.length 0) s rs.length:=
  ⟨by simp,QL _,by simp [QE]⟩
theorem BackInv.step {rs os:List Int} {s i:Nat} (h:BackInv rs os s (i+1)) (hr:Qv rs) (hs:s≤29) (hi:i<rs.length) :
    BackInv rs (os.set i ((rs.getD (i+1) 0 * 1073741824+rs.getD i 0) / 2 ^ s % 1073741824)) s i:=by
  have b0:=Qh hr i;have b1:=Qh hr (i+1);have hl:=h.len;have hv:=h.val;obtain⟨c,c2,hc,p0,p1⟩:=QQ hs;have e1:=QK rs i hi;have e2:=QK (os.set i ((rs.getD (i+1) 0 * 1073741824+rs.getD i 0) / 2 ^ s % 1073741824)) i (by simp;omega);have e3:(os.set i ((rs.getD (i+1) 0 * 1073741824+rs.getD i 0) / 2 ^ s % 1073741824)).drop (i+1)=os.drop (i+1):=by rw[List.drop_set_of_lt (by omega)]
  rw[QU _ _ _ (by omega),if_pos rfl,e3,hv] at e2;refine⟨by simpa using hl,QP h.limbs _ _ (by omega),?_⟩;rw[e2,e1]
  have e4:∃ X,Lmb.val (rs.drop (i+1))=rs.getD (i+1) 0+1073741824 * X:=by
    by_cases h1:i+1<rs.length
    · exact⟨_,QK rs (i+1) h1⟩
    · refine⟨0,?_⟩
      rw[List.drop_of_length_le (by omega)]
      have:rs.getD (i+1) 0=0:=by simp [List.getD,show rs.length≤i+1 by omega]
      rw[this];rfl
  obtain⟨X,hX⟩:=e4;rw[hX];generalize rs.getD (i+1) 0=a at *;generalize rs.getD i 0=b at *;generalize (2:Int) ^ s=p at *;rw[← hc];have hp:p≠0:=by omega
  have f1:(a+p * c * X) / p=a / p+c * X:=by
    rw[Int.mul_assoc,Int.add_mul_ediv_left _ _ hp]
  have f2:(b+p * c * (a+p * c * X)) / p=b / p+c * (a+p * c * X):=by
    rw[Int.mul_assoc p c (a+p * c * X),Int.add_mul_ediv_left _ _ hp]
  have f3:(a * (p * c)+b) / p=b / p+c * a:=by
    rw[Int.add_comm,Int.mul_left_comm,Int.add_mul_ediv_left _ _ hp,Int.mul_comm a c]
  rw[f1,f2,f3];have q1:=Int.mul_ediv_add_emod a p;have z0:=Int.emod_nonneg a hp;have z1:=Int.emod_lt_of_pos a (show 0<p by omega);have y0:0≤b / p:=Int.ediv_nonneg b0.1 (by omega);have y1:b / p<c:=Int.ediv_lt_of_lt_mul (by omega) (by rw[Int.mul_comm];omega);generalize a / p=q at *;generalize a % p=z at *;generalize b / p=y at *;have g1:c * z≤c * (p - 1):=Int.mul_le_mul_of_nonneg_left (by omega) (by omega);have g2:0≤c * z:=Int.mul_nonneg (by omega) z0;have g3:c * (p - 1)=p * c - c:=by rw[Int.mul_sub,Int.mul_one,Int.mul_comm]
  have g4:y+c * a=(y+c * z)+p * c * q:=by
    rw[← q1,Int.mul_add]
    have:c * (p * q)=p * c * q:=by rw[← Int.mul_assoc,Int.mul_comm c p]
    omega
  have g5:(y+c * a) % (p * c)=y+c * z:=by
    rw[g4,Int.add_mul_emod_self_left];exact Int.emod_eq_of_lt (by omega) (by omega)
  rw[g5]
  have g6:c * (a+p * c * X)=c * z+p * c * q+p * c * (c * X):=by
    rw[Int.mul_add,← q1,Int.mul_add];have t1:c * (p * q)=p * c * q:=by rw[← Int.mul_assoc,Int.mul_comm c p]
    have t2:c * (p * c * X)=p * c * (c * X):=by simp only[Int.mul_assoc,Int.mul_left_comm]
    omega
  rw[g6,Int.mul_add];omega
theorem BackInv.done {rs os:List Int} {s R:Nat} (h:BackInv rs os s 0) (hr:Lmb.val rs=R):Dig (trim os) (R / 2 ^ s):=by
  have hv:=h.val;rw[List.drop_zero,List.drop_zero,hr] at hv;have hd:=Ze h.limbs;rw[hv] at hd
  have e:((R:Int) / 2 ^ s).toNat=R / 2 ^ s:=by
    have:((2 ^ s:Nat):Int)=(2:Int) ^ s:=by simp
    rw[← this,← Int.natCast_ediv];rfl
  rwa [e] at hd
end Go.Proofs.YtabgkfjfmjdfiaaGreatDoor.Lmb

namespace Go.Proofs.YtabgkfjfmjdfiaaGreatDoor.Lmb
theorem lead_room {y:Int} {L:Nat} (hy:y<2 ^ L) (hL:L≤30):(y+1) * 2 ^ (30 - L)≤1073741824:=by
  have e:(2:Int) ^ L * 2 ^ (30 - L)=1073741824:=by
    rw[← Int.pow_add]
    have:L+(30 - L)=30:=by omega
    rw[this];decide
  have hp:0<(2:Int) ^ (30 - L):=Int.pow_pos (by decide);rw[← e];exact Int.mul_le_mul_of_nonneg_right (by omega) (by omega)
theorem divisor_of {ys vs:List Int} {s n:Nat} (hn:2≤n) (hl:ys.length=n) (ly:Qv ys) (ny:Norm ys) (h:ShiftInv ys vs s ys.length) (hs:s≤29) (hr:(ys.getD (n - 1) 0+1) * 2 ^ s≤1073741824) :
    Divisor vs (val ys * 2 ^ s) n:=by
  obtain⟨c,_,_,p0,p1⟩:=QQ hs;have hv:=h.done;have e0:=QX ys (n - 1) (by omega);have e1:=QK ys (n - 1) (by omega);have i1:n - 1+1=n:=by omega
  have z1:ys.drop n=[]:=List.drop_of_length_le (by omega);rw[i1,z1,QE,Int.mul_zero,Int.add_zero] at e1;have t1:=val_lt (Qy ly (n - 1));rw[List.length_take,Nat.min_eq_left (by omega)] at t1;have hpos:=val_pos ly ny (fun h0=>by rw[h0,List.length_nil] at hl;omega);rw[hl] at hpos;have hp:=Zu (n - 1);have hpn:pw n=1073741824 * pw (n - 1):=by rw[← QF,i1]
  have b:=Qh ly (n - 1)
  have hlt:val ys * 2 ^ s<pw n:=by
    have h1:val ys<pw (n - 1) * (ys.getD (n - 1) 0+1):=by
      rw[e0,e1,Int.mul_add (pw (n - 1)) _ 1];omega
    have h2:val ys * 2 ^ s<pw (n - 1) * (ys.getD (n - 1) 0+1) * 2 ^ s:=Int.mul_lt_mul_of_pos_right h1 (by omega);have h3:pw (n - 1) * (ys.getD (n - 1) 0+1) * 2 ^ s=pw (n - 1) * ((ys.getD (n - 1) 0+1) * 2 ^ s):=Int.mul_assoc _ _ _;have h4:pw (n - 1) * ((ys.getD (n - 1) 0+1) * 2 ^ s)≤pw (n - 1) * 1073741824:=Int.mul_le_mul_of_nonneg_left hr (by omega);rw[hpn];omega
  refine⟨by rw[h.len,hl],h.limbs,hv,hlt,hn,?_⟩;have bl:=Qh h.limbs (n - 1);rcases (show vs.getD (n - 1) 0=0∨1≤vs.getD (n - 1) 0 by omega) with hz|hz
  · exfalso
    have hlen:=h.len;have f0:=QX vs (n - 1) (by omega);have f1:=QK vs (n - 1) (by omega);rw[i1,hz] at f1;have u1:=val_lt (Qy h.limbs (n - 1));rw[List.length_take,Nat.min_eq_left (by omega)] at u1;have u0:=Qp (Zv h.limbs n);have ge:pw (n - 1) * 1≤val ys * 2 ^ s:=Int.mul_le_mul hpos p0 (by omega) (by omega);have u2:=Qp (Qy h.limbs (n - 1));rw[f1] at f0;rcases (show val (vs.drop n)=0∨1≤val (vs.drop n) by omega) with hd|hd
    · rw[hd] at f0;omega
    · have:pw (n - 1) * (1073741824 * 1)≤pw (n - 1) * (0+1073741824 * val (vs.drop n)):=Int.mul_le_mul_of_nonneg_left (by omega) (by omega)
      omega
  · exact hz
theorem div_start {xs ys us:List Int} {s n:Nat} (hn:1≤n) (hl:ys.length=n) (hxl:n≤xs.length) (lx:Qv xs) (ly:Qv ys) (ny:Norm ys) (h:ShiftInv xs us s xs.length) (hs:s≤29) :
    DivInv (val xs * 2 ^ s) (val ys * 2 ^ s) us (List.replicate (xs.length - n+1) 0) (xs.length+1) (xs.length - n+1) (xs.length - n+1):=by
  obtain⟨c,_,_,p0,p1⟩:=QQ hs;have hv:=h.done;have hpos:=val_pos ly ny (fun h0=>by rw[h0,List.length_nil] at hl;omega);rw[hl] at hpos;have hx:=val_lt lx;have e:pw (xs.length - n+1) * pw (n - 1)=pw xs.length:=by rw[← pw_add];congr 1;omega
  refine⟨h.len,by simp,h.limbs,QL _,?_,?_⟩
  · rw[List.drop_of_length_le (by simp),QE,Int.zero_mul,Int.zero_add,hv]
  · rw[hv]
    have h1:val xs * 2 ^ s<pw xs.length * 2 ^ s:=Int.mul_lt_mul_of_pos_right hx (by omega);have h2:pw (n - 1) * 2 ^ s≤val ys * 2 ^ s:=Int.mul_le_mul_of_nonneg_right hpos (by omega);have h3:pw (xs.length - n+1) * (pw (n - 1) * 2 ^ s)≤pw (xs.length - n+1) * (val ys * 2 ^ s):=Int.mul_le_mul_of_nonneg_left h2 (Int.le_of_lt (Zu _));rw[← Int.mul_assoc,e] at h3;omega
theorem div_end {xs ys us qs:List Int} {s m n lu lq:Nat} (hx:val xs=m) (hy:val ys=n) (hn:0<n) (hs:s≤29) (h:DivInv (val xs * 2 ^ s) (val ys * 2 ^ s) us qs lu lq 0) :
    Dig (trim qs) (m / n)∧val us=((m % n * 2 ^ s:Nat):Int):=by
  obtain⟨c,_,_,p0,p1⟩:=QQ hs;have he:=h.eq;have hlt:=h.lt;have hu:=Qp h.ulimbs;have hq:=Qp h.qlimbs;have hd:=Ze h.qlimbs;rw[List.drop_zero,Q8,Int.one_mul,hx,hy] at he;rw[Q8,Int.one_mul,hy] at hlt;obtain⟨q,hq'⟩:=Int.eq_ofNat_of_zero_le hq;rw[hq'] at he hd;have ep:((2 ^ s:Nat):Int)=(2:Int) ^ s:=by simp
  have e1:val us=((m:Int) - q * n) * 2 ^ s:=by
    rw[Int.sub_mul,Int.mul_assoc];omega
  have hr0:0≤(m:Int) - q * n:=by
    rcases Int.lt_or_le ((m:Int) - q * n) 0 with hc|hc
    · have:((m:Int) - q * n) * 2 ^ s≤(-1) * 2 ^ s:=Int.mul_le_mul_of_nonneg_right (by omega) (by omega)
      omega
    · exact hc
  have hr1:(m:Int) - q * n<n:=by
    rcases Int.lt_or_le ((m:Int) - q * n) n with hc|hc
    · exact hc
    · have:(n:Int) * 2 ^ s≤((m:Int) - q * n) * 2 ^ s:=Int.mul_le_mul_of_nonneg_right hc (by omega)
      omega
  obtain⟨r,hr⟩:=Int.eq_ofNat_of_zero_le hr0;rw[hr] at hr1 e1
  have hm:m=q * n+r:=by
    have:((m:Nat):Int)=((q * n+r:Nat):Int):=by rw[Int.natCast_add,Int.natCast_mul];omega
    omega
  have hrn:r<n:=by omega
  have d1:m / n=q:=by rw[hm,Nat.add_comm,Nat.add_mul_div_right _ _ hn,Nat.div_eq_of_lt hrn];omega
  have d2:m % n=r:=by rw[hm,Nat.add_comm,Nat.add_mul_mod_self_right,Nat.mod_eq_of_lt hrn]
  rw[d1,d2];refine⟨by simpa using hd,?_⟩;rw[e1,Int.natCast_mul,ep]
theorem div_low {A V:Int} {us qs:List Int} {n lu lq:Nat} (h:DivInv A V us qs lu lq 0) (hV:V<pw n) (hl:n≤lu):val (us.take n)=val us:=by
  have hlt:=h.lt;rw[Q8,Int.one_mul] at hlt;have e:=QX us n (by rw[h.ulen];exact hl);have t0:=Qp (Qy h.ulimbs n);have d0:=Qp (Zv h.ulimbs n);have hp:=Zu n;rcases (show val (us.drop n)=0∨1≤val (us.drop n) by omega) with hd|hd
  · rw[hd] at e;omega
  · exfalso
    have:pw n * 1≤pw n * val (us.drop n):=Int.mul_le_mul_of_nonneg_left hd (by omega)
    omega
end Go.Proofs.YtabgkfjfmjdfiaaGreatDoor.Lmb
