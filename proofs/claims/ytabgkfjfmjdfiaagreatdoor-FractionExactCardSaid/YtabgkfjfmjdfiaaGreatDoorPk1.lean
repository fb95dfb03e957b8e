import Derived.Below
import Derived.WalkKit
import Derived.Carry
import Derived.Deep.Draws
import Derived.Deep.Quiet
import Derived.Laws.AppendOwn
import Derived.KernelRfl
import Derived.DeepKeys
import Derived.Laws.StructEq
import Derived.Maps.AppendAt
import Derived.MapKept
namespace Go.Proofs.YtabgkfjfmjdfiaaGreatDoor.Lmb
def val:List Int→Int
  | []=>0
  | x :: r=>x+1073741824 * val r
def Qv (xs:List Int):Prop:=∀ x∈xs,0≤x∧x<1073741824
def Norm (xs:List Int):Prop:=∀ x,xs.getLast? = some x→x≠0
structure Dig (xs:List Int) (n:Nat):Prop where
  limbs:Qv xs
  norm:Norm xs
  val:val xs=n
theorem QJ:Qv []:=by intro x hx;cases hx
theorem QB {x:Int} {r:List Int}:Qv (x :: r) ↔ (0≤x∧x<1073741824)∧Qv r:=by
  simp [Qv]
theorem limbs_append {a b:List Int}:Qv (a ++ b) ↔ Qv a∧Qv b:=by
  simp only[Qv,List.mem_append];constructor
  · intro h;exact⟨fun x hx=>h x (Or.inl hx),fun x hx=>h x (Or.inr hx)⟩
  · rintro⟨h,k⟩ x (hx|hx)
    · exact h x hx
    · exact k x hx
theorem Qh {xs:List Int} (h:Qv xs) (i:Nat):0≤xs.getD i 0∧xs.getD i 0<1073741824:=by
  by_cases hi:i<xs.length
  · have:xs.getD i 0=xs[i]:=by simp [List.getD,hi]
    rw[this];exact h _ (List.getElem_mem hi)
  · have:xs.getD i 0=0:=by simp [List.getD,Nat.le_of_not_lt hi]
    rw[this];omega
theorem Qy {xs:List Int} (h:Qv xs) (k:Nat):Qv (xs.take k):=fun x hx=>h x (List.mem_of_mem_take hx)
theorem Zv {xs:List Int} (h:Qv xs) (k:Nat):Qv (xs.drop k):=fun x hx=>h x (List.mem_of_mem_drop hx)
theorem QP {xs:List Int} (h:Qv xs) (k:Nat) (v:Int) (hv:0≤v∧v<1073741824):Qv (xs.set k v):=by
  intro x hx;rcases List.mem_or_eq_of_mem_set hx with hx|rfl
  · exact h x hx
  · exact hv
theorem QL (n:Nat):Qv (List.replicate n 0):=by
  intro x hx;rw[List.mem_replicate] at hx;omega
def pw (k:Nat):Int:=1073741824 ^ k
theorem Q8:pw 0=1:=rfl
theorem QF (k:Nat):pw (k+1)=1073741824 * pw k:=by unfold pw;rw[Int.pow_succ,Int.mul_comm]
theorem Zu (k:Nat):0<pw k:=by
  induction k with
  | zero=>decide
  | succ k ih=>rw[QF];omega
theorem pw_add (a b:Nat):pw (a+b)=pw a * pw b:=by unfold pw;rw[Int.pow_add]
theorem QI {a b:Nat} (h:a≤b):pw a≤pw b:=by
  obtain⟨c,rfl⟩:=Nat.exists_eq_add_of_le h;rw[pw_add];have h1:=Zu a;have h2:=Zu c;have:=Int.mul_le_mul_of_nonneg_left (show (1:Int)≤pw c by omega) (Int.le_of_lt h1);omega
attribute [irreducible] pw
theorem QE:val []=0:=rfl
theorem Qz (x:Int) (r:List Int):val (x :: r)=x+1073741824 * val r:=rfl
theorem val_append (a b:List Int):val (a ++ b)=val a+pw a.length * val b:=by
  induction a with
  | nil=>simp [QE,Q8]
  | cons x r ih=>
    rw[List.cons_append,Qz,Qz,ih,List.length_cons,QF,Int.mul_add,Int.mul_assoc,Int.add_assoc]
theorem Qp {xs:List Int} (h:Qv xs):0≤val xs:=by
  induction xs with
  | nil=>simp [QE]
  | cons x r ih=>
    rw[QB] at h;have:=ih h.2;rw[Qz];omega
theorem val_lt {xs:List Int} (h:Qv xs):val xs<pw xs.length:=by
  induction xs with
  | nil=>simp [QE,Q8]
  | cons x r ih=>
    rw[QB] at h;have:=ih h.2;rw[Qz,List.length_cons,QF];omega
theorem val_replicate (n:Nat):val (List.replicate n 0)=0:=by
  induction n with
  | zero=>rfl
  | succ n ih=>rw[List.replicate_succ,Qz,ih];rfl
theorem norm_nil:Norm []:=by intro x h;simp at h
theorem norm_cons {x y:Int} {r:List Int}:Norm (x :: y :: r) ↔ Norm (y :: r):=by
  simp [Norm,List.getLast?_cons_cons]
theorem norm_one {x:Int}:Norm [x] ↔ x≠0:=by
  simp [Norm]
theorem val_pos {xs:List Int} (h:Qv xs) (hn:Norm xs) (hne:xs≠[]):pw (xs.length - 1)≤val xs:=by
  induction xs with
  | nil=>exact absurd rfl hne
  | cons x r ih=>
    rw[QB] at h;cases r with
    | nil=>
      rw[norm_one] at hn;simp [Qz,QE,Q8];omega
    | cons y s=>
      have:=ih h.2 (norm_cons.1 hn) (by simp);rw[Qz];simp only[List.length_cons,Nat.add_sub_cancel] at this ⊢;rw[QF];omega
theorem val_eq_zero {xs:List Int} (h:Qv xs) (hn:Norm xs):val xs=0 ↔ xs=[]:=by
  constructor
  · intro hv
    by_cases hne:xs=[]
    · exact hne
    · have h1:=val_pos h hn hne
      have h2:=Zu (xs.length - 1);omega
  · rintro rfl;rfl
theorem val_inj {xs:List Int}:∀ {ys:List Int},Qv xs→Qv ys→Norm xs→Norm ys→val xs=val ys→xs=ys:=by
  induction xs with
  | nil=>
    intro ys _ hy _ ny hv;exact ((val_eq_zero hy ny).1 hv.symm).symm
  | cons x r ih=>
    intro ys hx hy nx ny hv;cases ys with
    | nil=>exact (val_eq_zero hx nx).1 hv
    | cons y s=>
      rw[QB] at hx hy;rw[Qz,Qz] at hv;have hr:=Qp hx.2;have hs:=Qp hy.2;have e1:x=y:=by omega
      have e2:val r=val s:=by omega
      have nr:Norm r:=by cases r with
        | nil=>exact norm_nil
        | cons=>exact norm_cons.1 nx
      have ns:Norm s:=by cases s with
        | nil=>exact norm_nil
        | cons=>exact norm_cons.1 ny
      rw[e1,ih hx.2 hy.2 nr ns e2]
theorem Dig.inj {xs ys:List Int} {n m:Nat} (h:Dig xs n) (k:Dig ys m):xs=ys ↔ n=m:=by
  constructor
  · rintro rfl
    have:=h.val.symm.trans k.val;omega
  · rintro rfl
    exact val_inj h.limbs k.limbs h.norm k.norm (h.val.trans k.val.symm)
theorem Dig.len_zero {xs:List Int} {n:Nat} (h:Dig xs n):xs.length=0 ↔ n=0:=by
  rw[List.length_eq_zero_iff,← val_eq_zero h.limbs h.norm,h.val];omega
theorem Dig.nil:Dig [] 0:=⟨QJ,norm_nil,rfl⟩
theorem Dig.lt {xs:List Int} {n:Nat} (h:Dig xs n):(n:Int)<pw xs.length:=by
  have:=val_lt h.limbs;rw[h.val] at this;exact this
theorem Dig.len_le {xs:List Int} {n:Nat} (h:Dig xs n) (k:Nat):xs.length≤k ↔ (n:Int)<pw k:=by
  constructor
  · intro hk
    exact Int.lt_of_lt_of_le h.lt (QI hk)
  · intro hk
    rcases Nat.lt_or_ge k xs.length with hlt|hge
    · have hne:xs≠[]:=by rintro rfl;simp at hlt
      have h1:=val_pos h.limbs h.norm hne;have h2:=QI (show k≤xs.length - 1 by omega);rw[h.val] at h1;omega
    · exact hge
def trim:List Int→List Int
  | []=>[]
  | x :: r=>match trim r with
    | []=>if x=0 then [] else [x]
    | y :: s=>x :: y :: s
theorem trim_norm (xs:List Int):Norm (trim xs):=by
  induction xs with
  | nil=>exact norm_nil
  | cons x r ih=>
    unfold trim;split
    · split
      · exact norm_nil
      · rw[norm_one];assumption
    · rename_i y s h
      rw[norm_cons,← h];exact ih
theorem trim_val (xs:List Int):val (trim xs)=val xs:=by
  induction xs with
  | nil=>rfl
  | cons x r ih=>
    unfold trim;split
    · rename_i h
      rw[h,QE] at ih;split
      · rename_i h0;rw[Qz,← ih,h0];rfl
      · rw[Qz,Qz,← ih];rfl
    · rename_i y s h
      rw[Qz,Qz x r,← ih,h]
theorem trim_limbs {xs:List Int} (hl:Qv xs):Qv (trim xs):=by
  induction xs with
  | nil=>exact QJ
  | cons x r ih=>
    rw[QB] at hl;have:=ih hl.2;unfold trim;split
    · split
      · exact QJ
      · rw[QB];exact⟨hl.1,QJ⟩
    · rename_i y s h
      rw[QB,← h];exact⟨hl.1,this⟩
theorem trim_prefix (xs:List Int):∃ z,xs=trim xs ++ z:=by
  induction xs with
  | nil=>exact⟨[],rfl⟩
  | cons x r ih=>
    obtain⟨z,hz⟩:=ih;unfold trim;split
    · rename_i h
      split
      · exact⟨x :: r,rfl⟩
      · exact⟨r,rfl⟩
    · rename_i y s h
      exact⟨z,by rw[List.cons_append,← h,← hz]⟩
theorem trim_len (xs:List Int):(trim xs).length≤xs.length:=by
  obtain⟨z,hz⟩:=trim_prefix xs;have:=congrArg List.length hz;rw[List.length_append] at this;omega
theorem trim_take (xs:List Int):xs.take (trim xs).length=trim xs:=by
  obtain⟨z,hz⟩:=trim_prefix xs;have h:(trim xs ++ z).take (trim xs).length=trim xs:=by simp
  rwa [← hz] at h
theorem trim_snoc_zero (xs:List Int):trim (xs ++ [0])=trim xs:=by
  induction xs with
  | nil=>rfl
  | cons x r ih=>simp only[List.cons_append,trim,ih]
theorem trim_snoc {x:Int} (xs:List Int) (h:x≠0):trim (xs ++ [x])=xs ++ [x]:=by
  induction xs with
  | nil=>simp [trim,h]
  | cons y r ih=>
    simp only[List.cons_append,trim,ih];cases r<;>rfl
theorem trim_of_norm {xs:List Int} (h:Norm xs):trim xs=xs:=by
  rcases List.eq_nil_or_concat xs with rfl|⟨r,x,rfl⟩
  · rfl
  · rw[List.concat_eq_append] at h ⊢
    exact trim_snoc r (h x (by simp))
theorem Ze {xs:List Int} (h:Qv xs):Dig (trim xs) (val xs).toNat:=
  ⟨trim_limbs h,trim_norm xs,by rw[trim_val];have:=Qp h;omega⟩
theorem QR (xs:List Int) (k:Nat) (h:k<xs.length):val (xs.take (k+1))=val (xs.take k)+pw k * xs.getD k 0:=by
  rw[List.take_succ_eq_append_getElem h,val_append,List.length_take,Nat.min_eq_left (Nat.le_of_lt h)];simp [Qz,QE,List.getD,h]
theorem val_take_all (xs:List Int) (k:Nat) (h:xs.length≤k):val (xs.take k)=val xs:=by rw[List.take_of_length_le h]
theorem QX (xs:List Int) (k:Nat) (hk:k≤xs.length):val xs=val (xs.take k)+pw k * val (xs.drop k):=by
  conv=>lhs;rw[← List.take_append_drop k xs]
  rw[val_append,List.length_take,Nat.min_eq_left hk]
theorem Dig.mono_len {xs ys:List Int} {n m:Nat} (h:Dig xs n) (k:Dig ys m) (hle:n≤m):xs.length≤ys.length:=by
  rw[h.len_le];have:=k.lt;omega
theorem Dig.lt_of_len {xs ys:List Int} {n m:Nat} (h:Dig xs n) (k:Dig ys m) (hlt:xs.length<ys.length):n<m:=by
  rcases Nat.lt_or_ge n m with h'|h'
  · exact h'
  · have:=k.mono_len h h'
    omega
theorem val_set (xs:List Int) (k:Nat) (h:k<xs.length) (v:Int):val (xs.set k v)=val xs+pw k * (v - xs.getD k 0):=by
  induction xs generalizing k with
  | nil=>simp at h
  | cons x r ih=>
    cases k with
    | zero=>simp [Qz,Q8];omega
    | succ k=>
      simp only[List.set_cons_succ,Qz,List.getD_cons_succ];rw[ih k (by simpa using h),QF,Int.mul_add,Int.mul_assoc];omega
def fact:Nat→Nat
  | 0=>1
  | n+1=>(n+1) * fact n
end Go.Proofs.YtabgkfjfmjdfiaaGreatDoor.Lmb

namespace Go.Proofs.YtabgkfjfmjdfiaaGreatDoor.Lmb
theorem QU {xs:List Int} (i j:Nat) (v:Int) (h:i<xs.length):(xs.set i v).getD j 0=if i=j then v else xs.getD j 0:=by
  simp only[List.getD,List.getElem?_set];split
  · rfl
  · rfl
structure MulOut (xs ys os:List Int) (j:Nat):Prop where
  len:os.length=xs.length+ys.length
  limbs:Qv os
  val:val os=val (xs.take j) * val ys
  zero:∀ t,j+ys.length≤t→os.getD t 0=0
structure MulIn (xs ys os qs:List Int) (j k:Nat) (c:Int):Prop where
  len:qs.length=xs.length+ys.length
  limbs:Qv qs
  c0:0≤c
  c1:c<1073741824
  val:val qs+pw (j+k) * c=val os+pw j * (xs.getD j 0 * val (ys.take k))
  zero:∀ t,j+ys.length≤t→qs.getD t 0=0
theorem MulOut.start (xs ys:List Int):MulOut xs ys (List.replicate (xs.length+ys.length) 0) 0:=
  ⟨by simp,QL _,by simp [val_replicate,QE],fun t _=>by
    simp only[List.getD,List.getElem?_replicate];split<;>rfl⟩
theorem MulIn.start {xs ys os:List Int} {j:Nat} (h:MulOut xs ys os j):MulIn xs ys os os j 0 0:=
  ⟨h.len,h.limbs,by omega,by omega,by simp [QE],h.zero⟩
theorem limb_prod {x y:Int} (hx:0≤x∧x<1073741824) (hy:0≤y∧y<1073741824):0≤x * y∧x * y≤1152921502459363329:=by
  refine⟨Int.mul_nonneg hx.1 hy.1,?_⟩;have h1:x * y≤1073741823 * y:=Int.mul_le_mul_of_nonneg_right (by omega) hy.1;omega
theorem MulIn.step {xs ys os qs:List Int} {j k:Nat} {c:Int} (h:MulIn xs ys os qs j k c) (hx:Qv xs) (hy:Qv ys) (hj:j<xs.length) (hk:k<ys.length) :
    MulIn xs ys os (qs.set (j+k) ((qs.getD (j+k) 0+xs.getD j 0 * ys.getD k 0+c) % 1073741824)) j (k+1) ((qs.getD (j+k) 0+xs.getD j 0 * ys.getD k 0+c) / 1073741824):=by
  have bx:=Qh hx j;have bY:=Qh hy k;have bo:=Qh h.limbs (j+k);have hp:=limb_prod bx bY;have hl:=h.len;have hv:=h.val;have h0:=h.c0;have h1:=h.c1;have ht:=QR ys k hk;have hs:=val_set qs (j+k) (by omega) ((qs.getD (j+k) 0+xs.getD j 0 * ys.getD k 0+c) % 1073741824);generalize hX:xs.getD j 0=x at *;generalize hY:ys.getD k 0=y at *;generalize hO:qs.getD (j+k) 0=o at *;generalize hXY:x * y=p at *;refine⟨by simpa using hl,QP h.limbs _ _ (by omega),by omega,by omega,?_,fun t hlt=>?_⟩
  · have e1:pw (j+(k+1))=1073741824 * pw (j+k):=by rw[← Nat.add_assoc,QF]
    rw[hX,hs,ht,e1,Int.mul_add x,Int.mul_add (pw j),← Int.add_assoc,← hv];have e2:pw j * (x * (pw k * y))=pw (j+k) * p:=by rw[pw_add,← hXY];simp only[Int.mul_assoc,Int.mul_left_comm]
    rw[e2];have e3:1073741824 * ((o+p+c) / 1073741824)+(o+p+c) % 1073741824=o+p+c:=Int.mul_ediv_add_emod _ _;have e4:pw (j+k) * (1073741824 * ((o+p+c) / 1073741824)+(o+p+c) % 1073741824)=pw (j+k) * (o+p+c):=by rw[e3]
    rw[Int.mul_add] at e4;rw[Int.mul_sub,Int.mul_assoc,Int.mul_left_comm];rw[Int.mul_add,Int.mul_add] at e4;rw[Int.mul_left_comm (pw (j+k)) 1073741824] at e4;rw[Int.mul_left_comm (pw (j+k)) 1073741824];omega
  · rw[QU _ _ _ (by omega),if_neg (by omega)]
    exact h.zero t hlt
theorem MulIn.done {xs ys os qs:List Int} {j:Nat} {c:Int} (h:MulIn xs ys os qs j ys.length c) (ho:MulOut xs ys os j) (hj:j<xs.length) :
    MulOut xs ys (qs.set (j+ys.length) c) (j+1):=by
  have hl:=h.len;have hs:=val_set qs (j+ys.length) (by omega) c;have hv:=h.val;have hov:=ho.val;have ht:=QR xs j hj;rw[h.zero (j+ys.length) (Nat.le_refl _),Int.sub_zero] at hs;rw[List.take_of_length_le (Nat.le_refl _)] at hv;refine⟨by simpa using hl,QP h.limbs _ _ ⟨h.c0,h.c1⟩,?_,fun t hlt=>?_⟩
  · rw[hs,hv,hov,ht,Int.add_mul,Int.mul_assoc]
  · rw[QU _ _ _ (by omega),if_neg (by omega)]
    exact h.zero t (by omega)
theorem MulOut.done {xs ys os:List Int} {m n:Nat} (h:MulOut xs ys os xs.length) (hx:Lmb.val xs=m) (hy:Lmb.val ys=n):Dig (trim os) (m * n):=by
  have hv:=h.val;rw[List.take_of_length_le (Nat.le_refl _),hx,hy] at hv;have:=Ze h.limbs;rw[hv] at this;have e:((m:Int) * (n:Int)).toNat=m * n:=by rw[← Int.natCast_mul];rfl
  rwa [e] at this
end Go.Proofs.YtabgkfjfmjdfiaaGreatDoor.Lmb

namespace Go.Proofs.YtabgkfjfmjdfiaaGreatDoor.Lmb
structure SmallInv (xs:List Int) (b:Int) (j:Nat) (qs:List Int) (rest:Int):Prop where
  len:qs.length=xs.length
  limbs:Qv qs
  r0:0≤rest
  r1:rest<b
  val:val (xs.drop j)=val (qs.drop j) * b+rest
theorem SmallInv.start (xs:List Int) (b:Int) (hb:1≤b):SmallInv xs b xs.length (List.replicate xs.length 0) 0:=
  ⟨by simp,QL _,by omega,by omega,by simp [QE]⟩
theorem QK (xs:List Int) (j:Nat) (h:j<xs.length):val (xs.drop j)=xs.getD j 0+1073741824 * val (xs.drop (j+1)):=by
  rw[List.drop_eq_getElem_cons h,Qz];simp [List.getD,h]
theorem SmallInv.step {xs qs:List Int} {b rest:Int} {j:Nat} (h:SmallInv xs b (j+1) qs rest) (hx:Qv xs) (hj:j<xs.length) :
    SmallInv xs b j (qs.set j ((rest * 1073741824+xs.getD j 0) / b)) ((rest * 1073741824+xs.getD j 0) % b):=by
  have bx:=Qh hx j;have hl:=h.len;have h0:=h.r0;have h1:=h.r1;have hv:=h.val;have e1:=QK xs j hj;have e2:=QK (qs.set j ((rest * 1073741824+xs.getD j 0) / b)) j (by simp;omega)
  have e3:(qs.set j ((rest * 1073741824+xs.getD j 0) / b)).drop (j+1)=qs.drop (j+1):=by
    rw[List.drop_set_of_lt (by omega)]
  rw[e3,QU _ _ _ (by omega),if_pos rfl] at e2;generalize xs.getD j 0=x at *;have hv0:0≤rest * 1073741824+x:=by omega
  have hq:(rest * 1073741824+x) / b<1073741824:=Int.ediv_lt_of_lt_mul (by omega) (by omega);have hq0:0≤(rest * 1073741824+x) / b:=Int.ediv_nonneg hv0 (by omega);have hm0:=Int.emod_nonneg (rest * 1073741824+x) (show b≠0 by omega);have hm1:=Int.emod_lt_of_pos (rest * 1073741824+x) (show 0<b by omega);have he:=Int.mul_ediv_add_emod (rest * 1073741824+x) b;refine⟨by simpa using hl,QP h.limbs _ _ ⟨hq0,hq⟩,hm0,hm1,?_⟩;rw[e1,e2,hv];generalize (rest * 1073741824+x) / b=q at *;generalize (rest * 1073741824+x) % b=r at *;generalize Lmb.val (qs.drop (j+1))=d at *;rw[Int.add_mul,Int.mul_add,← Int.mul_assoc];rw[Int.mul_comm b q] at he;generalize 1073741824 * d * b=t at *;omega
theorem SmallInv.done {xs qs:List Int} {b rest:Int} {n c:Nat} (h:SmallInv xs b 0 qs rest) (hx:Lmb.val xs=n) (hb:b=c):Dig (trim qs) (n / c)∧rest=((n % c:Nat):Int):=by
  have hv:=h.val;have h0:=h.r0;have h1:=h.r1;have hq:=Qp h.limbs;have hd:=Ze h.limbs;rw[List.drop_zero,List.drop_zero,hx,hb] at hv;rw[hb] at h1;obtain⟨q,hq'⟩:=Int.eq_ofNat_of_zero_le hq;obtain⟨r,rfl⟩:=Int.eq_ofNat_of_zero_le h0;rw[hq'] at hv hd
  have hv':n=q * c+r:=by
    have:((n:Nat):Int)=((q * c+r:Nat):Int):=by rw[hv];simp
    omega
  have hr:r<c:=by omega
  have e1:n / c=q:=by
    rw[hv',Nat.add_comm,Nat.add_mul_div_right _ _ (by omega),Nat.div_eq_of_lt hr];omega
  have e2:n % c=r:=by rw[hv',Nat.add_comm,Nat.add_mul_mod_self_right,Nat.mod_eq_of_lt hr]
  rw[e1,e2];exact⟨by simpa using hd,rfl⟩
structure AddInv (xs ys os:List Int) (n i:Nat) (c:Int):Prop where
  len:os.length=n+1
  limbs:Qv os
  c0:0≤c
  c1:c≤1
  val:val os+pw i * c=val (xs.take i)+val (ys.take i)
  zero:∀ t,i≤t→os.getD t 0=0
theorem AddInv.start (xs ys:List Int) (n:Nat):AddInv xs ys (List.replicate (n+1) 0) n 0 0:=
  ⟨by simp,QL _,by omega,by omega,by simp [val_replicate,QE],fun t _=>by
    simp only[List.getD,List.getElem?_replicate];split<;>rfl⟩
theorem QS (xs:List Int) (k:Nat):val (xs.take (k+1))=val (xs.take k)+pw k * xs.getD k 0:=by
  by_cases h:k<xs.length
  · exact QR xs k h
  · have e:xs.getD k 0=0:=by simp [List.getD,Nat.le_of_not_lt h]
    rw[e,List.take_of_length_le (by omega),List.take_of_length_le (by omega)];omega
theorem AddInv.step {xs ys os:List Int} {n i:Nat} {c:Int} (h:AddInv xs ys os n i c) (hx:Qv xs) (hy:Qv ys) (hi:i<n) :
    AddInv xs ys (os.set i ((xs.getD i 0+ys.getD i 0+c) % 1073741824)) n (i+1) ((xs.getD i 0+ys.getD i 0+c) / 1073741824):=by
  have bx:=Qh hx i;have bY:=Qh hy i;have hl:=h.len;have h0:=h.c0;have h1:=h.c1;have hv:=h.val;have hs:=val_set os i (by omega) ((xs.getD i 0+ys.getD i 0+c) % 1073741824);rw[h.zero i (Nat.le_refl _),Int.sub_zero] at hs;have tx:=QS xs i;have ty:=QS ys i;generalize xs.getD i 0=x at *;generalize ys.getD i 0=y at *;refine⟨by simpa using hl,QP h.limbs _ _ (by omega),by omega,by omega,?_,fun t hlt=>?_⟩
  · rw[hs,tx,ty,QF]
    have e3:1073741824 * ((x+y+c) / 1073741824)+(x+y+c) % 1073741824=x+y+c:=Int.mul_ediv_add_emod _ _;have e4:pw i * (1073741824 * ((x+y+c) / 1073741824)+(x+y+c) % 1073741824)=pw i * (x+y+c):=by rw[e3]
    rw[Int.mul_add,Int.mul_add,Int.mul_add,Int.mul_left_comm] at e4;rw[Int.mul_assoc];omega
  · rw[QU _ _ _ (by omega),if_neg (by omega)]
    exact h.zero t (by omega)
theorem AddInv.done {xs ys os:List Int} {n:Nat} {c:Int} {a b:Nat} (h:AddInv xs ys os n n c) (hx:Lmb.val xs=a) (hy:Lmb.val ys=b) (hn:xs.length≤n) (hn':ys.length≤n) :
    Dig (trim (os.set n c)) (a+b):=by
  have h0:=h.c0;have h1:=h.c1;have hs:=val_set os n (by have:=h.len;omega) c;have hl:Qv (os.set n c):=QP h.limbs _ _ (by omega);have hv:=h.val;rw[h.zero n (Nat.le_refl _),Int.sub_zero] at hs;rw[List.take_of_length_le hn,List.take_of_length_le hn',hx,hy] at hv;have hd:=Ze hl;rw[hs,hv] at hd;have e:((a:Int)+(b:Int)).toNat=a+b:=by omega
  rwa [e] at hd
/-! bounds by powers of two -/
theorem pw_two (k:Nat):pw k=((2 ^ (30 * k):Nat):Int):=by
  unfold pw;rw[Nat.pow_mul]
  have:(2:Nat) ^ 30=1073741824:=by decide
  rw[this];simp
theorem lt_pw {m a k:Nat} (h:m≤2 ^ a) (hk:a<30 * k):(m:Int)<pw k:=by
  rw[pw_two];have h1:(2:Nat) ^ a<2 ^ (30 * k):=Nat.pow_lt_pow_right (by decide) hk;omega
theorem mul_two {m n a b:Nat} (h:m≤2 ^ a) (k:n≤2 ^ b):m * n≤2 ^ (a+b):=by
  rw[Nat.pow_add];exact Nat.mul_le_mul h k
theorem dig_one {x:Nat} (h0:0<x) (h1:x<1073741824):Dig [(x:Int)] x:=
  ⟨by rw[QB];exact⟨by omega,QJ⟩,by rw[norm_one];omega,by simp [Qz,QE]⟩
end Go.Proofs.YtabgkfjfmjdfiaaGreatDoor.Lmb

set_option linter.unusedSimpArgs false
set_option linter.unusedVariables false
namespace Go.Proofs.YtabgkfjfmjdfiaaGreatDoor
namespace Eng
inductive SV where
  | v (x:Value)
  | i (k:IntKind) (n:Int)
  | b (x:Bool)
  | tt
  | ff
  | sl (a:Option Addr) (len cap sz:Nat) (rd:Nat→Nat→SV)
  | el (a:Addr) (n:Nat) (rd:Nat→SV)
  | os (id:Nat) (a:Option Addr) (len cap:Nat)
  | oe (id:Nat) (blk off:Nat) (ix j:Nat)
  | op (id:Nat) (blk off:Nat)
  | agg (n:Nat) (rd:Nat→SV)
  | tup (n:Nat) (rd:Nat→SV)
  | ow (id:Nat) (a:Option Addr) (sz off len cap:Nat)
  | fn (f:FuncId) (n:Nat) (rd:Nat→SV)
  | mp (id:Nat) (blk:Nat)
  | wx (id g sz off len cap:Nat)
  | rm (blk:Nat) (sc:Bool) (ks:List IntKind) (n:Nat) (key:Nat→List Int) (val:Nat→SV)
instance:Inhabited SV:=⟨.v undef⟩
def SV.den:SV→Value
  | .v x=>x
  | .i k n=>.int k n
  | .b x=>.bool x
  | .tt=>.bool true
  | .ff=>.bool false
  | .sl a len cap _ _=>.slice a len cap
  | .el a _ _=>.pointer (some a)
  | .os _ a len cap=>.slice a len cap
  | .oe _ blk off _ _=>.pointer (some ⟨blk,off,none⟩)
  | .op _ blk off=>.pointer (some ⟨blk,off,none⟩)
  | .agg n rd=>.agg ((List.range n).map fun j=>(rd j).den).toArray
  | .tup n rd=>.tuple ((List.range n).map fun j=>(rd j).den).toArray
  | .ow _ a sz off len cap=>.slice (if cap=0 then a else a.map (·.add (off * sz))) len cap
  | .fn f n rd=>.func (.func f) #[] ((List.range n).map fun j=>(rd j).den).toArray
  | .mp _ blk=>.map (some blk)
  | .wx _ g sz off len cap=>.slice (some ⟨g,off * sz,none⟩) len cap
  | .rm blk _ _ _ _ _=>.map (some blk)
def ints (ks:List IntKind) (l:List Int):List Value:=List.zipWith Value.int ks l
def keyV (sc:Bool) (ks:List IntKind) (l:List Int):Value:=if sc=true then (ints ks l).headD undef else .agg (ints ks l).toArray
def mqEs (sc:Bool) (ks:List IntKind) (n:Nat) (key:Nat→List Int) (val:Nat→Value):List MapEntry:=(List.range n).map fun i=>{ key:=keyV sc ks (key i),val:=val i,born:=i }
structure MqAt (w:World) (blk:Nat) (sc:Bool) (ks:List IntKind) (n:Nat) (key:Nat→List Int) (val:Nat→Value):Prop where
  heap:w.heap[blk]? = some (.map (mqEs sc ks n key val).toArray n)
  len:∀ i,i<n→(key i).length=ks.length
  inj:∀ i j,i<n→j<n→key i=key j→i=j
theorem mqEs_eq {sc:Bool} {ks:List IntKind} {n:Nat} {key key':Nat→List Int} {val val':Nat→Value} (h:∀ i,i<n→key i=key' i∧val i=val' i):mqEs sc ks n key val=mqEs sc ks n key' val':=by
  unfold mqEs;apply List.map_congr_left;intro i hi;have hi':i<n:=by simpa using hi
  rw[(h i hi').1,(h i hi').2]
theorem MqAt.eq {w:World} {blk:Nat} {sc:Bool} {ks:List IntKind} {n:Nat} {key key':Nat→List Int} {val val':Nat→Value} (h:MqAt w blk sc ks n key val) (he:∀ i,i<n→key i=key' i∧val i=val' i):MqAt w blk sc ks n key' val':=
  ⟨by rw[← mqEs_eq he];exact h.heap,fun i hi=>by rw[← (he i hi).1];exact h.len i hi,fun i j hi hj e=>h.inj i j hi hj (by rw[(he i hi).1,(he j hj).1];exact e)⟩
theorem MqAt.mono {w w':World} {blk:Nat} {sc:Bool} {ks:List IntKind} {n:Nat} {key:Nat→List Int} {val:Nat→Value} (h:MqAt w blk sc ks n key val) (hw:w'.heap[blk]? = w.heap[blk]?):MqAt w' blk sc ks n key val:=⟨hw.trans h.heap,h.len,h.inj⟩
def SV.ok (R:Nat→Prop) (w:World):SV→Prop
  | .sl a len cap sz rd=>len≤cap∧cap≤maxLen∧(len=0∨∃ blk off,a=some ⟨blk,off,none⟩∧R blk∧∀ i j,i<len→j<sz→w.cell? ⟨blk,off+i * sz+j,none⟩=some (rd i j).den∧(rd i j).den.oneCell'=true∧(rd i j).ok R w)
  | .el a n rd=>∃ blk off,a=⟨blk,off,none⟩∧R blk∧∀ j,j<n→w.cell? ⟨blk,off+j,none⟩=some (rd j).den∧(rd j).den.oneCell'=true∧(rd j).ok R w
  | .agg n rd=>∀ j,j<n→(rd j).ok R w
  | .tup n rd=>∀ j,j<n→(rd j).ok R w
  | .fn _ n rd=>∀ j,j<n→(rd j).ok R w
  | .rm blk sc ks n key val=>R blk∧MqAt w blk sc ks n key (fun i=>(val i).den)∧∀ i,i<n→(val i).ok R w
  | _=>True
theorem Qx {R R':Nat→Prop} {w w':World} (hR:∀ b,R b→R' b) (hw:∀ b,R b→w'.heap[b]? = w.heap[b]?):∀ s:SV,s.ok R w→s.ok R' w':=by
  intro s
  induction s with
  | sl a len cap sz rd ih=>
    rintro⟨h1,h2,h3⟩;refine⟨h1,h2,?_⟩;rcases h3 with h3|⟨blk,off,ha,hr,hc⟩
    · exact .inl h3
    · exact .inr ⟨blk,off,ha,hR _ hr,fun i j hi hj=>⟨(World.cell?_of_block (w:=w) (a:=⟨blk,off+i * sz+j,none⟩) (hw blk hr)).trans (hc i j hi hj).1,(hc i j hi hj).2.1,ih i j (hc i j hi hj).2.2⟩⟩
  | el a n rd ih=>
    rintro⟨blk,off,ha,hr,hc⟩;exact⟨blk,off,ha,hR _ hr,fun j hj=>⟨(World.cell?_of_block (w:=w) (a:=⟨blk,off+j,none⟩) (hw blk hr)).trans (hc j hj).1,(hc j hj).2.1,ih j (hc j hj).2.2⟩⟩
  | agg n rd ih=>exact fun h j hj=>ih j (h j hj)
  | tup n rd ih=>exact fun h j hj=>ih j (h j hj)
  | fn f n rd ih=>exact fun h j hj=>ih j (h j hj)
  | rm blk sc ks n key val ih=>exact fun h=>⟨hR _ h.1,h.2.1.mono (hw _ h.1),fun i hi=>ih i (h.2.2 i hi)⟩
  | _=>exact fun _=>trivial
inductive Own where
  | gone
  | box (blk:Nat) (ty:TypeId) (cs:List SV)
  | row (a:Option Addr) (e:TypeId) (len cap sz:Nat) (rd:Nat→Nat→SV)
  | frz (a:Option Addr) (len cap sz:Nat) (rd:Nat→Nat→SV)
  | res (blk:Nat) (p:World→Prop)
  | mp (blk:Nat) (sc:Bool) (ks:List IntKind) (vk:IntKind) (f:List Int→Option Int)
  | mq (blk:Nat) (sc:Bool) (ks:List IntKind) (n:Nat) (key:Nat→List Int) (val:Nat→SV)
structure St where
  n:Nat
  env:List (Nat×SV)
  own:List Own
def look:List (Nat×SV)→Nat→Option SV
  | [],_=>none
  | (t,s) :: l,u=>if t=u then some s else look l u
def St.put (st:St) (dst:Option Tmp) (s:SV):St:=
  match dst with
  | some d=>{ st with env:=(d,s) :: st.env }
  | none=>st
def svc:Value→SV
  | .int k n=>.i k n
  | .bool true=>.tt
  | .bool false=>.ff
  | .slice none 0 0=>.sl none 0 0 0 (fun _ _=>.v undef)
  | x=>.v x
theorem den_svc (x:Value):(svc x).den=x:=by unfold svc;split<;>rfl
theorem ok_svc (R:Nat→Prop) (w:World) (x:Value):(svc x).ok R w:=by
  unfold svc;split
  · trivial
  · trivial
  · trivial
  · exact⟨Nat.le_refl _,Nat.zero_le _,.inl rfl⟩
  · trivial
def svz:Value→SV
  | .bool x=>.b x
  | x=>svc x
theorem den_svz (x:Value):(svz x).den=x:=by
  unfold svz;split
  · rfl
  · exact den_svc x
theorem ok_svz (R:Nat→Prop) (w:World) (x:Value):(svz x).ok R w:=by
  unfold svz;split
  · trivial
  · exact ok_svc R w x
def ev (env:List (Nat×SV)):Operand→Option SV
  | .tmp t=>look env t
  | .const x=>some (svc x)
  | .global g=>some (.v (.pointer (some ⟨g,0,none⟩)))
  | .func f=>some (.fn f 0 fun _=>default)
def EnvOk (R:Nat→Prop) (env:List (Nat×SV)) (a:Act) (w:World):Prop:=
  ∀ t s,look env t=some s→a.tmps[t]? = some s.den∧s.ok R w
theorem Qo {R:Nat→Prop} {env:List (Nat×SV)} {a:Act} {w:World} (h:EnvOk R env a w) {x:Operand} {s:SV} (hx:ev env x=some s):a.eval x=s.den∧s.ok R w:=by
  cases x with
  | tmp t=>have:=h t s hx;exact⟨by simp [Act.eval,this.1],this.2⟩
  | const c=>simp only[ev,Option.some.injEq] at hx;subst hx;exact⟨(den_svc c).symm,ok_svc _ _ _⟩
  | global g=>simp only[ev,Option.some.injEq] at hx;subst hx;exact⟨rfl,trivial⟩
  | func f=>simp only[ev,Option.some.injEq] at hx;subst hx;exact⟨rfl,fun j hj=>absurd hj (Nat.not_lt_zero _)⟩
/-! ### Types -/
inductive TK where
  | int (k:IntKind)|bool|str|slice (e:TypeId)|struct (fs:List (Nat×TypeId))|array (n:Nat) (e:TypeId)|map|other
def tk (P:Program) (t:TypeId):TK:=
  match P.underlying t with
  | some (.int k)=>.int k
  | some .bool=>.bool
  | some .string=>.str
  | some (.slice e)=>.slice e
  | some (.struct fs)=>.struct (fs.toList.map fun f=>(f.offset,f.type))
  | some (.array n e)=>.array n e
  | some (.map _ _)=>.map
  | _=>.other
def tsz (P:Program) (t:TypeId):Nat:=((P.info? t).map (·.size)).getD 0
theorem tk_int {P:Program} {t:TypeId} {k:IntKind} (h:tk P t=.int k):P.underlying t=some (.int k):=by
  unfold tk at h;split at h<;>simp_all
theorem tk_str {P:Program} {t:TypeId} (h:tk P t=.str):P.underlying t=some .string:=by
  unfold tk at h;split at h<;>simp_all
theorem QC {P:Program} {t e:TypeId} (h:tk P t=.slice e):P.underlying t=some (.slice e):=by
  unfold tk at h;split at h<;>simp_all
theorem tk_array {P:Program} {t e:TypeId} {n:Nat} (h:tk P t=.array n e):P.underlying t=some (.array n e):=by
  unfold tk at h;split at h<;>simp_all
theorem tk_struct {P:Program} {t:TypeId} {l:List (Nat×TypeId)} (h:tk P t=.struct l):∃ fs,P.underlying t=some (.struct fs)∧l=fs.toList.map fun f=>(f.offset,f.type):=by
  unfold tk at h;split at h<;>simp_all
def Qs (P:Program) (t:TypeId):Bool:=match tk P t with | .struct _=>false | .array _ _=>false | .other=>false|_=>true
theorem tsz_info {P:Program} {t:TypeId} (h:0<tsz P t):∃ i,P.info? t=some i∧i.size=tsz P t:=by
  unfold tsz at *;cases hi:P.info? t with
  | none=>simp [hi] at h
  | some i=>exact⟨i,rfl,by simp⟩
theorem run_sizeOf {P:Program} {t:TypeId} (h:0<tsz P t) (w:World):(sizeOf t).run P w=.ok (tsz P t) w:=by
  obtain⟨i,hi,hs⟩:=tsz_info h;simp [sizeOf,typeInfo,hi,hs]
theorem run_isAgg_plain {P:Program} {t:TypeId} (h:Qs P t=true) (w:World):(isAgg t).run P w=.ok false w:=by
  unfold Qs tk at h;split at h
  · simp at h
  · simp at h
  · simp at h
  · rename_i x h1 h2 h3
    cases hu:P.underlying t with
    | none=>rw[hu] at h1 h2 h3;simp at h3
    | some d=>cases d<;>simp_all [isAgg,run_underlying hu]
theorem run_isAgg_agg {P:Program} {t:TypeId} (h:(∃ l,tk P t=.struct l)∨∃ n e,tk P t=.array n e) (w:World):(isAgg t).run P w=.ok true w:=by
  rcases h with ⟨l,h⟩|⟨n,e,h⟩
  · obtain⟨fs,hu,_⟩:=tk_struct h;simp [isAgg,run_underlying hu]
  · simp [isAgg,run_underlying (tk_array h)]
end Eng
end Go.Proofs.YtabgkfjfmjdfiaaGreatDoor

namespace Go.Proofs.YtabgkfjfmjdfiaaGreatDoor
namespace Eng
def cellsOf (len sz:Nat) (rd:Nat→Nat→SV):List Value:=(List.range (len * sz)).map fun q=>(rd (q / sz) (q % sz)).den
def findV (l:List Int):List (List Int×Int)→Option Int
  | []=>none
  | p :: ps=>if l=p.1 then some p.2 else findV l ps
def mapIs (sc:Bool) (ks:List IntKind) (vk:IntKind) (f:List Int→Option Int) (es:List MapEntry):Prop:=
  ∃ L:List (List Int×Int),es.map (fun e=>(e.key,e.val))=L.map (fun p=>(keyV sc ks p.1,Value.int vk p.2))∧(∀ p∈L,p.1.length=ks.length)∧∀ l,l.length=ks.length→f l=findV l L
def Own.ok (R:Nat→Prop) (B:Nat) (w:World):Own→Prop
  | .gone=>True
  | .box blk ty cs=>B≤blk∧¬ R blk∧w.heap[blk]? = some (.cells (cs.map SV.den).toArray ty (0,0))∧∀ c∈cs,c.den.oneCell'=true∧c.ok R w
  | .row a e len cap sz rd=>w.ownsRow B e sz (.slice a len cap) len (cellsOf len sz rd)∧(∀ g,a=some g→¬ R g.block)∧∀ i j,i<len→j<sz→(rd i j).den.oneCell'=true∧(rd i j).ok R w
  | .frz a len cap sz rd=>(SV.sl a len cap sz rd).ok R w
  | .res blk p=>B≤blk∧¬ R blk∧blk<w.heap.size∧∀ w':World,(∀ b,(R b∨b=blk)→w'.heap[b]? = w.heap[b]?)→p w'
  | .mp blk sc ks vk f=>B≤blk∧¬ R blk∧∃ es clock,w.heap[blk]? = some (.map es clock)∧mapIs sc ks vk f es.toList
  | .mq blk sc ks n key val=>B≤blk∧¬ R blk∧MqAt w blk sc ks n key (fun i=>(val i).den)∧∀ i,i<n→(val i).ok R w
def OwnsOk (R:Nat→Prop) (B:Nat) (own:List Own) (w:World):Prop:=∀ (id:Nat) (o:Own),own[id]? = some o→o.ok R B w
def Yields (P:Program) (w:World) (a:Act) (op:Op) (v:Value):Prop:=∀ o:Oper,o.op=op→(execOp a.eval o).run P w=.ok (.value v) w
def wless:Op→Bool
  | .move _=>true
  | .assign _=>true
  | .pick _ _ _=>true
  | .binOp _ _ _ _ _=>true
  | .unOp _ _ _=>true
  | .extract _ _=>true
  | .fieldAddr _ _ _=>true
  | .indexAddr _ _ _=>true
  | .nilCheck _=>true
  | .index _ _ _=>true
  | .build _ _=>true
  | .call { callee:=.builtin .len,args:=_,argTypes:=_ }=>true
  | _=>false
def YieldsA (P:Program) (w:World) (a:Act) (op:Op) (v:Value):Prop:=Yields P w a op v∧(wless op=true→∀ w',Yields P w' a op v)
theorem yall {P:Program} {w:World} {a:Act} {op:Op} {v:Value} (h:∀ w',Yields P w' a op v):YieldsA P w a op v:=⟨h w,fun _=>h⟩
theorem yone {P:Program} {w:World} {a:Act} {op:Op} {v:Value} (hn:wless op=false) (h:Yields P w a op v):YieldsA P w a op v:=⟨h,fun h'=>by rw[hn] at h';cases h'⟩
def Vok (P:Program) (st:St) (op:Op) (K:SV→Prop):Prop:=
  ∃ s,K s∧∀ R B a w,EnvOk R st.env a w→OwnsOk R B st.own w→s.ok R w∧YieldsA P w a op s.den
def evs (env:List (Nat×SV)):List Operand→Option (List SV)
  | []=>some []
  | x :: xs=>match ev env x,evs env xs with
    | some s,some l=>some (s :: l)
    | _,_=>none
theorem evs_ok {R:Nat→Prop} {env:List (Nat×SV)} {a:Act} {w:World} (h:EnvOk R env a w):∀ (xs:List Operand) (l:List SV),evs env xs=some l→xs.map a.eval=l.map SV.den∧∀ s∈l,s.ok R w
  | [],l,he=>by simp only[evs,Option.some.injEq] at he;subst he;simp
  | x :: xs,l,he=>by
    unfold evs at he;split at he
    · rename_i s l' hs hl
      simp only[Option.some.injEq] at he;subst he;obtain⟨h1,h2⟩:=evs_ok h xs l' hl;have h3:=Qo h hs;exact⟨by simp [h1,h3.1],fun c hc=>(List.mem_cons.1 hc).elim (fun e=>e ▸ h3.2) (h2 c)⟩
    · cases he
def toB:SV→Option Bool
  | .tt=>some true
  | .ff=>some false
  | .b x=>some x
  | _=>none
theorem toB_den {s:SV} {x:Bool} (h:toB s=some x):s.den=.bool x:=by cases s<;>simp_all [toB,SV.den]
def asRead (own:List Own):SV→Option (Option Addr×Nat×Nat×Nat×(Nat→Nat→SV))
  | .sl a len cap sz rd=>some (a,len,cap,sz,rd)
  | .os id a len cap=>match own[id]? with
    | some (.frz a' len' cap' sz rd)=>if a'=a∧len'=len∧cap'=cap then some (a',len',cap',sz,rd) else none
    | _=>none
  | _=>none
def ibin (op:BinOp) (k:IntKind) (x y:Int) (K:SV→Prop):Prop:=
  match op with
  | .add=>K (.i k (k.wrap (x+y)))
  | .sub=>K (.i k (k.wrap (x - y)))
  | .mul=>K (.i k (k.wrap (x * y)))
  | .quo=>y≠0∧K (.i k (k.wrap (x.tdiv y)))
  | .rem=>y≠0∧K (.i k (x.tmod y))
  | .and=>K (.i k (bits .and k x y))
  | .or=>K (.i k (bits .or k x y))
  | .xor=>K (.i k (bits .xor k x y))
  | .andNot=>K (.i k (bits .andNot k x y))
  | .eql=>K (.b (x == y))
  | .neq=>K (.b (x != y))
  | .lss=>K (.b (decide (x<y)))
  | .leq=>K (.b (decide (x≤y)))
  | .gtr=>K (.b (decide (y<x)))
  | .geq=>K (.b (decide (y≤x)))
  | _=>False
def eqAt (P:Program):Nat→TypeId→List Value→List Value→Option Bool
  | 0,_,_,_=>none
  | d+1,t,xs,ys=>
    match P.underlying t,xs,ys with
    | some .bool,[.bool a],[.bool b]=>some (a == b)
    | some (.int _),[.int k a],[.int k' b]=>if k=k' then some (a == b) else none
    | some .string,[.string a],[.string b]=>some (a.toList == b.toList)
    | some (.struct fs),xs,ys=>if (fs.toList.all fun f=>f.name != "_" && decide (0<tsz P f.type))=true∧P.stoodInHeld t=false then
        (fs.toList.mapM fun f=>eqAt P d f.type ((xs.drop f.offset).take (tsz P f.type)) ((ys.drop f.offset).take (tsz P f.type))).map (·.all id) else none
    | _,_,_=>none
def whole (P:Program) (t:TypeId) (xs:List Value):Value:=match P.underlying t with|some (.struct _)=>.agg xs.toArray|_=>xs.headD (.tuple #[])
theorem part_whole {P:Program} {t:TypeId} {d off:Nat} {xs:List Value} {zs:List Value} {r:Bool} (hs:0<tsz P t) (h:eqAt P d t ((xs.drop off).take (tsz P t)) zs=some r∨eqAt P d t zs ((xs.drop off).take (tsz P t))=some r) (w:World) :
    (part t xs.toArray off).run P w=.ok (whole P t ((xs.drop off).take (tsz P t))) w:=by
  have leaf:(isAgg t).run P w=.ok false w→(∃ a,(xs.drop off).take (tsz P t)=[a])→(∀ fs,P.underlying t≠some (.struct fs))→(part t xs.toArray off).run P w=.ok (whole P t ((xs.drop off).take (tsz P t))) w:=by
    rintro hp ⟨a,ha⟩ hn;have hx:xs.toArray[off]? = some a:=getElem?_of_chunk (xs:=xs.toArray) (by simpa using ha);rw[ha];unfold part whole;rw[Sem.run_bind,hp,Result.andThen_ok];simp only[Bool.false_eq_true,if_false,hx];rfl
  cases d with
  | zero=>rcases h with h|h<;>simp [eqAt] at h
  | succ d=>
    unfold eqAt at h;have one:∀ {cs:List Value},(∃ a,cs=[a])→∃ a,cs=[a]:=fun h=>h;cases hu:P.underlying t with
    | none=>rcases h with h|h<;>simp [hu] at h
    | some kd=>
      cases kd
      case bool=>
        refine leaf (by simp [isAgg,run_underlying hu]) ?_ (fun fs=>by rw[hu];simp);rcases h with h|h<;>simp only[hu] at h<;>split at h<;>first|(rename_i h1 h2;simp_all;done)|simp_all
      case int q=>
        refine leaf (by simp [isAgg,run_underlying hu]) ?_ (fun fs=>by rw[hu];simp);rcases h with h|h<;>simp only[hu] at h<;>split at h<;>first|(rename_i h1 h2;simp_all;done)|simp_all
      case string=>
        refine leaf (by simp [isAgg,run_underlying hu]) ?_ (fun fs=>by rw[hu];simp);rcases h with h|h<;>simp only[hu] at h<;>split at h<;>first|(rename_i h1 h2;simp_all;done)|simp_all
      case struct fs=>
        unfold part whole;have h1:(isAgg t).run P w=.ok true w:=by simp [isAgg,run_underlying hu]
        rw[Sem.run_bind,h1,Result.andThen_ok];simp only[if_true,Sem.run_bind,run_sizeOf hs,Result.andThen_ok,Sem.run_pure,hu]
        congr 2
        simp [List.extract]
      all_goals (rcases h with h|h<;>simp [hu] at h)
theorem run_eqFields_at {P:Program} (dd d:Nat) (IH:∀ t xs ys r,eqAt P d t xs ys=some r→∀ w,(Op.equalIn dd t (whole P t xs) (whole P t ys)).run P w=.ok r w) (xs ys:List Value) (w:World):∀ (fs:List Field) (rs:List Bool),
    (fs.all fun f=>f.name != "_" && decide (0<tsz P f.type))=true→fs.mapM (fun f=>eqAt P d f.type ((xs.drop f.offset).take (tsz P f.type)) ((ys.drop f.offset).take (tsz P f.type)))=some rs →
    (Op.eqFields dd xs.toArray ys.toArray fs).run P w=.ok (rs.all id) w
  | [],rs,_,h=>by
    simp at h;subst h;simp [Op.eqFields]
  | f :: fs,rs,ha,h=>by
    rw[List.mapM_cons] at h;simp only[bind,Option.bind_eq_some_iff,pure,Option.some.injEq] at h;obtain⟨r,h1,rs',h2,rfl⟩:=h;simp only[List.all_cons,Bool.and_eq_true,bne_iff_ne,ne_eq,decide_eq_true_eq] at ha;obtain⟨⟨hn,hs⟩,ha⟩:=ha;have hr:=run_eqFields_at dd d IH xs ys w fs rs' ha h2;simp only[Op.eqFields,hn,ne_eq,not_false_eq_true,if_true,Sem.run_bind,part_whole hs (.inl h1) w,part_whole hs (.inr h1) w,Result.andThen_ok,IH _ _ _ _ h1 w,List.all_cons,id];cases r
    · simp
    · simpa using hr
theorem run_eqAt {P:Program}:∀ (d:Nat) (t:TypeId) (xs ys:List Value) (r:Bool),eqAt P d t xs ys=some r→∀ (e:Nat) (w:World),(Op.equalIn (e+d) t (whole P t xs) (whole P t ys)).run P w=.ok r w
  | 0,_,_,_,_,h=>by simp [eqAt] at h
  | d+1,t,xs,ys,r,h=>by
    intro e w;unfold eqAt at h;rw[show e+(d+1)=(e+d)+1 from rfl];cases hu:P.underlying t with
    | none=>simp [hu] at h
    | some kd=>
      cases kd
      case bool=>
        simp only[hu] at h;split at h<;>first|(rename_i h1;cases h1)|skip
        all_goals first|(simp only[Option.some.injEq] at h;subst h;simp_all [whole,Op.equalIn,run_underlying hu];done)|simp_all
      case int q=>
        simp only[hu] at h;split at h<;>first|(rename_i h1;cases h1)|skip
        all_goals first
          | (simp only[reduceCtorEq] at h;done)
          | (split at h
             · rename_i hk;subst hk;simp only[Option.some.injEq] at h;subst h;simp_all [whole,Op.equalIn,run_underlying hu]
             · cases h)
          | simp_all
      case string=>
        simp only[hu] at h;split at h<;>first|(rename_i h1;cases h1)|skip
        all_goals first|(simp only[Option.some.injEq] at h;subst h;simp_all [whole,Op.equalIn,run_underlying hu,beq_toListBytes];done)|simp_all
      case struct fs=>
        simp only[hu] at h;split at h
        · rename_i hc
          simp only[Option.map_eq_some_iff] at h;obtain⟨rs,h1,rfl⟩:=h;have hfs:P.fieldsOf t=fs:=by simp [Program.fieldsOf,hu]
          simp only[whole,hu];rw[run_equalIn_struct w (e+d) t xs.toArray ys.toArray (by rw[hfs];exact hu) hc.2,hfs];exact run_eqFields_at (e+d) d (fun t xs ys r h w=>run_eqAt d t xs ys r h e w) xs ys w _ _ hc.1 h1
        · cases h
      all_goals (simp [hu] at h)
def aggT (P:Program) (t:TypeId):Bool:=!P.eqGuardType P.depth t && match P.underlying t with|some (.struct _)=>true|_=>false
def aggEq (P:Program) (t:TypeId) (n:Nat) (f:Nat→SV) (m:Nat) (g:Nat→SV):Option Bool:=
  if aggT P t=true then
    eqAt P 20 t ((List.range n).map fun j=>(f j).den) ((List.range m).map fun j=>(g j).den)
  else none
def strB (op:BinOp) (a b:ByteArray):Option SV:=
  match op with
  | .add=>if ((a.size+b.size:Nat):Int)≤IntKind.i64.max then some (.v (.string (a ++ b))) else none
  | .eql=>some (.b (a.toList == b.toList))
  | .neq=>some (.b (!(a.toList == b.toList)))
  | .lss=>some (.b (Op.bytesLess a.toList b.toList))
  | .leq=>some (.b (Op.bytesLess a.toList b.toList || a.toList == b.toList))
  | .gtr=>some (.b (!(Op.bytesLess a.toList b.toList || a.toList == b.toList)))
  | .geq=>some (.b (!Op.bytesLess a.toList b.toList))
  | _=>none
def eqB (op:BinOp) (r:Option Bool):Option SV:=
  match op,r with
  | .eql,some r=>some (.b r)
  | .neq,some r=>some (.b (!r))
  | _,_=>none
def wideB (P:Program) (xt:TypeId) (op:BinOp) (s t:SV):Option SV:=
  match s,t with
  | .agg n f,.agg m g=>eqB op (aggEq P xt n f m g)
  | .v (.string a),.v (.string b)=>strB op a b
  | .sl a _ _ _ _,.sl none 0 0 _ _=>(match tk P xt with | .slice _=>eqB op (some a.isNone)|_=>none)
  | .os _ a _ _,.sl none 0 0 _ _=>(match tk P xt with | .slice _=>eqB op (some a.isNone)|_=>none)
  | s,t=>match toB s,toB t,tk P xt with
    | some p,some q,.bool=>(match op with
      | .eql=>some (.b (p == q))
      | .neq=>some (.b (p != q))
      | _=>none)
    | _,_,_=>none
def vBin (P:Program) (st:St) (xt:TypeId) (op:BinOp) (x y:Operand) (K:SV→Prop):Prop:=
  match ev st.env x,ev st.env y with
  | some (.i k p),some (.i k' q)=>
    match op with
    | .shl=>0≤q∧K (.i k (k.wrap (p * 2 ^ (min q.toNat k.bits))))
    | .shr=>0≤q∧K (.i k (p.fdiv (2 ^ (min q.toNat k.bits))))
    | _=>k=k'∧ibin op k p q K
  | some s,some t=>(match wideB P xt op s t with|some r=>K r|none=>False)
  | _,_=>False
theorem tk_bool {P:Program} {t:TypeId} (h:tk P t=.bool):P.underlying t=some .bool:=by
  unfold tk at h;split at h<;>simp_all
theorem run_equal_bool {P:Program} {t:TypeId} (hu:P.underlying t=some .bool) (p q:Bool) (w:World):(Op.equal t (.bool p) (.bool q)).run P w=.ok (p == q) w:=by
  unfold Op.equal;show (Op.equalIn (9999+1) t (.bool p) (.bool q)).run P w=_;rw[Op.equalIn];simp [run_underlying hu]
theorem run_equal_nil {P:Program} {t e:TypeId} (hu:P.underlying t=some (.slice e)) (a:Option Addr) (len cap:Nat) (w:World):(Op.equal t (.slice a len cap) (.slice none 0 0)).run P w=.ok a.isNone w:=by
  unfold Op.equal;show (Op.equalIn (9999+1) t (.slice a len cap) (.slice none 0 0)).run P w=_;rw[Op.equalIn];cases a<;>simp [run_underlying hu]
theorem vBin_ok {P:Program} {st:St} {op:BinOp} {xt yt:TypeId} {x y:Operand} {K:SV→Prop} (h:vBin P st xt op x y K):Vok P st (.binOp op xt x y yt) K:=by
  unfold vBin at h;split at h
  · rename_i k p k' q hx hy
    have key:∀ s:SV,K s→(∀ R w,s.ok R w)→(∀ w,(do eqGuard op xt x y (.int k p) (.int k' q);binOp op xt (.int k p) (.int k' q):Sem Value).run P w=.ok s.den w)→Vok P st (.binOp op xt x y yt) K:=by
      intro s hk hs hr;refine⟨s,hk,fun R B a w he _=>⟨hs _ _,yall fun w o ho=>?_⟩⟩;have h1:=(Qo he hx).1;have h2:=(Qo he hy).1;have hr':=hr w;unfold execOp;rw[ho];simp only[h1,h2,SV.den] at hr' ⊢;rw[Sem.run_bind,hr'];rfl
    split at h
    · obtain⟨h0,h⟩:=h
      refine key _ h (fun _ _=>trivial) (fun w=>?_);simp [eqGuard,binOp,Op.shift,show ¬ q<0 by omega,SV.den]
    · obtain⟨h0,h⟩:=h
      refine key _ h (fun _ _=>trivial) (fun w=>?_);simp [eqGuard,binOp,Op.shift,show ¬ q<0 by omega,SV.den]
    · obtain⟨rfl,h⟩:=h
      unfold ibin at h;split at h<;>first
        | exact h.elim
        | (obtain⟨hn,h⟩:=h
           refine key _ h (fun _ _=>trivial) (fun w=>?_)
           simp [eqGuard,binOp,Op.intDiv,hn,SV.den])
        | (refine key _ h (fun _ _=>trivial) (fun w=>?_)
           simp [eqGuard,binOp,Op.intArith,Op.intBits,Op.intCmp,bits,SV.den])
  · rename_i s t _ hx hy
    split at h
    · rename_i r hr
      have key:(∀ R w,r.ok R w)→(∀ w,(do eqGuard op xt x y s.den t.den;binOp op xt s.den t.den:Sem Value).run P w=.ok r.den w)→Vok P st (.binOp op xt x y yt) K:=by
        intro hs hrun;refine⟨r,h,fun R B a w he _=>⟨hs _ _,yall fun w o ho=>?_⟩⟩;have h1:=(Qo he hx).1;have h2:=(Qo he hy).1;have hr':=hrun w;unfold execOp;rw[ho];simp only[h1,h2] at hr' ⊢;rw[Sem.run_bind,hr'];rfl
      unfold wideB at hr;split at hr
      · rename_i n f m g _
        unfold eqB at hr
        have run:∀ b,aggEq P xt n f m g=some b→∀ w,(Op.equalIn 10000 xt (SV.agg n f).den (SV.agg m g).den).run P w=.ok b w∧(eqGuard op xt x y (SV.agg n f).den (SV.agg m g).den).run P w=.ok () w:=by
          intro b hb w;unfold aggEq at hb;split at hb
          · rename_i hk
            simp only[aggT,Bool.and_eq_true,Bool.not_eq_true'] at hk;obtain⟨hk2,hk3⟩:=hk
            obtain⟨fs,hu⟩:∃ fs,P.underlying xt=some (.struct fs):=by
              cases hu:P.underlying xt with
              | none=>simp [hu] at hk3
              | some kd=>cases kd<;>simp [hu] at hk3 ⊢
            have hwh:∀ l:List Value,whole P xt l=.agg l.toArray:=fun l=>by
              unfold whole;rw[hu]
            have h1:=run_eqAt 20 xt _ _ b hb (10000 - 20) w;rw[hwh,hwh] at h1;refine⟨h1,?_⟩;simp only[SV.den];exact run_eqGuard_agg w op xt x y _ _ hk2
          · cases hb
        split at hr
        · rename_i b hb
          cases hr
          refine key (fun _ _=>trivial) fun w=>?_;obtain⟨h1,h2⟩:=run b hb w;simp only[SV.den] at h1 h2 ⊢;rw[Sem.run_bind,h2,Result.andThen_ok,run_eql_struct,h1];rfl
        · rename_i b hb
          cases hr
          refine key (fun _ _=>trivial) fun w=>?_;obtain⟨h1,h2⟩:=run b hb w;simp only[SV.den] at h1 h2 ⊢;rw[Sem.run_bind,h2,Result.andThen_ok,run_neq_struct,h1];rfl
        · cases hr
      · rename_i a b _
        unfold strB at hr;split at hr<;>first
          | (split at hr<;>first
              | (cases hr
                 rename_i hsz;refine key (fun _ _=>trivial) fun w=>?_;have e:IntKind.i64.max=9223372036854775807:=by decide
                 rw[e] at hsz;simp [eqGuard,binOp,Op.stringOp,SV.den]
                 omega)
              | cases hr)
          | (cases hr
             refine key (fun _ _=>trivial) fun w=>?_
             simp [eqGuard,binOp,Op.stringOp,SV.den])
          | cases hr
      · rename_i a _ _ _ _ _
        split at hr
        · rename_i e ht
          have hu:=QC ht;unfold eqB at hr;split at hr
          · rename_i r hb
            cases hr;cases hb
            refine key (fun _ _=>trivial) fun w=>?_;simp only[eqGuard,binOp,SV.den,Sem.run_bind,run_equal_nil hu];rfl
          · rename_i r hb
            cases hr;cases hb
            refine key (fun _ _=>trivial) fun w=>?_;simp only[eqGuard,binOp,SV.den,Sem.run_bind,run_equal_nil hu];rfl
          · cases hr
        · cases hr
      · rename_i a _ _ _ _
        split at hr
        · rename_i e ht
          have hu:=QC ht;unfold eqB at hr;split at hr
          · rename_i r hb
            cases hr;cases hb
            refine key (fun _ _=>trivial) fun w=>?_;simp only[eqGuard,binOp,SV.den,Sem.run_bind,run_equal_nil hu];rfl
          · rename_i r hb
            cases hr;cases hb
            refine key (fun _ _=>trivial) fun w=>?_;simp only[eqGuard,binOp,SV.den,Sem.run_bind,run_equal_nil hu];rfl
          · cases hr
        · cases hr
      · split at hr
        · rename_i p q hp hq hb
          have hu:=tk_bool hb;rw[toB_den hp,toB_den hq] at key;split at hr
          · cases hr
            refine key (fun _ _=>trivial) fun w=>?_;simp only[eqGuard,binOp,Sem.run_bind,run_equal_bool hu];rfl
          · cases hr
            refine key (fun _ _=>trivial) fun w=>?_;simp only[eqGuard,binOp,Sem.run_bind,run_equal_bool hu];rfl
          · cases hr
        · cases hr
    · exact h.elim
  · exact h.elim
end Eng
end Go.Proofs.YtabgkfjfmjdfiaaGreatDoor

namespace Go.Proofs.YtabgkfjfmjdfiaaGreatDoor
namespace Eng
variable {P:Program} {st:St} {K:SV→Prop}
def vPick (st:St) (c x y:Operand) (K:SV→Prop):Prop:=
  match ev st.env c with
  | some .tt=>(match ev st.env x with|some s=>K s|none=>False)
  | some .ff=>(match ev st.env y with|some s=>K s|none=>False)
  | some (.b q)=>(match ev st.env x,ev st.env y with
    | some s,some t=>(match toB s,toB t with|some p,some r=>K (.b (bif q then p else r))|_,_=>False)
    | _,_=>False)
  | _=>False
theorem vMove_ok {x:Operand} (h:match ev st.env x with|some s=>K s|none=>False):Vok P st (.move x) K:=by
  split at h
  · rename_i s hx
    exact⟨s,h,fun R B a w he _=>⟨(Qo he hx).2,yall fun w o ho=>by simp [execOp,ho,(Qo he hx).1]⟩⟩
  · exact h.elim
theorem vAssign_ok {x:Operand} (h:match ev st.env x with|some s=>K s|none=>False):Vok P st (.assign x) K:=by
  split at h
  · rename_i s hx
    exact⟨s,h,fun R B a w he _=>⟨(Qo he hx).2,yall fun w o ho=>by simp [execOp,ho,(Qo he hx).1]⟩⟩
  · exact h.elim
theorem vPick_ok {c x y:Operand} (h:vPick st c x y K):Vok P st (.pick c x y) K:=by
  unfold vPick at h;split at h
  · rename_i hc
    split at h
    · rename_i s hx
      exact⟨s,h,fun R B a w he _=>⟨(Qo he hx).2,yall fun w o ho=>by simp [execOp,ho,(Qo he hx).1,(Qo he hc).1,SV.den,asBool]⟩⟩
    · exact h.elim
  · rename_i hc
    split at h
    · rename_i s hx
      exact⟨s,h,fun R B a w he _=>⟨(Qo he hx).2,yall fun w o ho=>by simp [execOp,ho,(Qo he hx).1,(Qo he hc).1,SV.den,asBool]⟩⟩
    · exact h.elim
  · rename_i q hc
    split at h
    · rename_i s t hx hy
      split at h
      · rename_i p r hp hr
        refine⟨_,h,fun R B a w he _=>⟨trivial,yall fun w o ho=>?_⟩⟩;simp only[execOp,ho,(Qo he hx).1,(Qo he hc).1,(Qo he hy).1,SV.den,toB_den hp,toB_den hr,asBool];cases q<;>rfl
      · exact h.elim
    · exact h.elim
  · exact h.elim
def vNilCheck (st:St) (x:Operand) (K:SV→Prop):Prop:=
  match ev st.env x with
  | some (.op id blk o)=>K (.op id blk o)
  | some (.oe id blk o i j)=>K (.oe id blk o i j)
  | some (.el a n rd)=>K (.el a n rd)
  | some (.v (.pointer (some a)))=>K (.v (.pointer (some a)))
  | some (.fn f n rd)=>K (.fn f n rd)
  | _=>False
theorem vNilCheck_ok {x:Operand} (h:vNilCheck st x K):Vok P st (.nilCheck x) K:=by
  unfold vNilCheck at h;split at h
  · rename_i hx;exact⟨_,h,fun R B a w he _=>⟨(Qo he hx).2,yall fun w o ho=>by simp [execOp,ho,(Qo he hx).1,SV.den]⟩⟩
  · rename_i hx;exact⟨_,h,fun R B a w he _=>⟨(Qo he hx).2,yall fun w o ho=>by simp [execOp,ho,(Qo he hx).1,SV.den]⟩⟩
  · rename_i hx;exact⟨_,h,fun R B a w he _=>⟨(Qo he hx).2,yall fun w o ho=>by simp [execOp,ho,(Qo he hx).1,SV.den]⟩⟩
  · rename_i hx;exact⟨_,h,fun R B a w he _=>⟨(Qo he hx).2,yall fun w o ho=>by simp [execOp,ho,(Qo he hx).1,SV.den]⟩⟩
  · rename_i hx;exact⟨_,h,fun R B a w he _=>⟨(Qo he hx).2,yall fun w o ho=>by simp [execOp,ho,(Qo he hx).1,SV.den]⟩⟩
  · exact h.elim
def flipB (k:IntKind) (n:Int):Int:=bits .xor k (if k.signed then -1 else k.max) n
def vUn (st:St) (op:UnOp) (x:Operand) (K:SV→Prop):Prop:=
  match op,ev st.env x with
  | .not,some .tt=>K .ff
  | .not,some .ff=>K .tt
  | .not,some (.b q)=>K (.b (!q))
  | .neg,some (.i k n)=>K (.i k (k.wrap (0 - n)))
  | .xor,some (.i k n)=>K (.i k (flipB k n))
  | _,_=>False
theorem vUn_ok {op:UnOp} {xt:TypeId} {x:Operand} (h:vUn st op x K):Vok P st (.unOp op xt x) K:=by
  unfold vUn at h;split at h
  · rename_i hx
    exact⟨_,h,fun R B a w he _=>⟨trivial,yall fun w o ho=>by simp [execOp,ho,(Qo he hx).1,SV.den,Op.unary]⟩⟩
  · rename_i hx
    exact⟨_,h,fun R B a w he _=>⟨trivial,yall fun w o ho=>by simp [execOp,ho,(Qo he hx).1,SV.den,Op.unary]⟩⟩
  · rename_i q hx
    exact⟨_,h,fun R B a w he _=>⟨trivial,yall fun w o ho=>by simp [execOp,ho,(Qo he hx).1,SV.den,Op.unary]⟩⟩
  · rename_i k n hx
    exact⟨_,h,fun R B a w he _=>⟨trivial,yall fun w o ho=>by simp [execOp,ho,(Qo he hx).1,SV.den,Op.unary,Op.intArith]⟩⟩
  · rename_i k n hx
    exact⟨_,h,fun R B a w he _=>⟨trivial,yall fun w o ho=>by simp [execOp,ho,(Qo he hx).1,SV.den,Op.unary,Op.intBits,bits,flipB]⟩⟩
  · exact h.elim
def vConv (P:Program) (st:St) (src dst:TypeId) (x:Operand) (K:SV→Prop):Prop:=
  match tk P src,tk P dst,ev st.env x with
  | .int _,.int k,some (.i _ n)=>K (.i k (k.wrap n))
  | .str,.str,some (.v (.string s))=>K (.v (.string s))
  | _,_,_=>False
theorem vConv_ok {src dst:TypeId} {x:Operand} (h:vConv P st src dst x K):Vok P st (.convert src dst x) K:=by
  unfold vConv at h;split at h
  · rename_i k0 k k1 n hs hd hx
    exact⟨_,h,fun R B a w he _=>⟨trivial,yall fun w o ho=>by simp [execOp,ho,(Qo he hx).1,SV.den,convert,run_underlying (tk_int hs),run_underlying (tk_int hd),Conv.intToInt]⟩⟩
  · rename_i s hs hd hx
    exact⟨_,h,fun R B a w he _=>⟨trivial,yall fun w o ho=>by simp [execOp,ho,(Qo he hx).1,SV.den,convert,run_underlying (tk_str hs),run_underlying (tk_str hd)]⟩⟩
  · exact h.elim
def vExtract (st:St) (x:Operand) (ix:Nat) (K:SV→Prop):Prop:=
  match ev st.env x with
  | some (.tup n rd)=>ix<n∧K (rd ix)
  | _=>False
theorem vExtract_ok {x:Operand} {ix:Nat} (h:vExtract st x ix K):Vok P st (.extract x ix) K:=by
  unfold vExtract at h;split at h
  · rename_i n rd hx
    obtain⟨hi,h⟩:=h;refine⟨_,h,fun R B a w he _=>⟨(Qo he hx).2 ix hi,yall fun w o ho=>?_⟩⟩;simp [execOp,ho,(Qo he hx).1,SV.den,Instr.extract,hi]
  · exact h.elim
/-! ### Fields -/
def Ql (P:Program) (t:TypeId) (f:Nat):Option (Nat×TypeId):=
  match tk P t with
  | .struct fs=>fs[f]?
  | _=>none
theorem fieldOf_ok {t:TypeId} {f off:Nat} {ft:TypeId} (h:Ql P t f=some (off,ft)):∃ fs g,P.underlying t=some (.struct fs)∧fs[f]? = some g∧g.offset=off∧g.type=ft:=by
  unfold Ql at h;split at h
  · rename_i l hl
    obtain⟨fs,hu,rfl⟩:=tk_struct hl;simp only[List.getElem?_map,Option.map_eq_some_iff,Prod.mk.injEq] at h;obtain⟨g,hg,h1,h2⟩:=h;exact⟨fs,g,hu,by simpa using hg,h1,h2⟩
  · cases h
def vFieldAddr (P:Program) (st:St) (t:TypeId) (x:Operand) (f:Nat) (K:SV→Prop):Prop:=
  match Ql P t f with
  | some (off,ft)=>0<tsz P ft∧(match ev st.env x with
    | some (.el a n rd)=>off+tsz P ft≤n∧K (.el (a.add off) (tsz P ft) (fun j=>rd (off+j)))
    | some (.op id blk o)=>K (.op id blk (o+off))
    | some (.oe id blk o ix j)=>K (.oe id blk (o+off) ix (j+off))
    | _=>False)
  | none=>False
theorem el_ok {R:Nat→Prop} {w:World} {a:Addr} {n off m:Nat} {rd:Nat→SV} (h:(SV.el a n rd).ok R w) (hm:off+m≤n):(SV.el (a.add off) m (fun j=>rd (off+j))).ok R w:=by
  obtain⟨blk,o,rfl,hr,hc⟩:=h;refine⟨blk,o+off,Addr.add_lit _ _ _,hr,fun j hj=>?_⟩;have:=hc (off+j) (by omega)
  rwa [show o+(off+j)=o+off+j by omega] at this
theorem run_fieldAt {t:TypeId} {f off:Nat} {ft:TypeId} (h:Ql P t f=some (off,ft)) (hz:0<tsz P ft) (ad:Addr) (w:World) :
    (Instr.fieldAt t (.pointer (some ad)) f).run P w=.ok (.pointer (some (ad.add off))) w:=by
  obtain⟨fs,g,hu,hg,rfl,rfl⟩:=fieldOf_ok h;have h1:=run_sizeOf hz w;simp [Instr.fieldAt,run_underlying hu,hg,Instr.sureAddr,fieldPlace,h1,Nat.ne_of_gt hz]
theorem vFieldAddr_ok {t:TypeId} {x:Operand} {f:Nat} (h:vFieldAddr P st t x f K):Vok P st (.fieldAddr t x f) K:=by
  unfold vFieldAddr at h;split at h
  · rename_i off ft hf
    obtain⟨hz,h⟩:=h;split at h
    · rename_i ad n rd hx
      obtain⟨hn,h⟩:=h;refine⟨_,h,fun R B a w he _=>⟨el_ok (Qo he hx).2 hn,yall fun w o ho=>?_⟩⟩;simp [execOp,ho,(Qo he hx).1,SV.den,run_fieldAt hf hz]
    · rename_i id blk o1 hx
      refine⟨_,h,fun R B a w he _=>⟨trivial,yall fun w o ho=>?_⟩⟩;simp [execOp,ho,(Qo he hx).1,SV.den,run_fieldAt hf hz,Addr.add_lit]
    · rename_i id blk o1 ix j hx
      refine⟨_,h,fun R B a w he _=>⟨trivial,yall fun w o ho=>?_⟩⟩;simp [execOp,ho,(Qo he hx).1,SV.den,run_fieldAt hf hz,Addr.add_lit]
    · exact h.elim
  · exact h.elim
/-! ### Indexes -/
theorem asRead_ok {R:Nat→Prop} {B:Nat} {w:World} {s:SV} {a:Option Addr} {len cap sz:Nat} {rd:Nat→Nat→SV} (h:asRead st.own s=some (a,len,cap,sz,rd)) (ho:OwnsOk R B st.own w) (hs:s.ok R w) :
    s.den=.slice a len cap∧(SV.sl a len cap sz rd).ok R w:=by
  unfold asRead at h;split at h
  · simp only[Option.some.injEq,Prod.mk.injEq] at h
    obtain⟨rfl,rfl,rfl,rfl,rfl⟩:=h;exact⟨rfl,hs⟩
  · rename_i id a' len' cap'
    split at h
    · rename_i a2 len2 cap2 sz2 rd2 ho2
      split at h
      · rename_i heq
        obtain⟨rfl,rfl,rfl⟩:=heq;simp only[Option.some.injEq,Prod.mk.injEq] at h;obtain⟨rfl,rfl,rfl,rfl,rfl⟩:=h;exact⟨rfl,ho _ _ ho2⟩
      · cases h
    · cases h
  · cases h
def vIndexAddr (P:Program) (st:St) (t:TypeId) (x ix:Operand) (K:SV→Prop):Prop:=
  match tk P t,ev st.env x,ev st.env ix with
  | .slice e,some s,some (.i _ n)=>
    (match asRead st.own s with
    | some (a,len,_,sz,rd)=>(0≤n∧n<(len:Int))∧(tsz P e=sz∧0<sz)∧K (.el ((a.getD default).add (n.toNat * sz)) sz (fun j=>rd n.toNat j))
    | none=>match s with
      | .os id a len cap=>(match st.own[id]? with
        | some (.row a' _ len' cap' sz _)=>(a'=a∧len'=len∧cap'=cap)∧(0≤n∧n<(len:Int))∧(tsz P e=sz∧0<sz)∧K (.oe id (a.getD default).block (n.toNat * sz) n.toNat 0)
        | _=>False)
      | .ow id a sz0 off len cap=>(match st.own[id]? with
        | some (.row a' _ len' cap' sz _)=>(a'=a∧sz0=sz∧len'=off+len∧cap'=off+cap)∧(0≤n∧n<(len:Int))∧(tsz P e=sz∧0<sz)∧K (.oe id (a.getD default).block ((off+n.toNat) * sz) (off+n.toNat) 0)
        | _=>False)
      | _=>False)
  | .array len e,some (.op id blk o),some (.i _ n)=>(0≤n∧n<(len:Int))∧0<tsz P e∧K (.op id blk (o+n.toNat * tsz P e))
  | .array len e,some (.el a m rd),some (.i _ n)=>(0≤n∧n<(len:Int))∧0<tsz P e∧len * tsz P e≤m∧K (.el (a.add (n.toNat * tsz P e)) (tsz P e) (fun j=>rd (n.toNat * tsz P e+j)))
  | _,_,_=>False
theorem run_indexAt_slice {t e:TypeId} (ht:tk P t=.slice e) (hz:0<tsz P e) (ad:Addr) (len cap:Nat) (k:IntKind) (n:Int) (h0:0≤n) (h1:n<(len:Int)) (w:World) :
    (Instr.indexAt t (.slice (some ad) len cap) (.int k n)).run P w=.ok (.pointer (some (ad.add (n.toNat * tsz P e)))) w:=by
  have hs:=run_sizeOf hz w;simp [Instr.indexAt,asIntOf,run_underlying (QC ht),hs,h0,h1]
theorem run_indexAt_array {t e:TypeId} {len:Nat} (ht:tk P t=.array len e) (hz:0<tsz P e) (ad:Addr) (k:IntKind) (n:Int) (h0:0≤n) (h1:n<(len:Int)) (w:World) :
    (Instr.indexAt t (.pointer (some ad)) (.int k n)).run P w=.ok (.pointer (some (ad.add (n.toNat * tsz P e)))) w:=by
  have hs:=run_sizeOf hz w;simp [Instr.indexAt,asIntOf,run_underlying (tk_array ht),hs,h0,h1,Instr.sureAddr]
theorem vIndexAddr_ok {t:TypeId} {x ix:Operand} (h:vIndexAddr P st t x ix K):Vok P st (.indexAddr t x ix) K:=by
  unfold vIndexAddr at h;split at h
  · rename_i e s k n ht hx hi
    split at h
    · rename_i ad len cap sz rd hr
      obtain⟨⟨h0,h1⟩,⟨hz,hz0⟩,h⟩:=h;subst hz;refine⟨_,h,fun R B a w he ho=>?_⟩;obtain⟨hd,_,_,hok⟩:=asRead_ok hr ho (Qo he hx).2;rcases hok with hok|⟨blk,off,rfl,hR,hc⟩
      · omega
      · refine⟨⟨blk,off+n.toNat * tsz P e,Addr.add_lit _ _ _,hR,fun j hj=>hc n.toNat j (by omega) hj⟩,yall fun w o ho'=>?_⟩
        simp [execOp,ho',(Qo he hx).1,(Qo he hi).1,SV.den,hd,run_indexAt_slice ht hz0 _ _ _ _ _ h0 h1]
    · split at h
      · rename_i id a' len' cap'
        split at h
        · rename_i a2 e2 len2 cap2 sz2 rd2 ho2
          obtain⟨⟨rfl,rfl,rfl⟩,⟨h0,h1⟩,⟨hz,hz0⟩,h⟩:=h;subst hz;refine⟨_,h,fun R B a w he ho=>⟨trivial,yall fun w o ho'=>?_⟩⟩;have hrow:=(ho _ _ ho2).1;rcases hrow.2 with ⟨_,hn⟩|⟨g,cap,cur,hv,_⟩
          · omega
          · simp only[Value.slice.injEq] at hv
            obtain⟨rfl,_,rfl⟩:=hv;simp [execOp,ho',(Qo he hx).1,(Qo he hi).1,SV.den,run_indexAt_slice ht hz0 _ _ _ _ _ h0 h1,Addr.add_lit]
        · exact h.elim
      · rename_i id a' sz0 off len' cap' _
        split at h
        · rename_i a2 e2 len2 cap2 sz2 rd2 ho2
          obtain⟨⟨rfl,rfl,rfl,rfl⟩,⟨h0,h1⟩,⟨hz,hz0⟩,h⟩:=h;subst hz;refine⟨_,h,fun R B a w he ho=>⟨trivial,yall fun w o ho'=>?_⟩⟩;have hrow:=(ho _ _ ho2).1;rcases hrow.2 with ⟨_,hn⟩|⟨g,cap,cur,hv,_,_,hnc,_⟩
          · omega
          · simp only[Value.slice.injEq] at hv
            obtain⟨rfl,_,rfl⟩:=hv;have hc0:cap'≠0:=by omega
            simp [execOp,ho',(Qo he hx).1,(Qo he hi).1,SV.den,hc0,run_indexAt_slice ht hz0 _ _ _ _ _ h0 h1,Addr.add_lit,Nat.add_mul,Nat.add_assoc]
        · exact h.elim
      · exact h.elim
  · rename_i len e id blk o1 k n ht hx hi
    obtain⟨⟨h0,h1⟩,hz0,h⟩:=h;refine⟨_,h,fun R B a w he ho=>⟨trivial,yall fun w o ho'=>?_⟩⟩;simp [execOp,ho',(Qo he hx).1,(Qo he hi).1,SV.den,run_indexAt_array ht hz0 _ _ _ h0 h1,Addr.add_lit]
  · rename_i len e ad m rd k n ht hx hi
    obtain⟨⟨h0,h1⟩,hz0,hm,h⟩:=h;refine⟨_,h,fun R B a w he ho=>⟨el_ok (Qo he hx).2 ?_,yall fun w o ho'=>?_⟩⟩
    · have h2:n.toNat+1≤len:=by omega
      have:=Nat.mul_le_mul_right (tsz P e) h2;rw[Nat.add_mul] at this;omega
    · simp [execOp,ho',(Qo he hx).1,(Qo he hi).1,SV.den,run_indexAt_array ht hz0 _ _ _ h0 h1]
  · exact h.elim
/-! ### Indexes of strings and of arrays that are values -/
def byteAt (s:ByteArray) (i:Nat):Int:=((s[i]?).getD 0).toNat
end Eng
end Go.Proofs.YtabgkfjfmjdfiaaGreatDoor

namespace Go.Proofs.YtabgkfjfmjdfiaaGreatDoor
namespace Eng
variable {P:Program} {st:St} {K:SV→Prop}
def Qt (P:Program) (t:TypeId):Bool:=match tk P t with | .struct _=>true | .array _ _=>true|_=>false
theorem run_isAgg_T {t:TypeId} (h:Qt P t=true) (w:World):(isAgg t).run P w=.ok true w:=by
  unfold Qt at h;split at h
  · rename_i l hl;exact run_isAgg_agg (.inl ⟨l,hl⟩) w
  · rename_i n e hl;exact run_isAgg_agg (.inr ⟨n,e,hl⟩) w
  · cases h
theorem run_loadAt_plain {t:TypeId} (h:Qs P t=true) {ad:Addr} {v:Value} {w:World} (hc:w.cell? ad=some v):(Instr.loadAt t (.pointer (some ad))).run P w=.ok v w:=by
  simp [Instr.loadAt,Instr.sureAddr,loadVar,run_isAgg_plain h,hc]
theorem run_loadAt_agg {t:TypeId} (h:Qt P t=true) (hz:0<tsz P t) {ad:Addr} {f:Nat→Value} {w:World} (hc:∀ j,j<tsz P t→w.cell? (ad.add j)=some (f j)) :
    (Instr.loadAt t (.pointer (some ad))).run P w=.ok (.agg ((List.range (tsz P t)).map f).toArray) w:=by
  have h1:=run_sizeOf hz w;have h2:=run_loadCells (P:=P) w ad (tsz P t) f hc;simp [Instr.loadAt,Instr.sureAddr,loadVar,run_isAgg_T h,h1,h2]
theorem cellsOf_get {len sz:Nat} {rd:Nat→Nat→SV} {i j:Nat} (hi:i<len) (hj:j<sz):(cellsOf len sz rd)[i * sz+j]? = some (rd i j).den:=by
  have h1:i * sz+j<len * sz:=by
    have:=Nat.mul_le_mul_right sz (show i+1≤len by omega);rw[Nat.add_mul] at this;omega
  have h2:(i * sz+j) / sz=i:=by rw[Nat.mul_comm,Nat.mul_add_div (by omega),Nat.div_eq_of_lt hj];rfl
  have h3:(i * sz+j) % sz=j:=by rw[Nat.mul_comm,Nat.mul_add_mod,Nat.mod_eq_of_lt hj]
  unfold cellsOf;rw[List.getElem?_map,List.getElem?_range h1,Option.map_some,h2,h3]
def vLoad (P:Program) (st:St) (t:TypeId) (x:Operand) (K:SV→Prop):Prop:=
  match ev st.env x with
  | some (.el _ n rd)=>(match Qs P t with
    | true=>0<n∧K (rd 0)
    | false=>Qt P t=true∧(0<tsz P t∧tsz P t≤n)∧K (.agg (tsz P t) rd))
  | some (.op id blk o)=>(match st.own[id]? with
    | some (.box blk' _ cs)=>blk'=blk∧(match Qs P t with
      | true=>(match cs[o]? with|some s=>K s|none=>False)
      | false=>Qt P t=true∧(0<tsz P t∧o+tsz P t≤cs.length)∧K (.agg (tsz P t) (fun j=>cs.getD (o+j) default)))
    | _=>False)
  | some (.oe id blk o ix j)=>(match st.own[id]? with
    | some (.row a _ len _ sz rd)=>((a.getD default).block=blk∧ix * sz+j=o)∧ix<len∧(match Qs P t with
      | true=>j<sz∧K (rd ix j)
      | false=>Qt P t=true∧(0<tsz P t∧j+tsz P t≤sz)∧K (.agg (tsz P t) (fun q=>rd ix (j+q))))
    | _=>False)
  | _=>False
theorem row_cell {R:Nat→Prop} {B:Nat} {w:World} {a:Option Addr} {e len cap sz:Nat} {rd:Nat→Nat→SV} (h:(Own.row a e len cap sz rd).ok R B w) {i j:Nat} (hi:i<len) (hj:j<sz) :
    ∃ g,a=some ⟨g,0,none⟩∧w.cell? ⟨g,i * sz+j,none⟩=some (rd i j).den:=by
  obtain⟨h1,_⟩:=h;have h2:=cellsOf_get (rd:=rd) hi hj;rcases h1.2 with ⟨_,hn⟩|⟨g,cap',cur,hv,_,hg,_,_,_,ht⟩
  · omega
  · simp only[Value.slice.injEq] at hv
    obtain⟨rfl,_,rfl⟩:=hv;refine⟨g,rfl,?_⟩;have:=h1.cells (g:=g) rfl _ _ h2
    rwa [Addr.add_lit,Nat.zero_add] at this
theorem vLoad_ok {t:TypeId} {x:Operand} (h:vLoad P st t x K):Vok P st (.load t x) K:=by
  unfold vLoad at h;split at h
  · rename_i ad n rd hx
    split at h
    · rename_i htp
      obtain⟨hn,h⟩:=h;refine⟨_,h,fun R B a w he _=>?_⟩;obtain⟨hd,blk,off,rfl,hR,hc⟩:=Qo he hx;refine⟨(hc 0 hn).2.2,yone rfl fun o ho=>?_⟩;have h0:w.cell? ⟨blk,off,none⟩=some (rd 0).den:=(hc 0 hn).1;simp only[execOp,ho,hd,SV.den,Sem.run_bind,run_loadAt_plain htp h0];rfl
    · obtain⟨hag,⟨hz,hn⟩,h⟩:=h
      refine⟨_,h,fun R B a w he _=>?_⟩;obtain⟨hd,blk,off,rfl,hR,hc⟩:=Qo he hx;refine⟨fun j hj=>(hc j (by omega)).2.2,yone rfl fun o ho=>?_⟩;have:=run_loadAt_agg hag hz (ad:=⟨blk,off,none⟩) (f:=fun j=>(rd j).den) (w:=w) (fun j hj=>by rw[Addr.add_lit];exact (hc j (by omega)).1);simp [execOp,ho,hd,SV.den,this]
  · rename_i id blk o1 hx
    split at h
    · rename_i blk' ty cs ho2
      obtain⟨rfl,h⟩:=h;split at h
      · rename_i htp
        split at h
        · rename_i s hs
          refine⟨_,h,fun R B a w he ho=>?_⟩;obtain⟨_,_,hg,hcs⟩:=ho _ _ ho2;refine⟨(hcs s (List.mem_of_getElem? hs)).2,yone rfl fun o ho'=>?_⟩;have hc:w.cell? ⟨blk',o1,none⟩=some s.den:=by rw[cell_of_row w blk' o1 _ _ _ hg];simp [hs]
          simp [execOp,ho',(Qo he hx).1,SV.den,run_loadAt_plain htp hc]
        · exact h.elim
      · obtain⟨hag,⟨hz,hn⟩,h⟩:=h
        refine⟨_,h,fun R B a w he ho=>?_⟩;obtain⟨_,_,hg,hcs⟩:=ho _ _ ho2;have hget:∀ j,j<tsz P t→cs[o1+j]? = some (cs.getD (o1+j) default):=fun j hj=>by simp [List.getD,show o1+j<cs.length by omega]
        refine⟨fun j hj=>(hcs _ (List.mem_of_getElem? (hget j hj))).2,yone rfl fun o ho'=>?_⟩
        have:=run_loadAt_agg hag hz (ad:=⟨blk',o1,none⟩) (f:=fun j=>(cs.getD (o1+j) default).den) (w:=w) (fun j hj=>by
          rw[Addr.add_lit,cell_of_row w blk' _ _ _ _ hg,List.getElem?_toArray,List.getElem?_map,hget j hj];rfl)
        simp only[execOp,ho',(Qo he hx).1,SV.den,Sem.run_bind,this];rfl
    · exact h.elim
  · rename_i id blk o1 ix j hx
    split at h
    · rename_i ad e len cap sz rd ho2
      obtain⟨⟨hb,rfl⟩,hix,h⟩:=h;split at h
      · rename_i htp
        obtain⟨hj,h⟩:=h;refine⟨_,h,fun R B a w he ho=>?_⟩;obtain⟨g,rfl,hc⟩:=row_cell (ho _ _ ho2) hix hj;subst hb;refine⟨((ho _ _ ho2).2.2 _ _ hix hj).2,yone rfl fun o ho'=>?_⟩;simp only[execOp,ho',(Qo he hx).1,SV.den,Sem.run_bind];show ((Instr.loadAt t (.pointer (some ⟨g,ix * sz+j,none⟩))).run P w).andThen _=_;rw[run_loadAt_plain htp (ad:=⟨g,ix * sz+j,none⟩) hc];rfl
      · obtain⟨hag,⟨hz,hn⟩,h⟩:=h
        refine⟨_,h,fun R B a w he ho=>?_⟩;obtain⟨g,rfl,_⟩:=row_cell (ho _ _ ho2) hix (show j<sz by omega);subst hb;refine⟨fun q hq=>((ho _ _ ho2).2.2 _ _ hix (by omega)).2,yone rfl fun o ho'=>?_⟩
        have:=run_loadAt_agg hag hz (ad:=⟨g,ix * sz+j,none⟩) (f:=fun q=>(rd ix (j+q)).den) (w:=w) (fun q hq=>by
          obtain⟨g',hg',hc⟩:=row_cell (ho _ _ ho2) hix (show j+q<sz by omega);simp only[Option.some.injEq,Addr.mk.injEq] at hg';obtain⟨rfl,_⟩:=hg'
          rw[Addr.add_lit,Nat.add_assoc];exact hc)
        simp only[execOp,ho',(Qo he hx).1,SV.den,Sem.run_bind];show ((Instr.loadAt t (.pointer (some ⟨g,ix * sz+j,none⟩))).run P w).andThen _=_;rw[this];rfl
    · exact h.elim
  · exact h.elim
/-! ### A part of a struct's value -/
def vField (P:Program) (st:St) (t:TypeId) (x:Operand) (f:Nat) (K:SV→Prop):Prop:=
  match Ql P t f,ev st.env x with
  | some (off,ft),some (.agg n rd)=>(match Qs P ft with
    | true=>off<n∧K (rd off)
    | false=>Qt P ft=true∧(0<tsz P ft∧off+tsz P ft≤n)∧K (.agg (tsz P ft) (fun j=>rd (off+j))))
  | _,_=>False
theorem vField_ok {t:TypeId} {x:Operand} {f:Nat} (h:vField P st t x f K):Vok P st (.field t x f) K:=by
  unfold vField at h;split at h
  · rename_i off ft n rd hf hx
    obtain⟨fs,g,hu,hg,rfl,rfl⟩:=fieldOf_ok hf;split at h
    · rename_i htp
      obtain⟨hn,h⟩:=h;refine⟨_,h,fun R B a w he _=>⟨(Qo he hx).2 _ hn,yone rfl fun o ho=>?_⟩⟩;simp [execOp,ho,(Qo he hx).1,SV.den,Instr.field,run_underlying hu,hg,part,run_isAgg_plain htp,asAgg,hn]
    · obtain⟨hag,⟨hz,hn⟩,h⟩:=h
      refine⟨_,h,fun R B a w he _=>⟨fun j hj=>(Qo he hx).2 _ (by omega),yone rfl fun o ho=>?_⟩⟩;have h1:=run_sizeOf hz w;simp only[execOp,ho,(Qo he hx).1,SV.den,Instr.field,run_underlying hu,hg,part,run_isAgg_T hag,asAgg,h1,Sem.run_bind,Result.andThen_ok,if_true,Sem.run_pure]
      have key:(((List.range n).map fun j=>(rd j).den).toArray).extract g.offset (g.offset+tsz P g.type)=((List.range (tsz P g.type)).map fun j=>(rd (g.offset+j)).den).toArray:=by
        apply Array.ext';rw[Array.toList_extract];simp only[List.extract_eq_take_drop];apply List.ext_getElem?;intro j;rw[List.getElem?_take,Nat.add_sub_cancel_left];by_cases hj:j<tsz P g.type
        · rw[if_pos hj,List.getElem?_drop,List.getElem?_map,List.getElem?_map,List.getElem?_range (by omega),List.getElem?_range hj];rfl
        · rw[if_neg hj,List.getElem?_eq_none (by simp;omega)]
      rw[key]
  · exact h.elim
theorem extract_rd (n:Nat) (rd:Nat→SV) (o z:Nat) (hn:o+z≤n):(((List.range n).map fun j=>(rd j).den).toArray).extract o (o+z)=((List.range z).map fun j=>(rd (o+j)).den).toArray:=by
  apply Array.ext';rw[Array.toList_extract];simp only[List.extract_eq_take_drop];apply List.ext_getElem?;intro j;rw[List.getElem?_take,Nat.add_sub_cancel_left];by_cases hj:j<z
  · rw[if_pos hj,List.getElem?_drop,List.getElem?_map,List.getElem?_map,List.getElem?_range (by omega),List.getElem?_range hj];rfl
  · rw[if_neg hj,List.getElem?_eq_none (by simp;omega)]
def vIndex (P:Program) (st:St) (t:TypeId) (x ix:Operand) (K:SV→Prop):Prop:=
  match tk P t,ev st.env x,ev st.env ix with
  | .str,some (.v (.string s)),some (.i _ n)=>(0≤n∧n<(s.size:Int))∧K (.i .u8 (byteAt s n.toNat))
  | .array len e,some (.agg m rd),some (.i _ n)=>(0≤n∧n<(len:Int))∧(match Qs P e with
    | true=>(0<tsz P e∧n.toNat * tsz P e<m)∧K (rd (n.toNat * tsz P e))
    | false=>Qt P e=true∧(0<tsz P e∧n.toNat * tsz P e+tsz P e≤m)∧K (.agg (tsz P e) fun j=>rd (n.toNat * tsz P e+j)))
  | _,_,_=>False
theorem vIndex_ok {t:TypeId} {x ix:Operand} (h:vIndex P st t x ix K):Vok P st (.index t x ix) K:=by
  unfold vIndex at h;split at h
  · rename_i s k n ht hx hi
    obtain⟨⟨h0,h1⟩,h⟩:=h;refine⟨_,h,fun R B a w he _=>⟨trivial,yall fun w o ho=>?_⟩⟩;have hlt:n.toNat<s.size:=by omega
    have hg:s[n.toNat]? = some s[n.toNat]:=by simp [hlt]
    simp [execOp,ho,(Qo he hx).1,(Qo he hi).1,SV.den,Instr.index,asIntOf,run_underlying (tk_str ht),h0,hg,byteAt]
  · rename_i len e m rd k n ht hx hi
    obtain⟨⟨h0,h1⟩,h⟩:=h;split at h
    · rename_i hp
      obtain⟨⟨hz,hm⟩,h⟩:=h;refine⟨_,h,fun R B a w he _=>⟨(Qo he hx).2 _ hm,yall fun w o ho=>?_⟩⟩;have hs:=run_sizeOf hz w;simp [execOp,ho,(Qo he hx).1,(Qo he hi).1,SV.den,Instr.index,asIntOf,run_underlying (tk_array ht),h0,h1,hs,part,run_isAgg_plain hp,hm]
    · obtain⟨hag,⟨hz,hm⟩,h⟩:=h
      refine⟨_,h,fun R B a w he _=>⟨fun j hj=>(Qo he hx).2 _ (by omega),yall fun w o ho=>?_⟩⟩;have hs:=run_sizeOf hz w;simp only[execOp,ho,(Qo he hx).1,(Qo he hi).1,SV.den,Instr.index,asIntOf,run_underlying (tk_array ht),h0,h1,and_self,if_true,hs,part,run_isAgg_T hag,Sem.run_bind,Result.andThen_ok,Sem.run_pure,extract_rd m rd _ _ hm]
  · exact h.elim
end Eng
end Go.Proofs.YtabgkfjfmjdfiaaGreatDoor

namespace Go.Proofs.YtabgkfjfmjdfiaaGreatDoor
namespace Eng
variable {P:Program} {st:St} {K:SV→Prop}
def vLen (P:Program) (st:St) (t:TypeId) (x:Operand) (K:SV→Prop):Prop:=
  match tk P t,ev st.env x with
  | .slice _,some (.sl _ len _ _ _)=>K (.i .i64 len)
  | .slice _,some (.os _ _ len _)=>K (.i .i64 len)
  | .slice _,some (.ow _ _ _ _ len _)=>K (.i .i64 len)
  | .str,some (.v (.string s))=>K (.i .i64 s.size)
  | .array n _,some _=>K (.i .i64 n)
  | .slice _,some (.wx _ _ _ _ len _)=>K (.i .i64 len)
  | _,_=>False
theorem vLen_ok {t:TypeId} {x:Operand} (h:vLen P st t x K):Vok P st (.call { callee:=.builtin .len,args:=#[x],argTypes:=#[t] }) K:=by
  unfold vLen at h;split at h
  · rename_i e a len cap sz rd ht hx
    exact⟨_,h,fun R B a w he _=>⟨trivial,yall fun w o ho=>by simp [execOp,ho,resolve,invoke,builtin,Builtin.len_,(Qo he hx).1,SV.den,run_underlying (QC ht),goInt]⟩⟩
  · rename_i e id a len cap ht hx
    exact⟨_,h,fun R B a w he _=>⟨trivial,yall fun w o ho=>by simp [execOp,ho,resolve,invoke,builtin,Builtin.len_,(Qo he hx).1,SV.den,run_underlying (QC ht),goInt]⟩⟩
  · rename_i e id a sz off len cap ht hx
    exact⟨_,h,fun R B a w he _=>⟨trivial,yall fun w o ho=>by simp [execOp,ho,resolve,invoke,builtin,Builtin.len_,(Qo he hx).1,SV.den,run_underlying (QC ht),goInt]⟩⟩
  · rename_i s ht hx
    exact⟨_,h,fun R B a w he _=>⟨trivial,yall fun w o ho=>by simp [execOp,ho,resolve,invoke,builtin,Builtin.len_,(Qo he hx).1,SV.den,run_underlying (tk_str ht),goInt]⟩⟩
  · rename_i n e s ht hx
    exact⟨_,h,fun R B a w he _=>⟨trivial,yall fun w o ho=>by simp [execOp,ho,resolve,invoke,builtin,Builtin.len_,run_underlying (tk_array ht),goInt,SV.den]⟩⟩
  · rename_i e id g sz off len cap ht hx
    exact⟨_,h,fun R B a w he _=>⟨trivial,yall fun w o ho=>by simp [execOp,ho,resolve,invoke,builtin,Builtin.len_,(Qo he hx).1,SV.den,run_underlying (QC ht),goInt]⟩⟩
  · exact h.elim
def vCap (P:Program) (st:St) (t:TypeId) (x:Operand) (K:SV→Prop):Prop:=
  match tk P t,ev st.env x with
  | .slice _,some (.sl _ _ cap _ _)=>K (.i .i64 cap)
  | .slice _,some (.os _ _ _ cap)=>K (.i .i64 cap)
  | _,_=>False
theorem vCap_ok {t:TypeId} {x:Operand} (h:vCap P st t x K):Vok P st (.call { callee:=.builtin .cap,args:=#[x],argTypes:=#[t] }) K:=by
  unfold vCap at h;split at h
  · rename_i e a len cap sz rd ht hx
    exact⟨_,h,fun R B a w he _=>⟨trivial,yone rfl fun o ho=>by simp [execOp,ho,resolve,invoke,builtin,Builtin.cap_,(Qo he hx).1,SV.den,run_underlying (QC ht),goInt]⟩⟩
  · rename_i e id a len cap ht hx
    exact⟨_,h,fun R B a w he _=>⟨trivial,yone rfl fun o ho=>by simp [execOp,ho,resolve,invoke,builtin,Builtin.cap_,(Qo he hx).1,SV.den,run_underlying (QC ht),goInt]⟩⟩
  · exact h.elim
def vMax (st:St) (x y:Operand) (K:SV→Prop):Prop:=
  match ev st.env x,ev st.env y with
  | some (.i k p),some (.i _ q)=>K (.i k (max p q))
  | _,_=>False
def vMin (st:St) (x y:Operand) (K:SV→Prop):Prop:=
  match ev st.env x,ev st.env y with
  | some (.i k p),some (.i _ q)=>K (.i k (min p q))
  | _,_=>False
theorem vMax_ok {t:Array TypeId} {x y:Operand} (h:vMax st x y K):Vok P st (.call { callee:=.builtin .max,args:=#[x,y],argTypes:=t }) K:=by
  unfold vMax at h;split at h
  · rename_i k p k' q hx hy
    refine⟨_,h,fun R B a w he _=>⟨trivial,yone rfl fun o ho=>?_⟩⟩;simp [execOp,ho,resolve,invoke,builtin,Builtin.max_,Builtin.max2,(Qo he hx).1,(Qo he hy).1,SV.den];omega
  · exact h.elim
theorem vMin_ok {t:Array TypeId} {x y:Operand} (h:vMin st x y K):Vok P st (.call { callee:=.builtin .min,args:=#[x,y],argTypes:=t }) K:=by
  unfold vMin at h;split at h
  · rename_i k p k' q hx hy
    refine⟨_,h,fun R B a w he _=>⟨trivial,yone rfl fun o ho=>?_⟩⟩;simp [execOp,ho,resolve,invoke,builtin,Builtin.min_,Builtin.min2,(Qo he hx).1,(Qo he hy).1,SV.den];omega
  · exact h.elim
/-! ### A slice of a slice that is only read -/
def bound (env:List (Nat×SV)) (o:Option Operand) (d:Int):Option Int:=
  match o with
  | none=>some d
  | some x=>match ev env x with
    | some (.i _ n)=>some n
    | _=>none
theorem bound_ok {env:List (Nat×SV)} {o:Option Operand} {d n:Int} (h:bound env o d=some n):(o=none∧n=d)∨∃ x k,o=some x∧ev env x=some (.i k n):=by
  unfold bound at h;split at h
  · left;simp_all
  · rename_i x
    right;split at h
    · rename_i k m hx
      simp only[Option.some.injEq] at h;subst h;exact⟨x,k,rfl,hx⟩
    · cases h
def vSlice (P:Program) (st:St) (t:TypeId) (x:Operand) (lo hi:Option Operand) (K:SV→Prop):Prop:=
  match tk P t,ev st.env x with
  | .slice e,some s=>
    (match asRead st.own s with
    | some (a,len,cap,sz,rd)=>(match bound st.env lo 0,bound st.env hi len with
      | some l,some h=>(0≤l∧l≤h∧h≤(len:Int))∧(tsz P e=sz∧0<sz)∧K (.sl (if cap=l.toNat then a else a.map (·.add (l.toNat * sz))) (h.toNat - l.toNat) (cap - l.toNat) sz (fun i j=>rd (l.toNat+i) j))
      | _,_=>False)
    | none=>False)
  | .str,some (.v (.string s))=>(match bound st.env lo 0,bound st.env hi s.size with
      | some l,some h=>(0≤l∧l≤h∧h≤(s.size:Int))∧K (.v (.string (s.extract l.toNat h.toNat)))
      | _,_=>False)
  | _,_=>False
theorem ZD {w:World} {isSlice:Bool} {len cap:Nat} {lo hi:Option Value} {l h:Int} (hl:(lo=none∧l=0)∨∃ k,lo=some (.int k l)) (hh:(hi=none∧h=(len:Int))∨∃ k,hi=some (.int k h))
    (h0:0≤l) (h1:l≤h) (h2:h≤(len:Int)) (hc:len≤cap):(Instr.sliceBounds isSlice len cap lo hi none).run P w=.ok (l.toNat,h.toNat,cap) w:=by
  have e1:h≤(cap:Int):=by omega
  rcases hl with ⟨rfl,rfl⟩|⟨k,rfl⟩<;>rcases hh with ⟨rfl,rfl⟩|⟨k',rfl⟩
  · simp [Instr.sliceBounds]
  · simp [Instr.sliceBounds,Instr.sliceBound,asIntOf,e1,show 0≤h by omega]
  · simp [Instr.sliceBounds,Instr.sliceBound,asIntOf,h0,h1]
  · simp [Instr.sliceBounds,Instr.sliceBound,asIntOf,h0,h1,e1,show 0≤h by omega]
    omega
theorem Zw {R:Nat→Prop} {a:Act} {w:World} (he:EnvOk R st.env a w) {o:Option Operand} {d n:Int} (h:bound st.env o d=some n):(o.map a.eval=none∧n=d)∨∃ k,o.map a.eval=some (.int k n):=by
  rcases bound_ok h with ⟨rfl,rfl⟩|⟨x,k,rfl,hx⟩
  · exact .inl ⟨rfl,rfl⟩
  · exact .inr ⟨k,by simp [(Qo he hx).1,SV.den]⟩
theorem vSlice_ok {t:TypeId} {x:Operand} {lo hi:Option Operand} (h:vSlice P st t x lo hi K):Vok P st (.slice t x lo hi none) K:=by
  unfold vSlice at h;split at h
  · rename_i e s ht hx
    split at h
    · rename_i ad len cap sz rd hr
      split at h
      · rename_i l hh hl1 hh1
        obtain⟨⟨h0,h1,h2⟩,⟨hz,hz0⟩,h⟩:=h;subst hz;refine⟨_,h,fun R B a w he ho=>?_⟩;obtain⟨hd,hlc,hcm,hok⟩:=asRead_ok hr ho (Qo he hx).2;refine⟨⟨by omega,by omega,?_⟩,yone rfl fun o ho'=>?_⟩
        · rcases hok with hok|⟨blk,off,rfl,hR,hc⟩
          · exact .inl (by omega)
          · by_cases hlh:l=hh
            · exact .inl (by omega)
            · refine .inr ⟨blk,off+l.toNat * tsz P e,?_,hR,fun i j hi hj=>?_⟩
              · rw[if_neg (by omega)];simp [Addr.add_lit]
              · have:=hc (l.toNat+i) j (by omega) hj
                rw[Nat.add_mul,← Nat.add_assoc] at this;exact this
        · have hb:=ZD (P:=P) (w:=w) (isSlice:=true) (Zw he hl1) (Zw he hh1) h0 h1 h2 hlc
          have hs:=run_sizeOf hz0 w;simp [execOp,ho',(Qo he hx).1,hd,Instr.sliceAt,Instr.slice,run_underlying (QC ht),hb,hs,SV.den]
      · exact h.elim
    · exact h.elim
  · rename_i s ht hx
    split at h
    · rename_i l hh hl1 hh1
      obtain⟨⟨h0,h1,h2⟩,h⟩:=h;refine⟨_,h,fun R B a w he ho=>⟨trivial,yone rfl fun o ho'=>?_⟩⟩;have hb:=ZD (P:=P) (w:=w) (isSlice:=false) (cap:=s.size) (Zw he hl1) (Zw he hh1) h0 h1 h2 (Nat.le_refl _);simp [execOp,ho',(Qo he hx).1,Instr.sliceAt,Instr.slice,run_underlying (tk_str ht),hb,SV.den]
    · exact h.elim
  · exact h.elim
/-! ### Struct literals -/
def tz (P:Program) (t:TypeId):List SV:=match (P.info? t).bind (·.zero) with|some z=>z.cells.toList.map svz|none=>[]
def flat:SV→List SV
  | .agg n rd=>(List.range n).map rd
  | s=>[s]
theorem den_flat (s:SV) (hs:∀ n rd,s≠.tup n rd) (hv:∀ cs,s≠.v (.agg cs)):s.den.cells.toList=(flat s).map SV.den:=by
  cases s with
  | v x=>cases x<;>simp_all [flat,SV.den,Value.cells]
  | _=>simp_all [flat,SV.den,Value.cells]
def flatOk:SV→Bool
  | .tup _ _=>false
  | .v (.agg _)=>false
  | _=>true
theorem den_flat' {s:SV} (h:flatOk s=true):s.den.cells.toList=(flat s).map SV.den:=by
  refine den_flat s ?_ ?_<;>intros<;>intro e<;>subst e<;>simp [flatOk] at h
def lay (l:List SV) (off:Nat) (cs:List SV):List SV:=l.take off ++ cs ++ l.drop (off+cs.length)
def fillS (place:Nat→Option (Nat×Nat)) (l:List SV):List (Nat×Option SV)→Option (List SV)
  | []=>some l
  | (i,some s) :: rest=>match place i with
    | some (off,size)=>if flatOk s=true∧(flat s).length=size∧off+size≤l.length then fillS place (lay l off (flat s)) rest else none
    | none=>none
  | (_,none) :: _=>none
theorem foldl_lay (off:Nat):∀ (vs:List Value) (k:Nat) (arr:Array Value),off+k+vs.length≤arr.size →
    ((vs.zipIdx k).foldl (fun cs (p:Value×Nat)=>cs.setIfInBounds (off+p.2) p.1) arr).toList=arr.toList.take (off+k) ++ vs ++ arr.toList.drop (off+k+vs.length)
  | [],k,arr,_=>by simp
  | v :: rest,k,arr,h=>by
    simp only[List.zipIdx_cons,List.foldl_cons,List.length_cons] at h ⊢;rw[foldl_lay off rest (k+1) _ (by simp;omega)];simp only[Array.toList_setIfInBounds];apply List.ext_getElem?;intro q;simp only[List.getElem?_append,List.length_append,List.length_take,List.length_set,Array.length_toList,List.getElem?_take,List.getElem?_drop,List.getElem?_set,List.getElem?_cons,List.length_cons];have e1:min (off+(k+1)) arr.size=off+k+1:=by omega
    have e2:min (off+k) arr.size=off+k:=by omega
    rw[e1,e2];by_cases h1:q<off+k
    · simp [show q<off+k+1+rest.length by omega,show q<off+k+1 by omega,show q<off+(k+1) by omega,h1,show q<off+k+(rest.length+1) by omega,show off+k≠q by omega]
    · by_cases h2:q=off+k
      · subst h2
        simp [show off+k<off+k+1+rest.length by omega,show off+k<off+(k+1) by omega,show off+k<arr.size by omega]
      · by_cases h3:q<off+k+(rest.length+1)
        · simp [show q<off+k+1+rest.length by omega,show ¬ q<off+k+1 by omega,h1,h3,show q - (off+k)≠0 by omega,show q - (off+k) - 1=q - (off+k+1) by omega]
        · simp [show ¬ q<off+k+1+rest.length by omega,h3,show off+(k+1)+rest.length+(q - (off+k+1+rest.length))=off+k+(rest.length+1)+(q - (off+k+(rest.length+1))) by omega]
          omega
theorem fill_ok {place:Nat→Option (Nat×Nat)}:∀ (parts:List (Nat×Option SV)) (vals:List (Nat×Value)) (l l':List SV),fillS place l parts=some l' →
    (vals=parts.map fun p=>(p.1,(p.2.getD default).den))→Instr.fill place (l.map SV.den).toArray vals=some (l'.map SV.den).toArray
  | [],vals,l,l',h,hv=>by
    simp only[fillS,Option.some.injEq] at h;subst h;subst hv;rfl
  | (i,none) :: rest,vals,l,l',h,_=>by simp [fillS] at h
  | (i,some s) :: rest,vals,l,l',h,hv=>by
    subst hv;simp only[fillS] at h;cases hp:place i with
    | none=>rw[hp] at h;cases h
    | some p=>
      obtain⟨off,size⟩:=p;rw[hp] at h;simp only[] at h;split at h
      · rename_i hc
        obtain⟨hf,hs,hb⟩:=hc;have hfl:=den_flat' hf;have hsz:s.den.cells.size=size:=by rw[← Array.length_toList,hfl,List.length_map,hs]
        simp only[List.map_cons,Instr.fill,hp,Option.getD_some]
        have hcond:¬ (s.den.cells.size≠size∨off+s.den.cells.size > (l.map SV.den).toArray.size):=by
          rw[hsz];simp;omega
        have hc2:(decide (s.den.cells.size≠size) || decide (off+s.den.cells.size > (l.map SV.den).toArray.size))=false:=by
          simp only[Bool.or_eq_false_iff,decide_eq_false_iff_not];exact⟨fun h=>hcond (.inl h),fun h=>hcond (.inr h)⟩
        simp only[hc2]
        have hcells:(s.den.cells.zipIdx.foldl (fun cs (x:Value×Nat)=>cs.setIfInBounds (off+x.2) x.1) (l.map SV.den).toArray)=((lay l off (flat s)).map SV.den).toArray:=by
          rw[← Array.foldl_toList];apply Array.ext';rw[Array.toList_zipIdx,foldl_lay off _ 0 _ (by rw[Array.length_toList,hsz];simp;omega),hfl];simp [lay]
        have ih:=fill_ok rest _ (lay l off (flat s)) l' h rfl;rw[← ih];simp only[Bool.false_eq_true,if_false]
        congr 1
      · cases h
def Zj (P:Program) (t:TypeId):Option TypeId:=match tk P t with | .array _ e=>some e|_=>none
def placesOf (P:Program) (t:TypeId):Nat→Option (Nat×Nat):=fun i=>match Zj P t with
  | some e=>some (i * tsz P e,tsz P e)
  | none=>(Ql P t i).map fun p=>(p.1,tsz P p.2)
def Qq (P:Program) (t:TypeId):Bool:=match tk P t with | .struct fs=>fs.all fun p=>decide (0<tsz P p.2) | .array _ e=>decide (0<tsz P e)|_=>false
def vBuild (P:Program) (st:St) (t:TypeId) (parts:List (Nat×Operand)) (K:SV→Prop):Prop:=
  Qq P t=true∧0<tsz P t∧(tz P t≠[]) ∧
  match fillS (placesOf P t) (tz P t) (parts.map fun p=>(p.1,ev st.env p.2)) with
  | some l=>K (.agg l.length (fun j=>l.getD j default))
  | none=>False
theorem fillS_some {place:Nat→Option (Nat×Nat)}:∀ (parts:List (Nat×Option SV)) (l l':List SV),fillS place l parts=some l'→(∀ p∈parts,p.2.isSome)∧∀ (Q:SV→Prop),(∀ c∈l,Q c)→(∀ p∈parts,∀ s,p.2=some s→∀ c∈flat s,Q c)→∀ c∈l',Q c
  | [],l,l',h=>by
    simp only[fillS,Option.some.injEq] at h;subst h;exact⟨by simp,fun Q h1 _=>h1⟩
  | (i,none) :: rest,l,l',h=>by simp [fillS] at h
  | (i,some s) :: rest,l,l',h=>by
    simp only[fillS] at h;cases hp:place i with
    | none=>rw[hp] at h;cases h
    | some p=>
      rw[hp] at h;simp only[] at h;split at h
      · obtain⟨h1,h2⟩:=fillS_some rest _ _ h
        refine⟨fun p hm=>?_,fun Q hl hq=>h2 Q (fun c hc=>?_) (fun p hm=>hq p (List.mem_cons_of_mem _ hm))⟩
        · rcases List.mem_cons.1 hm with rfl|hm
          · rfl
          · exact h1 p hm
        · unfold lay at hc
          rcases List.mem_append.1 hc with hc|hc
          · rcases List.mem_append.1 hc with hc|hc
            · exact hl c (List.mem_of_mem_take hc)
            · exact hq _ (List.mem_cons_self ..) s rfl c hc
          · exact hl c (List.mem_of_mem_drop hc)
      · cases h
theorem tz_info {t:TypeId} (h:tz P t≠[]):∃ i z,P.info? t=some i∧i.zero=some z∧z.cells.toList=(tz P t).map SV.den:=by
  unfold tz at *;cases hi:P.info? t with
  | none=>simp [hi] at h
  | some i=>
    cases hz:i.zero with
    | none=>simp [hi,hz] at h
    | some z=>exact⟨i,z,rfl,hz,by simp [hz,Function.comp_def,den_svz]⟩
theorem flat_ok {R:Nat→Prop} {w:World} {s:SV} (h:s.ok R w):∀ c∈flat s,c.ok R w:=by
  cases s<;>simp only[flat,List.mem_singleton,forall_eq]<;>try exact h
  intro c hc;obtain⟨j,hj,rfl⟩:=List.mem_map.1 hc;exact h j (by simpa using hj)
theorem vBuild_ok {t:TypeId} {parts:Array (Nat×Operand)} (h:vBuild P st t parts.toList K):Vok P st (.build t parts) K:=by
  unfold vBuild at h;obtain⟨hff,hz,htz,h⟩:=h;split at h
  · rename_i l hl
    obtain⟨i,z,hi,hiz,hzc⟩:=tz_info htz;obtain⟨hsome,hall⟩:=fillS_some _ _ _ hl;refine⟨_,h,fun R B a w he ho=>⟨fun j hj=>?_,yall fun w o ho'=>?_⟩⟩
    · have hget:l[j]? = some (l.getD j default):=by simp [List.getD,hj]
      refine hall (fun c=>c.ok R w) ?_ ?_ _ (List.mem_of_getElem? hget)
      · intro c hc
        unfold tz at hc;rw[hi] at hc;simp only[Option.bind_some,hiz] at hc;obtain⟨x,_,rfl⟩:=List.mem_map.1 hc;exact ok_svz _ _ _
      · intro p hp s hs c hc
        obtain⟨q,_,rfl⟩:=List.mem_map.1 hp;exact flat_ok (Qo he hs).2 c hc
    · unfold Qq at hff
      split at hff
      · rename_i fs hfs
        obtain⟨gs,hu,rfl⟩:=tk_struct hfs
        have hvals:(parts.map fun x=>(x.1,a.eval x.2)).toList=(parts.toList.map fun p=>(p.1,ev st.env p.2)).map fun p=>(p.1,(p.2.getD default).den):=by
          rw[Array.toList_map,List.map_map];apply List.map_congr_left;intro p hp;have:=hsome _ (List.mem_map.2 ⟨p,hp,rfl⟩);obtain⟨s,hs⟩:=Option.isSome_iff_exists.1 this;simp only[] at hs;simp [hs,(Qo he hs).1]
        have hmap:∀ (l:List Field),(∀ g∈l,0<tsz P g.type)→(l.mapM fun f=>do pure (f.offset,← sizeOf f.type):Sem (List (Nat×Nat))).run P w=.ok (l.map fun f=>(f.offset,tsz P f.type)) w:=by
          intro l
          induction l with
          | nil=>intro _;rfl
          | cons g rest ih=>
            intro hg;have h1:=run_sizeOf (hg g (by simp)) w;have h2:=ih (fun x hx=>hg x (by simp [hx]));simp only[List.mapM_cons,Sem.run_bind,h1,Result.andThen_ok,Sem.run_pure,h2,List.map_cons]
        have hpos:∀ g∈gs.toList,0<tsz P g.type:=by
          intro g hg;have:=List.all_eq_true.1 hff _ (List.mem_map.2 ⟨g,hg,rfl⟩)
          simpa using this
        have hm:=hmap gs.toList hpos
        have hplace:(fun i=>((gs.toList.map fun f=>(f.offset,tsz P f.type)).toArray)[i]?)=placesOf P t:=by
          funext i
          unfold placesOf Ql Zj;rw[hfs];simp [Function.comp_def]
        have hfill:=fill_ok _ _ _ _ hl hvals;rw[← hplace] at hfill;have hzc':z.cells=((tz P t).map SV.den).toArray:=by apply Array.ext';rw[hzc]
        have hmA:(gs.mapM fun f=>do pure (f.offset,← sizeOf f.type):Sem (Array (Nat×Nat))).run P w=.ok (gs.toList.map fun f=>(f.offset,tsz P f.type)).toArray w:=by
          rw[Array.mapM_eq_mapM_toList];simp only[Sem.run_map,hm,Result.andThen_ok]
        have hden:(SV.agg l.length fun j=>l.getD j default).den=.agg (l.map SV.den).toArray:=by
          simp only[SV.den]
          congr 1
          apply Array.ext';apply List.ext_getElem?;intro j;simp only[List.getElem?_map];by_cases hj:j<l.length
          · rw[List.getElem?_range hj];simp [List.getD,hj]
          · rw[List.getElem?_eq_none (by simp;omega),List.getElem?_eq_none (by omega)];rfl
        rw[hden];have hfill':Instr.fill (fun i=>((gs.toList.map fun f=>(f.offset,tsz P f.type)).toArray)[i]?) z.cells (parts.map fun x=>(x.1,a.eval x.2)).toList=some (l.map SV.den).toArray:=by rw[hzc'];exact hfill
        have hzr:(zeroValue t).run P w=.ok z w:=by simp [zeroValue,typeInfo,hi,hiz]
        have hb:(Instr.build t (parts.map fun x=>(x.1,a.eval x.2))).run P w=.ok (.agg (l.map SV.den).toArray) w:=by
          unfold Instr.build;simp only[Sem.run_bind,hzr,run_underlying hu,Result.andThen_ok,hmA,hfill',Sem.run_pure]
        simp [execOp,ho',hb]
      · rename_i len e hfs
        have hu:=tk_array hfs;have hze:0<tsz P e:=of_decide_eq_true hff
        have hvals:(parts.map fun x=>(x.1,a.eval x.2)).toList=(parts.toList.map fun p=>(p.1,ev st.env p.2)).map fun p=>(p.1,(p.2.getD default).den):=by
          rw[Array.toList_map,List.map_map];apply List.map_congr_left;intro p hp;have:=hsome _ (List.mem_map.2 ⟨p,hp,rfl⟩);obtain⟨s,hs⟩:=Option.isSome_iff_exists.1 this;simp only[] at hs;simp [hs,(Qo he hs).1]
        have hplace:(fun i=>some (i * tsz P e,tsz P e))=placesOf P t:=by
          funext i
          unfold placesOf Zj;rw[hfs]
        have hfill:=fill_ok _ _ _ _ hl hvals;rw[← hplace] at hfill;have hzc':z.cells=((tz P t).map SV.den).toArray:=by apply Array.ext';rw[hzc]
        have hden:(SV.agg l.length fun j=>l.getD j default).den=.agg (l.map SV.den).toArray:=by
          simp only[SV.den]
          congr 1
          apply Array.ext';apply List.ext_getElem?;intro j;simp only[List.getElem?_map];by_cases hj:j<l.length
          · rw[List.getElem?_range hj];simp [List.getD,hj]
          · rw[List.getElem?_eq_none (by simp;omega),List.getElem?_eq_none (by omega)];rfl
        rw[hden];have hfill':Instr.fill (fun i=>some (i * tsz P e,tsz P e)) z.cells (parts.map fun x=>(x.1,a.eval x.2)).toList=some (l.map SV.den).toArray:=by rw[hzc'];exact hfill
        have hzr:(zeroValue t).run P w=.ok z w:=by simp [zeroValue,typeInfo,hi,hiz]
        have h1:=run_sizeOf hze w
        have hb:(Instr.build t (parts.map fun x=>(x.1,a.eval x.2))).run P w=.ok (.agg (l.map SV.den).toArray) w:=by
          unfold Instr.build;simp only[Sem.run_bind,hzr,run_underlying hu,Result.andThen_ok,h1,hfill',Sem.run_pure]
        simp [execOp,ho',hb]
      · cases hff
  · exact h.elim
end Eng
end Go.Proofs.YtabgkfjfmjdfiaaGreatDoor

namespace Go.Proofs.YtabgkfjfmjdfiaaGreatDoor
namespace Eng
structure Evo (M:Nat→Prop) (w w':World):Prop where
  os:w'.os=w.os
  tape:w'.tape=w.tape
  output:w'.output=w.output
  size:w.heap.size≤w'.heap.size
  block:∀ b,b<w.heap.size→¬ M b→w'.heap[b]? = w.heap[b]?
theorem Evo.refl (M:Nat→Prop) (w:World):Evo M w w:=⟨rfl,rfl,rfl,Nat.le_refl _,fun _ _ _=>rfl⟩
theorem Evo.trans {M:Nat→Prop} {a b c:World} (h:Evo M a b) (k:Evo M b c):Evo M a c:=
  ⟨k.os.trans h.os,k.tape.trans h.tape,k.output.trans h.output,Nat.le_trans h.size k.size,fun i hi hm=>(k.block i (Nat.lt_of_lt_of_le hi h.size) hm).trans (h.block i hi hm)⟩
structure Frm where
  M:Nat→Prop
  L:Nat→Prop
  Inv:World→Prop
  sub:∀ b,M b→L b
  lt:∀ w b,Inv w→L b→b<w.heap.size
  stab:∀ w w' B,Inv w→(∀ b,L b→b<B)→(∀ b,b<B→w'.heap[b]? = w.heap[b]?)→Inv w'
def Frm.nil:Frm:=⟨fun _=>False,fun _=>False,fun _=>True,fun _ h=>h,fun _ _ _ h=>h.elim,fun _ _ _ _ _ _=>trivial⟩
def Own.blk:Own→Option Nat
  | .box b _ _=>some b
  | .row (some a) _ _ _ _ _=>some a.block
  | .res b _=>some b
  | .mp b _ _ _ _=>some b
  | .mq b _ _ _ _ _=>some b
  | _=>none
theorem Q2 {R R':Nat→Prop} {B:Nat} {w w':World} {o:Own} (h:o.ok R B w) (hR:∀ b,R b→R' b) (hR':∀ b,o.blk=some b→R' b→R b) (hw:∀ b,R b→w'.heap[b]? = w.heap[b]?) (hb:∀ b,o.blk=some b→w'.heap[b]? = w.heap[b]?):o.ok R' B w':=by
  cases o with
  | gone=>trivial
  | box blk ty cs=>
    obtain⟨h1,h2,h3,h4⟩:=h;exact⟨h1,fun hr=>h2 (hR' _ rfl hr),(hb blk rfl).trans h3,fun c hc=>⟨(h4 c hc).1,Qx hR hw c (h4 c hc).2⟩⟩
  | row a e len cap sz rd=>
    obtain⟨h1,h2,h3⟩:=h;refine⟨⟨h1.1,?_⟩,?_,fun i j hi hj=>⟨(h3 i j hi hj).1,Qx hR hw _ (h3 i j hi hj).2⟩⟩
    · rcases h1.2 with hn|⟨g,cap',cur,hv,hbg,hg,rest⟩
      · exact .inl hn
      · refine .inr ⟨g,cap',cur,hv,hbg,?_,rest⟩
        simp only[Value.slice.injEq] at hv;obtain⟨rfl,_,_⟩:=hv;exact (hb g rfl).trans hg
    · intro g hg hr
      subst hg;exact h2 g rfl (hR' _ rfl hr)
  | frz a len cap sz rd=>exact Qx hR hw _ h
  | res blk p=>
    obtain⟨h1,h2,h3,h4⟩:=h;have hbl:=hb blk rfl;refine⟨h1,fun hr=>h2 (hR' _ rfl hr),?_,fun w'' hw''=>h4 w'' fun b hbb=>?_⟩
    · have:w.heap[blk]? = some w.heap[blk]:=Array.getElem?_eq_getElem h3
      rw[← hbl] at this;exact (Array.getElem?_eq_some_iff.1 this).1
    · rcases hbb with hbb|rfl
      · exact (hw'' b (.inl (hR b hbb))).trans (hw b hbb)
      · exact (hw'' b (.inr rfl)).trans hbl
  | mp blk sc ks vk f=>
    obtain⟨h1,h2,es,clock,h3,h4⟩:=h;exact⟨h1,fun hr=>h2 (hR' _ rfl hr),es,clock,(hb blk rfl).trans h3,h4⟩
  | mq blk sc ks n key val=>
    obtain⟨h1,h2,h3,h4⟩:=h;exact⟨h1,fun hr=>h2 (hR' _ rfl hr),h3.mono (hb blk rfl),fun i hi=>Qx hR hw _ (h4 i hi)⟩
theorem Qw {R:Nat→Prop} {B:Nat} {w:World} {o:Own} (h:o.ok R B w) {b:Nat} (hb:o.blk=some b):B≤b∧b<w.heap.size∧¬ R b:=by
  cases o with
  | gone=>cases hb
  | box blk ty cs=>
    obtain⟨h1,h2,h3,h4⟩:=h;simp only[Own.blk,Option.some.injEq] at hb;subst hb;exact⟨h1,(Array.getElem?_eq_some_iff.1 h3).1,h2⟩
  | row a e len cap sz rd=>
    cases a with
    | none=>cases hb
    | some g=>
      simp only[Own.blk,Option.some.injEq] at hb;subst hb;have:=h.1.lt g.block rfl;exact⟨this.1,this.2,h.2.1 g rfl⟩
  | frz a len cap sz rd=>cases hb
  | res blk p=>
    simp only[Own.blk,Option.some.injEq] at hb;subst hb;exact⟨h.1,h.2.2.1,h.2.1⟩
  | mp blk sc ks vk f=>
    simp only[Own.blk,Option.some.injEq] at hb;subst hb;obtain⟨h1,h2,es,clock,h3,_⟩:=h;exact⟨h1,(Array.getElem?_eq_some_iff.1 h3).1,h2⟩
  | mq blk sc ks n key val=>
    simp only[Own.blk,Option.some.injEq] at hb;subst hb;obtain⟨h1,h2,h3,_⟩:=h;exact⟨h1,(Array.getElem?_eq_some_iff.1 h3.heap).1,h2⟩
structure Org where
  w:World
  G:Nat→Prop
structure RelR (F:Frm) (R0:Nat→Prop) (w0:Org) (ob:Nat) (R:Nat→Prop) (st:St) (a:Act) (w:World):Prop where
  defers:a.defers=[]
  env:EnvOk R st.env a w
  size:st.n≤a.tmps.size
  own:OwnsOk R ob st.own w
  dist:∀ (i j:Nat) (o o':Own),i≠j→st.own[i]? = some o→st.own[j]? = some o'→∀ b,o.blk=some b→o'.blk≠some b
  evo:Evo (fun b=>F.M b∨w0.G b) w0.w w
  inv:F.Inv w
  obM:∀ b,F.L b→b<ob
  gb:∀ (i:Nat) (o:Own),st.own[i]? = some o→∀ b,o.blk=some b→w0.w.heap.size≤b∨w0.G b
  obw:ob≤w.heap.size
  rr:∀ b,R b→b<w.heap.size∧¬ F.M b∧(R0 b∨w0.w.heap.size≤b∨w0.G b)
  r0:∀ b,R0 b→R b
section
variable {F:Frm} {R0 R:Nat→Prop} {w0:Org} {w:World} {ob:Nat} {st:St} {a:Act}
theorem RelR.ltM (h:RelR F R0 w0 ob R st a w) {b:Nat} (hb:F.M b):b<ob:=h.obM b (F.sub b hb)
theorem EnvOk.put {env:List (Nat×SV)} (h:EnvOk R env a w) {d:Nat} (hd:d<a.tmps.size) {s:SV} (hs:s.ok R w):EnvOk R ((d,s) :: env) (a.put (some d) s.den) w:=by
  intro t s' ht;simp only[look] at ht;by_cases e:d=t
  · rw[if_pos e,Option.some.injEq] at ht
    subst ht;subst e;exact⟨by simp [Act.put,hd],hs⟩
  · rw[if_neg e] at ht
    obtain⟨h1,h2⟩:=h t s' ht;exact⟨by simp only[Act.put];rw[Array.getElem?_setIfInBounds_ne e];exact h1,h2⟩
theorem put_size (a:Act) (d:Option Tmp) (v:Value):(a.put d v).tmps.size=a.tmps.size:=by cases d<;>simp [Act.put]
theorem RelR.put (h:RelR F R0 w0 ob R st a w) {d:Option Tmp} (hd:∀ t,d=some t→t<st.n) {s:SV} (hs:s.ok R w):RelR F R0 w0 ob R (st.put d s) (a.put d s.den) w:=by
  cases d with
  | none=>exact h
  | some d=>
    have hd':d<a.tmps.size:=Nat.lt_of_lt_of_le (hd d rfl) h.size;exact⟨h.defers,h.env.put hd' hs,by rw[put_size];exact h.size,h.own,h.dist,h.evo,h.inv,h.obM,h.gb,h.obw,h.rr,h.r0⟩
theorem RelR.turn (h:RelR F R0 w0 ob R st a w) {w':World} {own':List Own} {R':Nat→Prop} (C:Nat→Prop) (h1:w'.os=w.os) (h2:w'.tape=w.tape) (h3:w'.output=w.output) (h4:w.heap.size≤w'.heap.size)
    (hC:∀ b,C b→ob≤b∧¬ R b∧(w0.w.heap.size≤b∨w0.G b)) (hb:∀ b,b<w.heap.size→¬ C b→w'.heap[b]? = w.heap[b]?)
    (hR:∀ b,R b→R' b) (hR':∀ b,R' b→R b∨(ob≤b∧b<w'.heap.size∧(w0.w.heap.size≤b∨w0.G b)))
    (ho:OwnsOk R' ob own' w') (hd:∀ (i j:Nat) (o o':Own),i≠j→own'[i]? = some o→own'[j]? = some o'→∀ b,o.blk=some b→o'.blk≠some b)
    (hg:∀ (i:Nat) (o:Own),own'[i]? = some o→∀ b,o.blk=some b→w0.w.heap.size≤b∨w0.G b) :
    RelR F R0 w0 ob R' { st with own:=own' } a w':=by
  have hRb:∀ b,R b→w'.heap[b]? = w.heap[b]? := fun b hr=>hb b (h.rr b hr).1 (fun hc=>(hC b hc).2.1 hr);have hM:∀ b,F.L b→b<ob:=h.obM;refine⟨h.defers,fun t s ht=>⟨(h.env t s ht).1,Qx hR hRb s (h.env t s ht).2⟩,h.size,ho,hd,?_,?_,h.obM,hg,Nat.le_trans h.obw h4,?_,fun b hb=>hR b (h.r0 b hb)⟩
  · exact⟨h1.trans h.evo.os,h2.trans h.evo.tape,h3.trans h.evo.output,Nat.le_trans h.evo.size h4,fun b hlt hm=>(hb b (Nat.lt_of_lt_of_le hlt h.evo.size) (fun hc=>by
      rcases (hC b hc).2.2 with h9|h9
      · omega
      · exact hm (.inr h9))).trans (h.evo.block b hlt hm)⟩
  · exact F.stab w w' ob h.inv hM (fun b hlt=>hb b (Nat.lt_of_lt_of_le hlt h.obw) (fun hc=>by have:=(hC b hc).1;omega))
  · intro b hr
    rcases hR' b hr with hr|⟨hr1,hr2,hr3⟩
    · obtain⟨g1,g2,g3⟩:=h.rr b hr
      exact⟨Nat.lt_of_lt_of_le g1 h4,g2,g3⟩
    · exact⟨hr2,fun hm=>by have:=h.ltM hm;omega,.inr hr3⟩
theorem gb_append {own:List Own} {w0:Org} {m:Nat} (hm:w0.w.heap.size≤m) (h:∀ (i:Nat) (o:Own),own[i]? = some o→∀ b,o.blk=some b→w0.w.heap.size≤b∨w0.G b) {o:Own} (ho:∀ b,o.blk=some b→b=m) :
    ∀ (i:Nat) (x:Own),(own ++ [o])[i]? = some x→∀ b,x.blk=some b→w0.w.heap.size≤b∨w0.G b:=by
  intro i x hx b hb;rw[List.getElem?_append] at hx;split at hx
  · exact h i x hx b hb
  · by_cases e:i - own.length=0
    · rw[e] at hx;simp at hx;subst hx;have:=ho b hb;omega
    · rw[List.getElem?_eq_none (by simp;omega)] at hx;cases hx
theorem gb_set {own:List Own} {w0:Org} {id m:Nat} (hm:w0.w.heap.size≤m) (h:∀ (i:Nat) (o:Own),own[i]? = some o→∀ b,o.blk=some b→w0.w.heap.size≤b∨w0.G b) {o o':Own} (hid:own[id]? = some o) (ho:∀ b,o'.blk=some b→o.blk=some b∨b=m) :
    ∀ (i:Nat) (x:Own),(own.set id o')[i]? = some x→∀ b,x.blk=some b→w0.w.heap.size≤b∨w0.G b:=by
  intro i x hx b hb;rw[List.getElem?_set] at hx;split at hx
  · split at hx
    · simp only[Option.some.injEq] at hx
      subst hx;rcases ho b hb with h9|h9
      · exact h id o hid b h9
      · omega
    · cases hx
  · exact h i x hx b hb
theorem Q5 {own:List Own} {o:Own} {i:Nat} {x:Own} (h:(own ++ [o])[i]? = some x):own[i]? = some x∨(i=own.length∧x=o):=by
  rw[List.getElem?_append] at h;split at h
  · exact .inl h
  · rename_i hge
    by_cases e:i - own.length=0
    · rw[e] at h;simp at h;exact .inr ⟨by omega,h.symm⟩
    · rw[List.getElem?_eq_none (by simp;omega)] at h;cases h
theorem RelR.fresh (h:RelR F R0 w0 ob R st a w) {o:Own} {cells:Array Value} {e:TypeId} (hblk:∀ b,o.blk=some b→b=w.heap.size) (ho:o.ok R ob (w.alloc (.cells cells e))) :
    RelR F R0 w0 ob R { st with own:=st.own ++ [o] } a (w.alloc (.cells cells e)):=by
  have hold:∀ b,b<w.heap.size→(w.alloc (.cells cells e)).heap[b]? = w.heap[b]? := fun b hb=>heap_alloc_old w _ hb;refine h.turn (fun _=>False) rfl rfl rfl (by simp) (fun _ h=>h.elim) (fun b hb _=>hold b hb) (fun _ h=>h) (fun _ h=>.inl h) ?_ ?_ (gb_append h.evo.size h.gb hblk)
  · intro i x hx
    rcases Q5 hx with hx|⟨_,rfl⟩
    · exact Q2 (h.own i x hx) (fun _ h=>h) (fun _ _ h=>h) (fun b hr=>hold b (h.rr b hr).1) (fun b hb=>hold b (Qw (h.own i x hx) hb).2.1)
    · exact ho
  · intro i j o1 o2 hij h1 h2 b hb1 hb2
    rcases Q5 h1 with g1|⟨hi,rfl⟩<;>rcases Q5 h2 with g2|⟨hj,rfl⟩
    · exact h.dist i j o1 o2 hij g1 g2 b hb1 hb2
    · have:=(Qw (h.own i o1 g1) hb1).2.1
      have:=hblk b hb2;omega
    · have:=(Qw (h.own j o2 g2) hb2).2.1
      have:=hblk b hb1;omega
    · omega
theorem RelR.setOwn (h:RelR F R0 w0 ob R st a w) {id g:Nat} {o o':Own} (hid:st.own[id]? = some o) (hg:o.blk=some g) (hg':∀ b,o'.blk=some b→b=g) {w':World}
    (h1:w'.os=w.os) (h2:w'.tape=w.tape) (h3:w'.output=w.output) (h4:w.heap.size≤w'.heap.size) (hb:∀ b,b<w.heap.size→b≠g→w'.heap[b]? = w.heap[b]?)
    (ho:o'.ok R ob w'):RelR F R0 w0 ob R { st with own:=st.own.set id o' } a w':=by
  have hgl:=Qw (h.own id o hid) hg;have hidl:id<st.own.length:=(List.getElem?_eq_some_iff.1 hid).1;refine h.turn (fun b=>b=g) h1 h2 h3 h4 (fun b e=>by subst e;exact⟨hgl.1,hgl.2.2,h.gb id o hid _ hg⟩) (fun b hlt hne=>hb b hlt hne) (fun _ h=>h) (fun _ h=>.inl h) ?_ ?_ (gb_set h.evo.size h.gb hid fun b hb=>.inl (by rw[hg' b hb];exact hg))
  · intro i x hx
    rw[List.getElem?_set] at hx;split at hx
    · rename_i e
      subst e;simp only[hidl,if_true,Option.some.injEq] at hx;subst hx;exact ho
    · rename_i hne
      refine Q2 (h.own i x hx) (fun _ h=>h) (fun _ _ h=>h) (fun b hr=>hb b (h.rr b hr).1 (fun e=>by subst e;exact hgl.2.2 hr)) (fun b hbx=>hb b (Qw (h.own i x hx) hbx).2.1 (fun e=>?_));subst e;exact h.dist id i o x hne hid hx b hg hbx
  · intro i j o1 o2 hij h1 h2 b hb1 hb2
    rw[List.getElem?_set] at h1 h2;split at h1<;>split at h2
    · omega
    · rename_i e hne
      subst e;simp only[hidl,if_true,Option.some.injEq] at h1;subst h1;have:=hg' b hb1;subst this;exact h.dist id j o o2 hij hid h2 b hg hb2
    · rename_i hne e
      subst e;simp only[hidl,if_true,Option.some.injEq] at h2;subst h2;have:=hg' b hb2;subst this;exact h.dist i id o1 o hij h1 hid b hb1 hg
    · exact h.dist i j o1 o2 hij h1 h2 b hb1 hb2
end
end Eng
end Go.Proofs.YtabgkfjfmjdfiaaGreatDoor

namespace Go.Proofs.YtabgkfjfmjdfiaaGreatDoor
namespace Eng
def Rel (F:Frm) (R0:Nat→Prop) (w0:Org) (st:St) (a:Act) (w:World):Prop:=∃ ob R,RelR F R0 w0 ob R st a w
def Good (P:Program) (F:Frm) (op:Op) (dst:Option Tmp) (st:St) (k:St→Prop):Prop:=
  ∀ (R0:Nat→Prop) (w0:Org) (a:Act) (w:World) (o:Oper) (next:Act→World→Prop) (Q:Exit→Act→World→Prop),o.op=op→o.dst=dst→Rel F R0 w0 st a w →
    (∀ st' a' w',k st'→Rel F R0 w0 st' a' w'→next a' w')→o.wp P a w next Q
def QO (st:St) (dst:Option Tmp):Prop:=match dst with|some d=>d<st.n|none=>True
theorem Qr {st:St} {dst:Option Tmp} (h:QO st dst):∀ t,dst=some t→t<st.n:=by rintro t rfl;exact h
section
variable {P:Program} {F:Frm} {st:St} {k:St→Prop} {dst:Option Tmp}
theorem Good.of_vok {op:Op} (hd:QO st dst) (h:Vok P st op (fun s=>k (st.put dst s))):Good P F op dst st k:=by
  rintro R0 w0 a w o next Q ho rfl ⟨ob,R,hr⟩ hk
  obtain⟨s,hs,hv⟩:=h;obtain⟨h1,h2,_⟩:=hv R _ a w hr.env hr.own;unfold Oper.wp;rw[h2 o ho];exact hk _ _ _ hs ⟨ob,R,hr.put (Qr hd) h1⟩
def oneS:SV→Bool
  | .agg _ _=>false
  | .tup _ _=>false
  | .v (.agg _)=>false
  | .v (.tuple _)=>false
  | _=>true
theorem one_den {s:SV} (h:oneS s=true):s.den.oneCell'=true:=by
  cases s with
  | v x=>cases x<;>simp_all [oneS,SV.den,Value.oneCell']
  | _=>simp_all [oneS,SV.den,Value.oneCell']
/-! ### A new variable -/
def sNew (st:St) (dst:Option Tmp) (t:TypeId) (cs:List SV) (k:St→Prop):Prop:=
  ∀ blk:Nat,k (St.put { st with own:=st.own ++ [Own.box blk t cs] } dst (.op st.own.length blk 0))
theorem good_new {op:Op} {t:TypeId} {cs:List SV} (hd:QO st dst) (h:sNew st dst t cs k)
    (hrun:∀ R B a w,EnvOk R st.env a w→OwnsOk R B st.own w→(∀ c∈cs,c.den.oneCell'=true∧c.ok R w)∧∀ o:Oper,o.op=op→(execOp a.eval o).run P w=.ok (.value (.pointer (some ⟨w.heap.size,0,none⟩))) (w.alloc (.cells (cs.map SV.den).toArray t))):Good P F op dst st k:=by
  rintro R0 w0 a w o next Q ho rfl ⟨ob,R,hr⟩ hk
  obtain⟨h1,h2⟩:=hrun R _ a w hr.env hr.own;unfold Oper.wp;rw[h2 o ho]
  have hf:=hr.fresh (o:=.box w.heap.size t cs) (cells:=(cs.map SV.den).toArray) (e:=t) (fun b hb=>by simpa [Own.blk] using hb.symm) ⟨hr.obw,fun hc=>by have:=(hr.rr _ hc).1;omega,heap_alloc_new w _,fun c hc=>
    ⟨(h1 c hc).1,Qx (fun _ h=>h) (fun b hb=>heap_alloc_old w _ (hr.rr b hb).1) c (h1 c hc).2⟩⟩
  exact hk _ _ _ (h w.heap.size) ⟨ob,R,hf.put (s:=.op st.own.length w.heap.size 0) (Qr hd) trivial⟩
def sAlloc (P:Program) (st:St) (dst:Option Tmp) (t:TypeId) (k:St→Prop):Prop:=(tz P t≠[]∧(tz P t).all oneS=true)∧sNew st dst t (tz P t) k
theorem sAlloc_good {t:TypeId} (hd:QO st dst) (h:sAlloc P st dst t k):Good P F (.alloc t) dst st k:=by
  obtain⟨⟨hz,h1⟩,h⟩:=h;refine good_new hd h fun R B a w he ho=>⟨fun c hc=>⟨one_den (List.all_eq_true.1 h1 c hc),?_⟩,fun o ho'=>?_⟩
  · unfold tz at hc
    split at hc
    · obtain⟨x,_,rfl⟩:=List.mem_map.1 hc;exact ok_svz _ _ _
    · simp at hc
  · obtain⟨i,z,hi,hiz,hzc⟩:=tz_info hz
    have:z.cells=((tz P t).map SV.den).toArray:=by apply Array.ext';rw[hzc]
    have hzr:(zeroValue t).run P w=.ok z w:=by simp [zeroValue,typeInfo,hi,hiz]
    have hnew:(newVar t z).run P w=.ok ⟨w.heap.size,0,none⟩ (w.alloc (.cells ((tz P t).map SV.den).toArray t)):=by
      rw[← this];simp [newVar,newRow]
    simp [execOp,ho',Instr.alloc,hzr,hnew]
def sBox (st:St) (dst:Option Tmp) (t:TypeId) (x:Operand) (k:St→Prop):Prop:=
  match ev st.env x with
  | some s=>(flatOk s=true∧(flat s).all oneS=true)∧sNew st dst t (flat s) k
  | none=>False
theorem sBox_good {t:TypeId} {x:Operand} (hd:QO st dst) (h:sBox st dst t x k):Good P F (.box t x) dst st k:=by
  unfold sBox at h;split at h
  · rename_i s hx
    obtain⟨⟨hf,h1⟩,h⟩:=h;refine good_new hd h fun R B a w he ho=>⟨fun c hc=>⟨one_den (List.all_eq_true.1 h1 c hc),flat_ok (Qo he hx).2 c hc⟩,fun o ho'=>?_⟩
    have:s.den.cells=((flat s).map SV.den).toArray:=by apply Array.ext';rw[den_flat' hf]
    have hnew:(newVar t s.den).run P w=.ok ⟨w.heap.size,0,none⟩ (w.alloc (.cells ((flat s).map SV.den).toArray t)):=by
      rw[← this];simp [newVar,newRow]
    simp [execOp,ho',Instr.box,hnew,(Qo he hx).1]
  · exact h.elim
/-! ### A store -/
theorem lay_one {l cs:List SV} {off:Nat} (h1:∀ c∈l,c.den.oneCell'=true) (h2:∀ c∈cs,c.den.oneCell'=true):∀ c∈lay l off cs,c.den.oneCell'=true:=by
  intro c hc;unfold lay at hc;rcases List.mem_append.1 hc with hc|hc
  · rcases List.mem_append.1 hc with hc|hc
    · exact h1 c (List.mem_of_mem_take hc)
    · exact h2 c hc
  · exact h1 c (List.mem_of_mem_drop hc)
theorem lay_map (l:List SV) (off:Nat) (cs:List SV):(lay l off cs).map SV.den=(l.map SV.den).take off ++ cs.map SV.den ++ (l.map SV.den).drop (off+(cs.map SV.den).length):=by simp [lay]
theorem lay_ok {R:Nat→Prop} {w:World} {l cs:List SV} {off:Nat} (h1:∀ c∈l,c.ok R w) (h2:∀ c∈cs,c.ok R w):∀ c∈lay l off cs,c.ok R w:=by
  intro c hc;unfold lay at hc;rcases List.mem_append.1 hc with hc|hc
  · rcases List.mem_append.1 hc with hc|hc
    · exact h1 c (List.mem_of_mem_take hc)
    · exact h2 c hc
  · exact h1 c (List.mem_of_mem_drop hc)
theorem lay_get {α:Type} (l vs:List α) (off:Nat) (h:off+vs.length≤l.length) (q:Nat):(l.take off ++ vs ++ l.drop (off+vs.length))[q]? = if q<off then l[q]? else if q<off+vs.length then vs[q - off]? else l[q]? := by
  have e:min off l.length=off:=by omega
  simp only[List.getElem?_append,List.length_append,List.length_take,List.getElem?_take,List.getElem?_drop,e];by_cases h1:q<off
  · simp [h1,show q<off+vs.length by omega]
  · by_cases h2:q<off+vs.length
    · simp [h1,h2]
    · simp [h1,h2,show off+vs.length+(q - (off+vs.length))=q by omega]
def rdSet (rd:Nat→Nat→SV) (ix j:Nat) (cs:List SV):Nat→Nat→SV:=fun p q=>if p=ix∧j≤q∧q<j+cs.length then cs.getD (q - j) default else rd p q
def sStore (P:Program) (st:St) (dst:Option Tmp) (t:TypeId) (x y:Operand) (k:St→Prop):Prop:=
  match ev st.env x,ev st.env y with
  | some (.op id blk off),some s=>(match st.own[id]? with
    | some (.box blk' ty cs)=>blk'=blk∧(flatOk s=true∧(flat s).all oneS=true∧(flat s).length=tsz P t∧0<tsz P t∧off+tsz P t≤cs.length) ∧
      k (St.put { st with own:=st.own.set id (Own.box blk' ty (lay cs off (flat s))) } dst (.v undef))
    | _=>False)
  | some (.oe id blk off ix j),some s=>(match st.own[id]? with
    | some (.row a e len cap sz rd)=>((a.getD default).block=blk∧ix * sz+j=off)∧ix<len∧(flatOk s=true∧(flat s).all oneS=true∧(flat s).length=tsz P t∧0<tsz P t∧j+tsz P t≤sz) ∧
      k (St.put { st with own:=st.own.set id (Own.row a e len cap sz (rdSet rd ix j (flat s))) } dst (.v undef))
    | _=>False)
  | _,_=>False
theorem run_storeAt_own {t:TypeId} (hz:0<tsz P t) {g off:Nat} {cur:Array Value} {e:TypeId} {w:World} (hg:w.heap[g]? = some (.cells cur e (0,0))) {s:SV} (hf:flatOk s=true) (h1:(flat s).all oneS=true) (hl:(flat s).length=tsz P t) (hb:off+tsz P t≤cur.size) :
    (Instr.storeAt t (.pointer (some ⟨g,off,none⟩)) s.den).run P w=.ok () (w.setRow g (cur.toList.take off ++ (flat s).map SV.den ++ cur.toList.drop (off+(flat s).length)).toArray):=by
  have hs:=run_sizeOf hz w;have hsz:s.den.cells.size=tsz P t:=by rw[← Array.length_toList,den_flat' hf,List.length_map,hl]
  have hst:=run_storeCells_at P g off e ((flat s).map SV.den) 0 cur w hg (by simp;omega) (fun v hv=>by
    obtain⟨c,hc,rfl⟩:=List.mem_map.1 hv
    exact one_den (List.all_eq_true.1 h1 c hc))
  simp only[Nat.add_zero,List.length_map] at hst;simp [Instr.storeAt,Instr.sureAddr,storeVar,hs,hsz,den_flat' hf,hst]
theorem row_store {R:Nat→Prop} {B:Nat} {w:World} {g e len cap sz:Nat} {rd:Nat→Nat→SV} (h:(Own.row (some ⟨g,0,none⟩) e len cap sz rd).ok R B w) {ix j:Nat} {cs:List SV} (hix:ix<len) (hj:j+cs.length≤sz) (h0:0<cs.length)
    (h1:cs.all oneS=true) (hok:∀ c∈cs,c.ok R w) (hRlt:∀ b,R b→b<w.heap.size):∃ cur:Array Value,w.heap[g]? = some (.cells cur e (0,0))∧ix * sz+j+cs.length≤cur.size ∧
      (Own.row (some ⟨g,0,none⟩) e len cap sz (rdSet rd ix j cs)).ok R B (w.setRow g (cur.toList.take (ix * sz+j) ++ cs.map SV.den ++ cur.toList.drop (ix * sz+j+cs.length)).toArray):=by
  obtain⟨ho,hR,hc⟩:=h;have hgR:¬ R g:=hR _ rfl;rcases ho.2 with ⟨hv,_⟩|⟨g',cap',cur,hv,hbg,hg,hn,hcm,hcs,ht⟩
  · cases hv
  simp only[Value.slice.injEq,Option.some.injEq,Addr.mk.injEq,and_true,true_and] at hv;obtain⟨rfl,rfl⟩:=hv
  have hle:ix * sz+sz≤len * sz:=by
    have:=Nat.mul_le_mul_right sz (show ix+1≤len by omega);rw[Nat.add_mul] at this;omega
  have hle2:len * sz≤cap * sz:=Nat.mul_le_mul_right sz hn;refine⟨cur,hg,by omega,⟨⟨by simp [cellsOf],.inr ⟨g,cap,_,rfl,hbg,setRow_heap w g cur _ e _ hg,hn,hcm,?_,?_⟩⟩,hR,?_⟩⟩
  · simp;omega
  · have hlen:(cellsOf len sz rd).length=len * sz:=by simp [cellsOf]
    apply List.ext_getElem?;intro q;rw[List.getElem?_take];by_cases hq:q<len * sz
    · rw[if_pos hq]
      have hsz:0<sz:=by omega
      have hq1:q / sz<len:=(Nat.div_lt_iff_lt_mul hsz).2 hq;have hq2:q % sz<sz:=Nat.mod_lt _ hsz;have hqe:q=(q / sz) * sz+q % sz:=by rw[Nat.mul_comm];exact (Nat.div_add_mod q sz).symm
      have hrhs:(cellsOf len sz (rdSet rd ix j cs))[q]? = some (rdSet rd ix j cs (q / sz) (q % sz)).den:=by
        have:=cellsOf_get (rd:=rdSet rd ix j cs) hq1 hq2
        rwa [← hqe] at this
      have hold:cur.toList[q]? = some (rd (q / sz) (q % sz)).den:=by
        have:=cellsOf_get (rd:=rd) hq1 hq2;rw[← hqe,← ht,List.getElem?_take,if_pos hq] at this;exact this
      rw[hrhs,show ix * sz+j+cs.length=ix * sz+j+(cs.map SV.den).length by simp,lay_get _ _ _ (by simp;omega)];simp only[List.length_map];by_cases hix2:q / sz=ix
      · rw[hix2] at hqe hold
        have hqe':q - ix * sz=q % sz:=by omega
        by_cases ha:j≤q % sz∧q % sz<j+cs.length
        · have hr:rdSet rd ix j cs (q / sz) (q % sz)=cs.getD (q % sz - j) default:=if_pos ⟨hix2,ha⟩
          rw[hr,if_neg (by omega),if_pos (by omega),show q - (ix * sz+j)=q % sz - j by omega];have hlt:q % sz - j<cs.length:=by omega
          simp [List.getD,hlt]
        · have hr:rdSet rd ix j cs (q / sz) (q % sz)=rd (q / sz) (q % sz):=if_neg (fun h=>ha h.2)
          rw[hr,hix2];by_cases hb:q<ix * sz+j
          · rw[if_pos hb,hold]
          · rw[if_neg hb,if_neg (by omega),hold]
      · have hr:rdSet rd ix j cs (q / sz) (q % sz)=rd (q / sz) (q % sz):=if_neg (fun h=>hix2 h.1)
        rw[hr];by_cases hb:q<ix * sz+j
        · rw[if_pos hb,hold]
        · have:¬ q<ix * sz+j+cs.length:=by
            intro hlt;apply hix2
            have:ix * sz≤q∧q<(ix+1) * sz:=by rw[Nat.add_mul];omega
            rw[Nat.div_eq_of_lt_le this.1 this.2]
          rw[if_neg hb,if_neg this,hold]
    · rw[if_neg hq,List.getElem?_eq_none]
      rw[show (cellsOf len sz (rdSet rd ix j cs)).length=len * sz by simp [cellsOf]];omega
  · have hmono:∀ s:SV,s.ok R w→s.ok R (w.setRow g (cur.toList.take (ix * sz+j) ++ cs.map SV.den ++ cur.toList.drop (ix * sz+j+cs.length)).toArray):=Qx (fun _ h=>h) (fun b hb=>setRow_other w g b _ (fun e=>by subst e;exact hgR hb))
    intro p q hp hq;unfold rdSet;split
    · rename_i hpq
      have hget:cs[q - j]? = some (cs.getD (q - j) default):=by simp [List.getD,show q - j<cs.length by omega]
      have hm:=List.mem_of_getElem? hget;exact⟨one_den (List.all_eq_true.1 h1 _ hm),hmono _ (hok _ hm)⟩
    · exact⟨(hc p q hp hq).1,hmono _ (hc p q hp hq).2⟩
theorem sStore_good {t:TypeId} {x y:Operand} (hd:QO st dst) (h:sStore P st dst t x y k):Good P F (.store t x y) dst st k:=by
  unfold sStore at h;rintro R0 w0 a w o next Q ho rfl ⟨ob,R,hr⟩ hk
  split at h
  · rename_i id blk off s hx hy
    split at h
    · rename_i blk' ty cs hid
      obtain⟨rfl,⟨hf,h1,hl,hz,hb⟩,h⟩:=h;obtain⟨hB,hnR,hg,hcs⟩:=hr.own _ _ hid;have hst:=run_storeAt_own hz hg hf h1 hl (off:=off) (by simpa using hb);have hcells:((cs.map SV.den).toArray.toList.take off ++ (flat s).map SV.den ++ (cs.map SV.den).toArray.toList.drop (off+(flat s).length))=(lay cs off (flat s)).map SV.den:=by rw[lay_map];simp
      rw[hcells] at hst;unfold Oper.wp
      have hrun:(execOp a.eval o).run P w=.ok .skip (w.setRow blk' ((lay cs off (flat s)).map SV.den).toArray):=by
        simp only[execOp,ho,(Qo hr.env hx).1,(Qo hr.env hy).1,Sem.run_bind];simp only[SV.den] at hst ⊢;rw[hst];rfl
      rw[hrun];have hmono:∀ s:SV,s.ok R w→s.ok R (w.setRow blk' ((lay cs off (flat s)).map SV.den).toArray):=fun s'=>Qx (fun _ h=>h) (fun b hb=>setRow_other w blk' b _ (fun e=>by subst e;exact hnR hb)) s';have hnew:=hr.setOwn (o':=.box blk' ty (lay cs off (flat s))) (g:=blk') hid rfl (fun b hb=>by simpa [Own.blk] using hb.symm) (w':=w.setRow blk' ((lay cs off (flat s)).map SV.den).toArray) rfl rfl rfl (by simp [World.setRow]) (fun b _ hne=>setRow_other w blk' b _ hne)
        ⟨hB,hnR,setRow_heap w blk' _ _ ty _ hg,fun c hc=>⟨lay_one (fun c hc=>(hcs c hc).1) (fun c hc=>one_den (List.all_eq_true.1 h1 c hc)) c hc,Qx (fun _ h=>h) (fun b hb=>setRow_other w blk' b _ (fun e=>by subst e;exact hnR hb)) c (lay_ok (fun c hc=>(hcs c hc).2) (flat_ok (Qo hr.env hy).2) c hc)⟩⟩
      exact hk _ _ _ h ⟨ob,R,hnew.put (s:=.v undef) (Qr hd) trivial⟩
    · exact h.elim
  · rename_i id blk off ix j s hx hy
    split at h
    · rename_i ad e len cap sz rd hid
      obtain⟨⟨hb,rfl⟩,hix,⟨hf,h1,hl,hz,hj⟩,h⟩:=h;obtain⟨g,rfl,_⟩:=row_cell (hr.own _ _ hid) hix (show j<sz by omega);simp only[Option.getD_some] at hb;subst hb;obtain⟨cur,hg,hcur,hrow⟩:=row_store (hr.own _ _ hid) hix (show j+(flat s).length≤sz by omega) (by omega) h1 (flat_ok (Qo hr.env hy).2) (fun b hb=>(hr.rr b hb).1);have hst:=run_storeAt_own hz hg hf h1 hl (off:=ix * sz+j) (by omega);unfold Oper.wp
      have hrun:(execOp a.eval o).run P w=.ok .skip (w.setRow g (cur.toList.take (ix * sz+j) ++ (flat s).map SV.den ++ cur.toList.drop (ix * sz+j+(flat s).length)).toArray):=by
        simp only[execOp,ho,(Qo hr.env hx).1,(Qo hr.env hy).1,Sem.run_bind];simp only[SV.den] at hst ⊢;rw[hst];rfl
      rw[hrun];have hnew:=hr.setOwn (o':=.row (some ⟨g,0,none⟩) e len cap sz (rdSet rd ix j (flat s))) (g:=g) hid rfl (fun b hb=>by simpa [Own.blk] using hb.symm) (w':=w.setRow g (cur.toList.take (ix * sz+j) ++ (flat s).map SV.den ++ cur.toList.drop (ix * sz+j+(flat s).length)).toArray) rfl rfl rfl (by simp [World.setRow]) (fun b _ hne=>setRow_other w g b _ hne) hrow;exact hk _ _ _ h ⟨ob,R,hnew.put (s:=.v undef) (Qr hd) trivial⟩
    · exact h.elim
  · exact h.elim
end
end Eng
end Go.Proofs.YtabgkfjfmjdfiaaGreatDoor

namespace Go.Proofs.YtabgkfjfmjdfiaaGreatDoor
namespace Eng
section
variable {P:Program} {F:Frm} {st:St} {k:St→Prop} {dst:Option Tmp}
def rdL (l:List SV) (sz:Nat):Nat→Nat→SV:=fun i j=>l.getD (i * sz+j) default
theorem cellsOf_rdL (l:List SV) (n sz:Nat) (h:l.length=n * sz) (hz:0<sz):cellsOf n sz (rdL l sz)=l.map SV.den:=by
  apply List.ext_getElem?;intro q;unfold cellsOf rdL;rw[List.getElem?_map,List.getElem?_map];by_cases hq:q<n * sz
  · rw[List.getElem?_range hq]
    have e:q / sz * sz+q % sz=q:=by rw[Nat.mul_comm];exact Nat.div_add_mod q sz
    simp [e,List.getD,show q<l.length by omega]
  · rw[List.getElem?_eq_none (by simp;omega),List.getElem?_eq_none (by omega)];rfl
theorem Q6 {α:Type} {l:List α} {q:Nat} {d:α} (h:q<l.length):l.getD q d∈l:=by simp [List.getD,h]
def sBuildSlice (P:Program) (st:St) (dst:Option Tmp) (t:TypeId) (n:Nat) (parts:List (Nat×Operand)) (k:St→Prop):Prop:=
  match tk P t with
  | .slice e=>(0<tsz P e∧tz P e≠[]∧n * tsz P e≤16777216) ∧
    (match fillS (fun i=>some (i * tsz P e,tsz P e)) ((List.range (n * tsz P e)).map fun q=>(tz P e).getD (q % (tz P e).length) default) (parts.map fun p=>(p.1,ev st.env p.2)) with
    | some l=>l.all oneS=true∧l.length=n * tsz P e∧∀ blk:Nat,k (St.put { st with own:=st.own ++ [Own.row (some ⟨blk,0,none⟩) e n n (tsz P e) (rdL l (tsz P e))] } dst (.os st.own.length (some ⟨blk,0,none⟩) n n))
    | none=>False)
  | _=>False
theorem sBuildSlice_good {t:TypeId} {n:Nat} {parts:Array (Nat×Operand)} (hd:QO st dst) (h:sBuildSlice P st dst t n parts.toList k):Good P F (.buildSlice t n parts) dst st k:=by
  unfold sBuildSlice at h;split at h
  · rename_i e ht
    obtain⟨⟨hz,htz,hlim⟩,h⟩:=h;split at h
    · rename_i l hl
      obtain⟨h1,hlen,h⟩:=h;rintro R0 w0 a w o next Q ho rfl ⟨ob,R,hr⟩ hk
      obtain⟨i,z,hi,hiz,hzc⟩:=tz_info htz;obtain⟨hsome,hall⟩:=fillS_some _ _ _ hl
      have hvals:(parts.map fun x=>(x.1,a.eval x.2)).toList=(parts.toList.map fun p=>(p.1,ev st.env p.2)).map fun p=>(p.1,(p.2.getD default).den):=by
        rw[Array.toList_map,List.map_map];apply List.map_congr_left;intro p hp;have:=hsome _ (List.mem_map.2 ⟨p,hp,rfl⟩);obtain⟨s,hs⟩:=Option.isSome_iff_exists.1 this;simp only[] at hs;simp [hs,(Qo hr.env hs).1]
      have hfill:=fill_ok _ _ _ _ hl hvals;have hzc':z.cells=((tz P e).map SV.den).toArray:=by apply Array.ext';rw[hzc]
      have htl:0<(tz P e).length:=List.length_pos_iff.2 htz
      have hzero:(Array.range (n * tsz P e)).map (fun q=>z.cells[q % z.cells.size]!)=(((List.range (n * tsz P e)).map fun q=>(tz P e).getD (q % (tz P e).length) default).map SV.den).toArray:=by
        apply Array.ext';simp only[Array.toList_map,Array.toList_range,List.map_map];apply List.map_congr_left;intro q _;have hm:q % (tz P e).length<(tz P e).length:=Nat.mod_lt _ htl;rw[hzc'];simp [getElem!_def,List.getD,hm]
      have hzr:(zeroValue e).run P w=.ok z w:=by simp [zeroValue,typeInfo,hi,hiz]
      have hs:=run_sizeOf hz w;have hrow:(newRow e (l.map SV.den).toArray).run P w=.ok ⟨w.heap.size,0,none⟩ (w.alloc (.cells (l.map SV.den).toArray e)):=by simp [newRow]
      have hb:(Instr.buildSlice t n (parts.map fun x=>(x.1,a.eval x.2))).run P w=.ok (.slice (some ⟨w.heap.size,0,none⟩) n n) (w.alloc (.cells (l.map SV.den).toArray e)):=by
        unfold Instr.buildSlice;by_cases hne:n * tsz P e=0
        · have hzero':(Array.range (n * tsz P e)).map (fun q=>(#[]:Array Value)[q % (#[]:Array Value).size]!)=(((List.range (n * tsz P e)).map fun q=>(tz P e).getD (q % (tz P e).length) default).map SV.den).toArray:=by simp [hne]
          simp only[Sem.run_bind,run_underlying (QC ht),Result.andThen_ok,hs,if_neg (show ¬ n * tsz P e > 2 ^ 24 by omega),if_pos hne,Sem.run_pure,hzero',hfill,hrow]
        · simp only[Sem.run_bind,run_underlying (QC ht),Result.andThen_ok,hs,if_neg (show ¬ n * tsz P e > 2 ^ 24 by omega),if_neg hne,Sem.run_pure,hzr,hzero,hfill,hrow]
      unfold Oper.wp
      have hrun:(execOp a.eval o).run P w=.ok (.value (.slice (some ⟨w.heap.size,0,none⟩) n n)) (w.alloc (.cells (l.map SV.den).toArray e)):=by
        simp [execOp,ho,hb]
      rw[hrun]
      have hlok:∀ c∈l,c.ok R w:=hall (fun c=>c.ok R w) (fun c hc=>by
        obtain⟨q,_,rfl⟩:=List.mem_map.1 hc;have hm:q % (tz P e).length<(tz P e).length:=Nat.mod_lt _ htl;have hmem:(tz P e).getD (q % (tz P e).length) default∈tz P e:=Q6 hm;unfold tz at hmem;rw[hi] at hmem;simp only[Option.bind_some,hiz] at hmem;obtain⟨x,_,hx⟩:=List.mem_map.1 hmem;unfold tz;rw[hi];simp only[Option.bind_some,hiz];rw[← hx]
        exact ok_svz _ _ _) (fun p hp s hs c hc=>by
        obtain⟨q,_,rfl⟩:=List.mem_map.1 hp
        exact flat_ok (Qo hr.env hs).2 c hc)
      have hsl:0<tsz P e:=hz
      have hcap:n≤maxLen:=by
        have:n≤n * tsz P e:=Nat.le_mul_of_pos_right n hz
        unfold maxLen;omega
      have hnew:=hr.fresh (o:=.row (some ⟨w.heap.size,0,none⟩) e n n (tsz P e) (rdL l (tsz P e))) (cells:=(l.map SV.den).toArray) (e:=e) (fun b hb=>by simpa [Own.blk] using hb.symm)
        ⟨⟨by simp [cellsOf],.inr ⟨w.heap.size,n,_,rfl,hr.obw,heap_alloc_new w _,Nat.le_refl _,hcap,by simp [hlen],by rw[cellsOf_rdL l n _ hlen hz];rw[List.take_of_length_le (by simp [hlen])]⟩⟩,
          fun g hg=>by simp only[Option.some.injEq] at hg;subst hg;exact fun hc=>by have:=(hr.rr _ hc).1;simp at this,
          fun p q hp hq=>by
            have hlt:p * tsz P e+q<l.length:=by
              have:=Nat.mul_le_mul_right (tsz P e) (show p+1≤n by omega);rw[Nat.add_mul] at this;omega
            have hm:rdL l (tsz P e) p q∈l:=Q6 hlt
            exact⟨one_den (List.all_eq_true.1 h1 _ hm),Qx (fun _ h=>h) (fun b hb=>heap_alloc_old w _ (hr.rr b hb).1) _ (hlok _ hm)⟩⟩
      exact hk _ _ _ (h w.heap.size) ⟨ob,R,hnew.put (s:=.os st.own.length (some ⟨w.heap.size,0,none⟩) n n) (Qr hd) trivial⟩
    · exact h.elim
  · exact h.elim
/-! ### append -/
def asAny (own:List Own) (s:SV):Option (Option Addr×Nat×Nat×Nat×(Nat→Nat→SV)):=
  match s with
  | .os id a len cap=>match own[id]? with
    | some (.row a' _ len' cap' sz rd)=>if a'=a∧len'=len∧cap'=cap then some (a',len',cap',sz,rd) else none
    | _=>asRead own s
  | _=>asRead own s
theorem asAny_cells {R:Nat→Prop} {B:Nat} {w:World} {s:SV} {a:Option Addr} {len cap sz:Nat} {rd:Nat→Nat→SV} (h:asAny st.own s=some (a,len,cap,sz,rd)) (ho:OwnsOk R B st.own w) (hs:s.ok R w) :
    s.den=.slice a len cap∧(len=0∨∃ blk off,a=some ⟨blk,off,none⟩∧∀ j u,(cellsOf len sz rd)[j]? = some u→w.cell? ((⟨blk,off,none⟩:Addr).add j)=some u) ∧
      ∀ i j,i<len→j<sz→(rd i j).den.oneCell'=true∧(rd i j).ok R w:=by
  have read:∀ {s:SV},asRead st.own s=some (a,len,cap,sz,rd)→s.ok R w→s.den=.slice a len cap∧(len=0∨∃ blk off,a=some ⟨blk,off,none⟩∧∀ j u,(cellsOf len sz rd)[j]? = some u→w.cell? ((⟨blk,off,none⟩:Addr).add j)=some u) ∧
      (len=0∨∀ i j,i<len→j<sz→(rd i j).den.oneCell'=true∧(rd i j).ok R w):=by
    intro s h hs;obtain⟨hd,_,_,hok⟩:=asRead_ok h ho hs;refine⟨hd,?_,?_⟩
    · rcases hok with hok|⟨blk,off,ha,hR,hc⟩
      · exact .inl hok
      · refine .inr ⟨blk,off,ha,fun j u hu=>?_⟩
        unfold cellsOf at hu;rw[List.getElem?_map] at hu;by_cases hj:j<len * sz
        · rw[List.getElem?_range hj] at hu
          simp only[Option.map_some,Option.some.injEq] at hu;subst hu
          have hz:0<sz:=by
            rcases Nat.eq_zero_or_pos sz with h0|h0
            · subst h0;simp at hj
            · exact h0
          have:=(hc (j / sz) (j % sz) ((Nat.div_lt_iff_lt_mul hz).2 hj) (Nat.mod_lt _ hz)).1;rw[Addr.add_lit]
          rwa [Nat.add_assoc,show j / sz * sz+j % sz=j by rw[Nat.mul_comm];exact Nat.div_add_mod j sz] at this
        · rw[List.getElem?_eq_none (by simp;omega)] at hu;cases hu
    · rcases hok with hok|⟨blk,off,ha,hR,hc⟩
      · exact .inl hok
      · exact .inr fun i j hi hj=>(hc i j hi hj).2
  have fin:∀ {s:SV},asRead st.own s=some (a,len,cap,sz,rd)→s.ok R w→_:=fun h hs=>let ⟨x,y,z⟩:=read h hs;(⟨x,y,z.elim (fun h0 i j hi=>absurd hi (by omega)) id⟩:_∧_∧∀ i j,i<len→j<sz→(rd i j).den.oneCell'=true∧(rd i j).ok R w)
  unfold asAny at h;split at h
  · rename_i id a' len' cap'
    split at h
    · rename_i a2 e2 len2 cap2 sz2 rd2 ho2
      split at h
      · rename_i heq
        obtain⟨rfl,rfl,rfl⟩:=heq;simp only[Option.some.injEq,Prod.mk.injEq] at h;obtain⟨rfl,rfl,rfl,rfl,rfl⟩:=h;have hrow:=ho _ _ ho2;refine⟨rfl,?_,hrow.2.2⟩;rcases hrow.1.2 with ⟨_,h0⟩|⟨g,cap',cur,hv,_⟩
        · exact .inl h0
        · simp only[Value.slice.injEq] at hv
          obtain⟨rfl,_,rfl⟩:=hv;exact .inr ⟨g,0,rfl,fun j u hu=>hrow.1.cells (g:=g) rfl j u hu⟩
      · cases h
    · exact fin h hs
  · exact fin h hs
def tby (P:Program) (t:TypeId):Nat:=((P.info? t).map (·.bytes)).getD 0
def Q3 (len:Nat) (rd rd':Nat→Nat→SV):Nat→Nat→SV:=fun i j=>if i<len then rd i j else rd' (i - len) j
theorem cellsOf_cat (len m sz:Nat) (rd rd':Nat→Nat→SV):cellsOf (len+m) sz (Q3 len rd rd')=cellsOf len sz rd ++ cellsOf m sz rd':=by
  unfold cellsOf;apply List.ext_getElem?;intro q;rw[List.getElem?_append,List.length_map,List.length_range];by_cases hq:q<len * sz
  · have hz:0<sz:=by
      rcases Nat.eq_zero_or_pos sz with h0|h0
      · subst h0;simp at hq
      · exact h0
    rw[if_pos hq,List.getElem?_map,List.getElem?_map,List.getElem?_range hq,List.getElem?_range (by rw[Nat.add_mul];omega)];simp only[Option.map_some,Q3,if_pos ((Nat.div_lt_iff_lt_mul hz).2 hq)]
  · rw[if_neg hq,List.getElem?_map,List.getElem?_map]
    by_cases hq2:q<(len+m) * sz
    · have hz:0<sz:=by
        rcases Nat.eq_zero_or_pos sz with h0|h0
        · subst h0;simp at hq2
        · exact h0
      rw[List.getElem?_range hq2,List.getElem?_range (by rw[Nat.add_mul] at hq2;omega)];have hge:¬ q / sz<len:=fun h=>hq ((Nat.div_lt_iff_lt_mul hz).1 h);obtain⟨r,rfl⟩:∃ r,q=len * sz+r:=⟨q - len * sz,by omega⟩;have e1:(len * sz+r) / sz=len+r / sz:=by rw[Nat.mul_comm,Nat.mul_add_div hz]
      have e2:(len * sz+r) % sz=r % sz:=by rw[Nat.mul_comm,Nat.mul_add_mod]
      rw[e1] at hge;simp only[Option.map_some,Q3,e1,e2,if_neg hge,Nat.add_sub_cancel_left]
    · rw[List.getElem?_eq_none (by simp;omega),List.getElem?_eq_none (by simp;rw[Nat.add_mul] at hq2;omega)];rfl
def sAppend (P:Program) (st:St) (dst:Option Tmp) (t:TypeId) (x y:Operand) (k:St→Prop):Prop:=
  match tk P t,ev st.env x,ev st.env y with
  | .slice e,some s,some s'=>(match asAny st.own s' with
    | some (a',m,_,sz,rd')=>(tsz P e=sz∧0<sz∧(tz P e).length=sz)∧(match s with
      | .sl none 0 0 _ _=>(m≤maxLen∧m * tby P e≤140737488355328)∧∀ (a:Option Addr) (cap:Nat),k (St.put { st with own:=st.own ++ [Own.row a e m cap sz rd'] } dst (.os st.own.length a m cap))
      | .os id a len cap=>(match st.own[id]? with
        | some (.row a1 e1 len1 cap1 sz1 rd)=>(a1=a∧len1=len∧cap1=cap∧e1=e∧sz1=sz)∧(len+m≤maxLen∧(len+m) * tby P e≤140737488355328) ∧
          ∀ (a2:Option Addr) (cap2:Nat),k (St.put { st with own:=st.own.set id (Own.row a2 e (len+m) cap2 sz (Q3 len rd rd')) } dst (.os id a2 (len+m) cap2))
        | _=>False)
      | _=>False)
    | none=>False)
  | _,_,_=>False
theorem ownsRow_form {w:World} {B e sz n:Nat} {v:Value} {xs:List Value} (hown:w.ownsRow B e sz v n xs):∃ a cap,v=.slice a n cap∧v.ownBlock=a.map (·.block)∧∀ g,a=some g→g.spot=none∧g.off=0:=by
  rcases hown.2 with ⟨rfl,rfl⟩|⟨g,cap',cur,rfl,h⟩
  · exact⟨none,0,rfl,rfl,fun g h=>by cases h⟩
  · exact⟨some ⟨g,0,none⟩,cap',rfl,rfl,fun g h=>by simp only[Option.some.injEq] at h;subst h;exact⟨rfl,rfl⟩⟩
theorem run_app {t e:TypeId} {x y:Operand} (ht:tk P t=.slice e) (hz:0<tsz P e) (htz:(tz P e).length=tsz P e) (w:World) {B:Nat} {v:Value} {n:Nat} {xs:List Value} (hown:w.ownsRow B e (tsz P e) v n xs)
    {blk off m c:Nat} {news:List Value} (hl:news.length=m * tsz P e) (hnews:∀ j u,news[j]? = some u→w.cell? ((⟨blk,off,none⟩:Addr).add j)=some u) (h1:∀ u∈news,u.oneCell'=true)
    (h63:n+m≤maxLen) (hby:(n+m) * tby P e≤140737488355328) (hB:B≤w.heap.size) (o:Oper) (ho:o.op=.call { callee:=.builtin .append,args:=#[x,y],argTypes:=#[t,t] }) {a:Act} (hx:a.eval x=v) (hy:a.eval y=.slice (some ⟨blk,off,none⟩) m c) :
    ∃ v' w',(execOp a.eval o).run P w=.ok (.value v') w'∧w'.ownsRow B e (tsz P e) v' (n+m) (xs ++ news)∧w.grownBy w' v.ownBlock∧(v'.ownBlock=v.ownBlock∨v'.ownBlock=some w.heap.size):=by
  have hne:tz P e≠[]:=fun h=>by rw[h] at htz;simp at htz;omega
  obtain⟨i,z,hi,hiz,hzc⟩:=tz_info hne;have hsi:i.size=tsz P e:=by unfold tsz;simp [hi]
  have hbi:i.bytes=tby P e:=by unfold tby;simp [hi]
  have hzs:z.cells.size=tsz P e:=by rw[← Array.length_toList,hzc,List.length_map,htz]
  obtain⟨v',w',hr,h2,h3,_,h5⟩:=run_append_own_at (P:=P) w B t o.type e i z (tsz P e) (tby P e) (QC ht) hi hiz hsi hbi hzs hz v n xs hown ⟨blk,off,none⟩ m c news hl hnews h1 h63 hby hB;refine⟨v',w',?_,h2,h3,h5⟩;unfold execOp;rw[ho];simp only[resolve,invoke,builtin,Sem.run_bind,Sem.run_pure,Result.andThen_ok,List.map_toArray,List.map_cons,List.map_nil,hx,hy,hr]
theorem cellsOf_one {len sz:Nat} {rd:Nat→Nat→SV} (h:∀ i j,i<len→j<sz→(rd i j).den.oneCell'=true):∀ u∈cellsOf len sz rd,u.oneCell'=true:=by
  intro u hu;obtain⟨q,hq,rfl⟩:=List.mem_map.1 hu;have hq':q<len * sz:=by simpa using hq
  have hz:0<sz:=by
    rcases Nat.eq_zero_or_pos sz with h0|h0
    · subst h0;simp at hq'
    · exact h0
  exact h _ _ ((Nat.div_lt_iff_lt_mul hz).2 hq') (Nat.mod_lt _ hz)
theorem run_app_zero {t e:TypeId} {x y:Operand} (ht:tk P t=.slice e) (hz:0<tsz P e) (w:World) {B:Nat} {v:Value} {n:Nat} {xs:List Value} (hown:w.ownsRow B e (tsz P e) v n xs)
    {ad:Option Addr} {c:Nat} (o:Oper) (ho:o.op=.call { callee:=.builtin .append,args:=#[x,y],argTypes:=#[t,t] }) {a:Act} (hx:a.eval x=v) (hy:a.eval y=.slice ad 0 c) :
    (execOp a.eval o).run P w=.ok (.value v) w:=by
  have hs:=run_sizeOf hz w
  have hf:(Builtin.firstCells (tsz P e) 0 (.slice ad 0 c)).run P w=.ok #[] w:=by
    cases ad<;>simp [Builtin.firstCells,loadCells,loadCellsFrom]
  unfold execOp;rw[ho];simp only[resolve,invoke,builtin,Sem.run_bind,Sem.run_pure,Result.andThen_ok,List.map_toArray,List.map_cons,List.map_nil,hx,hy];rcases hown.2 with ⟨rfl,rfl⟩|⟨g,cap',cur,rfl,_,_,hn,_⟩
  · simp [Builtin.append_,run_underlying (QC ht),hs,Builtin.lenOf,hf]
  · simp [Builtin.append_,run_underlying (QC ht),hs,Builtin.lenOf,hf,hn,storeCells]
variable {R0 R:Nat→Prop} {w0:Org} {w:World} {ob:Nat} {a:Act}
theorem RelR.newRow (h:RelR F R0 w0 ob R st a w) {o:Own} {w':World} (hg:w.grownBy w' none) (hblk:∀ b,o.blk=some b→b=w.heap.size) (ho:o.ok R ob w') :
    RelR F R0 w0 ob R { st with own:=st.own ++ [o] } a w':=by
  have hold:∀ b,b<w.heap.size→w'.heap[b]? = w.heap[b]? := fun b hb=>hg.block b hb (by simp);refine h.turn (fun _=>False) hg.os hg.tape hg.output hg.size (fun _ h=>h.elim) (fun b hb _=>hold b hb) (fun _ h=>h) (fun _ h=>.inl h) ?_ ?_ (gb_append h.evo.size h.gb hblk)
  · intro i x hx
    rcases Q5 hx with hx|⟨_,rfl⟩
    · exact Q2 (h.own i x hx) (fun _ h=>h) (fun _ _ h=>h) (fun b hr=>hold b (h.rr b hr).1) (fun b hb=>hold b (Qw (h.own i x hx) hb).2.1)
    · exact ho
  · intro i j o1 o2 hij h1 h2 b hb1 hb2
    rcases Q5 h1 with g1|⟨hi,rfl⟩<;>rcases Q5 h2 with g2|⟨hj,rfl⟩
    · exact h.dist i j o1 o2 hij g1 g2 b hb1 hb2
    · have:=(Qw (h.own i o1 g1) hb1).2.1
      have:=hblk b hb2;omega
    · have:=(Qw (h.own j o2 g2) hb2).2.1
      have:=hblk b hb1;omega
    · omega
theorem RelR.reRow (h:RelR F R0 w0 ob R st a w) {id:Nat} {o o':Own} (hid:st.own[id]? = some o) {w':World} {row:Option Nat} (hg:w.grownBy w' row) (hrow:∀ b,row=some b→o.blk=some b)
    (hblk:∀ b,o'.blk=some b→o.blk=some b∨b=w.heap.size) (ho:o'.ok R ob w'):RelR F R0 w0 ob R { st with own:=st.own.set id o' } a w':=by
  have hidl:id<st.own.length:=(List.getElem?_eq_some_iff.1 hid).1;have hold:∀ b,b<w.heap.size→o.blk≠some b→w'.heap[b]? = w.heap[b]? := fun b hb hne=>hg.block b hb (fun e=>hne (hrow b e.symm));have hgl:∀ b,o.blk=some b→ob≤b∧b<w.heap.size∧¬ R b:=fun b hb=>Qw (h.own id o hid) hb;refine h.turn (fun b=>o.blk=some b) hg.os hg.tape hg.output hg.size (fun b e=>⟨(hgl b e).1,(hgl b e).2.2,h.gb id o hid b e⟩) (fun b hlt hne=>hold b hlt hne) (fun _ h=>h) (fun _ h=>.inl h) ?_ ?_ (gb_set h.evo.size h.gb hid hblk)
  · intro i x hx
    rw[List.getElem?_set] at hx;split at hx
    · rename_i e
      subst e;simp only[hidl,if_true,Option.some.injEq] at hx;subst hx;exact ho
    · rename_i hne
      refine Q2 (h.own i x hx) (fun _ h=>h) (fun _ _ h=>h) (fun b hr=>hold b (h.rr b hr).1 (fun e=>(hgl b e).2.2 hr)) (fun b hbx=>hold b (Qw (h.own i x hx) hbx).2.1 (fun e=>?_));exact h.dist id i o x hne hid hx b e hbx
  · have hx:∀ (i:Nat) (x:Own),id≠i→st.own[i]? = some x→∀ b,o'.blk=some b→x.blk≠some b:=by
      intro i x hne hx b hb hbx;rcases hblk b hb with e|e
      · exact h.dist id i o x hne hid hx b e hbx
      · have:=(Qw (h.own i x hx) hbx).2.1
        omega
    intro i j o1 o2 hij h1 h2 b hb1 hb2;rw[List.getElem?_set] at h1 h2;split at h1<;>split at h2
    · omega
    · rename_i e hne
      subst e;simp only[hidl,if_true,Option.some.injEq] at h1;subst h1;exact hx j o2 hne h2 b hb1 hb2
    · rename_i hne e
      subst e;simp only[hidl,if_true,Option.some.injEq] at h2;subst h2;exact hx i o1 hne h1 b hb2 hb1
    · exact h.dist i j o1 o2 hij h1 h2 b hb1 hb2
theorem grown_refl (w:World) (row:Option Nat):w.grownBy w row:=⟨rfl,rfl,rfl,Nat.le_refl _,fun _ _ _=>rfl⟩
theorem sAppend_good {t:TypeId} {x y:Operand} (hd:QO st dst) (h:sAppend P st dst t x y k):Good P F (.call { callee:=.builtin .append,args:=#[x,y],argTypes:=#[t,t] }) dst st k:=by
  unfold sAppend at h;split at h
  · rename_i e s s' ht hx hy
    split at h
    · rename_i a' m c' sz rd' hany
      obtain⟨⟨rfl,hz,htz⟩,h⟩:=h;rintro R0 w0 a w o next Q ho rfl ⟨ob,R,hr⟩ hk
      obtain⟨hden,hcells,hone⟩:=asAny_cells hany hr.own (Qo hr.env hy).2;have hy':=(Qo hr.env hy).1;rw[hden] at hy';have hx':=(Qo hr.env hx).1;have hl:(cellsOf m (tsz P e) rd').length=m * tsz P e:=by simp [cellsOf]
      have hRlt:∀ b,R b→b<w.heap.size:=fun b hb=>(hr.rr b hb).1;have hB:=hr.obw;have key:∀ (v:Value) (len:Nat) (rd:Nat→Nat→SV),a.eval x=v→w.ownsRow ob e (tsz P e) v len (cellsOf len (tsz P e) rd)→(len+m≤maxLen∧(len+m) * tby P e≤140737488355328) →
          ∃ a2 cap2 w',(execOp a.eval o).run P w=.ok (.value (.slice a2 (len+m) cap2)) w'∧w'.ownsRow ob e (tsz P e) (.slice a2 (len+m) cap2) (len+m) (cellsOf (len+m) (tsz P e) (Q3 len rd rd')) ∧
            w.grownBy w' v.ownBlock∧(∀ g,a2=some g→v.ownBlock=some g.block∨g.block=w.heap.size):=by
        intro v len rd hv hown hlim;rcases Nat.eq_zero_or_pos m with h0|h0
        · subst h0
          obtain⟨a2,cap2,rfl,hb2,_⟩:=ownsRow_form hown;refine⟨a2,cap2,w,run_app_zero ht hz w hown o ho hv hy',?_,grown_refl _ _,fun g hg=>?_⟩
          · rw[cellsOf_cat]
            have:cellsOf 0 (tsz P e) rd'=[]:=by simp [cellsOf]
            rw[this,List.append_nil];exact hown
          · left;rw[hb2,hg];rfl
        · rcases hcells with hm|⟨blk,off,rfl,hnews⟩
          · omega
          obtain⟨v',w',hrun,hown',hg,hb⟩:=run_app ht hz htz w hown hl hnews (cellsOf_one fun i j hi hj=>(hone i j hi hj).1) hlim.1 hlim.2 hB o ho hv hy';rw[← cellsOf_cat] at hown';obtain⟨a2,cap2,rfl,hb2,_⟩:=ownsRow_form hown';refine⟨a2,cap2,w',hrun,hown',hg,fun g hgg=>?_⟩;rw[hb2,hgg] at hb
          simpa [eq_comm] using hb
      have cat_ok:∀ (w':World) (len:Nat) (rd:Nat→Nat→SV),(∀ b,R b→w'.heap[b]? = w.heap[b]?)→(∀ i j,i<len→j<tsz P e→(rd i j).den.oneCell'=true∧(rd i j).ok R w) →
          ∀ i j,i<len+m→j<tsz P e→(Q3 len rd rd' i j).den.oneCell'=true∧(Q3 len rd rd' i j).ok R w':=by
        intro w' len rd hw hrd i j hi hj;unfold Q3;split
        · rename_i hlt;exact⟨(hrd i j hlt hj).1,Qx (fun _ h=>h) hw _ (hrd i j hlt hj).2⟩
        · exact⟨(hone _ j (by omega) hj).1,Qx (fun _ h=>h) hw _ (hone _ j (by omega) hj).2⟩
      unfold Oper.wp;split at h
      · rename_i c2 rd2
        obtain⟨hlim,h⟩:=h;obtain⟨a2,cap2,w',hrun,hown,hg,hb⟩:=key (.slice none 0 0) 0 rd2 hx' (by simpa [cellsOf] using World.ownsRow_nil w _ e (tsz P e)) (by simpa using hlim);rw[hrun];have hwR:∀ b,R b→w'.heap[b]? = w.heap[b]? := fun b hb'=>hg.block b (hRlt b hb') (by simp [Value.ownBlock]);have hcat:Q3 0 rd2 rd'=rd':=by funext i j;simp [Q3]
        rw[Nat.zero_add,hcat] at hown;have hnew:=hr.newRow (o:=.row a2 e m cap2 (tsz P e) rd') (w':=w') ⟨hg.os,hg.tape,hg.output,hg.size,fun b hb' _=>hg.block b hb' (by simp [Value.ownBlock])⟩
          (fun b hb'=>by
            cases a2 with
            | none=>cases hb'
            | some g=>
              simp only[Own.blk,Option.some.injEq] at hb';subst hb';rcases hb g rfl with h|h
              · simp [Value.ownBlock] at h
              · exact h)
          ⟨hown,fun g hgg=>by
            subst hgg;rcases hb g rfl with h|h
            · simp [Value.ownBlock] at h
            · exact fun hc=>by have:=hRlt _ hc;omega,fun i j hi hj=>⟨(hone i j hi hj).1,Qx (fun _ h=>h) hwR _ (hone i j hi hj).2⟩⟩
        rw[show 0+m=m by omega];exact hk _ _ _ (h a2 cap2) ⟨ob,R,hnew.put (s:=.os st.own.length a2 m cap2) (Qr hd) trivial⟩
      · rename_i id ad len cap
        split at h
        · rename_i a1 e1 len1 cap1 sz1 rd hid
          obtain⟨⟨rfl,rfl,rfl,rfl,rfl⟩,hlim,h⟩:=h;have hrow:=hr.own _ _ hid;obtain⟨a2,cap2,w',hrun,hown,hg,hb⟩:=key _ len1 rd hx' hrow.1 hlim;rw[hrun]
          have hob:∀ b,(SV.os id a1 len1 cap1).den.ownBlock=some b→(Own.row a1 e1 len1 cap1 (tsz P e1) rd).blk=some b:=by
            intro b hb';cases a1 with
            | none=>simp [SV.den,Value.ownBlock] at hb'
            | some g=>simpa [SV.den,Value.ownBlock,Own.blk] using hb'
          have hwR:∀ b,R b→w'.heap[b]? = w.heap[b]? := fun b hb'=>hg.block b (hRlt b hb') (fun e'=>(Qw hrow (hob b e'.symm)).2.2 hb')
          have hnew:=hr.reRow (o':=.row a2 e1 (len1+m) cap2 (tsz P e1) (Q3 len1 rd rd')) hid hg hob (fun b hb'=>by
            cases a2 with
            | none=>cases hb'
            | some g=>
              simp only[Own.blk,Option.some.injEq] at hb';subst hb';rcases hb g rfl with h|h
              · exact .inl (hob _ h)
              · exact .inr h) ⟨hown,fun g hgg=>by
            subst hgg;rcases hb g rfl with h|h
            · exact (Qw hrow (hob _ h)).2.2
            · exact fun hc=>by have:=hRlt _ hc;omega,cat_ok w' len1 rd hwR hrow.2.2⟩
          exact hk _ _ _ (h a2 cap2) ⟨ob,R,hnew.put (s:=.os id a2 (len1+m) cap2) (Qr hd) trivial⟩
        · exact h.elim
      · exact h.elim
    · exact h.elim
  · exact h.elim
end
end Eng
end Go.Proofs.YtabgkfjfmjdfiaaGreatDoor

namespace Go.Proofs.YtabgkfjfmjdfiaaGreatDoor
namespace Eng
variable {P:Program} {F:Frm} {st:St} {k:St→Prop} {dst:Option Tmp}
/-! ### Kinds of the cells of a key -/
def kkF (P:Program) (g:TypeId→Option (List IntKind)):Nat→List Field→Option (List IntKind)
  | _,[]=>some []
  | off,f :: fs=>match g f.type with
    | some ks=>if f.name ≠ "_" ∧ f.offset=off∧tsz P f.type=ks.length∧0<ks.length then (kkF P g (off+ks.length) fs).map (ks ++ ·) else none
    | none=>none
def kk (P:Program):Nat→TypeId→Option (List IntKind)
  | 0,_=>none
  | d+1,t=>match P.underlying t with
    | some (.int k)=>some [k]
    | some (.struct fs)=>if P.stoodInHeld t=false then kkF P (kk P d) 0 fs.toList else none
    | _=>none
def scal (P:Program) (t:TypeId):Bool:=match P.underlying t with|some (.int _)=>true|_=>false
theorem ints_append {k1 k2:List IntKind} {l:List Int} (h:l.length=(k1 ++ k2).length):ints (k1 ++ k2) l=ints k1 (l.take k1.length) ++ ints k2 (l.drop k1.length):=by
  simp only[List.length_append] at h;unfold ints
  conv=>lhs;rw[← List.take_append_drop k1.length l]
  exact List.zipWith_append (by simp;omega)
theorem chunk {pre xs ys:List Value} {off n:Nat} (hp:pre.length=off) (hx:xs.length=n):((pre ++ (xs ++ ys)).drop off).take n=xs:=by
  rw[← hp,List.drop_left,← hx,List.take_left]
theorem ints_length {ks:List IntKind} {l:List Int} (h:l.length=ks.length):(ints ks l).length=ks.length:=by simp [ints,h]
theorem eqF {d:Nat} (IH:∀ t ks,kk P d t=some ks→∀ a b:List Int,a.length=ks.length→b.length=ks.length→eqAt P d t (ints ks a) (ints ks b)=some (decide (a=b))) :
    ∀ (fs:List Field) (off:Nat) (ks:List IntKind),kkF P (kk P d) off fs=some ks→∀ (pre pre':List Value) (a b:List Int),pre.length=off→pre'.length=off→a.length=ks.length→b.length=ks.length →
      (fs.all fun f=>f.name != "_" && decide (0<tsz P f.type))=true∧∃ rs,fs.mapM (fun f=>eqAt P d f.type (((pre ++ ints ks a).drop f.offset).take (tsz P f.type)) (((pre' ++ ints ks b).drop f.offset).take (tsz P f.type)))=some rs∧rs.all id=decide (a=b)
  | [],off,ks,h,pre,pre',a,b,hp,hp',ha,hb=>by
    simp only[kkF,Option.some.injEq] at h;subst h;have ea:a=[]:=List.length_eq_zero_iff.1 ha;have eb:b=[]:=List.length_eq_zero_iff.1 hb;subst ea;subst eb;exact⟨rfl,[],rfl,rfl⟩
  | f :: fs,off,ks,h,pre,pre',a,b,hp,hp',ha,hb=>by
    unfold kkF at h;split at h
    · rename_i k1 hk1
      split at h
      · rename_i hc
        obtain⟨hn,hof,hsz,h0⟩:=hc;simp only[Option.map_eq_some_iff] at h;obtain⟨k2,h2,rfl⟩:=h;have hla:=ha;have hlb:=hb;simp only[List.length_append] at ha hb;have a1:(a.take k1.length).length=k1.length:=by simp;omega
        have a2:(a.drop k1.length).length=k2.length:=by simp;omega
        have b1:(b.take k1.length).length=k1.length:=by simp;omega
        have b2:(b.drop k1.length).length=k2.length:=by simp;omega
        obtain⟨hall,rs,hm,hr⟩:=eqF IH fs (off+k1.length) k2 h2 (pre ++ ints k1 (a.take k1.length)) (pre' ++ ints k1 (b.take k1.length)) (a.drop k1.length) (b.drop k1.length) (by simp [hp,ints_length a1]) (by simp [hp',ints_length b1]) a2 b2;refine⟨by simp only[List.all_cons,hall,hsz,bne_iff_ne,ne_eq,hn,not_false_eq_true,h0,decide_true,Bool.and_true,Bool.and_eq_true,and_true],decide (a.take k1.length=b.take k1.length) :: rs,?_,?_⟩
        · rw[List.mapM_cons]
          have e1:eqAt P d f.type (((pre ++ ints (k1 ++ k2) a).drop f.offset).take (tsz P f.type)) (((pre' ++ ints (k1 ++ k2) b).drop f.offset).take (tsz P f.type))=some (decide (a.take k1.length=b.take k1.length)):=by
            rw[ints_append hla,ints_append hlb,hof,hsz,chunk hp (ints_length a1),chunk hp' (ints_length b1)];exact IH _ _ hk1 _ _ a1 b1
          rw[e1];simp only[List.append_assoc,← ints_append hla,← ints_append hlb] at hm;simp [hm]
        · simp only[List.all_cons,id,hr,← Bool.decide_and]
          congr 1
          apply propext;constructor
          · rintro⟨e1,e2⟩
            rw[← List.take_append_drop k1.length a,← List.take_append_drop k1.length b,e1,e2]
          · rintro rfl;exact⟨rfl,rfl⟩
      · cases h
    · cases h
theorem eq_kk:∀ (d:Nat) (t:TypeId) (ks:List IntKind),kk P d t=some ks→∀ a b:List Int,a.length=ks.length→b.length=ks.length→eqAt P d t (ints ks a) (ints ks b)=some (decide (a=b))
  | 0,t,ks,h=>by cases h
  | d+1,t,ks,h=>by
    intro a b ha hb;unfold kk at h;unfold eqAt;split at h
    · rename_i q hu
      simp only[Option.some.injEq] at h;subst h;obtain⟨x,rfl⟩:=List.length_eq_one_iff.1 ha;obtain⟨y,rfl⟩:=List.length_eq_one_iff.1 hb;simp [hu,ints,Bool.beq_eq_decide_eq]
    · rename_i fs hu
      split at h
      · rename_i hst
        obtain⟨hall,rs,hm,hr⟩:=eqF (eq_kk d) fs.toList 0 ks h [] [] a b rfl rfl ha hb;simp only[List.nil_append] at hm;simp only[hu];rw[if_pos ⟨hall,hst⟩,hm];simp [hr]
      · cases h
    · cases h
theorem check_kk (em:Bool):∀ (d:Nat) (t:TypeId) (ks:List IntKind),kk P d t=some ks→∀ a:List Int,a.length=ks.length→∀ (n:Nat) (w:World),(Instr.checkKey em (n+d) t (whole P t (ints ks a))).run P w=.ok () w
  | 0,t,ks,h=>by cases h
  | d+1,t,ks,h=>by
    intro a ha n w;have hwhole:=h;unfold kk at h;rw[show n+(d+1)=(n+d)+1 from rfl,Instr.checkKey];split at h
    · rename_i q hu
      simp only[Option.some.injEq] at h;subst h;obtain⟨x,rfl⟩:=List.length_eq_one_iff.1 ha;simp [run_underlying hu,whole,hu,ints,Result.andThen]
    · rename_i fs hu
      split at h
      · rename_i hst
        simp only[Sem.run_bind,run_underlying hu,Result.andThen_ok,whole,hu];rw[← Array.forIn_toList];obtain⟨cs,hcs⟩:∃ cs,cs=ints ks a:=⟨_,rfl⟩;have hinv:cs=[] ++ ints ks a:=by simpa using hcs
        rw[← hcs];have hp:([]:List Value).length=0:=rfl;clear hcs hwhole;generalize ([]:List Value)=pre at hinv hp;generalize (0:Nat)=off at hp h;generalize fs.toList=L at h ⊢
        induction L generalizing off ks a pre with
        | nil=>simp
        | cons f L ih=>
          unfold kkF at h;split at h
          · rename_i k1 hk1
            split at h
            · rename_i hc
              obtain⟨hn,hof,hsz,h0⟩:=hc;simp only[Option.map_eq_some_iff] at h;obtain⟨k2,h2,rfl⟩:=h;have hla:=ha;simp only[List.length_append] at ha;have a1:(a.take k1.length).length=k1.length:=by simp;omega
              have a2:(a.drop k1.length).length=k2.length:=by simp;omega
              have hin:=ih k2 (a.drop k1.length) a2 (pre ++ ints k1 (a.take k1.length)) (by rw[hinv,ints_append hla,List.append_assoc]) (off+k1.length) (by simp [hp,ints_length a1]) h2
              have hcell:(cs.drop f.offset).take (tsz P f.type)=ints k1 (a.take k1.length):=by
                rw[hinv,ints_append hla,hof,hsz,chunk hp (ints_length a1)]
              have heq:=eq_kk d f.type k1 hk1 _ _ a1 a1;have hpart:=part_whole (P:=P) (t:=f.type) (d:=d) (off:=f.offset) (xs:=cs) (zs:=ints k1 (a.take k1.length)) (by omega) (.inl (by rw[hcell];exact heq)) w;rw[hcell] at hpart;have hck:=check_kk em d f.type k1 hk1 _ a1 n w;simp only[List.forIn_cons,Sem.run_bind,hn,ne_eq,not_false_eq_true,if_true,Result.andThen_ok,hpart,hck,Sem.run_pure];exact hin
            · cases h
          · cases h
      · cases h
    · cases h
theorem keyV_whole {t:TypeId} {d:Nat} {ks:List IntKind} (h:kk P d t=some ks) (l:List Int):keyV (scal P t) ks l=whole P t (ints ks l):=by
  cases d with
  | zero=>cases h
  | succ d=>
    unfold kk at h;unfold keyV scal whole;split at h
    · rename_i q hu;simp [hu,undef]
    · rename_i fs hu;simp [hu]
    · cases h
theorem equal_keys {t:TypeId} {ks:List IntKind} (h:kk P 20 t=some ks) {a b:List Int} (ha:a.length=ks.length) (hb:b.length=ks.length) (w:World) :
    (Op.equal t (keyV (scal P t) ks a) (keyV (scal P t) ks b)).run P w=.ok (decide (a=b)) w:=by
  rw[keyV_whole h,keyV_whole h];exact run_eqAt 20 t _ _ _ (eq_kk 20 t ks h a b ha hb) 9980 w
def findI (l:List Int):List (List Int×Int)→Nat→Option (Nat×Int)
  | [],_=>none
  | p :: ps,i=>if l=p.1 then some (i,p.2) else findI l ps (i+1)
theorem findI_val (l:List Int):∀ (L:List (List Int×Int)) (i:Nat),(findI l L i).map (·.2)=findV l L
  | [],_=>rfl
  | p :: ps,i=>by
    unfold findI findV;split
    · rfl
    · exact findI_val l ps (i+1)
theorem findI_at {l:List Int}:∀ {L:List (List Int×Int)} {i j:Nat} {x:Int},findI l L i=some (j,x)→∃ q,j=i+q∧L[q]? = some (l,x)
  | [],_,_,_,h=>by cases h
  | p :: ps,i,j,x,h=>by
    unfold findI at h;split at h
    · rename_i e
      simp only[Option.some.injEq,Prod.mk.injEq] at h;obtain⟨rfl,rfl⟩:=h;exact⟨0,rfl,by simp [e]⟩
    · obtain⟨q,rfl,hq⟩:=findI_at h
      exact⟨q+1,by omega,by simpa using hq⟩
theorem findAsking_mp {t:TypeId} {ks:List IntKind} {vk:IntKind} (h:kk P 20 t=some ks) {l:List Int} (hl:l.length=ks.length) (w:World) :
    ∀ (es:List MapEntry) (L:List (List Int×Int)) (i:Nat),es.map (fun e=>(e.key,e.val))=L.map (fun p=>(keyV (scal P t) ks p.1,Value.int vk p.2))→(∀ p∈L,p.1.length=ks.length) →
      (Instr.findAsking t (keyV (scal P t) ks l) es i).run P w=.ok ((findI l L i).map fun p=>(p.1,Value.int vk p.2)) w
  | [],[],i,_,_=>by simp [Instr.findAsking,findI]
  | [],_ :: _,i,h1,_=>by simp at h1
  | _ :: _,[],i,h1,_=>by simp at h1
  | e :: es,p :: L,i,h1,h2=>by
    simp only[List.map_cons,List.cons.injEq,Prod.mk.injEq] at h1;obtain⟨⟨hk,hv⟩,h1⟩:=h1;have he:=equal_keys h hl (h2 p (by simp)) w;have hr:=findAsking_mp h hl w es L (i+1) h1 (fun p hp=>h2 p (by simp [hp]));unfold findI;by_cases hlp:l=p.1
    · have he':=he
      rw[hlp] at he';simp [Instr.findAsking,hk,hv,he',hlp]
    · simp [Instr.findAsking,hk,he,hlp,hr]
theorem findKey_mp {t:TypeId} {ks:List IntKind} {vk:IntKind} (h:kk P 20 t=some ks) {l:List Int} (hl:l.length=ks.length) (w:World) (es:List MapEntry) (L:List (List Int×Int))
    (h1:es.map (fun e=>(e.key,e.val))=L.map (fun p=>(keyV (scal P t) ks p.1,Value.int vk p.2))) (h2:∀ p∈L,p.1.length=ks.length) :
    (Instr.findKey t (keyV (scal P t) ks l) es).run P w=.ok ((findI l L 0).map fun p=>(p.1,Value.int vk p.2)) w:=by
  have hask:=findAsking_mp h hl w es L 0 h1 h2;have hkk:=h;unfold kk at hkk;split at hkk
  · rename_i q hu
    simp only[Option.some.injEq] at hkk;subst hkk;have now:∀ (es:List MapEntry) (L:List (List Int×Int)) (i:Nat),es.map (fun e=>(e.key,e.val))=L.map (fun p=>(keyV (scal P t) [q] p.1,Value.int vk p.2))→(∀ p∈L,p.1.length=1) →
        Instr.findNow (.int q) (keyV (scal P t) [q] l) es i=some ((findI l L i).map fun p=>(p.1,Value.int vk p.2)):=by
      intro es;have hs:scal P t=true:=by simp [scal,hu]
      obtain⟨x,rfl⟩:=List.length_eq_one_iff.1 hl
      induction es with
      | nil=>intro L i h1 _;cases L<;>simp_all [Instr.findNow,findI]
      | cons e es ih=>
        intro L i h1 h2;cases L with
        | nil=>simp at h1
        | cons p L=>
          simp only[List.map_cons,List.cons.injEq,Prod.mk.injEq] at h1;obtain⟨⟨hk,hv⟩,h1⟩:=h1;obtain⟨y,hy⟩:=List.length_eq_one_iff.1 (h2 p (by simp));have:=ih L (i+1) h1 (fun p hp=>h2 p (by simp [hp]));unfold findI Instr.findNow;rw[hk,hy];simp only[keyV,hs,if_true,ints,List.zipWith_cons_cons,List.zipWith_nil_left,List.headD_cons,Instr.sameNow] at this ⊢;by_cases hxy:x=y
          · simp [hxy,hv]
          · have hb:(x == y)=false:=by simpa using hxy
            simp only[hb]
            simpa [hxy] using this
    simp [Instr.findKey,run_underlying hu,Result.andThen,now es L 0 h1 h2]
  · rename_i fs hu
    have hsc:scal P t=false:=by simp [scal,hu]
    cases es with
    | nil=>
      cases L with
      | nil=>simp [Instr.findKey,run_underlying hu,Result.andThen,Instr.findNow,findI]
      | cons p L=>simp at h1
    | cons e es=>
      have hn:Instr.findNow (.struct fs) (keyV (scal P t) ks l) (e :: es) 0=none:=by
        simp [Instr.findNow,Instr.sameNow]
      simp [Instr.findKey,run_underlying hu,Result.andThen,hn,hask]
  · cases hkk
theorem stays_mp {t:TypeId} {ks:List IntKind} (h:kk P 20 t=some ks) {l:List Int} (hl:l.length=ks.length) (w:World):(Instr.keyThatStays (keyV (scal P t) ks l) (keyV (scal P t) ks l)).run P w=.ok (keyV (scal P t) ks l) w:=by
  have hs:Instr.sameBits 10000 (keyV (scal P t) ks l) (keyV (scal P t) ks l)=true:=by
    have one:∀ (n:Nat) (ks:List IntKind) (l:List Int),((ints ks l).zip (ints ks l)).all (fun (x,y)=>Instr.sameBits n x y)=true:=by
      intro n ks
      induction ks with
      | nil=>intro l;rfl
      | cons q ks ih=>
        intro l;cases l with
        | nil=>rfl
        | cons x l=>
          have:=ih l;simp only[ints,List.zipWith_cons_cons,List.zip_cons_cons,List.all_cons,Bool.and_eq_true] at this ⊢;exact⟨by cases n<;>simp [Instr.sameBits],this⟩
    unfold kk at h;split at h
    · rename_i q hu
      simp only[Option.some.injEq] at h;subst h;obtain⟨x,rfl⟩:=List.length_eq_one_iff.1 hl;simp [keyV,scal,hu,ints,Instr.sameBits]
    · rename_i fs hu
      have hsc:scal P t=false:=by simp [scal,hu]
      unfold keyV;rw[hsc,show (10000:Nat)=9999+1 from rfl];simp only[Bool.false_eq_true,if_false];rw[Instr.sameBits]
      simpa using one 9999 ks l
    · cases h
  simp [Instr.keyThatStays,hs]
/-! ### The type of a map -/
def zInt (P:Program) (e:TypeId):Option IntKind:=match (P.info? e).bind (·.zero) with|some (.int k 0)=>some k|_=>none
theorem zInt_run {e:TypeId} {vk:IntKind} (h:zInt P e=some vk) (w:World):(zeroValue e).run P w=.ok (.int vk 0) w:=by
  unfold zInt at h;split at h
  · rename_i k hz
    simp only[Option.some.injEq] at h;subst h;simp only[Option.bind_eq_some_iff] at hz;obtain⟨i,hi,hiz⟩:=hz;simp [zeroValue,typeInfo,hi,hiz]
  · cases h
def mapT (P:Program) (t:TypeId):Option (Bool×List IntKind×IntKind):=match P.underlying t with
  | some (.map k e)=>(match zInt P e,kk P 20 k with|some vk,some ks=>some (scal P k,ks,vk)|_,_=>none)
  | _=>none
theorem mapT_ok {t:TypeId} {sc:Bool} {ks:List IntKind} {vk:IntKind} (h:mapT P t=some (sc,ks,vk)):∃ k e,P.underlying t=some (.map k e)∧zInt P e=some vk∧kk P 20 k=some ks∧sc=scal P k:=by
  unfold mapT at h;split at h
  · rename_i k e hu
    split at h
    · rename_i vk' ks' h1 h2
      simp only[Option.some.injEq,Prod.mk.injEq] at h;obtain⟨rfl,rfl,rfl⟩:=h;exact⟨k,e,hu,h1,h2,rfl⟩
    · cases h
  · cases h
def keyIs:List SV→Option (List IntKind×List Int)
  | []=>some ([],[])
  | .i k n :: l=>(keyIs l).map fun p=>(k :: p.1,n :: p.2)
  | _ :: _=>none
def keyS (sc:Bool):SV→Option (List IntKind×List Int)
  | .i k n=>if sc=true then some ([k],[n]) else none
  | .agg n rd=>if sc=false then keyIs ((List.range n).map rd) else none
  | _=>none
theorem keyIs_ok:∀ {l:List SV} {ks:List IntKind} {ns:List Int},keyIs l=some (ks,ns)→l.map SV.den=ints ks ns∧ns.length=ks.length
  | [],ks,ns,h=>by simp only[keyIs,Option.some.injEq,Prod.mk.injEq] at h;obtain⟨rfl,rfl⟩:=h;exact⟨rfl,rfl⟩
  | s :: l,ks,ns,h=>by
    unfold keyIs at h;split at h
    · cases ‹_ :: _=[]›
    · rename_i k n l' he
      simp only[List.cons.injEq] at he;obtain⟨rfl,rfl⟩:=he;simp only[Option.map_eq_some_iff] at h;obtain⟨⟨ks',ns'⟩,h1,h2⟩:=h;simp only[Prod.mk.injEq] at h2;obtain⟨rfl,rfl⟩:=h2;obtain⟨g1,g2⟩:=keyIs_ok h1;exact⟨by simp [g1,SV.den,ints],by simp [g2]⟩
    · cases h
theorem keyS_ok {sc:Bool} {s:SV} {ks:List IntKind} {ns:List Int} (h:keyS sc s=some (ks,ns)):s.den=keyV sc ks ns∧ns.length=ks.length:=by
  unfold keyS at h;split at h
  · split at h
    · rename_i hs
      simp only[Option.some.injEq,Prod.mk.injEq] at h;obtain⟨rfl,rfl⟩:=h;exact⟨by simp [SV.den,keyV,hs,ints],rfl⟩
    · cases h
  · split at h
    · rename_i hs
      obtain⟨g1,g2⟩:=keyIs_ok h;exact⟨by simp only[SV.den,keyV,hs,Bool.false_eq_true,if_false,← g1,List.map_map];rfl,g2⟩
    · cases h
  · cases h
/-! ### A lookup -/
def lookS (vk:IntKind) (x:Option Int) (c:Bool):SV:=match c,x with
  | true,some v=>.tup 2 fun j=>[SV.i vk v,.tt].getD j default
  | true,none=>.tup 2 fun j=>[SV.i vk 0,.ff].getD j default
  | false,some v=>.i vk v
  | false,none=>.i vk 0
theorem run_lookup_mp {R:Nat→Prop} {B:Nat} {w:World} {t blk:Nat} {sc:Bool} {ks:List IntKind} {vk:IntKind} {f:List Int→Option Int} (ht:mapT P t=some (sc,ks,vk)) (ho:(Own.mp blk sc ks vk f).ok R B w) {l:List Int} (hl:l.length=ks.length) (c:Bool) :
    (Instr.lookup t (.map (some blk)) (keyV sc ks l) c).run P w=.ok (lookS vk (f l) c).den w:=by
  obtain⟨k,e,hu,hz,hk,rfl⟩:=mapT_ok ht;obtain⟨_,_,es,clock,hb,L,h1,h2,h3⟩:=ho;have hck:=check_kk (P:=P) es.isEmpty 20 k ks hk l hl 9980 w;rw[← keyV_whole hk] at hck;have hck':(Instr.checkKey es.isEmpty 10000 k (keyV (scal P k) ks l)).run P w=.ok () w:=hck;have hfk:=findKey_mp (P:=P) (vk:=vk) hk hl w es.toList L h1 h2;have hf:=h3 l hl;rw[← findI_val l L 0] at hf;cases hfi:findI l L 0 with
  | none=>
    rw[hfi] at hfk hf;simp only[Option.map_none] at hfk hf;rw[hf];cases c<;>simp [Instr.lookup,run_underlying hu,MapKept.run_getObj_map hb,hck',hfk,zInt_run hz,lookS,SV.den,List.range_succ]
  | some p=>
    rw[hfi] at hfk hf;simp only[Option.map_some] at hfk hf;rw[hf];cases c<;>simp [Instr.lookup,run_underlying hu,MapKept.run_getObj_map hb,hck',hfk,lookS,SV.den,List.range_succ]
def vLookup (P:Program) (st:St) (t:TypeId) (m x:Operand) (c:Bool) (K:SV→Prop):Prop:=
  match ev st.env m,ev st.env x,mapT P t with
  | some (.mp id blk),some s,some (sc,ks,vk)=>(match st.own[id]?,keyS sc s with
    | some (.mp blk' sc' ks' vk' f),some (ks2,l)=>(blk'=blk∧sc'=sc∧ks'=ks∧vk'=vk∧ks2=ks)∧K (lookS vk (f l) c)
    | _,_=>False)
  | _,_,_=>False
theorem lookS_ok (vk:IntKind) (x:Option Int) (c:Bool) (R:Nat→Prop) (w:World):(lookS vk x c).ok R w:=by
  unfold lookS;split
  · intro j hj
    match j,hj with
    | 0,_=>trivial
    | 1,_=>trivial
  · intro j hj
    match j,hj with
    | 0,_=>trivial
    | 1,_=>trivial
  · trivial
  · trivial
theorem vLookup_ok {K:SV→Prop} {t:TypeId} {m x:Operand} {c:Bool} (h:vLookup P st t m x c K):Vok P st (.lookup t m x c) K:=by
  unfold vLookup at h;split at h
  · rename_i id blk s sc ks vk hm hx ht
    split at h
    · rename_i blk' sc' ks' vk' f ks2 l ho hs
      obtain⟨⟨rfl,rfl,rfl,rfl,rfl⟩,h⟩:=h;refine⟨_,h,fun R B a w he hown=>⟨lookS_ok _ _ _ _ _,yone rfl fun o ho'=>?_⟩⟩;obtain⟨g1,g2⟩:=keyS_ok hs;have hr:=run_lookup_mp ht (hown _ _ ho) g2 c;simp [execOp,ho',(Qo he hm).1,(Qo he hx).1,SV.den,g1,hr]
    · exact h.elim
  · exact h.elim
/-! ### A map is made -/
def sMakeMap (P:Program) (st:St) (dst:Option Tmp) (t:TypeId) (k:St→Prop):Prop:=
  match mapT P t with
  | some (sc,ks,vk)=>∀ blk:Nat,k (St.put { st with own:=st.own ++ [Own.mp blk sc ks vk fun _=>none] } dst (.mp st.own.length blk))
  | none=>False
theorem sMakeMap_good {t:TypeId} (hd:QO st dst) (h:sMakeMap P st dst t k):Good P F (.makeMap t none) dst st k:=by
  unfold sMakeMap at h;split at h
  · rename_i sc ks vk ht
    rintro R0 w0 a w o next Q ho rfl ⟨ob,R,hr⟩ hk
    have hex:(execOp a.eval o).run P w=.ok (.value (.map (some w.heap.size))) (w.alloc (.map #[] 0)):=by
      unfold execOp;rw[ho];simp [Instr.makeMap]
    unfold Oper.wp;rw[hex];have hg:w.grownBy (w.alloc (.map #[] 0)) none:=World.grownBy_alloc w _ none;have hnew:=hr.newRow (o:=.mp w.heap.size sc ks vk fun _=>none) hg (fun b hb=>by simpa [Own.blk] using hb.symm)
      ⟨hr.obw,fun hc=>by have:=(hr.rr _ hc).1;omega,#[],0,(MapKept.heap_alloc w _).1,[],rfl,(fun p hp=>by cases hp),fun l _=>rfl⟩
    exact hk _ _ _ (h w.heap.size) ⟨ob,R,hnew.put (s:=.mp st.own.length w.heap.size) (Qr hd) trivial⟩
  · exact h.elim
/-! ### An entry is written -/
def fPut (f:List Int→Option Int) (l:List Int) (v:Int):List Int→Option Int:=fun q=>if q=l then some v else f q
def sMapUpd (P:Program) (st:St) (dst:Option Tmp) (t:TypeId) (m x v:Operand) (k:St→Prop):Prop:=
  match ev st.env m,ev st.env x,ev st.env v,mapT P t with
  | some (.mp id blk),some s,some (.i vk2 y),some (sc,ks,vk)=>(match st.own[id]?,keyS sc s with
    | some (.mp blk' sc' ks' vk' f),some (ks2,l)=>(blk'=blk∧sc'=sc∧ks'=ks∧vk'=vk∧ks2=ks∧vk2=vk)∧k (St.put { st with own:=st.own.set id (Own.mp blk' sc' ks' vk' (fPut f l y)) } dst (.v undef))
    | _,_=>False)
  | _,_,_,_=>False
theorem findV_set {l:List Int} {y:Int}:∀ {L:List (List Int×Int)} {j:Nat} {x:Int} {i:Nat},findI l L i=some (i+j,x)→∀ q,findV q (L.modify j fun p=>(p.1,y))=if q=l then some y else findV q L
  | [],_,_,_,h,_=>by cases h
  | p :: ps,j,x,i,h,q=>by
    unfold findI at h;split at h
    · rename_i e
      simp only[Option.some.injEq,Prod.mk.injEq] at h;obtain rfl:j=0:=by omega
      simp only[List.modify_zero_cons,findV,← e];by_cases hq:q=l<;>simp [hq]
    · rename_i hne
      obtain⟨r,hr,_⟩:=findI_at h;obtain⟨j',rfl⟩:∃ j',j=j'+1:=⟨j - 1,by omega⟩;have ih:=findV_set (L:=ps) (j:=j') (x:=x) (i:=i+1) (y:=y) (by rw[show i+1+j'=i+(j'+1) by omega];exact h) q;simp only[List.modify_succ_cons,findV,ih];by_cases hq:q=p.1
      · have:q≠l:=fun e=>hne (by rw[← e,hq])
        simp [hq] at this ⊢;simp [this]
      · simp [hq]
theorem findV_push {l:List Int} {y:Int}:∀ {L:List (List Int×Int)},findV l L=none→∀ q,findV q (L ++ [(l,y)])=if q=l then some y else findV q L
  | [],_,q=>by simp [findV]
  | p :: ps,h,q=>by
    unfold findV at h;split at h
    · cases h
    · rename_i hne
      have ih:=findV_push (L:=ps) (y:=y) h q;simp only[List.cons_append,findV,ih];by_cases hq:q=p.1
      · have:q≠l:=fun e=>hne (by rw[← e,hq])
        simp [hq] at this ⊢;simp [this]
      · simp [hq]
theorem run_update_mp {R:Nat→Prop} {B:Nat} {w:World} {t blk:Nat} {sc:Bool} {ks:List IntKind} {vk:IntKind} {f:List Int→Option Int} (ht:mapT P t=some (sc,ks,vk)) (ho:(Own.mp blk sc ks vk f).ok R B w) {l:List Int} (hl:l.length=ks.length) (y:Int) :
    ∃ es clock,(Instr.mapUpdate t (.map (some blk)) (keyV sc ks l) (.int vk y)).run P w=.ok () { w with heap:=w.heap.setIfInBounds blk (.map es clock) }∧(Own.mp blk sc ks vk (fPut f l y)).ok R B { w with heap:=w.heap.setIfInBounds blk (.map es clock) }:=by
  obtain⟨k,e,hu,hz,hk,rfl⟩:=mapT_ok ht;obtain⟨hB,hR,es,clock,hb,L,h1,h2,h3⟩:=ho;have hck:=check_kk (P:=P) false 20 k ks hk l hl 9980 w;rw[← keyV_whole hk] at hck;have hck':(Instr.checkKey false 10000 k (keyV (scal P k) ks l)).run P w=.ok () w:=hck;have hfk:=findKey_mp (P:=P) (vk:=vk) hk hl w es.toList L h1 h2;have hf:=h3 l hl;rw[← findI_val l L 0] at hf;cases hfi:findI l L 0 with
  | none=>
    rw[hfi] at hfk hf;simp only[Option.map_none] at hfk hf;refine⟨es.push ⟨keyV (scal P k) ks l,.int vk y,clock⟩,clock+1,?_,hB,hR,_,_,(MapKept.heap_set hb).1,L ++ [(l,y)],?_,?_,fun q hq=>?_⟩
    · simp [Instr.mapUpdate,run_underlying hu,MapKept.run_getObj_map hb,hck',hfk,MapKept.run_setObj_map _ hb,Result.andThen]
    · simp [h1]
    · intro p hp
      rcases List.mem_append.1 hp with hp|hp
      · exact h2 p hp
      · simp only[List.mem_singleton] at hp;subst hp;exact hl
    · rw[findV_push (by rw[← findI_val l L 0,hfi];rfl) q]
      unfold fPut;rw[h3 q hq]
  | some p=>
    obtain⟨j,x⟩:=p;rw[hfi] at hfk hf;simp only[Option.map_some] at hfk hf;obtain⟨j',hj',hL⟩:=findI_at hfi;rw[Nat.zero_add] at hj';subst hj'
    have hej:∃ e0,es.toList[j]? = some e0∧e0.key=keyV (scal P k) ks l:=by
      have:(es.toList.map (fun e=>(e.key,e.val)))[j]? = some (keyV (scal P k) ks l,Value.int vk x):=by rw[h1];simp [hL]
      simp only[List.getElem?_map,Option.map_eq_some_iff,Prod.mk.injEq] at this;obtain⟨e0,g1,g2,_⟩:=this;exact⟨e0,g1,g2⟩
    obtain⟨e0,hg,hkey⟩:=hej;have hga:es[j]? = some e0:=by simpa using hg
    refine⟨es.modify j fun e=>{ e with key:=keyV (scal P k) ks l,val:=.int vk y },clock,?_,hB,hR,_,_,(MapKept.heap_set hb).1,L.modify j (fun p=>(p.1,y)),?_,?_,fun q hq=>?_⟩
    · simp [Instr.mapUpdate,run_underlying hu,MapKept.run_getObj_map hb,hck',hfk,hga,hkey,stays_mp hk hl,MapKept.run_setObj_map _ hb,Result.andThen]
    · apply List.ext_getElem?
      intro q;have hq:=congrArg (·[q]?) h1;simp only[List.getElem?_map] at hq;simp only[Array.toList_modify,List.getElem?_map,List.getElem?_modify];by_cases hqj:j=q
      · subst hqj
        rw[hg,hL];simp
      · simpa [hqj] using hq
    · intro p hp
      obtain⟨q,hq⟩:=List.getElem?_of_mem hp;rw[List.getElem?_modify] at hq;cases hLq:L[q]? with
      | none=>rw[hLq] at hq;cases hq
      | some p0=>
        rw[hLq] at hq;have hm:=h2 p0 (List.mem_of_getElem? hLq);by_cases hqj:j=q
        · simp [hqj] at hq;subst hq;exact hm
        · simp [hqj] at hq;subst hq;exact hm
    · rw[findV_set (i:=0) (j:=j) (x:=x) (by rw[Nat.zero_add];exact hfi) q]
      unfold fPut;rw[h3 q hq]
theorem sMapUpd_good {t:TypeId} {m x v:Operand} (hd:QO st dst) (h:sMapUpd P st dst t m x v k):Good P F (.mapUpdate t m x v) dst st k:=by
  unfold sMapUpd at h;split at h
  · rename_i id blk s vk2 y sc ks vk hm hx hv ht
    split at h
    · rename_i blk' sc' ks' vk' f ks2 l hid hs
      obtain⟨⟨rfl,rfl,rfl,rfl,rfl,rfl⟩,h⟩:=h;rintro R0 w0 a w o next Q ho rfl ⟨ob,R,hr⟩ hk
      obtain⟨g1,g2⟩:=keyS_ok hs;have hown:=hr.own _ _ hid;obtain⟨es,clock,hrun,hnew⟩:=run_update_mp ht hown g2 y
      have hex:(execOp a.eval o).run P w=.ok .skip { w with heap:=w.heap.setIfInBounds blk' (.map es clock) }:=by
        unfold execOp;rw[ho];simp [(Qo hr.env hm).1,(Qo hr.env hx).1,(Qo hr.env hv).1,SV.den,g1,hrun]
      unfold Oper.wp;rw[hex];obtain⟨_,_,es0,clock0,hb0,_⟩:=hown;have hset:=hr.setOwn (o':=.mp blk' sc' ks2 vk2 (fPut f l y)) (g:=blk') hid rfl (fun b hb=>by simpa [Own.blk] using hb.symm) (w':={ w with heap:=w.heap.setIfInBounds blk' (.map es clock) }) rfl rfl rfl (by simp) (fun b _ hne=>(MapKept.heap_set hb0).2 b hne) hnew;exact hk _ _ _ h ⟨ob,R,hset.put (s:=.v undef) (Qr hd) trivial⟩
    · exact h.elim
  · exact h.elim
end Eng
end Go.Proofs.YtabgkfjfmjdfiaaGreatDoor
