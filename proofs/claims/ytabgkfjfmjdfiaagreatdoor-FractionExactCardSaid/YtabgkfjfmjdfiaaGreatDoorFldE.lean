import Derived.Test.YtabgkfjfmjdfiaaGreatDoorFldM
set_option linter.unusedSimpArgs false
set_option linter.unusedVariables false
namespace Go.Proofs.YtabgkfjfmjdfiaaGreatDoor
open Eng Lmb Go.RowKit
def FrV (r:SV) (n:Int) (d k:Nat):Prop:=∃ neg p q,FrS r neg p q∧sg neg p * d=n * q∧0<q∧0<d∧p≤2 ^ k∧q≤2 ^ k
def FrR (r:SV) (n:Int) (d k:Nat):Prop:=FrS r (rN n) (rP n d) (rQ n d)∧0<d∧rP n d≤2 ^ k∧rQ n d≤2 ^ k
theorem FrR.v {r:SV} {n:Int} {d k:Nat} (h:FrR r n d k):FrV r n d k:=⟨_,_,_,h.1,r_val n h.2.1,rQ_pos h.2.1,h.2.1,h.2.2.1,h.2.2.2⟩
theorem frS_open {r:SV} {neg:Bool} {p q:Nat} (h:FrS r neg p q):∃ neg a1 l1 c1 z1 r1 a2 l2 c2 z2 r2,r=frS neg (.sl a1 l1 c1 z1 r1) (.sl a2 l2 c2 z2 r2):=by
  obtain⟨sp,sq,rfl,hp,hq⟩:=h;obtain⟨a1,c1,z1,r1,x1,rfl,_⟩:=hp;obtain⟨a2,c2,z2,r2,x2,rfl,_⟩:=hq;exact⟨_,_,_,_,_,_,_,_,_,_,_,rfl⟩
theorem FrV.open {r:SV} {n:Int} {d k:Nat} (h:FrV r n d k):∃ neg a1 l1 c1 z1 r1 a2 l2 c2 z2 r2,r=frS neg (.sl a1 l1 c1 z1 r1) (.sl a2 l2 c2 z2 r2):=by
  obtain⟨neg,p,q,hs,_⟩:=h;exact frS_open hs
theorem FrR.open {r:SV} {n:Int} {d k:Nat} (h:FrR r n d k):∃ neg a1 l1 c1 z1 r1 a2 l2 c2 z2 r2,r=frS neg (.sl a1 l1 c1 z1 r1) (.sl a2 l2 c2 z2 r2):=frS_open h.1
theorem two_le {a b:Nat} (h:a≤b):2 ^ a≤2 ^ b:=Nat.pow_le_pow_right (by decide) h
theorem QH {x k:Nat} (h:x≤2 ^ k) (hk:k<1900):(x:Int)<pw 256:=lt_pw h (by omega)
theorem lt64 {x k:Nat} (h:x≤2 ^ k) (hk:k<1900):(x:Int)<pw 64:=lt_pw h (by omega)
theorem lt512 {x k:Nat} (h:x≤2 ^ k) (hk:k<1900):(x:Int)<pw 512:=lt_pw h (by omega)
theorem sum_two {x y k:Nat} (hx:x≤2 ^ k) (hy:y≤2 ^ k):x+y≤2 ^ (k+1):=by rw[Nat.pow_succ];omega
theorem ok_of {neg:Bool} {p q k:Nat} (hp:p≤2 ^ k) (hq:q≤2 ^ k) (hk:k<1900) (h0:0<q) (hn:neg=true→0<p):frOk neg p q=true:=by
  unfold frOk;rw[decide_eq_true (lt64 hp hk),decide_eq_true (lt64 hq hk),decide_eq_true h0];cases neg with
  | false=>rfl
  | true=>
    have:=hn rfl;have h1:decide (p=0)=false:=decide_eq_false (by omega);rw[h1];rfl
theorem rN_pos {n:Int} {d:Nat} (hd:0<d) (h:rN n=true):0<rP n d:=by
  have h1:=rP_pos (n:=n) hd;have h2:n<0:=of_decide_eq_true h;have h3:decide (0<n.natAbs)=true:=decide_eq_true (by omega);rw[h3] at h1;exact of_decide_eq_true h1
section
variable (F:Frm) {a b:SV} {n m:Int} {d e k1 k2:Nat}
theorem addV (ha:FrV a n d k1) (hb:FrV b m e k2) (hk:k1+k2+1<1900):Contract F Tryz.prog 39 [a,b] (fun x=>∃ f,x=QW [f,.i .i64 0]∧FrR f (n * e+m * d) (d * e) (k1+k2+1)):=by
  obtain⟨na,p,q,⟨sp,sq,rfl,hp,hq⟩,h1,hq0,hd0,hpk,hqk⟩:=ha;obtain⟨nb,r,s,⟨sr,ss,rfl,hr,hs⟩,h2,hs0,he0,hrk,hsk⟩:=hb;have t1:=mul_two hpk hsk;have t2:=mul_two hrk hqk;have t2':r * q≤2 ^ (k1+k2):=by rw[Nat.add_comm k1];exact t2
  have t3:=mul_two hqk hsk;have t4:=sum_two t1 t2';have hqs:=Nat.mul_pos hq0 hs0;have hde:=Nat.mul_pos hd0 he0;obtain⟨pN,pP,pQ⟩:=add_parts (na:=na) (nb:=nb) (p:=p) (r:=r) hq0 hs0;obtain⟨eN,eP,eQ⟩:=r_eq hqs hde (add_val h1 h2);have bP:addP na p q nb r s≤2 ^ (k1+k2+1):=Nat.le_trans (Nat.div_le_self _ _) (Nat.le_trans (sumV_le _ _ _ _) t4);have bQ:addQ na p q nb r s≤2 ^ (k1+k2+1):=Nat.le_trans (Nat.div_le_self _ _) (Nat.le_trans t3 (two_le (by omega)));have h:=fractionAddC F na nb hp hq hr hs (QH hpk (by omega)) (QH hqk (by omega)) (QH hrk (by omega)) (QH hsk (by omega)) (QH t1 (by omega)) (QH t2' (by omega)) (QH t4 hk) (QH t3 (by omega)) hq0 hs0;rw[pN,pP,pQ,eN,eP,eQ] at h;rw[pP,eP] at bP;rw[pQ,eQ] at bQ;have hok:=ok_of bP bQ hk (rQ_pos hde) (rN_pos hde);refine h.mono fun x hx=>?_;rcases hx with ⟨_,f,rfl,hf⟩|⟨hbad,_⟩
  · exact⟨f,rfl,hf,hde,bP,bQ⟩
  · rw[hok] at hbad;cases hbad
theorem subV (ha:FrV a n d k1) (hb:FrV b m e k2) (hk:k1+k2+1<1900):Contract F Tryz.prog 42 [a,b] (fun x=>∃ f,x=QW [f,.i .i64 0]∧FrR f (n * e+-m * d) (d * e) (k1+k2+1)):=by
  obtain⟨na,p,q,⟨sp,sq,rfl,hp,hq⟩,h1,hq0,hd0,hpk,hqk⟩:=ha;obtain⟨nb,r,s,⟨sr,ss,rfl,hr,hs⟩,h2,hs0,he0,hrk,hsk⟩:=hb;have h2':sg (!nb) r * e=-m * s:=by rw[sg_not,Int.neg_mul,Int.neg_mul,h2]
  have t1:=mul_two hpk hsk;have t2:=mul_two hrk hqk;have t2':r * q≤2 ^ (k1+k2):=by rw[Nat.add_comm k1];exact t2
  have t3:=mul_two hqk hsk;have t4:=sum_two t1 t2';have hqs:=Nat.mul_pos hq0 hs0;have hde:=Nat.mul_pos hd0 he0;obtain⟨pN,pP,pQ⟩:=add_parts (na:=na) (nb:=!nb) (p:=p) (r:=r) hq0 hs0;obtain⟨eN,eP,eQ⟩:=r_eq hqs hde (add_val h1 h2');have bP:addP na p q (!nb) r s≤2 ^ (k1+k2+1):=Nat.le_trans (Nat.div_le_self _ _) (Nat.le_trans (sumV_le _ _ _ _) t4);have bQ:addQ na p q (!nb) r s≤2 ^ (k1+k2+1):=Nat.le_trans (Nat.div_le_self _ _) (Nat.le_trans t3 (two_le (by omega)));have h:=fractionSubC F na nb hp hq hr hs (QH hpk (by omega)) (QH hqk (by omega)) (QH hrk (by omega)) (QH hsk (by omega)) (QH t1 (by omega)) (QH t2' (by omega)) (QH t4 hk) (QH t3 (by omega)) hq0 hs0;rw[pN,pP,pQ,eN,eP,eQ] at h;rw[pP,eP] at bP;rw[pQ,eQ] at bQ;have hok:=ok_of bP bQ hk (rQ_pos hde) (rN_pos hde);refine h.mono fun x hx=>?_;rcases hx with ⟨_,f,rfl,hf⟩|⟨hbad,_⟩
  · exact⟨f,rfl,hf,hde,bP,bQ⟩
  · rw[hok] at hbad;cases hbad
theorem mulV (ha:FrV a n d k1) (hb:FrV b m e k2) (hk:k1+k2<1900):Contract F Tryz.prog 44 [a,b] (fun x=>∃ f,x=QW [f,.i .i64 0]∧FrR f (n * m) (d * e) (k1+k2)):=by
  obtain⟨na,p,q,⟨sp,sq,rfl,hp,hq⟩,h1,hq0,hd0,hpk,hqk⟩:=ha;obtain⟨nb,r,s,⟨sr,ss,rfl,hr,hs⟩,h2,hs0,he0,hrk,hsk⟩:=hb;have t1:=mul_two hpk hrk;have t3:=mul_two hqk hsk;have hqs:=Nat.mul_pos hq0 hs0;have hde:=Nat.mul_pos hd0 he0;obtain⟨pN,pP,pQ⟩:=mul_parts (na:=na) (nb:=nb) (p:=p) (r:=r) hq0 hs0;obtain⟨eN,eP,eQ⟩:=r_eq hqs hde (mul_val h1 h2);have bP:mulP p q r s≤2 ^ (k1+k2):=Nat.le_trans (Nat.div_le_self _ _) t1;have bQ:mulQ p q r s≤2 ^ (k1+k2):=Nat.le_trans (Nat.div_le_self _ _) t3;have h:=fractionMulC F na nb hp hq hr hs (QH hpk (by omega)) (QH hqk (by omega)) (QH hrk (by omega)) (QH hsk (by omega)) (QH t1 (by omega)) (QH t3 (by omega)) hq0 hs0;rw[pN,pP,pQ,eN,eP,eQ] at h;rw[pP,eP] at bP;rw[pQ,eQ] at bQ;have hok:=ok_of bP bQ hk (rQ_pos hde) (rN_pos hde);refine h.mono fun x hx=>?_;rcases hx with ⟨_,f,rfl,hf⟩|⟨hbad,_⟩
  · exact⟨f,rfl,hf,hde,bP,bQ⟩
  · rw[hok] at hbad;cases hbad
theorem sign_sg {nb:Bool} {r s e:Nat} {m:Int} (hr:0<r) (hs:0<s) (he:0<e) (h:sg nb r * e=m * s):sg nb s=m.sign * s∧m≠0∧m.natAbs * s=r * e:=by
  have ha:m.natAbs * s=r * e:=by
    have:=congrArg Int.natAbs h;rw[Int.natAbs_mul,Int.natAbs_mul,sg_abs,Int.natAbs_natCast,Int.natAbs_natCast] at this;exact this.symm
  have hm:0<m.natAbs:=by
    rcases Nat.eq_zero_or_pos m.natAbs with h0|h0
    · rw[h0,Nat.zero_mul] at ha
      have:=Nat.mul_pos hr he;omega
    · exact h0
  refine⟨?_,by omega,ha⟩;have hse:(0:Int)<s:=by omega
  have hee:(0:Int)<e:=by omega
  cases nb with
  | false=>
    have h1:0<(r:Int) * e:=Int.mul_pos (by omega) hee;have h2:sg false r * (e:Int)=(r:Int) * e:=rfl
    have hm0:0<m:=by
      rcases (show m<0∨0<m by omega) with h9|h9
      · have:=Int.mul_neg_of_neg_of_pos h9 hse;omega
      · exact h9
    rw[Int.sign_eq_one_of_pos hm0,Int.one_mul];rfl
  | true=>
    have h1:0<(r:Int) * e:=Int.mul_pos (by omega) hee;have h2:sg true r * (e:Int)=-((r:Int) * e):=by simp [sg,Int.neg_mul]
    have hm0:m<0:=by
      rcases (show m<0∨0<m by omega) with h9|h9
      · exact h9
      · have:=Int.mul_pos h9 hse;omega
    rw[Int.sign_eq_neg_one_of_neg hm0,Int.neg_mul,Int.one_mul];rfl
theorem div_val {A n m ε:Int} {q d e r s M:Nat} (h1:A * d=n * q) (h2:(M:Int) * s=r * e):(A * (ε * s)) * ((d * M:Nat):Int)=(n * e * ε) * ((q * r:Nat):Int):=by
  rw[Int.natCast_mul,Int.natCast_mul];have e1:A * (ε * (s:Int)) * ((d:Int) * M)=(A * d) * ε * ((M:Int) * s):=by simp only[Int.mul_comm,Int.mul_left_comm,Int.mul_assoc]
  rw[e1,h1,h2];simp only[Int.mul_comm,Int.mul_left_comm,Int.mul_assoc]
theorem divV (ha:FrV a n d k1) (hb:FrV b m e k2) (hk:k1+k2<1900):Contract F Tryz.prog 46 [a,b] (fun x=>(m=0∧∃ f,x=QW [f,.i .i64 14]∧FrS f false 0 0)∨(m≠0∧∃ f,x=QW [f,.i .i64 0]∧FrR f (n * e * m.sign) (d * m.natAbs) (k1+k2))):=by
  obtain⟨na,p,q,⟨sp,sq,rfl,hp,hq⟩,h1,hq0,hd0,hpk,hqk⟩:=ha;obtain⟨nb,r,s,⟨sr,ss,rfl,hr,hs⟩,h2,hs0,he0,hrk,hsk⟩:=hb;have t1:=mul_two hpk hsk;have t3:=mul_two hqk hrk;have h:=fractionDivC F na nb hp hq hr hs (QH hpk (by omega)) (QH hqk (by omega)) (QH hrk (by omega)) (QH hsk (by omega)) (QH t1 (by omega)) (QH t3 (by omega)) hq0;refine h.mono fun x hx=>?_;rcases hx with ⟨rfl,f,rfl,hf⟩|⟨hr0,hx⟩
  · left
    refine⟨?_,f,rfl,hf⟩;have h3:m * (s:Int)=0:=by rw[← h2];cases nb<;>simp [sg]
    rcases Int.mul_eq_zero.1 h3 with h9|h9
    · exact h9
    · omega
  · right
    obtain⟨hsg,hm0,habs⟩:=sign_sg hr0 hs0 he0 h2;have hqr:=Nat.mul_pos hq0 hr0;have hdM:0<d * m.natAbs:=Nat.mul_pos hd0 (by omega);obtain⟨pN,pP,pQ⟩:=mul_parts (na:=na) (nb:=nb) (p:=p) (r:=s) hq0 hr0
    have hval:(sg na p * sg nb s) * ((d * m.natAbs:Nat):Int)=(n * e * m.sign) * ((q * r:Nat):Int):=by
      rw[hsg];exact div_val (m:=m) h1 (by rw[← Int.natCast_mul,habs,Int.natCast_mul])
    obtain⟨eN,eP,eQ⟩:=r_eq hqr hdM hval;have bP:mulP p q s r≤2 ^ (k1+k2):=Nat.le_trans (Nat.div_le_self _ _) t1;have bQ:mulQ p q s r≤2 ^ (k1+k2):=Nat.le_trans (Nat.div_le_self _ _) t3;rw[pN,pP,pQ,eN,eP,eQ] at hx;rw[pP,eP] at bP;rw[pQ,eQ] at bQ;have hok:=ok_of bP bQ hk (rQ_pos hdM) (rN_pos hdM);rcases hx with ⟨_,f,rfl,hf⟩|⟨hbad,_⟩
    · exact⟨hm0,f,rfl,hf,hdM,bP,bQ⟩
    · rw[hok] at hbad;cases hbad
theorem redV (ha:FrV a n d k1) (hk:k1<1900):Contract F Tryz.prog 57 [a] (fun x=>FrR x n d k1):=by
  obtain⟨na,p,q,⟨sp,sq,rfl,hp,hq⟩,h1,hq0,hd0,hpk,hqk⟩:=ha;obtain⟨pN,pP,pQ⟩:=red_parts (na:=na) (p:=p) hq0;obtain⟨eN,eP,eQ⟩:=r_eq hq0 hd0 h1;have bP:p / Nat.gcd p q≤2 ^ k1:=Nat.le_trans (Nat.div_le_self _ _) hpk;have bQ:q / Nat.gcd p q≤2 ^ k1:=Nat.le_trans (Nat.div_le_self _ _) hqk;have h:=fractionReduceC F na hp hq (QH hpk hk) (QH hqk hk) hq0;rw[pN,pP,pQ,eN,eP,eQ] at h;rw[pP,eP] at bP;rw[pQ,eQ] at bQ;exact h.mono fun x hx=>⟨hx,hd0,bP,bQ⟩
theorem sameV (ha:FrR a n d k1) (hb:FrR b m e k2) (hk1:k1<1900) (hk2:k2<1900) (h:n * e=m * d):Contract F Tryz.prog 56 [a,b] (fun x=>x=.b true):=by
  obtain⟨⟨sp,sq,rfl,hp,hq⟩,hd0,hpk,hqk⟩:=ha;obtain⟨⟨sr,ss,rfl,hr,hs⟩,he0,hrk,hsk⟩:=hb;have h0:=refSame3C F (rN n) (rN m) hp hq hr hs (lt512 hpk hk1) (lt512 hqk hk1) (lt512 hrk hk2) (lt512 hsk hk2);obtain⟨eN,eP,eQ⟩:=r_eq hd0 he0 h;rw[decide_eq_true ⟨eN,eP,eQ⟩] at h0;exact h0
def sgI (n:Int):Int:=if n<0 then -1 else if 0<n then 1 else 0
theorem sgI_mul {n m:Int} {x y:Nat} (hx:0<x) (hy:0<y) (h:n * x=m * y):sgI n=sgI m:=by
  have hx':(0:Int)<x:=by omega
  have hy':(0:Int)<y:=by omega
  unfold sgI;rcases (show n<0∨n=0∨0<n by omega) with h1|h1|h1
  · have h2:=Int.mul_neg_of_neg_of_pos h1 hx'
    have h3:m<0:=by
      rcases (show m<0∨0≤m by omega) with h9|h9
      · exact h9
      · have:=Int.mul_nonneg h9 (show (0:Int)≤y by omega);omega
    rw[if_pos h1,if_pos h3]
  · subst h1
    rw[Int.zero_mul] at h
    have h3:m=0:=by
      rcases Int.mul_eq_zero.1 h.symm with h9|h9
      · exact h9
      · omega
    subst h3;rfl
  · have h2:=Int.mul_pos h1 hx'
    have h3:0<m:=by
      rcases (show m≤0∨0<m by omega) with h9|h9
      · have:=Int.mul_nonpos_of_nonpos_of_nonneg h9 (show (0:Int)≤y by omega);omega
      · exact h9
    rw[if_neg (by omega),if_pos h1,if_neg (by omega),if_pos h3]
theorem cmpV_sg {na nb:Bool} {p q r s:Nat}:cmpV na p q nb r s=sgI (sg na p * s+-sg nb r * q):=by
  have hv:=sumV_val na (p * s) (!nb) (r * q);rw[sg_mul,sg_mul,sg_not] at hv;unfold cmpV;rw[← hv];generalize sumV na (p * s) (!nb) (r * q)=v;obtain⟨b,z⟩:=v;unfold sgI;by_cases hz:z=0
  · subst hz
    cases b<;>simp [sg]
  · cases b
    · simp [sg,hz]<;>omega
    · simp [sg,hz]<;>omega
theorem compareV (ha:FrV a n d k1) (hb:FrV b m e k2) (hk:k1+k2+1<1900):Contract F Tryz.prog 54 [a,b] (fun x=>x=QW [.i .i64 (sgI (n * e+-m * d)),.i .i64 0]):=by
  obtain⟨na,p,q,⟨sp,sq,rfl,hp,hq⟩,h1,hq0,hd0,hpk,hqk⟩:=ha;obtain⟨nb,r,s,⟨sr,ss,rfl,hr,hs⟩,h2,hs0,he0,hrk,hsk⟩:=hb;have h2':-sg nb r * e=-m * s:=by rw[Int.neg_mul,Int.neg_mul,h2]
  have t1:=mul_two hpk hsk;have t2:=mul_two hrk hqk;have t2':r * q≤2 ^ (k1+k2):=by rw[Nat.add_comm k1];exact t2
  have t4:=sum_two t1 t2';have h:=fractionCompareC F na nb hp hq hr hs (QH hpk (by omega)) (QH hqk (by omega)) (QH hrk (by omega)) (QH hsk (by omega)) (QH t1 (by omega)) (QH t2' (by omega)) (QH t4 hk);have hv:=sgI_mul (Nat.mul_pos hd0 he0) (Nat.mul_pos hq0 hs0) (add_val h1 h2');rw[cmpV_sg,hv] at h;exact h
end
end Go.Proofs.YtabgkfjfmjdfiaaGreatDoor
