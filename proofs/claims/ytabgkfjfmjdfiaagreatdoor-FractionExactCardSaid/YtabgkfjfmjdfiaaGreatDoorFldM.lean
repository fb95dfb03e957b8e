import Derived.Test.YtabgkfjfmjdfiaaGreatDoorFrcE
set_option linter.unusedSimpArgs false
set_option linter.unusedVariables false
namespace Go.Proofs.YtabgkfjfmjdfiaaGreatDoor
open Eng Lmb Go.RowKit
def sg (neg:Bool) (p:Nat):Int:=if neg then -(p:Int) else p
theorem sg_not (neg:Bool) (p:Nat):sg (!neg) p=-sg neg p:=by cases neg<;>simp [sg]
theorem sg_abs (neg:Bool) (p:Nat):(sg neg p).natAbs=p:=by cases neg<;>simp [sg]
theorem sg_neg (neg:Bool) (p:Nat):decide (sg neg p<0)=(neg && decide (0<p)):=by
  cases neg
  · simp [sg]
  · simp [sg]
def rP (n:Int) (d:Nat):Nat:=n.natAbs / Nat.gcd n.natAbs d
def rQ (n:Int) (d:Nat):Nat:=d / Nat.gcd n.natAbs d
def rN (n:Int):Bool:=decide (n<0)
theorem rQ_pos {n:Int} {d:Nat} (hd:0<d):0<rQ n d:=Nat.div_pos (Nat.le_of_dvd hd (Nat.gcd_dvd_right _ _)) (Nat.gcd_pos_of_pos_right _ hd)
theorem rP_le (n:Int) (d:Nat):rP n d≤n.natAbs:=Nat.div_le_self _ _
theorem rQ_le (n:Int) (d:Nat):rQ n d≤d:=Nat.div_le_self _ _
theorem rP_pos {n:Int} {d:Nat} (hd:0<d):decide (0<rP n d)=decide (0<n.natAbs):=by
  have hg:0<Nat.gcd n.natAbs d:=Nat.gcd_pos_of_pos_right _ hd;have h1:=Nat.div_mul_cancel (Nat.gcd_dvd_left n.natAbs d);unfold rP;rcases Nat.eq_zero_or_pos n.natAbs with h|h
  · rw[h];simp
  · have:0<n.natAbs / Nat.gcd n.natAbs d:=Nat.div_pos (Nat.le_of_dvd h (Nat.gcd_dvd_left _ _)) hg
    simp [h,this]
theorem r_val (n:Int) {d:Nat} (hd:0<d):sg (rN n) (rP n d) * d=n * rQ n d:=by
  have h1:=Nat.div_mul_cancel (Nat.gcd_dvd_left n.natAbs d);have h2:=Nat.div_mul_cancel (Nat.gcd_dvd_right n.natAbs d)
  have hs:n=sg (rN n) n.natAbs:=by
    unfold sg rN;by_cases h:n<0
    · simp [h];omega
    · simp [h];omega
  have hm:rP n d * d=n.natAbs * rQ n d:=by
    unfold rP rQ;generalize n.natAbs / Nat.gcd n.natAbs d=x at *;generalize d / Nat.gcd n.natAbs d=y at *;generalize Nat.gcd n.natAbs d=g at *
    calc x * d=x * (y * g):=by rw[h2]
      _=x * g * y:=by rw[Nat.mul_comm y,Nat.mul_assoc]
      _=n.natAbs * y:=by rw[h1]
  have e9:n * (rQ n d:Int)=sg (rN n) n.natAbs * (rQ n d:Int):=by rw[← hs]
  rw[e9];unfold sg;split
  · rw[Int.neg_mul,Int.neg_mul,← Int.natCast_mul,← Int.natCast_mul,hm]
  · rw[← Int.natCast_mul,← Int.natCast_mul,hm]
theorem r_eq {n m:Int} {d e:Nat} (hd:0<d) (he:0<e) (h:n * e=m * d):rN n=rN m∧rP n d=rP m e∧rQ n d=rQ m e:=by
  have ha:n.natAbs * e=m.natAbs * d:=by
    have:=congrArg Int.natAbs h
    rwa [Int.natAbs_mul,Int.natAbs_mul,Int.natAbs_natCast,Int.natAbs_natCast] at this
  have h1:n.natAbs / Nat.gcd n.natAbs d=m.natAbs / Nat.gcd m.natAbs e∧d / Nat.gcd n.natAbs d=e / Nat.gcd m.natAbs e:=by
    have mul:∀ (a b x:Nat),0<x→a * x / Nat.gcd (a * x) (b * x)=a / Nat.gcd a b∧b * x / Nat.gcd (a * x) (b * x)=b / Nat.gcd a b:=fun a b x hx=>by
      rw[Nat.gcd_mul_right];exact⟨Nat.mul_div_mul_right _ _ hx,Nat.mul_div_mul_right _ _ hx⟩
    have k1:=mul n.natAbs d e he;have k2:=mul m.natAbs e d hd;rw[ha,Nat.mul_comm d e] at k1;exact⟨k1.1.symm.trans k2.1,k1.2.symm.trans k2.2⟩
  refine⟨?_,h1.1,h1.2⟩;unfold rN
  congr 1
  apply propext;have hd':(0:Int)<d:=by omega
  have he':(0:Int)<e:=by omega
  constructor
  · intro hn
    rcases (show m<0∨0≤m by omega) with h9|h9
    · exact h9
    · have k1:n * e<0:=Int.mul_neg_of_neg_of_pos hn he'
      have k2:0≤m * d:=Int.mul_nonneg h9 (by omega);omega
  · intro hn
    rcases (show n<0∨0≤n by omega) with h9|h9
    · exact h9
    · have k1:m * d<0:=Int.mul_neg_of_neg_of_pos hn hd'
      have k2:0≤n * e:=Int.mul_nonneg h9 (by omega);omega
theorem sumV_val (na:Bool) (a:Nat) (nb:Bool) (b:Nat):sg (sumV na a nb b).1 (sumV na a nb b).2=sg na a+sg nb b:=by
  unfold sumV;by_cases h:na=nb
  · subst h
    rw[if_pos rfl];cases na<;>simp [sg]<;>omega
  · rw[if_neg h]
    by_cases hlt:a<b
    · rw[if_pos hlt]
      cases na<;>cases nb<;>simp [sg] at h ⊢<;>omega
    · rw[if_neg hlt]
      cases na<;>cases nb<;>simp [sg] at h ⊢<;>omega
theorem sg_mul (na:Bool) (p s:Nat):sg na (p * s)=sg na p * s:=by
  cases na<;>simp [sg,Int.neg_mul]
theorem sg_mul2 (na nb:Bool) (p r:Nat):sg (na != nb) (p * r)=sg na p * sg nb r:=by
  cases na<;>cases nb<;>simp [sg,Int.neg_mul,Int.mul_neg]
theorem add_parts {na nb:Bool} {p q r s:Nat} (hq:0<q) (hs:0<s) :
    addN na p q nb r s=rN (sg na p * s+sg nb r * q)∧addP na p q nb r s=rP (sg na p * s+sg nb r * q) (q * s)∧addQ na p q nb r s=rQ (sg na p * s+sg nb r * q) (q * s):=by
  have hv:=sumV_val na (p * s) nb (r * q);rw[sg_mul,sg_mul] at hv;have ha:(sg na p * s+sg nb r * q).natAbs=(sumV na (p * s) nb (r * q)).2:=by rw[← hv,sg_abs]
  have hP:addP na p q nb r s=rP (sg na p * s+sg nb r * q) (q * s):=by unfold addP addG rP;rw[ha]
  refine⟨?_,hP,by unfold addQ addG rQ;rw[ha]⟩;unfold addN;rw[hP,rP_pos (Nat.mul_pos hq hs),ha];unfold rN;rw[← hv,sg_neg]
theorem mul_parts {na nb:Bool} {p q r s:Nat} (hq:0<q) (hs:0<s) :
    mulN na p q nb r s=rN (sg na p * sg nb r)∧mulP p q r s=rP (sg na p * sg nb r) (q * s)∧mulQ p q r s=rQ (sg na p * sg nb r) (q * s):=by
  have ha:(sg na p * sg nb r).natAbs=p * r:=by rw[← sg_mul2,sg_abs]
  have hP:mulP p q r s=rP (sg na p * sg nb r) (q * s):=by unfold mulP mulG rP;rw[ha]
  refine⟨?_,hP,by unfold mulQ mulG rQ;rw[ha]⟩;unfold mulN;rw[hP,rP_pos (Nat.mul_pos hq hs),ha];unfold rN;rw[← sg_mul2,sg_neg]
theorem red_parts {na:Bool} {p q:Nat} (hq:0<q):(na && decide (0<p / Nat.gcd p q))=rN (sg na p)∧p / Nat.gcd p q=rP (sg na p) q∧q / Nat.gcd p q=rQ (sg na p) q:=by
  have ha:(sg na p).natAbs=p:=sg_abs na p;have hP:p / Nat.gcd p q=rP (sg na p) q:=by unfold rP;rw[ha]
  refine⟨?_,hP,by unfold rQ;rw[ha]⟩;rw[hP,rP_pos hq,ha];unfold rN;rw[sg_neg]
theorem add_val {A B n m:Int} {qa qb d e:Nat} (h1:A * d=n * qa) (h2:B * e=m * qb):(A * qb+B * qa) * ((d * e:Nat):Int)=(n * e+m * d) * ((qa * qb:Nat):Int):=by
  rw[Int.natCast_mul,Int.natCast_mul,Int.add_mul,Int.add_mul];have e1:A * (qb:Int) * ((d:Int) * e)=A * d * (qb * e):=by simp only[Int.mul_comm,Int.mul_left_comm,Int.mul_assoc]
  have e2:B * (qa:Int) * ((d:Int) * e)=B * e * (qa * d):=by simp only[Int.mul_comm,Int.mul_left_comm,Int.mul_assoc]
  rw[e1,e2,h1,h2]
  congr 1<;>simp only[Int.mul_comm,Int.mul_left_comm,Int.mul_assoc]
theorem mul_val {A B n m:Int} {qa qb d e:Nat} (h1:A * d=n * qa) (h2:B * e=m * qb):(A * B) * ((d * e:Nat):Int)=(n * m) * ((qa * qb:Nat):Int):=by
  rw[Int.natCast_mul,Int.natCast_mul];have e1:A * B * ((d:Int) * e)=A * d * (B * e):=by simp only[Int.mul_comm,Int.mul_left_comm,Int.mul_assoc]
  rw[e1,h1,h2];simp only[Int.mul_comm,Int.mul_left_comm,Int.mul_assoc]
end Go.Proofs.YtabgkfjfmjdfiaaGreatDoor
