import Derived.Test.YtabgkfjfmjdfiaaGreatDoorAddE
import Derived.Test.YtabgkfjfmjdfiaaGreatDoorRefH
import Derived.Test.YtabgkfjfmjdfiaaGreatDoorRefI
import Derived.Test.YtabgkfjfmjdfiaaGreatDoorRefJ
set_option linter.unusedSimpArgs false
set_option linter.unusedVariables false
set_option linter.defProp false
namespace Go.Proofs.YtabgkfjfmjdfiaaGreatDoor
open Eng Lmb Go.RowKit
def numRes (e n:Nat) (r:SV):Prop:=∃ s,r=QW [s,.i .i64 (e:Nat)]∧Nats s n
def limE (n:Nat):Nat:=if (n:Int)<pw 256 then 0 else 5
def limV (n:Nat):Nat:=if (n:Int)<pw 256 then n else 0
theorem limE_ok {n:Nat} (h:(n:Int)<pw 256):limE n=0:=if_pos h
theorem limE_big {n:Nat} (h:¬ (n:Int)<pw 256):limE n=5:=if_neg h
theorem limV_ok {n:Nat} (h:(n:Int)<pw 256):limV n=n:=if_pos h
theorem limV_big {n:Nat} (h:¬ (n:Int)<pw 256):limV n=0:=if_neg h
theorem Contract.to {F:Frm} {P:Program} {f:FuncId} {args:List SV} {p q:SV→Prop} (h:Contract F P f args p) (hq:∀ r,p r→q r):Contract F P f args q:=h.mono hq
def qb28:=And.intro @evr (And.intro @List.append_nil.{0} (And.intro @Int.toNat_zero (@Nat.sub_self)))
def qb27:=And.intro @evr (@evn)
set_option maxRecDepth 100000 in
theorem refLimitedC (F:Frm) {s:SV} {n:Nat} (hs:Nats s n):Contract F Tryz.prog 69 [s] (numRes (limE n) (limV n)):=by
  have hs1:=hs;obtain⟨xs,hi1,d1⟩:=hs.ints;have l1:=d1.len_le 256;obtain⟨a1,c1,z1,r1,rfl,hz1,hr1⟩:=hi1;refine Qf Tryz.func69 rfl (by kernel_rfl) ?_;simp only[Tryz.ntmps69,Qm];(repeat refine Qb ?_);(refine Qa fun k hk=>?_;simp -implicitDefEqProofs only[id,reduceCtorEq,reduceIte,Nat.reduceMul,Nat.reduceAdd,Nat.reduceLT,Nat.reduceLeDiff,Nat.reduceEqDiff,Int.reduceLT,Int.reduceBEq,Int.reduceBNe,Nat.reduceBEq,frS,qb27];refine hk _ ?_;clear hk k;try show Sat _ _ _ _ _);(repeat refine Qb ?_);(refine Qa fun k hk=>?_;simp -implicitDefEqProofs only[id,reduceCtorEq,reduceIte,Nat.reduceMul,Nat.reduceAdd,Nat.reduceLT,Nat.reduceLeDiff,Nat.reduceEqDiff,Int.reduceLT,Int.reduceBEq,Int.reduceBNe,Nat.reduceBEq,frS,qb27];refine hk _ ?_;clear hk k;try show Sat _ _ _ _ _);refine Qd rfl (fun h=>?_) (fun h=>?_)
  · have h9:=of_decide_eq_true h
    have hb:¬ (n:Int)<pw 256:=fun h8=>by have:=l1.2 h8;omega
    (repeat refine Qb ?_);(refine Qa fun k hk=>?_;simp -implicitDefEqProofs only[id,reduceCtorEq,reduceIte,Nat.reduceMul,Nat.reduceAdd,Nat.reduceLT,Nat.reduceLeDiff,Nat.reduceEqDiff,Int.reduceLT,Int.reduceBEq,Int.reduceBNe,Nat.reduceBEq,frS,qb27];refine hk _ ?_;clear hk k;try show Sat _ _ _ _ _);refine Sat.ret ?_;simp only[Tryz.results69,id,seval,frS,qb28];rw[limE_big hb,limV_big hb];exact⟨_,rfl,Nats.nil⟩
  · have h9:=of_decide_eq_false h
    have hb:(n:Int)<pw 256:=l1.1 (by omega);refine Sat.skip ?_;simp only[Qg];(repeat refine Qb ?_);(refine Qa fun k hk=>?_;simp -implicitDefEqProofs only[id,reduceCtorEq,reduceIte,Nat.reduceMul,Nat.reduceAdd,Nat.reduceLT,Nat.reduceLeDiff,Nat.reduceEqDiff,Int.reduceLT,Int.reduceBEq,Int.reduceBNe,Nat.reduceBEq,frS,qb27];refine hk _ ?_;clear hk k;try show Sat _ _ _ _ _);refine Sat.ret ?_;simp only[Tryz.results69,id,seval,frS,qb28];rw[limE_ok hb,limV_ok hb];exact⟨_,rfl,hs1⟩
section
variable (F:Frm) {sa sb:SV} {m n:Nat}
theorem refGcd2C (ha:Nats sa m) (hb:Nats sb n) (b1:(m:Int)<pw 256) (b2:(n:Int)<pw 256):Contract F Tryz.prog 19 [sa,sb] (fun r=>Nats r (Nat.gcd m n)):=by
  have h256:pw 256≤pw 512:=QI (by omega);by_cases h0:m=0∨n=0
  · have e:Nat.gcd m n=m+n:=by
      rcases h0 with h0|h0<;>subst h0<;>simp
    have ha1:=ha;have hb1:=hb;obtain⟨a1,c1,z1,r1,x1,rfl,_⟩:=ha1;obtain⟨a2,c2,z2,r2,x2,rfl,_⟩:=hb1;have hl:=ha.len0;have hl2:=hb.len0;refine Qf Tryz.func19 rfl (by kernel_rfl) ?_;simp only[Tryz.ntmps19,Qm];(repeat refine Qb ?_);(refine Qa fun k hk=>?_;simp -implicitDefEqProofs only[id,reduceCtorEq,reduceIte,Nat.reduceMul,Nat.reduceAdd,Nat.reduceLT,Nat.reduceLeDiff,Nat.reduceEqDiff,Int.reduceLT,Int.reduceBEq,Int.reduceBNe,Nat.reduceBEq,frS,qb27];refine hk _ ?_;clear hk k;try show Sat _ _ _ _ _);(repeat refine Qb ?_);refine Qj ⟨77,[(13,.b true),(0,.sl a1 x1.length c1 z1 r1),(1,.sl a2 x2.length c2 z2 r2)],[]⟩ (fun k hk=>?_) ?_
    · simp -implicitDefEqProofs only[id,reduceCtorEq,reduceIte,Nat.reduceMul,Nat.reduceAdd,Nat.reduceLT,Nat.reduceLeDiff,Nat.reduceEqDiff,Int.reduceLT,Int.reduceBEq,Int.reduceBNe,Nat.reduceBEq,frS,hl,hl2,qb27]
      refine⟨fun h9=>?_,fun h9=>?_⟩
      · refine hk _ ?_
        simp -implicitDefEqProofs only[id,reduceCtorEq,reduceIte,Nat.reduceMul,Nat.reduceAdd,Nat.reduceLT,Nat.reduceLeDiff,Nat.reduceEqDiff,Int.reduceLT,Int.reduceBEq,Int.reduceBNe,Nat.reduceBEq,frS,evl,qb27];try exact h9
      · refine hk _ ?_
        rw[decide_eq_true (show n=0 by omega)];simp -implicitDefEqProofs only[id,reduceCtorEq,reduceIte,Nat.reduceMul,Nat.reduceAdd,Nat.reduceLT,Nat.reduceLeDiff,Nat.reduceEqDiff,Int.reduceLT,Int.reduceBEq,Int.reduceBNe,Nat.reduceBEq,frS,evl,qb27]
    simp only[Qg];refine Qd rfl (fun _=>?_) (fun h=>by cases h);(repeat refine Qb ?_);(refine Qa fun k hk=>?_;simp -implicitDefEqProofs only[id,reduceCtorEq,reduceIte,Nat.reduceMul,Nat.reduceAdd,Nat.reduceLT,Nat.reduceLeDiff,Nat.reduceEqDiff,Int.reduceLT,Int.reduceBEq,Int.reduceBNe,Nat.reduceBEq,frS,qb27]);refine Qc (refPlusC F ha hb (by omega) (by omega)) rfl rfl ?_;intro y hy;have hs5:=hy;obtain⟨a5,c5,z5,r5,x5,rfl,_⟩:=hy;simp -implicitDefEqProofs only[id,reduceCtorEq,reduceIte,Nat.reduceMul,Nat.reduceAdd,Nat.reduceLT,Nat.reduceLeDiff,Nat.reduceEqDiff,Int.reduceLT,Int.reduceBEq,Int.reduceBNe,Nat.reduceBEq,frS,qb27];(refine hk _ ?_;clear hk k;try show Sat _ _ _ _ _);refine Sat.ret ?_;simp only[Tryz.results19,id,seval,frS,qb28];rw[e];exact hs5
  · exact refGcdC F ha hb b1 b2 (by omega) (by omega)
end
end Go.Proofs.YtabgkfjfmjdfiaaGreatDoor
