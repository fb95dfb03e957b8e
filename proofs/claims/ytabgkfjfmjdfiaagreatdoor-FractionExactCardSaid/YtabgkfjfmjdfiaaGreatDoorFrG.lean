import Derived.Test.YtabgkfjfmjdfiaaGreatDoorStpF
import Derived.Test.YtabgkfjfmjdfiaaGreatDoorPk4
set_option linter.unusedSimpArgs false
set_option linter.unusedVariables false
set_option linter.defProp false
namespace Go.Proofs.YtabgkfjfmjdfiaaGreatDoor
open Eng Lmb
def cmpV (na:Bool) (p q:Nat) (nb:Bool) (r s:Nat):Int:=
  if (sumV na (p * s) (!nb) (r * q)).2=0 then 0 else if (sumV na (p * s) (!nb) (r * q)).1=true then -1 else 1
theorem Nats.zero {a:Option Addr} {len cap sz n:Nat} {rd:Nat→Nat→SV} (h:Nats (.sl a len cap sz rd) n):((len:Int) == 0)=decide (n=0):=by
  have:=h.len;by_cases h0:n=0
  · rw[decide_eq_true h0]
    have:¬ 0<(len:Int):=by rw[this];omega
    have:(len:Int)=0:=by omega
    rw[this];rfl
  · rw[decide_eq_false h0,beq_eq_false_iff_ne]
    have:0<(len:Int):=by rw[this];omega
    omega
def qb23:=And.intro @evr (And.intro @List.append_nil.{0} (And.intro @Int.toNat_zero (@Nat.sub_self)))
def qb22:=And.intro @evr (@evn)
set_option maxRecDepth 100000 in
theorem fractionCompareC (F:Frm) (na nb:Bool) {sp sq sr ss:SV} {p q r s:Nat} (hp:Nats sp p) (hq:Nats sq q) (hr:Nats sr r) (hs:Nats ss s)
    (b1:(p:Int)<pw 256) (b2:(q:Int)<pw 256) (b3:(r:Int)<pw 256) (b4:(s:Int)<pw 256) (b5:((p * s:Nat):Int)<pw 256) (b6:((r * q:Nat):Int)<pw 256) (b7:((p * s+r * q:Nat):Int)<pw 256) :
    Contract F Tryz.prog 54 [frS na sp sq,frS nb sr ss] (fun x=>x=QW [.i .i64 (cmpV na p q nb r s),.i .i64 0]):=by
  have hp':=hp;have hq':=hq;have hr':=hr;have hs':=hs;obtain⟨a1,c1,z1,r1,x1,rfl,_⟩:=hp;obtain⟨a2,c2,z2,r2,x2,rfl,_⟩:=hq;obtain⟨a3,c3,z3,r3,x3,rfl,_⟩:=hr;obtain⟨a4,c4,z4,r4,x4,rfl,_⟩:=hs;refine Qf Tryz.func54 rfl (by kernel_rfl) ?_;simp only[Tryz.ntmps54,Qm,frS];(repeat refine Qb ?_);(refine Qa fun k hk=>?_;simp -implicitDefEqProofs only[id,reduceCtorEq,reduceIte,Nat.reduceMul,Nat.reduceAdd,Nat.reduceLT,Nat.reduceLeDiff,Nat.reduceEqDiff,Int.reduceLT,Int.reduceBEq,Int.reduceBNe,Nat.reduceBEq,frS,qb22]);intro k1 k2;(refine hk _ ?_;clear hk k;try show Sat _ _ _ _ _);(repeat refine Qb ?_);(refine QD [⟨0,10,4,0⟩,⟨1,11,512,1⟩,⟨0,12,4,0⟩,⟨4,13,2048,1⟩,⟨0,14,8,0⟩,⟨16,15,8192,1⟩,⟨40,16,20480,2⟩,⟨0,17,8,0⟩,⟨128,18,65536,1⟩,⟨256,19,131072,0⟩,⟨0,20,8,0⟩,⟨1024,21,524288,1⟩,⟨0,22,4,0⟩,⟨4096,23,2097152,1⟩,⟨10304,24,5242880,2⟩,⟨16962,25,8684544,2⟩,⟨32768,9,16777216,0⟩,⟨65536,26,256,0⟩,⟨65536,27,256,0⟩,⟨262143,7,33554432,0⟩,⟨1048575,8,67108864,0⟩] [0,2,4,7,10,12,1,3,5,8,11,13,9] [(6,false),(14,false),(15,false),(16,false),(17,true),(18,true),(19,false),(20,false)] [6,14] (by kernel_rfl) (by kernel_rfl) (fun _ _ h=>h) fun k hk=>?_;simp only[List.map_cons,List.map_nil,List.getD_cons_zero,List.getD_cons_succ,Q0,QZ,Zb];simp -implicitDefEqProofs only[id,reduceCtorEq,reduceIte,Nat.reduceMul,Nat.reduceAdd,Nat.reduceLT,Nat.reduceLeDiff,Nat.reduceEqDiff,Int.reduceLT,Int.reduceBEq,Int.reduceBNe,Nat.reduceBEq,frS,qb22]);refine Qc (QN F hp' hs' b1 b4 b5) rfl (by simp -implicitDefEqProofs only[id,reduceCtorEq,reduceIte,Nat.reduceMul,Nat.reduceAdd,Nat.reduceLT,Nat.reduceLeDiff,Nat.reduceEqDiff,Int.reduceLT,Int.reduceBEq,Int.reduceBNe,Nat.reduceBEq,frS,qb22];try rfl) ?_;intro y hy;have hy1:=hy;obtain⟨a5,c5,z5,r5,x5,rfl,_⟩:=hy;simp -implicitDefEqProofs only[id,reduceCtorEq,reduceIte,Nat.reduceMul,Nat.reduceAdd,Nat.reduceLT,Nat.reduceLeDiff,Nat.reduceEqDiff,Int.reduceLT,Int.reduceBEq,Int.reduceBNe,Nat.reduceBEq,frS,qb22];refine Qc (QN F hr' hq' b3 b2 b6) rfl (by simp -implicitDefEqProofs only[id,reduceCtorEq,reduceIte,Nat.reduceMul,Nat.reduceAdd,Nat.reduceLT,Nat.reduceLeDiff,Nat.reduceEqDiff,Int.reduceLT,Int.reduceBEq,Int.reduceBNe,Nat.reduceBEq,frS,qb22];try rfl) ?_;intro y hy;have hy2:=hy;obtain⟨a6,c6,z6,r6,x6,rfl,_⟩:=hy;simp -implicitDefEqProofs only[id,reduceCtorEq,reduceIte,Nat.reduceMul,Nat.reduceAdd,Nat.reduceLT,Nat.reduceLeDiff,Nat.reduceEqDiff,Int.reduceLT,Int.reduceBEq,Int.reduceBNe,Nat.reduceBEq,frS,qb22];refine Qc (fractionSumC F na (!nb) hy1 hy2 b5 b6 b7) rfl (by simp -implicitDefEqProofs only[id,reduceCtorEq,reduceIte,Nat.reduceMul,Nat.reduceAdd,Nat.reduceLT,Nat.reduceLeDiff,Nat.reduceEqDiff,Int.reduceLT,Int.reduceBEq,Int.reduceBNe,Nat.reduceBEq,frS,qb22];try rfl) ?_;rintro y ⟨sv,rfl,hy⟩;have hy3:=hy;obtain⟨a7,c7,z7,r7,x7,rfl,_⟩:=hy;have hz:=hy3.zero;simp -implicitDefEqProofs only[id,reduceCtorEq,reduceIte,Nat.reduceMul,Nat.reduceAdd,Nat.reduceLT,Nat.reduceLeDiff,Nat.reduceEqDiff,Int.reduceLT,Int.reduceBEq,Int.reduceBNe,Nat.reduceBEq,frS,qb22];(refine hk _ ?_;clear hk k;try show Sat _ _ _ _ _);(repeat refine Qb ?_);refine Sat.block ?_;(repeat refine Qb ?_);(refine Qa fun k hk=>?_;simp -implicitDefEqProofs only[id,reduceCtorEq,reduceIte,Nat.reduceMul,Nat.reduceAdd,Nat.reduceLT,Nat.reduceLeDiff,Nat.reduceEqDiff,Int.reduceLT,Int.reduceBEq,Int.reduceBNe,Nat.reduceBEq,frS,qb22];refine hk _ ?_;clear hk k;try show Sat _ _ _ _ _);refine Qd rfl (fun h=>?_) (fun h=>?_)
  · rw[hz] at h
    have h0:=of_decide_eq_true h;(repeat refine Qb ?_);(refine Qa fun k hk=>?_;simp -implicitDefEqProofs only[id,reduceCtorEq,reduceIte,Nat.reduceMul,Nat.reduceAdd,Nat.reduceLT,Nat.reduceLeDiff,Nat.reduceEqDiff,Int.reduceLT,Int.reduceBEq,Int.reduceBNe,Nat.reduceBEq,frS,qb22];refine hk _ ?_;clear hk k;try show Sat _ _ _ _ _);refine Sat.ret ?_;simp only[Qg,Qk,Tryz.results54,id,seval,frS,qb23];unfold cmpV;rw[if_pos h0]
  · rw[hz] at h
    have h0:=of_decide_eq_false h;(repeat refine Qb ?_);(refine Qa fun k hk=>?_;simp -implicitDefEqProofs only[id,reduceCtorEq,reduceIte,Nat.reduceMul,Nat.reduceAdd,Nat.reduceLT,Nat.reduceLeDiff,Nat.reduceEqDiff,Int.reduceLT,Int.reduceBEq,Int.reduceBNe,Nat.reduceBEq,frS,qb22];refine hk _ ?_;clear hk k;try show Sat _ _ _ _ _);refine Qd rfl (fun h2=>?_) (fun h2=>?_)
    · (repeat refine Qb ?_)
      (refine Qa fun k hk=>?_;simp -implicitDefEqProofs only[id,reduceCtorEq,reduceIte,Nat.reduceMul,Nat.reduceAdd,Nat.reduceLT,Nat.reduceLeDiff,Nat.reduceEqDiff,Int.reduceLT,Int.reduceBEq,Int.reduceBNe,Nat.reduceBEq,frS,qb22];refine hk _ ?_;clear hk k;try show Sat _ _ _ _ _);refine Sat.ret ?_;simp only[Qg,Qk,Tryz.results54,id,seval,frS,qb23];unfold cmpV;rw[if_neg h0,if_pos h2]
    · refine Sat.skip ?_
      simp only[Qg,Qk];(repeat refine Qb ?_);(refine Qa fun k hk=>?_;simp -implicitDefEqProofs only[id,reduceCtorEq,reduceIte,Nat.reduceMul,Nat.reduceAdd,Nat.reduceLT,Nat.reduceLeDiff,Nat.reduceEqDiff,Int.reduceLT,Int.reduceBEq,Int.reduceBNe,Nat.reduceBEq,frS,qb22];refine hk _ ?_;clear hk k;try show Sat _ _ _ _ _);refine Sat.ret ?_;simp only[Tryz.results54,id,seval,frS,qb23];unfold cmpV;rw[if_neg h0,if_neg (by simpa using h2)]
end Go.Proofs.YtabgkfjfmjdfiaaGreatDoor
