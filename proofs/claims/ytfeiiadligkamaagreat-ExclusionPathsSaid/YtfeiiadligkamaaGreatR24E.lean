import Derived.Test.YtfeiiadligkamaaGreatInsM

/- The reference of paths, by the evaluator: Valid, TraceOf, Identity, less, Compare. -/
set_option linter.unusedSimpArgs false
set_option linter.unusedVariables false
namespace Go.Proofs.YtfeiiadligkamaaGreat
open Go.Sort Eng
set_option maxRecDepth 100000 in
theorem validG (F : Frm) (x : Res) : Contract F Tryz.prog 90 [resAg x] (fun r => r = .b (validR x)) := by
 refine contract_of Tryz.func90 rfl (by kernel_rfl) ?_
 simp only [Tryz.ntmps90, argEnv, resAg, Res.cs]
 (repeat refine Sat.seq ?_)
 (refine Sat.region_k fun k hk => ?_; simp -implicitDefEqProofs only [evr, id, reduceCtorEq, reduceIte, Nat.reduceMul, Nat.reduceAdd, Nat.reduceLT, Nat.reduceLeDiff, Nat.reduceEqDiff, Int.reduceLT, Int.reduceBEq, Int.reduceBNe, Nat.reduceBEq, res_one, Int.reduceToNat, evn])
 intro blk1
 (refine hk _ ?_; clear hk k; try show Sat _ _ _ _ _)
 (repeat refine Sat.seq ?_)
 refine Sat.at ⟨22, [(2, .b (validR x))], []⟩ ?_ ?_
 ·(refine Sat.region_k fun k hk => ?_; simp -implicitDefEqProofs only [evr, id, reduceCtorEq, reduceIte, Nat.reduceMul, Nat.reduceAdd, Nat.reduceLT, Nat.reduceLeDiff, Nat.reduceEqDiff, Int.reduceLT, Int.reduceBEq, Int.reduceBNe, Nat.reduceBEq, res_one, Int.reduceToNat, evn])
  refine wcall_plain (checkG F x) rfl (by rintro _ rfl; exact ok_plain rfl) ?_
  rintro r rfl
  simp -implicitDefEqProofs only [evr, id, reduceCtorEq, reduceIte, Nat.reduceMul, Nat.reduceAdd, Nat.reduceLT, Nat.reduceLeDiff, Nat.reduceEqDiff, Int.reduceLT, Int.reduceBEq, Int.reduceBNe, Nat.reduceBEq, res_one, Int.reduceToNat, evn]
  refine ⟨fun h1 => ⟨fun h2 => ⟨fun h3 => hk _ ?_, fun h3 => hk _ ?_⟩, fun h2 => hk _ ?_⟩, fun h1 => hk _ ?_⟩
  ·have e : validR x = true := by simp only [validR, h1, h2, h3]; rfl
   simp only [thenK, e]
   simp -implicitDefEqProofs only [evr, id, reduceCtorEq, reduceIte, Nat.reduceMul, Nat.reduceAdd, Nat.reduceLT, Nat.reduceLeDiff, Nat.reduceEqDiff, Int.reduceLT, Int.reduceBEq, Int.reduceBNe, Nat.reduceBEq, res_one, Int.reduceToNat, evl, evn]
  ·have e : validR x = (x.from_ != 0) := by simp only [validR, h1, h2, h3]; rfl
   simp only [thenK, e]
   simp -implicitDefEqProofs only [evr, id, reduceCtorEq, reduceIte, Nat.reduceMul, Nat.reduceAdd, Nat.reduceLT, Nat.reduceLeDiff, Nat.reduceEqDiff, Int.reduceLT, Int.reduceBEq, Int.reduceBNe, Nat.reduceBEq, res_one, Int.reduceToNat, evl, evn]
  ·have e : validR x = false := by simp only [validR, h1, h2]; rfl
   simp only [thenK, e]
   simp -implicitDefEqProofs only [evr, id, reduceCtorEq, reduceIte, Nat.reduceMul, Nat.reduceAdd, Nat.reduceLT, Nat.reduceLeDiff, Nat.reduceEqDiff, Int.reduceLT, Int.reduceBEq, Int.reduceBNe, Nat.reduceBEq, res_one, Int.reduceToNat, evl, evn]
  ·have e : validR x = false := by simp only [validR, h1]; rfl
   simp only [thenK, e]
   simp -implicitDefEqProofs only [evr, id, reduceCtorEq, reduceIte, Nat.reduceMul, Nat.reduceAdd, Nat.reduceLT, Nat.reduceLeDiff, Nat.reduceEqDiff, Int.reduceLT, Int.reduceBEq, Int.reduceBNe, Nat.reduceBEq, res_one, Int.reduceToNat, evl, evn]
 simp only [thenK, blockK]
 refine Sat.ret ?_
 simp only [Tryz.results90, evr, id, reduceCtorEq, reduceIte, Nat.reduceMul, Nat.reduceAdd, Nat.reduceLT, Nat.reduceLeDiff, Nat.reduceEqDiff, Int.reduceLT, Int.reduceBEq, Int.reduceBNe, Nat.reduceBEq, res_one, List.append_nil, Int.toNat_zero, Nat.sub_self, Int.reduceToNat]
set_option maxRecDepth 100000 in
theorem traceOfG (F : Frm) (x : Res) : Contract F Tryz.prog 35 [resAg x] (fun r => r = trcAg x) := by
 refine contract_of Tryz.func35 rfl (by kernel_rfl) ?_
 simp only [Tryz.ntmps35, argEnv, resAg, Res.cs]
 (repeat refine Sat.seq ?_)
 (refine Sat.region_k fun k hk => ?_; simp -implicitDefEqProofs only [evr, id, reduceCtorEq, reduceIte, Nat.reduceMul, Nat.reduceAdd, Nat.reduceLT, Nat.reduceLeDiff, Nat.reduceEqDiff, Int.reduceLT, Int.reduceBEq, Int.reduceBNe, Nat.reduceBEq, res_one, Int.reduceToNat, evn])
 intro blk1 blk2
 (refine hk _ ?_; clear hk k; try show Sat _ _ _ _ _)
 (repeat refine Sat.seq ?_)
 (refine Sat.region_k fun k hk => ?_; simp -implicitDefEqProofs only [evr, id, reduceCtorEq, reduceIte, Nat.reduceMul, Nat.reduceAdd, Nat.reduceLT, Nat.reduceLeDiff, Nat.reduceEqDiff, Int.reduceLT, Int.reduceBEq, Int.reduceBNe, Nat.reduceBEq, res_one, Int.reduceToNat, evn]; refine hk _ ?_; clear hk k; try show Sat _ _ _ _ _)
 refine Sat.ret ?_
 simp only [Tryz.results35, evr, id, reduceCtorEq, reduceIte, Nat.reduceMul, Nat.reduceAdd, Nat.reduceLT, Nat.reduceLeDiff, Nat.reduceEqDiff, Int.reduceLT, Int.reduceBEq, Int.reduceBNe, Nat.reduceBEq, res_one, List.append_nil, Int.toNat_zero, Nat.sub_self, Int.reduceToNat]
 rfl
end Go.Proofs.YtfeiiadligkamaaGreat
