/- address.number at a short numeral. -/
import Derived.Test.YtceacooambpkdaaDoorCutE
set_option linter.unusedSimpArgs false
set_option linter.unusedVariables false
namespace Go.Proofs.YtceacooambpkdaaDoor
open Go.RowKit Eng

set_option maxRecDepth 100000 in
theorem numberC (F : Frm) (i m : Nat) (hi : i < 100) (him : i ≤ m) (hm : m < 1000) (hl : (⟨(Lib.decDigits i).toArray⟩ : ByteArray).size ≤ 18) (ha : Lib.atoi (Lib.decDigits i).toArray.toList = some (i : Int)) : Contract F Tryd.prog 48 [.v (.string ⟨(Lib.decDigits i).toArray⟩), .i .i64 m] (fun r => r = tupL [.i .i64 i, .b true]) := by
  refine contract_of Tryd.func48 rfl (by kernel_rfl) ?_
  simp only [Tryd.ntmps48, argEnv]
  (repeat refine Sat.seq ?_)
  (refine Sat.region_k fun k hk => ?_; simp -implicitDefEqProofs only [evr, id, reduceCtorEq, reduceIte, Nat.reduceMul, Nat.reduceAdd, Nat.reduceLT, Nat.reduceLeDiff, Nat.reduceEqDiff, Int.reduceLT, Int.reduceBEq, Int.reduceBNe, Nat.reduceBEq, List.append_nil, Int.toNat_zero, Nat.sub_self, Int.reduceNeg]; refine hk _ ?_; clear hk k; try show Sat _ _ _ _ _)
  (repeat refine Sat.seq ?_)
  (refine Sat.region_k fun k hk => ?_; simp -implicitDefEqProofs only [evr, id, reduceCtorEq, reduceIte, Nat.reduceMul, Nat.reduceAdd, Nat.reduceLT, Nat.reduceLeDiff, Nat.reduceEqDiff, Int.reduceLT, Int.reduceBEq, Int.reduceBNe, Nat.reduceBEq, List.append_nil, Int.toNat_zero, Nat.sub_self, Int.reduceNeg])
  refine wcall_slice (atoiC F _ i hl ha) rfl (by simp -implicitDefEqProofs only [evr, id, reduceCtorEq, reduceIte, Nat.reduceMul, Nat.reduceAdd, Nat.reduceLT, Nat.reduceLeDiff, Nat.reduceEqDiff, Int.reduceLT, Int.reduceBEq, Int.reduceBNe, Nat.reduceBEq, List.append_nil, Int.toNat_zero, Nat.sub_self, Int.reduceNeg]; try rfl) ?_
  rintro r rfl
  simp -implicitDefEqProofs only [evr, id, reduceCtorEq, reduceIte, Nat.reduceMul, Nat.reduceAdd, Nat.reduceLT, Nat.reduceLeDiff, Nat.reduceEqDiff, Int.reduceLT, Int.reduceBEq, Int.reduceBNe, Nat.reduceBEq, List.append_nil, Int.toNat_zero, Nat.sub_self, Int.reduceNeg]
  (refine hk _ ?_; clear hk k; try show Sat _ _ _ _ _)
  (repeat refine Sat.seq ?_)
  (refine Sat.region_k fun k hk => ?_; simp -implicitDefEqProofs only [evr, id, reduceCtorEq, reduceIte, Nat.reduceMul, Nat.reduceAdd, Nat.reduceLT, Nat.reduceLeDiff, Nat.reduceEqDiff, Int.reduceLT, Int.reduceBEq, Int.reduceBNe, Nat.reduceBEq, List.append_nil, Int.toNat_zero, Nat.sub_self, Int.reduceNeg])
  have e1 : ((i : Int) ≤ (m : Int)) = True := by simp; omega
  simp only [e1, true_implies, not_true_eq_false, false_implies, and_true]
  refine wcall_plain (itoaSmallC F i hi) rfl (by rintro _ rfl; exact ok_plain rfl) ?_
  rintro r rfl
  simp -implicitDefEqProofs only [evr, id, reduceCtorEq, reduceIte, Nat.reduceMul, Nat.reduceAdd, Nat.reduceLT, Nat.reduceLeDiff, Nat.reduceEqDiff, Int.reduceLT, Int.reduceBEq, Int.reduceBNe, Nat.reduceBEq, List.append_nil, Int.toNat_zero, Nat.sub_self, Int.reduceNeg]
  try simp only [beq_self_eq_true, e1, decide_true, evr, id, reduceCtorEq, reduceIte, Nat.reduceMul, Nat.reduceAdd, Nat.reduceLT, Nat.reduceLeDiff, Nat.reduceEqDiff, Int.reduceLT, Int.reduceBEq, Int.reduceBNe, Nat.reduceBEq, List.append_nil, Int.toNat_zero, Nat.sub_self, Int.reduceNeg]
  (refine hk _ ?_; clear hk k; try show Sat _ _ _ _ _)
  refine Sat.ret ?_
  simp only [Tryd.results48, evr, id, reduceCtorEq, reduceIte, Nat.reduceMul, Nat.reduceAdd, Nat.reduceLT, Nat.reduceLeDiff, Nat.reduceEqDiff, Int.reduceLT, Int.reduceBEq, Int.reduceBNe, Nat.reduceBEq, List.append_nil, Int.toNat_zero, Nat.sub_self, Int.reduceNeg]
  try simp only [beq_self_eq_true, e1, decide_true, evr, id, reduceCtorEq, reduceIte, Nat.reduceMul, Nat.reduceAdd, Nat.reduceLT, Nat.reduceLeDiff, Nat.reduceEqDiff, Int.reduceLT, Int.reduceBEq, Int.reduceBNe, Nat.reduceBEq, List.append_nil, Int.toNat_zero, Nat.sub_self, Int.reduceNeg]
end Go.Proofs.YtceacooambpkdaaDoor
