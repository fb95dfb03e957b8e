/- The program's check of a result, and of a ledger: journal.Check, slices.Equal, slices.EqualFunc, merge.same, merge.Check. -/
import Derived.Test.YthhofjkbmnklmaaChkE
import Derived.Test.YthhofjkbmnklmaaLedJ
import Derived.Test.YthhofjkbmnklmaaLedI
import Derived.Test.YthhofjkbmnklmaaUniM
set_option linter.unusedSimpArgs false
set_option linter.unusedVariables false
namespace Go.Proofs.Ythhofjkbmnklmaa
open Go.Sort Eng

def inR (n m : Int) : Bool := decide (0 ≤ n) && decide (n ≤ m)
theorem idOk_inR (v r : Int) : idOk v r = (inR v 15 && inR r 63) := by
  unfold idOk inR
  apply Bool.eq_iff_iff.2
  simp only [Bool.and_eq_true, decide_eq_true_eq]
  omega
theorem octOk_inR (n : Int) : octOk n = inR n 255 := rfl
theorem not_inR (n m : Int) : (!inR n m) = (decide (n < 0) || decide (m < n)) := by
  unfold inR
  apply Bool.eq_iff_iff.2
  simp only [Bool.or_eq_true, decide_eq_true_eq, Bool.not_eq_true', Bool.and_eq_false_iff, decide_eq_false_iff_not]
  omega
theorem badRange_inR (x : Res) : badRange x = (!idOk x.vantage x.run || (!inR x.number 999 || (!inR x.at_ 2251799813685248 || (!inR x.back 2251799813685248 || (decide (x.back < x.at_) || (!inR x.flow 1023 || (decide (x.ttl < 1) || decide (255 < x.ttl)))))))) := by
  unfold badRange
  simp only [not_inR]
  cases idOk x.vantage x.run with
  | false => rfl
  | true =>
    apply Bool.eq_iff_iff.2
    simp only [Bool.or_eq_true, decide_eq_true_eq, Bool.not_true, Bool.false_or]
    omega
theorem badAnswer_inR (x : Res) : badAnswer x = (x.answered && (decide (x.kind < 1) || (decide (5 < x.kind) || (!octOk x.code || (!octOk x.left || (!octOk x.quoted || !inR x.id 65535)))))) := by
  unfold badAnswer
  rw [not_inR]

set_option maxRecDepth 100000 in
theorem withinG (F : Frm) (n m : Int) : Contract F Try.prog 67 [.i .i64 n, .i .i64 m] (fun s => s = .b (inR n m)) := by
  refine contract_of Try.func67 rfl (by kernel_rfl) ?_
  simp only [Try.ntmps67, argEnv]
  (repeat refine Sat.seq ?_)
  (refine Sat.region_k fun k hk => ?_; simp -implicitDefEqProofs only [evr, id, reduceCtorEq, reduceIte, Nat.reduceMul, Nat.reduceAdd, Nat.reduceLT, Nat.reduceLeDiff, Nat.reduceEqDiff, Int.reduceLT, Int.reduceBEq, Int.reduceBNe, Nat.reduceBEq, res_one, res_ro, List.append_nil, Int.toNat_zero, Nat.sub_self, resRow, ansEqs, List.all_cons, List.all_nil, id_eq, res_eqr, cft_one, cft_0, cft_1, cft_2, cft_3]; refine hk _ ?_; clear hk k; try show Sat _ _ _ _ _)
  refine Sat.seq ?_
  refine Sat.region_at ⟨12, [(4, .b (inR n m))], []⟩ (fun k hk => ?_) ?_
  · simp -implicitDefEqProofs only [evr, id, reduceCtorEq, reduceIte, Nat.reduceMul, Nat.reduceAdd, Nat.reduceLT, Nat.reduceLeDiff, Nat.reduceEqDiff, Int.reduceLT, Int.reduceBEq, Int.reduceBNe, Nat.reduceBEq, res_one, res_ro, List.append_nil, Int.toNat_zero, Nat.sub_self, resRow, ansEqs, List.all_cons, List.all_nil, id_eq, res_eqr, cft_one, cft_0, cft_1, cft_2, cft_3]
    refine ⟨fun h1 => ?_, fun h1 => ?_⟩
    · refine hk _ ?_
      have e : inR n m = decide (n ≤ m) := by simp [inR, h1]
      simp only [e]
      simp -implicitDefEqProofs only [evr, id, reduceCtorEq, reduceIte, Nat.reduceMul, Nat.reduceAdd, Nat.reduceLT, Nat.reduceLeDiff, Nat.reduceEqDiff, Int.reduceLT, Int.reduceBEq, Int.reduceBNe, Nat.reduceBEq, res_one, res_ro, List.append_nil, Int.toNat_zero, Nat.sub_self, resRow, ansEqs, List.all_cons, List.all_nil, id_eq, res_eqr, cft_one, cft_0, cft_1, cft_2, cft_3, evl]
    · refine hk _ ?_
      have e : inR n m = false := by simp [inR, h1]
      simp only [e]
      simp -implicitDefEqProofs only [evr, id, reduceCtorEq, reduceIte, Nat.reduceMul, Nat.reduceAdd, Nat.reduceLT, Nat.reduceLeDiff, Nat.reduceEqDiff, Int.reduceLT, Int.reduceBEq, Int.reduceBNe, Nat.reduceBEq, res_one, res_ro, List.append_nil, Int.toNat_zero, Nat.sub_self, resRow, ansEqs, List.all_cons, List.all_nil, id_eq, res_eqr, cft_one, cft_0, cft_1, cft_2, cft_3, evl]
  simp only [thenK]
  refine Sat.ret ?_
  simp only [Try.results67, evr, id, reduceCtorEq, reduceIte, Nat.reduceMul, Nat.reduceAdd, Nat.reduceLT, Nat.reduceLeDiff, Nat.reduceEqDiff, Int.reduceLT, Int.reduceBEq, Int.reduceBNe, Nat.reduceBEq, res_one, res_ro, List.append_nil, Int.toNat_zero, Nat.sub_self, resRow, ansEqs, List.all_cons, List.all_nil, id_eq, res_eqr, cft_one, cft_0, cft_1, cft_2, cft_3]

set_option maxRecDepth 100000 in
theorem runG (F : Frm) (v r : Int) : Contract F Try.prog 66 [.i .i64 v, .i .i64 r] (fun s => s = .b (idOk v r)) := by
  refine contract_of Try.func66 rfl (by kernel_rfl) ?_
  simp only [Try.ntmps66, argEnv]
  (repeat refine Sat.seq ?_)
  (refine Sat.region_k fun k hk => ?_; simp -implicitDefEqProofs only [evr, id, reduceCtorEq, reduceIte, Nat.reduceMul, Nat.reduceAdd, Nat.reduceLT, Nat.reduceLeDiff, Nat.reduceEqDiff, Int.reduceLT, Int.reduceBEq, Int.reduceBNe, Nat.reduceBEq, res_one, res_ro, List.append_nil, Int.toNat_zero, Nat.sub_self, resRow, ansEqs, List.all_cons, List.all_nil, id_eq, res_eqr, cft_one, cft_0, cft_1, cft_2, cft_3]; refine hk _ ?_; clear hk k; try show Sat _ _ _ _ _)
  refine Sat.seq ?_
  refine Sat.region_at ⟨11, [(4, .b (idOk v r))], []⟩ (fun k hk => ?_) ?_
  · simp -implicitDefEqProofs only [evr, id, reduceCtorEq, reduceIte, Nat.reduceMul, Nat.reduceAdd, Nat.reduceLT, Nat.reduceLeDiff, Nat.reduceEqDiff, Int.reduceLT, Int.reduceBEq, Int.reduceBNe, Nat.reduceBEq, res_one, res_ro, List.append_nil, Int.toNat_zero, Nat.sub_self, resRow, ansEqs, List.all_cons, List.all_nil, id_eq, res_eqr, cft_one, cft_0, cft_1, cft_2, cft_3]
    refine wcall_plain (withinG F v 15) rfl (by rintro _ rfl; exact ok_plain rfl) ?_
    rintro s rfl
    simp -implicitDefEqProofs only [evr, id, reduceCtorEq, reduceIte, Nat.reduceMul, Nat.reduceAdd, Nat.reduceLT, Nat.reduceLeDiff, Nat.reduceEqDiff, Int.reduceLT, Int.reduceBEq, Int.reduceBNe, Nat.reduceBEq, res_one, res_ro, List.append_nil, Int.toNat_zero, Nat.sub_self, resRow, ansEqs, List.all_cons, List.all_nil, id_eq, res_eqr, cft_one, cft_0, cft_1, cft_2, cft_3]
    refine ⟨fun h1 => ?_, fun h1 => ?_⟩
    · refine wcall_plain (withinG F r 63) rfl (by rintro _ rfl; exact ok_plain rfl) ?_
      rintro s rfl
      simp -implicitDefEqProofs only [evr, id, reduceCtorEq, reduceIte, Nat.reduceMul, Nat.reduceAdd, Nat.reduceLT, Nat.reduceLeDiff, Nat.reduceEqDiff, Int.reduceLT, Int.reduceBEq, Int.reduceBNe, Nat.reduceBEq, res_one, res_ro, List.append_nil, Int.toNat_zero, Nat.sub_self, resRow, ansEqs, List.all_cons, List.all_nil, id_eq, res_eqr, cft_one, cft_0, cft_1, cft_2, cft_3]
      refine hk _ ?_
      have e : idOk v r = inR r 63 := by rw [idOk_inR, h1]; rfl
      simp only [e]
      simp -implicitDefEqProofs only [evr, id, reduceCtorEq, reduceIte, Nat.reduceMul, Nat.reduceAdd, Nat.reduceLT, Nat.reduceLeDiff, Nat.reduceEqDiff, Int.reduceLT, Int.reduceBEq, Int.reduceBNe, Nat.reduceBEq, res_one, res_ro, List.append_nil, Int.toNat_zero, Nat.sub_self, resRow, ansEqs, List.all_cons, List.all_nil, id_eq, res_eqr, cft_one, cft_0, cft_1, cft_2, cft_3, evl]
    · refine hk _ ?_
      have e : idOk v r = false := by rw [idOk_inR, h1]; rfl
      simp only [e]
      simp -implicitDefEqProofs only [evr, id, reduceCtorEq, reduceIte, Nat.reduceMul, Nat.reduceAdd, Nat.reduceLT, Nat.reduceLeDiff, Nat.reduceEqDiff, Int.reduceLT, Int.reduceBEq, Int.reduceBNe, Nat.reduceBEq, res_one, res_ro, List.append_nil, Int.toNat_zero, Nat.sub_self, resRow, ansEqs, List.all_cons, List.all_nil, id_eq, res_eqr, cft_one, cft_0, cft_1, cft_2, cft_3, evl]
  simp only [thenK]
  refine Sat.ret ?_
  simp only [Try.results66, evr, id, reduceCtorEq, reduceIte, Nat.reduceMul, Nat.reduceAdd, Nat.reduceLT, Nat.reduceLeDiff, Nat.reduceEqDiff, Int.reduceLT, Int.reduceBEq, Int.reduceBNe, Nat.reduceBEq, res_one, res_ro, List.append_nil, Int.toNat_zero, Nat.sub_self, resRow, ansEqs, List.all_cons, List.all_nil, id_eq, res_eqr, cft_one, cft_0, cft_1, cft_2, cft_3]

set_option maxRecDepth 100000 in
theorem jcheckG (F : Frm) (x : Res) : Contract F Try.prog 50 [resAg x] (fun s => s = .i .i64 (chk x)) := by
  refine contract_of Try.func50 rfl (by kernel_rfl) ?_
  simp only [Try.ntmps50, argEnv, resAg, Res.cs]
  (repeat refine Sat.seq ?_)
  (refine Sat.region_k fun k hk => ?_; simp -implicitDefEqProofs only [evr, id, reduceCtorEq, reduceIte, Nat.reduceMul, Nat.reduceAdd, Nat.reduceLT, Nat.reduceLeDiff, Nat.reduceEqDiff, Int.reduceLT, Int.reduceBEq, Int.reduceBNe, Nat.reduceBEq, res_one, res_ro, List.append_nil, Int.toNat_zero, Nat.sub_self, resRow, ansEqs, List.all_cons, List.all_nil, id_eq, res_eqr, cft_one, cft_0, cft_1, cft_2, cft_3])
  intro blk1
  (refine hk _ ?_; clear hk k; try show Sat _ _ _ _ _)
  (repeat refine Sat.seq ?_)
  (refine Sat.region_k fun k hk => ?_; simp -implicitDefEqProofs only [evr, id, reduceCtorEq, reduceIte, Nat.reduceMul, Nat.reduceAdd, Nat.reduceLT, Nat.reduceLeDiff, Nat.reduceEqDiff, Int.reduceLT, Int.reduceBEq, Int.reduceBNe, Nat.reduceBEq, res_one, res_ro, List.append_nil, Int.toNat_zero, Nat.sub_self, resRow, ansEqs, List.all_cons, List.all_nil, id_eq, res_eqr, cft_one, cft_0, cft_1, cft_2, cft_3])
  intro blk3
  (refine hk _ ?_; clear hk k; try show Sat _ _ _ _ _)
  (repeat refine Sat.seq ?_)
  refine Sat.block ?_
  refine Sat.seq_at ⟨109, [(6, .b (badRange x)), (1, .op 0 blk1 0), (3, .op 1 blk3 0), (2, .i .i64 0)], [.box blk1 39 (Res.cs x), .box blk3 37 ((Res.cs x).drop 11)]⟩ ?_ ?_
  · (repeat refine Sat.seq ?_)
    (refine Sat.region_k fun k hk => ?_; simp -implicitDefEqProofs only [evr, id, reduceCtorEq, reduceIte, Nat.reduceMul, Nat.reduceAdd, Nat.reduceLT, Nat.reduceLeDiff, Nat.reduceEqDiff, Int.reduceLT, Int.reduceBEq, Int.reduceBNe, Nat.reduceBEq, res_one, res_ro, List.append_nil, Int.toNat_zero, Nat.sub_self, resRow, ansEqs, List.all_cons, List.all_nil, id_eq, res_eqr, cft_one, cft_0, cft_1, cft_2, cft_3])
    refine wcall_plain (runG F x.vantage x.run) rfl (by rintro _ rfl; exact ok_plain rfl) ?_
    rintro r rfl
    simp -implicitDefEqProofs only [evr, id, reduceCtorEq, reduceIte, Nat.reduceMul, Nat.reduceAdd, Nat.reduceLT, Nat.reduceLeDiff, Nat.reduceEqDiff, Int.reduceLT, Int.reduceBEq, Int.reduceBNe, Nat.reduceBEq, res_one, res_ro, List.append_nil, Int.toNat_zero, Nat.sub_self, resRow, ansEqs, List.all_cons, List.all_nil, id_eq, res_eqr, cft_one, cft_0, cft_1, cft_2, cft_3]
    (refine hk _ ?_; clear hk k; try show Sat _ _ _ _ _)
    refine Sat.cond_b rfl (fun h1 => ?_) (fun h1 => ?_)
    · refine Sat.skip ?_
      simp only [thenK]
      have e : badRange x = (!idOk x.vantage x.run) := by rw [badRange_inR]; simp only [h1, Bool.true_or, Bool.false_or]
      simp only [e]
      simp -implicitDefEqProofs only [evr, id, reduceCtorEq, reduceIte, Nat.reduceMul, Nat.reduceAdd, Nat.reduceLT, Nat.reduceLeDiff, Nat.reduceEqDiff, Int.reduceLT, Int.reduceBEq, Int.reduceBNe, Nat.reduceBEq, res_one, res_ro, List.append_nil, Int.toNat_zero, Nat.sub_self, resRow, ansEqs, List.all_cons, List.all_nil, id_eq, res_eqr, cft_one, cft_0, cft_1, cft_2, cft_3, evl]
      exact ⟨rfl, rfl⟩
    (repeat refine Sat.seq ?_)
    (refine Sat.region_k fun k hk => ?_; simp -implicitDefEqProofs only [evr, id, reduceCtorEq, reduceIte, Nat.reduceMul, Nat.reduceAdd, Nat.reduceLT, Nat.reduceLeDiff, Nat.reduceEqDiff, Int.reduceLT, Int.reduceBEq, Int.reduceBNe, Nat.reduceBEq, res_one, res_ro, List.append_nil, Int.toNat_zero, Nat.sub_self, resRow, ansEqs, List.all_cons, List.all_nil, id_eq, res_eqr, cft_one, cft_0, cft_1, cft_2, cft_3])
    refine wcall_plain (withinG F x.number 999) rfl (by rintro _ rfl; exact ok_plain rfl) ?_
    rintro r rfl
    simp -implicitDefEqProofs only [evr, id, reduceCtorEq, reduceIte, Nat.reduceMul, Nat.reduceAdd, Nat.reduceLT, Nat.reduceLeDiff, Nat.reduceEqDiff, Int.reduceLT, Int.reduceBEq, Int.reduceBNe, Nat.reduceBEq, res_one, res_ro, List.append_nil, Int.toNat_zero, Nat.sub_self, resRow, ansEqs, List.all_cons, List.all_nil, id_eq, res_eqr, cft_one, cft_0, cft_1, cft_2, cft_3]
    (refine hk _ ?_; clear hk k; try show Sat _ _ _ _ _)
    refine Sat.cond_b rfl (fun h2 => ?_) (fun h2 => ?_)
    · refine Sat.skip ?_
      simp only [thenK]
      have e : badRange x = (!inR x.number 999) := by rw [badRange_inR]; simp only [h1, h2, Bool.true_or, Bool.false_or]
      simp only [e]
      simp -implicitDefEqProofs only [evr, id, reduceCtorEq, reduceIte, Nat.reduceMul, Nat.reduceAdd, Nat.reduceLT, Nat.reduceLeDiff, Nat.reduceEqDiff, Int.reduceLT, Int.reduceBEq, Int.reduceBNe, Nat.reduceBEq, res_one, res_ro, List.append_nil, Int.toNat_zero, Nat.sub_self, resRow, ansEqs, List.all_cons, List.all_nil, id_eq, res_eqr, cft_one, cft_0, cft_1, cft_2, cft_3, evl]
      exact ⟨rfl, rfl⟩
    (repeat refine Sat.seq ?_)
    (refine Sat.region_k fun k hk => ?_; simp -implicitDefEqProofs only [evr, id, reduceCtorEq, reduceIte, Nat.reduceMul, Nat.reduceAdd, Nat.reduceLT, Nat.reduceLeDiff, Nat.reduceEqDiff, Int.reduceLT, Int.reduceBEq, Int.reduceBNe, Nat.reduceBEq, res_one, res_ro, List.append_nil, Int.toNat_zero, Nat.sub_self, resRow, ansEqs, List.all_cons, List.all_nil, id_eq, res_eqr, cft_one, cft_0, cft_1, cft_2, cft_3])
    refine wcall_plain (withinG F x.at_ 2251799813685248) rfl (by rintro _ rfl; exact ok_plain rfl) ?_
    rintro r rfl
    simp -implicitDefEqProofs only [evr, id, reduceCtorEq, reduceIte, Nat.reduceMul, Nat.reduceAdd, Nat.reduceLT, Nat.reduceLeDiff, Nat.reduceEqDiff, Int.reduceLT, Int.reduceBEq, Int.reduceBNe, Nat.reduceBEq, res_one, res_ro, List.append_nil, Int.toNat_zero, Nat.sub_self, resRow, ansEqs, List.all_cons, List.all_nil, id_eq, res_eqr, cft_one, cft_0, cft_1, cft_2, cft_3]
    (refine hk _ ?_; clear hk k; try show Sat _ _ _ _ _)
    refine Sat.cond_b rfl (fun h3 => ?_) (fun h3 => ?_)
    · refine Sat.skip ?_
      simp only [thenK]
      have e : badRange x = (!inR x.at_ 2251799813685248) := by rw [badRange_inR]; simp only [h1, h2, h3, Bool.true_or, Bool.false_or]
      simp only [e]
      simp -implicitDefEqProofs only [evr, id, reduceCtorEq, reduceIte, Nat.reduceMul, Nat.reduceAdd, Nat.reduceLT, Nat.reduceLeDiff, Nat.reduceEqDiff, Int.reduceLT, Int.reduceBEq, Int.reduceBNe, Nat.reduceBEq, res_one, res_ro, List.append_nil, Int.toNat_zero, Nat.sub_self, resRow, ansEqs, List.all_cons, List.all_nil, id_eq, res_eqr, cft_one, cft_0, cft_1, cft_2, cft_3, evl]
      exact ⟨rfl, rfl⟩
    (repeat refine Sat.seq ?_)
    (refine Sat.region_k fun k hk => ?_; simp -implicitDefEqProofs only [evr, id, reduceCtorEq, reduceIte, Nat.reduceMul, Nat.reduceAdd, Nat.reduceLT, Nat.reduceLeDiff, Nat.reduceEqDiff, Int.reduceLT, Int.reduceBEq, Int.reduceBNe, Nat.reduceBEq, res_one, res_ro, List.append_nil, Int.toNat_zero, Nat.sub_self, resRow, ansEqs, List.all_cons, List.all_nil, id_eq, res_eqr, cft_one, cft_0, cft_1, cft_2, cft_3])
    refine wcall_plain (withinG F x.back 2251799813685248) rfl (by rintro _ rfl; exact ok_plain rfl) ?_
    rintro r rfl
    simp -implicitDefEqProofs only [evr, id, reduceCtorEq, reduceIte, Nat.reduceMul, Nat.reduceAdd, Nat.reduceLT, Nat.reduceLeDiff, Nat.reduceEqDiff, Int.reduceLT, Int.reduceBEq, Int.reduceBNe, Nat.reduceBEq, res_one, res_ro, List.append_nil, Int.toNat_zero, Nat.sub_self, resRow, ansEqs, List.all_cons, List.all_nil, id_eq, res_eqr, cft_one, cft_0, cft_1, cft_2, cft_3]
    (refine hk _ ?_; clear hk k; try show Sat _ _ _ _ _)
    refine Sat.cond_b rfl (fun h4 => ?_) (fun h4 => ?_)
    · refine Sat.skip ?_
      simp only [thenK]
      have e : badRange x = (!inR x.back 2251799813685248) := by rw [badRange_inR]; simp only [h1, h2, h3, h4, Bool.true_or, Bool.false_or]
      simp only [e]
      simp -implicitDefEqProofs only [evr, id, reduceCtorEq, reduceIte, Nat.reduceMul, Nat.reduceAdd, Nat.reduceLT, Nat.reduceLeDiff, Nat.reduceEqDiff, Int.reduceLT, Int.reduceBEq, Int.reduceBNe, Nat.reduceBEq, res_one, res_ro, List.append_nil, Int.toNat_zero, Nat.sub_self, resRow, ansEqs, List.all_cons, List.all_nil, id_eq, res_eqr, cft_one, cft_0, cft_1, cft_2, cft_3, evl]
      exact ⟨rfl, rfl⟩
    (repeat refine Sat.seq ?_)
    (refine Sat.region_k fun k hk => ?_; simp -implicitDefEqProofs only [evr, id, reduceCtorEq, reduceIte, Nat.reduceMul, Nat.reduceAdd, Nat.reduceLT, Nat.reduceLeDiff, Nat.reduceEqDiff, Int.reduceLT, Int.reduceBEq, Int.reduceBNe, Nat.reduceBEq, res_one, res_ro, List.append_nil, Int.toNat_zero, Nat.sub_self, resRow, ansEqs, List.all_cons, List.all_nil, id_eq, res_eqr, cft_one, cft_0, cft_1, cft_2, cft_3])
    (refine hk _ ?_; clear hk k; try show Sat _ _ _ _ _)
    refine Sat.cond_b rfl (fun h5 => ?_) (fun h5 => ?_)
    · refine Sat.skip ?_
      simp only [thenK]
      have e : badRange x = (decide (x.back < x.at_)) := by rw [badRange_inR]; simp only [h1, h2, h3, h4, h5, Bool.true_or, Bool.false_or]
      simp only [e]
      simp -implicitDefEqProofs only [evr, id, reduceCtorEq, reduceIte, Nat.reduceMul, Nat.reduceAdd, Nat.reduceLT, Nat.reduceLeDiff, Nat.reduceEqDiff, Int.reduceLT, Int.reduceBEq, Int.reduceBNe, Nat.reduceBEq, res_one, res_ro, List.append_nil, Int.toNat_zero, Nat.sub_self, resRow, ansEqs, List.all_cons, List.all_nil, id_eq, res_eqr, cft_one, cft_0, cft_1, cft_2, cft_3, evl]
      exact ⟨rfl, rfl⟩
    (repeat refine Sat.seq ?_)
    (refine Sat.region_k fun k hk => ?_; simp -implicitDefEqProofs only [evr, id, reduceCtorEq, reduceIte, Nat.reduceMul, Nat.reduceAdd, Nat.reduceLT, Nat.reduceLeDiff, Nat.reduceEqDiff, Int.reduceLT, Int.reduceBEq, Int.reduceBNe, Nat.reduceBEq, res_one, res_ro, List.append_nil, Int.toNat_zero, Nat.sub_self, resRow, ansEqs, List.all_cons, List.all_nil, id_eq, res_eqr, cft_one, cft_0, cft_1, cft_2, cft_3])
    refine wcall_plain (withinG F x.flow 1023) rfl (by rintro _ rfl; exact ok_plain rfl) ?_
    rintro r rfl
    simp -implicitDefEqProofs only [evr, id, reduceCtorEq, reduceIte, Nat.reduceMul, Nat.reduceAdd, Nat.reduceLT, Nat.reduceLeDiff, Nat.reduceEqDiff, Int.reduceLT, Int.reduceBEq, Int.reduceBNe, Nat.reduceBEq, res_one, res_ro, List.append_nil, Int.toNat_zero, Nat.sub_self, resRow, ansEqs, List.all_cons, List.all_nil, id_eq, res_eqr, cft_one, cft_0, cft_1, cft_2, cft_3]
    (refine hk _ ?_; clear hk k; try show Sat _ _ _ _ _)
    refine Sat.cond_b rfl (fun h6 => ?_) (fun h6 => ?_)
    · refine Sat.skip ?_
      simp only [thenK]
      have e : badRange x = (!inR x.flow 1023) := by rw [badRange_inR]; simp only [h1, h2, h3, h4, h5, h6, Bool.true_or, Bool.false_or]
      simp only [e]
      simp -implicitDefEqProofs only [evr, id, reduceCtorEq, reduceIte, Nat.reduceMul, Nat.reduceAdd, Nat.reduceLT, Nat.reduceLeDiff, Nat.reduceEqDiff, Int.reduceLT, Int.reduceBEq, Int.reduceBNe, Nat.reduceBEq, res_one, res_ro, List.append_nil, Int.toNat_zero, Nat.sub_self, resRow, ansEqs, List.all_cons, List.all_nil, id_eq, res_eqr, cft_one, cft_0, cft_1, cft_2, cft_3, evl]
      exact ⟨rfl, rfl⟩
    refine Sat.region_k fun k hk => ?_
    simp -implicitDefEqProofs only [evr, id, reduceCtorEq, reduceIte, Nat.reduceMul, Nat.reduceAdd, Nat.reduceLT, Nat.reduceLeDiff, Nat.reduceEqDiff, Int.reduceLT, Int.reduceBEq, Int.reduceBNe, Nat.reduceBEq, res_one, res_ro, List.append_nil, Int.toNat_zero, Nat.sub_self, resRow, ansEqs, List.all_cons, List.all_nil, id_eq, res_eqr, cft_one, cft_0, cft_1, cft_2, cft_3]
    refine ⟨fun h7 => ?_, fun h7 => ?_⟩
    · refine hk _ ?_
      simp only [thenK]
      have e : badRange x = true := by rw [badRange_inR, decide_eq_true h7]; simp only [Bool.true_or, Bool.or_true]
      simp only [e]
      simp -implicitDefEqProofs only [evr, id, reduceCtorEq, reduceIte, Nat.reduceMul, Nat.reduceAdd, Nat.reduceLT, Nat.reduceLeDiff, Nat.reduceEqDiff, Int.reduceLT, Int.reduceBEq, Int.reduceBNe, Nat.reduceBEq, res_one, res_ro, List.append_nil, Int.toNat_zero, Nat.sub_self, resRow, ansEqs, List.all_cons, List.all_nil, id_eq, res_eqr, cft_one, cft_0, cft_1, cft_2, cft_3, evl]
      exact ⟨rfl, rfl⟩
    · refine hk _ ?_
      simp only [thenK]
      have e : badRange x = decide (255 < x.ttl) := by rw [badRange_inR, decide_eq_false h7]; simp only [h1, h2, h3, h4, h5, h6, Bool.false_or]
      simp only [e]
      simp -implicitDefEqProofs only [evr, id, reduceCtorEq, reduceIte, Nat.reduceMul, Nat.reduceAdd, Nat.reduceLT, Nat.reduceLeDiff, Nat.reduceEqDiff, Int.reduceLT, Int.reduceBEq, Int.reduceBNe, Nat.reduceBEq, res_one, res_ro, List.append_nil, Int.toNat_zero, Nat.sub_self, resRow, ansEqs, List.all_cons, List.all_nil, id_eq, res_eqr, cft_one, cft_0, cft_1, cft_2, cft_3, evl]
      exact ⟨rfl, rfl⟩
  simp only [Res.cs, List.drop_succ_cons, List.drop_zero]
  refine Sat.cond_b rfl (fun g1 => ?_) (fun g1 => ?_)
  · (repeat refine Sat.seq ?_)
    (refine Sat.region_k fun k hk => ?_; simp -implicitDefEqProofs only [evr, id, reduceCtorEq, reduceIte, Nat.reduceMul, Nat.reduceAdd, Nat.reduceLT, Nat.reduceLeDiff, Nat.reduceEqDiff, Int.reduceLT, Int.reduceBEq, Int.reduceBNe, Nat.reduceBEq, res_one, res_ro, List.append_nil, Int.toNat_zero, Nat.sub_self, resRow, ansEqs, List.all_cons, List.all_nil, id_eq, res_eqr, cft_one, cft_0, cft_1, cft_2, cft_3]; refine hk _ ?_; clear hk k; try show Sat _ _ _ _ _)
    refine Sat.ret ?_
    simp only [blockK, thenK, Try.results50, evr, id, reduceCtorEq, reduceIte, Nat.reduceMul, Nat.reduceAdd, Nat.reduceLT, Nat.reduceLeDiff, Nat.reduceEqDiff, Int.reduceLT, Int.reduceBEq, Int.reduceBNe, Nat.reduceBEq, res_one, res_ro, List.append_nil, Int.toNat_zero, Nat.sub_self, resRow, ansEqs, List.all_cons, List.all_nil, id_eq, res_eqr, cft_one, cft_0, cft_1, cft_2, cft_3]
    simp only [chk, g1, if_true]
  (repeat refine Sat.seq ?_)
  refine Sat.region_at ⟨109, [(42, .b (badProto x)), (1, .op 0 blk1 0), (3, .op 1 blk3 0), (2, .i .i64 0)], [.box blk1 39 (Res.cs x), .box blk3 37 ((Res.cs x).drop 11)]⟩ (fun k hk => ?_) ?_
  · simp -implicitDefEqProofs only [evr, id, reduceCtorEq, reduceIte, Nat.reduceMul, Nat.reduceAdd, Nat.reduceLT, Nat.reduceLeDiff, Nat.reduceEqDiff, Int.reduceLT, Int.reduceBEq, Int.reduceBNe, Nat.reduceBEq, res_one, res_ro, List.append_nil, Int.toNat_zero, Nat.sub_self, resRow, ansEqs, List.all_cons, List.all_nil, id_eq, res_eqr, cft_one, cft_0, cft_1, cft_2, cft_3, Res.cs]
    refine ⟨fun h1 => ⟨fun h2 => ?_, fun h2 => ?_⟩, fun h1 => ?_⟩
    · refine hk _ ?_
      have e : badProto x = (x.proto != 17) := by simp only [badProto, h1, h2, Bool.true_and]
      simp only [e]
      simp -implicitDefEqProofs only [evr, id, reduceCtorEq, reduceIte, Nat.reduceMul, Nat.reduceAdd, Nat.reduceLT, Nat.reduceLeDiff, Nat.reduceEqDiff, Int.reduceLT, Int.reduceBEq, Int.reduceBNe, Nat.reduceBEq, res_one, res_ro, List.append_nil, Int.toNat_zero, Nat.sub_self, resRow, ansEqs, List.all_cons, List.all_nil, id_eq, res_eqr, cft_one, cft_0, cft_1, cft_2, cft_3, evl]
      exact ⟨rfl, rfl⟩
    · refine hk _ ?_
      have e : badProto x = false := by simp only [badProto, h1, h2, Bool.true_and, Bool.false_and]
      simp only [e]
      simp -implicitDefEqProofs only [evr, id, reduceCtorEq, reduceIte, Nat.reduceMul, Nat.reduceAdd, Nat.reduceLT, Nat.reduceLeDiff, Nat.reduceEqDiff, Int.reduceLT, Int.reduceBEq, Int.reduceBNe, Nat.reduceBEq, res_one, res_ro, List.append_nil, Int.toNat_zero, Nat.sub_self, resRow, ansEqs, List.all_cons, List.all_nil, id_eq, res_eqr, cft_one, cft_0, cft_1, cft_2, cft_3, evl]
      exact ⟨rfl, rfl⟩
    · refine hk _ ?_
      have e : badProto x = false := by simp only [badProto, h1, Bool.false_and]
      simp only [e]
      simp -implicitDefEqProofs only [evr, id, reduceCtorEq, reduceIte, Nat.reduceMul, Nat.reduceAdd, Nat.reduceLT, Nat.reduceLeDiff, Nat.reduceEqDiff, Int.reduceLT, Int.reduceBEq, Int.reduceBNe, Nat.reduceBEq, res_one, res_ro, List.append_nil, Int.toNat_zero, Nat.sub_self, resRow, ansEqs, List.all_cons, List.all_nil, id_eq, res_eqr, cft_one, cft_0, cft_1, cft_2, cft_3, evl]
      exact ⟨rfl, rfl⟩
  simp only [thenK, Res.cs, List.drop_succ_cons, List.drop_zero]
  refine Sat.cond_b rfl (fun g2 => ?_) (fun g2 => ?_)
  · (repeat refine Sat.seq ?_)
    (refine Sat.region_k fun k hk => ?_; simp -implicitDefEqProofs only [evr, id, reduceCtorEq, reduceIte, Nat.reduceMul, Nat.reduceAdd, Nat.reduceLT, Nat.reduceLeDiff, Nat.reduceEqDiff, Int.reduceLT, Int.reduceBEq, Int.reduceBNe, Nat.reduceBEq, res_one, res_ro, List.append_nil, Int.toNat_zero, Nat.sub_self, resRow, ansEqs, List.all_cons, List.all_nil, id_eq, res_eqr, cft_one, cft_0, cft_1, cft_2, cft_3]; refine hk _ ?_; clear hk k; try show Sat _ _ _ _ _)
    refine Sat.ret ?_
    simp only [blockK, thenK, Try.results50, evr, id, reduceCtorEq, reduceIte, Nat.reduceMul, Nat.reduceAdd, Nat.reduceLT, Nat.reduceLeDiff, Nat.reduceEqDiff, Int.reduceLT, Int.reduceBEq, Int.reduceBNe, Nat.reduceBEq, res_one, res_ro, List.append_nil, Int.toNat_zero, Nat.sub_self, resRow, ansEqs, List.all_cons, List.all_nil, id_eq, res_eqr, cft_one, cft_0, cft_1, cft_2, cft_3]
    simp [chk, g1, g2]
  refine Sat.seq_at ⟨109, [(56, .b (badState x)), (1, .op 0 blk1 0), (3, .op 1 blk3 0), (2, .i .i64 0)], [.box blk1 39 (Res.cs x), .box blk3 37 ((Res.cs x).drop 11)]⟩ ?_ ?_
  · (repeat refine Sat.seq ?_)
    (refine Sat.region_k fun k hk => ?_; simp -implicitDefEqProofs only [evr, id, reduceCtorEq, reduceIte, Nat.reduceMul, Nat.reduceAdd, Nat.reduceLT, Nat.reduceLeDiff, Nat.reduceEqDiff, Int.reduceLT, Int.reduceBEq, Int.reduceBNe, Nat.reduceBEq, res_one, res_ro, List.append_nil, Int.toNat_zero, Nat.sub_self, resRow, ansEqs, List.all_cons, List.all_nil, id_eq, res_eqr, cft_one, cft_0, cft_1, cft_2, cft_3])
    refine ⟨fun h1 => ?_, fun h1 => ?_⟩
    · (refine hk _ ?_; clear hk k; try show Sat _ _ _ _ _)
      refine Sat.cond_b rfl (fun h2 => ?_) (fun h2 => ?_)
      · refine Sat.skip ?_
        simp only [thenK]
        have h2' : x.answered = false := by simpa using h2
        have e : badState x = (!x.answered) := by simp [badState, h2', h1]
        simp only [e]
        simp -implicitDefEqProofs only [evr, id, reduceCtorEq, reduceIte, Nat.reduceMul, Nat.reduceAdd, Nat.reduceLT, Nat.reduceLeDiff, Nat.reduceEqDiff, Int.reduceLT, Int.reduceBEq, Int.reduceBNe, Nat.reduceBEq, res_one, res_ro, List.append_nil, Int.toNat_zero, Nat.sub_self, resRow, ansEqs, List.all_cons, List.all_nil, id_eq, res_eqr, cft_one, cft_0, cft_1, cft_2, cft_3, evl]
        exact ⟨rfl, rfl⟩
      · have h2' : x.answered = true := by simpa using h2
        refine Sat.region_k fun k hk => ?_
        simp -implicitDefEqProofs only [evr, id, reduceCtorEq, reduceIte, Nat.reduceMul, Nat.reduceAdd, Nat.reduceLT, Nat.reduceLeDiff, Nat.reduceEqDiff, Int.reduceLT, Int.reduceBEq, Int.reduceBNe, Nat.reduceBEq, res_one, res_ro, List.append_nil, Int.toNat_zero, Nat.sub_self, resRow, ansEqs, List.all_cons, List.all_nil, id_eq, res_eqr, cft_one, cft_0, cft_1, cft_2, cft_3]
        refine ⟨fun h3 => absurd h3 (by simp [h2']), fun _ => ?_⟩
        refine hk _ ?_
        simp only [thenK]
        have e : badState x = false := by simp [badState, h2']
        simp only [e]
        simp -implicitDefEqProofs only [evr, id, reduceCtorEq, reduceIte, Nat.reduceMul, Nat.reduceAdd, Nat.reduceLT, Nat.reduceLeDiff, Nat.reduceEqDiff, Int.reduceLT, Int.reduceBEq, Int.reduceBNe, Nat.reduceBEq, res_one, res_ro, List.append_nil, Int.toNat_zero, Nat.sub_self, resRow, ansEqs, List.all_cons, List.all_nil, id_eq, res_eqr, cft_one, cft_0, cft_1, cft_2, cft_3, evl]
        exact ⟨rfl, rfl⟩
    · (refine hk _ ?_; clear hk k; try show Sat _ _ _ _ _)
      refine Sat.cond_ff rfl ?_
      refine Sat.region_k fun k hk => ?_
      simp -implicitDefEqProofs only [evr, id, reduceCtorEq, reduceIte, Nat.reduceMul, Nat.reduceAdd, Nat.reduceLT, Nat.reduceLeDiff, Nat.reduceEqDiff, Int.reduceLT, Int.reduceBEq, Int.reduceBNe, Nat.reduceBEq, res_one, res_ro, List.append_nil, Int.toNat_zero, Nat.sub_self, resRow, ansEqs, List.all_cons, List.all_nil, id_eq, res_eqr, cft_one, cft_0, cft_1, cft_2, cft_3]
      refine ⟨fun h3 => ?_, fun h3 => ?_⟩
      · have h3' : x.answered = false := by simpa using h3
        refine hk _ ?_
        simp only [thenK]
        have e : badState x = !(x.from_ == 0 && (x.kind == 0 && (x.code == 0 && (x.left == 0 && (x.id == 0 && x.quoted == 0))))) := by unfold badState; rw [h3', h1]; rfl
        simp only [e]
        simp -implicitDefEqProofs only [evr, id, reduceCtorEq, reduceIte, Nat.reduceMul, Nat.reduceAdd, Nat.reduceLT, Nat.reduceLeDiff, Nat.reduceEqDiff, Int.reduceLT, Int.reduceBEq, Int.reduceBNe, Nat.reduceBEq, res_one, res_ro, List.append_nil, Int.toNat_zero, Nat.sub_self, resRow, ansEqs, List.all_cons, List.all_nil, id_eq, res_eqr, cft_one, cft_0, cft_1, cft_2, cft_3, evl]
        exact ⟨rfl, rfl⟩
      · have h3' : x.answered = true := by simpa using h3
        refine hk _ ?_
        simp only [thenK]
        have e : badState x = false := by simp [badState, h3']
        simp only [e]
        simp -implicitDefEqProofs only [evr, id, reduceCtorEq, reduceIte, Nat.reduceMul, Nat.reduceAdd, Nat.reduceLT, Nat.reduceLeDiff, Nat.reduceEqDiff, Int.reduceLT, Int.reduceBEq, Int.reduceBNe, Nat.reduceBEq, res_one, res_ro, List.append_nil, Int.toNat_zero, Nat.sub_self, resRow, ansEqs, List.all_cons, List.all_nil, id_eq, res_eqr, cft_one, cft_0, cft_1, cft_2, cft_3, evl]
        exact ⟨rfl, rfl⟩
  simp only [Res.cs, List.drop_succ_cons, List.drop_zero]
  refine Sat.cond_b rfl (fun g3 => ?_) (fun g3 => ?_)
  · (repeat refine Sat.seq ?_)
    (refine Sat.region_k fun k hk => ?_; simp -implicitDefEqProofs only [evr, id, reduceCtorEq, reduceIte, Nat.reduceMul, Nat.reduceAdd, Nat.reduceLT, Nat.reduceLeDiff, Nat.reduceEqDiff, Int.reduceLT, Int.reduceBEq, Int.reduceBNe, Nat.reduceBEq, res_one, res_ro, List.append_nil, Int.toNat_zero, Nat.sub_self, resRow, ansEqs, List.all_cons, List.all_nil, id_eq, res_eqr, cft_one, cft_0, cft_1, cft_2, cft_3]; refine hk _ ?_; clear hk k; try show Sat _ _ _ _ _)
    refine Sat.ret ?_
    simp only [blockK, thenK, Try.results50, evr, id, reduceCtorEq, reduceIte, Nat.reduceMul, Nat.reduceAdd, Nat.reduceLT, Nat.reduceLeDiff, Nat.reduceEqDiff, Int.reduceLT, Int.reduceBEq, Int.reduceBNe, Nat.reduceBEq, res_one, res_ro, List.append_nil, Int.toNat_zero, Nat.sub_self, resRow, ansEqs, List.all_cons, List.all_nil, id_eq, res_eqr, cft_one, cft_0, cft_1, cft_2, cft_3]
    simp [chk, g1, g2, g3]
  (repeat refine Sat.seq ?_)
  refine Sat.region_at ⟨109, [(72, .b (badAnswer x)), (2, .i .i64 0)], []⟩ (fun k hk => ?_) ?_
  · simp -implicitDefEqProofs only [evr, id, reduceCtorEq, reduceIte, Nat.reduceMul, Nat.reduceAdd, Nat.reduceLT, Nat.reduceLeDiff, Nat.reduceEqDiff, Int.reduceLT, Int.reduceBEq, Int.reduceBNe, Nat.reduceBEq, res_one, res_ro, List.append_nil, Int.toNat_zero, Nat.sub_self, resRow, ansEqs, List.all_cons, List.all_nil, id_eq, res_eqr, cft_one, cft_0, cft_1, cft_2, cft_3, Res.cs]
    refine ⟨fun h0 => ?_, fun h0 => ?_⟩
    rotate_left
    · refine hk _ ?_
      have e : badAnswer x = false := by simp [badAnswer, h0]
      simp only [e]
      simp -implicitDefEqProofs only [evr, id, reduceCtorEq, reduceIte, Nat.reduceMul, Nat.reduceAdd, Nat.reduceLT, Nat.reduceLeDiff, Nat.reduceEqDiff, Int.reduceLT, Int.reduceBEq, Int.reduceBNe, Nat.reduceBEq, res_one, res_ro, List.append_nil, Int.toNat_zero, Nat.sub_self, resRow, ansEqs, List.all_cons, List.all_nil, id_eq, res_eqr, cft_one, cft_0, cft_1, cft_2, cft_3, evl]
    refine ⟨fun h1 => ?_, fun h1 => ?_⟩
    · refine hk _ ?_
      have e : badAnswer x = true := by simp [badAnswer, h0, h1]
      simp only [e]
      simp -implicitDefEqProofs only [evr, id, reduceCtorEq, reduceIte, Nat.reduceMul, Nat.reduceAdd, Nat.reduceLT, Nat.reduceLeDiff, Nat.reduceEqDiff, Int.reduceLT, Int.reduceBEq, Int.reduceBNe, Nat.reduceBEq, res_one, res_ro, List.append_nil, Int.toNat_zero, Nat.sub_self, resRow, ansEqs, List.all_cons, List.all_nil, id_eq, res_eqr, cft_one, cft_0, cft_1, cft_2, cft_3, evl]
    refine ⟨fun h2 => ?_, fun h2 => ?_⟩
    · refine hk _ ?_
      have e : badAnswer x = true := by simp [badAnswer, h0, h1, h2]
      simp only [e]
      simp -implicitDefEqProofs only [evr, id, reduceCtorEq, reduceIte, Nat.reduceMul, Nat.reduceAdd, Nat.reduceLT, Nat.reduceLeDiff, Nat.reduceEqDiff, Int.reduceLT, Int.reduceBEq, Int.reduceBNe, Nat.reduceBEq, res_one, res_ro, List.append_nil, Int.toNat_zero, Nat.sub_self, resRow, ansEqs, List.all_cons, List.all_nil, id_eq, res_eqr, cft_one, cft_0, cft_1, cft_2, cft_3, evl]
    refine wcall_plain (withinG F x.code 255) rfl (by rintro _ rfl; exact ok_plain rfl) ?_
    rintro r rfl
    simp -implicitDefEqProofs only [evr, id, reduceCtorEq, reduceIte, Nat.reduceMul, Nat.reduceAdd, Nat.reduceLT, Nat.reduceLeDiff, Nat.reduceEqDiff, Int.reduceLT, Int.reduceBEq, Int.reduceBNe, Nat.reduceBEq, res_one, res_ro, List.append_nil, Int.toNat_zero, Nat.sub_self, resRow, ansEqs, List.all_cons, List.all_nil, id_eq, res_eqr, cft_one, cft_0, cft_1, cft_2, cft_3]
    refine ⟨fun h3 => ?_, fun h3 => ?_⟩
    · refine hk _ ?_
      have e : badAnswer x = true := by have := h3; simp only [Bool.not_eq_true', ← octOk_inR] at this; simp [badAnswer, h0, h1, h2, this]
      simp only [e]
      simp -implicitDefEqProofs only [evr, id, reduceCtorEq, reduceIte, Nat.reduceMul, Nat.reduceAdd, Nat.reduceLT, Nat.reduceLeDiff, Nat.reduceEqDiff, Int.reduceLT, Int.reduceBEq, Int.reduceBNe, Nat.reduceBEq, res_one, res_ro, List.append_nil, Int.toNat_zero, Nat.sub_self, resRow, ansEqs, List.all_cons, List.all_nil, id_eq, res_eqr, cft_one, cft_0, cft_1, cft_2, cft_3, evl]
    replace h3 : octOk x.code = true := by rw [octOk_inR]; simpa using h3
    refine wcall_plain (withinG F x.left 255) rfl (by rintro _ rfl; exact ok_plain rfl) ?_
    rintro r rfl
    simp -implicitDefEqProofs only [evr, id, reduceCtorEq, reduceIte, Nat.reduceMul, Nat.reduceAdd, Nat.reduceLT, Nat.reduceLeDiff, Nat.reduceEqDiff, Int.reduceLT, Int.reduceBEq, Int.reduceBNe, Nat.reduceBEq, res_one, res_ro, List.append_nil, Int.toNat_zero, Nat.sub_self, resRow, ansEqs, List.all_cons, List.all_nil, id_eq, res_eqr, cft_one, cft_0, cft_1, cft_2, cft_3]
    refine ⟨fun h4 => ?_, fun h4 => ?_⟩
    · refine hk _ ?_
      have e : badAnswer x = true := by have := h4; simp only [Bool.not_eq_true', ← octOk_inR] at this; simp [badAnswer, h0, h1, h2, h3, this]
      simp only [e]
      simp -implicitDefEqProofs only [evr, id, reduceCtorEq, reduceIte, Nat.reduceMul, Nat.reduceAdd, Nat.reduceLT, Nat.reduceLeDiff, Nat.reduceEqDiff, Int.reduceLT, Int.reduceBEq, Int.reduceBNe, Nat.reduceBEq, res_one, res_ro, List.append_nil, Int.toNat_zero, Nat.sub_self, resRow, ansEqs, List.all_cons, List.all_nil, id_eq, res_eqr, cft_one, cft_0, cft_1, cft_2, cft_3, evl]
    replace h4 : octOk x.left = true := by rw [octOk_inR]; simpa using h4
    refine wcall_plain (withinG F x.quoted 255) rfl (by rintro _ rfl; exact ok_plain rfl) ?_
    rintro r rfl
    simp -implicitDefEqProofs only [evr, id, reduceCtorEq, reduceIte, Nat.reduceMul, Nat.reduceAdd, Nat.reduceLT, Nat.reduceLeDiff, Nat.reduceEqDiff, Int.reduceLT, Int.reduceBEq, Int.reduceBNe, Nat.reduceBEq, res_one, res_ro, List.append_nil, Int.toNat_zero, Nat.sub_self, resRow, ansEqs, List.all_cons, List.all_nil, id_eq, res_eqr, cft_one, cft_0, cft_1, cft_2, cft_3]
    refine ⟨fun h5 => ?_, fun h5 => ?_⟩
    · refine hk _ ?_
      have e : badAnswer x = true := by have := h5; simp only [Bool.not_eq_true', ← octOk_inR] at this; simp [badAnswer, h0, h1, h2, h3, h4, this]
      simp only [e]
      simp -implicitDefEqProofs only [evr, id, reduceCtorEq, reduceIte, Nat.reduceMul, Nat.reduceAdd, Nat.reduceLT, Nat.reduceLeDiff, Nat.reduceEqDiff, Int.reduceLT, Int.reduceBEq, Int.reduceBNe, Nat.reduceBEq, res_one, res_ro, List.append_nil, Int.toNat_zero, Nat.sub_self, resRow, ansEqs, List.all_cons, List.all_nil, id_eq, res_eqr, cft_one, cft_0, cft_1, cft_2, cft_3, evl]
    replace h5 : octOk x.quoted = true := by rw [octOk_inR]; simpa using h5
    refine wcall_plain (withinG F x.id 65535) rfl (by rintro _ rfl; exact ok_plain rfl) ?_
    rintro r rfl
    simp -implicitDefEqProofs only [evr, id, reduceCtorEq, reduceIte, Nat.reduceMul, Nat.reduceAdd, Nat.reduceLT, Nat.reduceLeDiff, Nat.reduceEqDiff, Int.reduceLT, Int.reduceBEq, Int.reduceBNe, Nat.reduceBEq, res_one, res_ro, List.append_nil, Int.toNat_zero, Nat.sub_self, resRow, ansEqs, List.all_cons, List.all_nil, id_eq, res_eqr, cft_one, cft_0, cft_1, cft_2, cft_3]
    refine hk _ ?_
    have e : badAnswer x = (!inR x.id 65535) := by rw [badAnswer_inR]; simp [h0, h1, h2, h3, h4, h5]
    simp only [e]
    simp -implicitDefEqProofs only [evr, id, reduceCtorEq, reduceIte, Nat.reduceMul, Nat.reduceAdd, Nat.reduceLT, Nat.reduceLeDiff, Nat.reduceEqDiff, Int.reduceLT, Int.reduceBEq, Int.reduceBNe, Nat.reduceBEq, res_one, res_ro, List.append_nil, Int.toNat_zero, Nat.sub_self, resRow, ansEqs, List.all_cons, List.all_nil, id_eq, res_eqr, cft_one, cft_0, cft_1, cft_2, cft_3, evl]
  simp only [thenK]
  refine Sat.cond_b rfl (fun g4 => ?_) (fun g4 => ?_)
  · (repeat refine Sat.seq ?_)
    (refine Sat.region_k fun k hk => ?_; simp -implicitDefEqProofs only [evr, id, reduceCtorEq, reduceIte, Nat.reduceMul, Nat.reduceAdd, Nat.reduceLT, Nat.reduceLeDiff, Nat.reduceEqDiff, Int.reduceLT, Int.reduceBEq, Int.reduceBNe, Nat.reduceBEq, res_one, res_ro, List.append_nil, Int.toNat_zero, Nat.sub_self, resRow, ansEqs, List.all_cons, List.all_nil, id_eq, res_eqr, cft_one, cft_0, cft_1, cft_2, cft_3]; refine hk _ ?_; clear hk k; try show Sat _ _ _ _ _)
    refine Sat.ret ?_
    simp only [blockK, thenK, Try.results50, evr, id, reduceCtorEq, reduceIte, Nat.reduceMul, Nat.reduceAdd, Nat.reduceLT, Nat.reduceLeDiff, Nat.reduceEqDiff, Int.reduceLT, Int.reduceBEq, Int.reduceBNe, Nat.reduceBEq, res_one, res_ro, List.append_nil, Int.toNat_zero, Nat.sub_self, resRow, ansEqs, List.all_cons, List.all_nil, id_eq, res_eqr, cft_one, cft_0, cft_1, cft_2, cft_3]
    simp [chk, g1, g2, g3, g4]
  refine Sat.skip ?_
  simp only [thenK, blockK]
  (repeat refine Sat.seq ?_)
  (refine Sat.region_k fun k hk => ?_; simp -implicitDefEqProofs only [evr, id, reduceCtorEq, reduceIte, Nat.reduceMul, Nat.reduceAdd, Nat.reduceLT, Nat.reduceLeDiff, Nat.reduceEqDiff, Int.reduceLT, Int.reduceBEq, Int.reduceBNe, Nat.reduceBEq, res_one, res_ro, List.append_nil, Int.toNat_zero, Nat.sub_self, resRow, ansEqs, List.all_cons, List.all_nil, id_eq, res_eqr, cft_one, cft_0, cft_1, cft_2, cft_3]; refine hk _ ?_; clear hk k; try show Sat _ _ _ _ _)
  refine Sat.ret ?_
  simp only [Try.results50, evr, id, reduceCtorEq, reduceIte, Nat.reduceMul, Nat.reduceAdd, Nat.reduceLT, Nat.reduceLeDiff, Nat.reduceEqDiff, Int.reduceLT, Int.reduceBEq, Int.reduceBNe, Nat.reduceBEq, res_one, res_ro, List.append_nil, Int.toNat_zero, Nat.sub_self, resRow, ansEqs, List.all_cons, List.all_nil, id_eq, res_eqr, cft_one, cft_0, cft_1, cft_2, cft_3]
  simp [chk, g1, g2, g3, g4]
set_option maxRecDepth 100000 in
theorem equalC (F : Frm) (a : Option Addr) (cap : Nat) (xs : List Res) (hl : xs.length ≤ 1000000000) (a2 : Option Addr) (cap2 : Nat) (ys : List Res) (hl2 : ys.length ≤ 1000000000) :
    Contract F Try.prog 68 [.sl a xs.length cap 17 (resRd xs.toArray), .sl a2 ys.length cap2 17 (resRd ys.toArray)] (fun r => r = .b (decide (xs = ys))) := by
  refine contract_of Try.func68 rfl (by kernel_rfl) ?_
  simp only [Try.ntmps68, argEnv]
  (repeat refine Sat.seq ?_)
  (refine Sat.region_k fun k hk => ?_; simp -implicitDefEqProofs only [evr, id, reduceCtorEq, reduceIte, Nat.reduceMul, Nat.reduceAdd, Nat.reduceLT, Nat.reduceLeDiff, Nat.reduceEqDiff, Int.reduceLT, Int.reduceBEq, Int.reduceBNe, Nat.reduceBEq, res_one, res_ro, List.append_nil, Int.toNat_zero, Nat.sub_self, resRow, ansEqs, List.all_cons, List.all_nil, id_eq, res_eqr, cft_one, cft_0, cft_1, cft_2, cft_3]; refine hk _ ?_; clear hk k; try show Sat _ _ _ _ _)
  (repeat refine Sat.seq ?_)
  (refine Sat.region_k fun k hk => ?_; simp -implicitDefEqProofs only [evr, id, reduceCtorEq, reduceIte, Nat.reduceMul, Nat.reduceAdd, Nat.reduceLT, Nat.reduceLeDiff, Nat.reduceEqDiff, Int.reduceLT, Int.reduceBEq, Int.reduceBNe, Nat.reduceBEq, res_one, res_ro, List.append_nil, Int.toNat_zero, Nat.sub_self, resRow, ansEqs, List.all_cons, List.all_nil, id_eq, res_eqr, cft_one, cft_0, cft_1, cft_2, cft_3]; refine hk _ ?_; clear hk k; try show Sat _ _ _ _ _)
  (repeat refine Sat.seq ?_)
  refine Sat.cond_b rfl (fun h => ?_) (fun h => ?_)
  · have hne : xs.length ≠ ys.length := by simp only [bne_iff_ne, ne_eq] at h; omega
    (repeat refine Sat.seq ?_)
    (refine Sat.region_k fun k hk => ?_; simp -implicitDefEqProofs only [evr, id, reduceCtorEq, reduceIte, Nat.reduceMul, Nat.reduceAdd, Nat.reduceLT, Nat.reduceLeDiff, Nat.reduceEqDiff, Int.reduceLT, Int.reduceBEq, Int.reduceBNe, Nat.reduceBEq, res_one, res_ro, List.append_nil, Int.toNat_zero, Nat.sub_self, resRow, ansEqs, List.all_cons, List.all_nil, id_eq, res_eqr, cft_one, cft_0, cft_1, cft_2, cft_3]; refine hk _ ?_; clear hk k; try show Sat _ _ _ _ _)
    refine Sat.ret ?_
    simp only [Try.results68, evr, id, reduceCtorEq, reduceIte, Nat.reduceMul, Nat.reduceAdd, Nat.reduceLT, Nat.reduceLeDiff, Nat.reduceEqDiff, Int.reduceLT, Int.reduceBEq, Int.reduceBNe, Nat.reduceBEq, res_one, res_ro, List.append_nil, Int.toNat_zero, Nat.sub_self, resRow, ansEqs, List.all_cons, List.all_nil, id_eq, res_eqr, cft_one, cft_0, cft_1, cft_2, cft_3]
    rw [decide_eq_false (fun e => hne (by rw [e]))]
  · have heq : xs.length = ys.length := by simp only [bne_eq_false_iff_eq] at h; omega
    refine Sat.skip ?_
    simp only [thenK]
    (repeat refine Sat.seq ?_)
    (refine Sat.region_k fun k hk => ?_; simp -implicitDefEqProofs only [evr, id, reduceCtorEq, reduceIte, Nat.reduceMul, Nat.reduceAdd, Nat.reduceLT, Nat.reduceLeDiff, Nat.reduceEqDiff, Int.reduceLT, Int.reduceBEq, Int.reduceBNe, Nat.reduceBEq, res_one, res_ro, List.append_nil, Int.toNat_zero, Nat.sub_self, resRow, ansEqs, List.all_cons, List.all_nil, id_eq, res_eqr, cft_one, cft_0, cft_1, cft_2, cft_3]; refine hk _ ?_; clear hk k; try show Sat _ _ _ _ _)
    (repeat refine Sat.seq ?_)
    refine Sat.block ?_
    refine Sat.loop (ι := Nat) (fun i => ⟨26, [(13, .i .i64 i), (12, .i .i64 xs.length), (0, .sl a xs.length cap 17 (resRd xs.toArray)), (1, .sl a2 ys.length cap2 17 (resRd ys.toArray))], []⟩)
      (fun i => i ≤ xs.length ∧ ∀ q, q < i → xs[q]! = ys[q]!) (fun i => xs.length - i) 0 ⟨Nat.zero_le _, fun q hq => absurd hq (Nat.not_lt_zero _)⟩ (by simp -implicitDefEqProofs only [evr, id, reduceCtorEq, reduceIte, Nat.reduceMul, Nat.reduceAdd, Nat.reduceLT, Nat.reduceLeDiff, Nat.reduceEqDiff, Int.reduceLT, Int.reduceBEq, Int.reduceBNe, Nat.reduceBEq, res_one, res_ro, List.append_nil, Int.toNat_zero, Nat.sub_self, resRow, ansEqs, List.all_cons, List.all_nil, id_eq, res_eqr, cft_one, cft_0, cft_1, cft_2, cft_3, evl]; rfl) ?_
    rintro i ⟨hi, hq⟩
    (repeat refine Sat.seq ?_)
    (refine Sat.region_k fun k hk => ?_; simp -implicitDefEqProofs only [evr, id, reduceCtorEq, reduceIte, Nat.reduceMul, Nat.reduceAdd, Nat.reduceLT, Nat.reduceLeDiff, Nat.reduceEqDiff, Int.reduceLT, Int.reduceBEq, Int.reduceBNe, Nat.reduceBEq, res_one, res_ro, List.append_nil, Int.toNat_zero, Nat.sub_self, resRow, ansEqs, List.all_cons, List.all_nil, id_eq, res_eqr, cft_one, cft_0, cft_1, cft_2, cft_3]; refine hk _ ?_; clear hk k; try show Sat _ _ _ _ _)
    (repeat refine Sat.seq ?_)
    refine Sat.cond_b rfl (fun h => ?_) (fun h => ?_)
    · have h1 : i < xs.length := by simp only [decide_eq_true_eq] at h; omega
      have e3 : IntKind.i64.wrap ((i : Int) + 1) = ((i + 1 : Nat) : Int) := by rw [w64 (by omega)]; omega
      refine Sat.skip ?_
      simp only [thenK]
      (repeat refine Sat.seq ?_)
      refine Sat.block ?_
      (repeat refine Sat.seq ?_)
      (refine Sat.region_k fun k hk => ?_; simp -implicitDefEqProofs only [evr, id, reduceCtorEq, reduceIte, Nat.reduceMul, Nat.reduceAdd, Nat.reduceLT, Nat.reduceLeDiff, Nat.reduceEqDiff, Int.reduceLT, Int.reduceBEq, Int.reduceBNe, Nat.reduceBEq, res_one, res_ro, List.append_nil, Int.toNat_zero, Nat.sub_self, resRow, ansEqs, List.all_cons, List.all_nil, id_eq, res_eqr, cft_one, cft_0, cft_1, cft_2, cft_3]; refine hk _ ?_; clear hk k; try show Sat _ _ _ _ _)
      (repeat refine Sat.seq ?_)
      refine Sat.region_qk (by kernel_rfl) (by kernel_rfl) fun k hk => ?_
      simp -implicitDefEqProofs only [evr, id, reduceCtorEq, reduceIte, Nat.reduceMul, Nat.reduceAdd, Nat.reduceLT, Nat.reduceLeDiff, Nat.reduceEqDiff, Int.reduceLT, Int.reduceBEq, Int.reduceBNe, Nat.reduceBEq, res_one, res_ro, List.append_nil, Int.toNat_zero, Nat.sub_self, resRow, ansEqs, List.all_cons, List.all_nil, id_eq, res_eqr, cft_one, cft_0, cft_1, cft_2, cft_3, List.getElem!_toArray]
      refine ⟨by omega, by omega, ?_⟩
      (refine hk _ ?_; clear hk k; try show Sat _ _ _ _ _)
      refine Sat.cond_b rfl (fun h3 => ?_) (fun h3 => ?_)
      · simp only [Bool.not_eq_true', decide_eq_false_iff_not] at h3
        (repeat refine Sat.seq ?_)
        (refine Sat.region_k fun k hk => ?_; simp -implicitDefEqProofs only [evr, id, reduceCtorEq, reduceIte, Nat.reduceMul, Nat.reduceAdd, Nat.reduceLT, Nat.reduceLeDiff, Nat.reduceEqDiff, Int.reduceLT, Int.reduceBEq, Int.reduceBNe, Nat.reduceBEq, res_one, res_ro, List.append_nil, Int.toNat_zero, Nat.sub_self, resRow, ansEqs, List.all_cons, List.all_nil, id_eq, res_eqr, cft_one, cft_0, cft_1, cft_2, cft_3]; refine hk _ ?_; clear hk k; try show Sat _ _ _ _ _)
        refine Sat.ret ?_
        simp only [Try.results68, evr, id, reduceCtorEq, reduceIte, Nat.reduceMul, Nat.reduceAdd, Nat.reduceLT, Nat.reduceLeDiff, Nat.reduceEqDiff, Int.reduceLT, Int.reduceBEq, Int.reduceBNe, Nat.reduceBEq, res_one, res_ro, List.append_nil, Int.toNat_zero, Nat.sub_self, resRow, ansEqs, List.all_cons, List.all_nil, id_eq, res_eqr, cft_one, cft_0, cft_1, cft_2, cft_3]
        rw [decide_eq_false (fun e => h3 (by rw [e]))]
      · simp only [Bool.not_eq_false', decide_eq_true_eq] at h3
        refine Sat.skip ?_
        simp only [thenK, blockK]
        refine Sat.region_k fun k hk => ?_
        simp -implicitDefEqProofs only [evr, id, reduceCtorEq, reduceIte, Nat.reduceMul, Nat.reduceAdd, Nat.reduceLT, Nat.reduceLeDiff, Nat.reduceEqDiff, Int.reduceLT, Int.reduceBEq, Int.reduceBNe, Nat.reduceBEq, res_one, res_ro, List.append_nil, Int.toNat_zero, Nat.sub_self, resRow, ansEqs, List.all_cons, List.all_nil, id_eq, res_eqr, cft_one, cft_0, cft_1, cft_2, cft_3, e3]
        refine hk _ ?_
        simp only [thenK, blockK]
        refine ⟨i + 1, ⟨by omega, fun q hq2 => ?_⟩, by omega, ?_⟩
        · by_cases e : q = i
          · subst e; exact h3
          · exact hq q (by omega)
        · simp -implicitDefEqProofs only [evr, id, reduceCtorEq, reduceIte, Nat.reduceMul, Nat.reduceAdd, Nat.reduceLT, Nat.reduceLeDiff, Nat.reduceEqDiff, Int.reduceLT, Int.reduceBEq, Int.reduceBNe, Nat.reduceBEq, res_one, res_ro, List.append_nil, Int.toNat_zero, Nat.sub_self, resRow, ansEqs, List.all_cons, List.all_nil, id_eq, res_eqr, cft_one, cft_0, cft_1, cft_2, cft_3, evl]
    · have h1 : i = xs.length := by simp only [decide_eq_false_iff_not] at h; omega
      subst h1
      refine Sat.exit ?_
      simp only [thenK, blockK, reduceIte]
      (repeat refine Sat.seq ?_)
      (refine Sat.region_k fun k hk => ?_; simp -implicitDefEqProofs only [evr, id, reduceCtorEq, reduceIte, Nat.reduceMul, Nat.reduceAdd, Nat.reduceLT, Nat.reduceLeDiff, Nat.reduceEqDiff, Int.reduceLT, Int.reduceBEq, Int.reduceBNe, Nat.reduceBEq, res_one, res_ro, List.append_nil, Int.toNat_zero, Nat.sub_self, resRow, ansEqs, List.all_cons, List.all_nil, id_eq, res_eqr, cft_one, cft_0, cft_1, cft_2, cft_3]; refine hk _ ?_; clear hk k; try show Sat _ _ _ _ _)
      refine Sat.ret ?_
      simp only [Try.results68, evr, id, reduceCtorEq, reduceIte, Nat.reduceMul, Nat.reduceAdd, Nat.reduceLT, Nat.reduceLeDiff, Nat.reduceEqDiff, Int.reduceLT, Int.reduceBEq, Int.reduceBNe, Nat.reduceBEq, res_one, res_ro, List.append_nil, Int.toNat_zero, Nat.sub_self, resRow, ansEqs, List.all_cons, List.all_nil, id_eq, res_eqr, cft_one, cft_0, cft_1, cft_2, cft_3]
      rw [decide_eq_true]
      refine List.ext_getElem heq fun q h1 h2 => ?_
      have := hq q h1
      simpa [getElem!_def, h1, h2] using this


set_option maxRecDepth 100000 in
theorem same1C (F : Frm) (x y : CftP) (hx : x.c.l.length ≤ 1000000000) (hy : y.c.l.length ≤ 1000000000) (f g : Nat → SV) (hf : ∀ j, j < 4 → f j = (cftCs x).getD j default) (hg : ∀ j, j < 4 → g j = (cftCs y).getD j default) :
    Contract F Try.prog 70 [.agg 4 f, .agg 4 g] (fun r => r = .b (decide (x.c = y.c))) := by
  have f0 := hf 0 (by decide)
  have f1 := hf 1 (by decide)
  have f2 := hf 2 (by decide)
  have f3 := hf 3 (by decide)
  have g0 := hg 0 (by decide)
  have g1 := hg 1 (by decide)
  have g2 := hg 2 (by decide)
  have g3 := hg 3 (by decide)
  simp only [cftCs, List.getD_cons_zero, List.getD_cons_succ] at f0 f1 f2 f3 g0 g1 g2 g3
  refine contract_of Try.func70 rfl (by kernel_rfl) ?_
  simp only [Try.ntmps70, argEnv]
  (repeat refine Sat.seq ?_)
  refine Sat.region_k fun k hk => ?_
  simp -implicitDefEqProofs only [evr, id, reduceCtorEq, reduceIte, Nat.reduceMul, Nat.reduceAdd, Nat.reduceLT, Nat.reduceLeDiff, Nat.reduceEqDiff, Int.reduceLT, Int.reduceBEq, Int.reduceBNe, Nat.reduceBEq, res_one, res_ro, List.append_nil, Int.toNat_zero, Nat.sub_self, resRow, ansEqs, List.all_cons, List.all_nil, id_eq, res_eqr, cft_one, cft_0, cft_1, cft_2, cft_3, f0, f1, f2, f3, g0, g1, g2, g3]
  intro blk2 blk3
  (refine hk _ ?_; clear hk k; try show Sat _ _ _ _ _)
  (repeat refine Sat.seq ?_)
  refine Sat.region_at ⟨31, [(4, .b (decide (x.c = y.c)))], []⟩ (fun k hk => ?_) ?_
  · simp -implicitDefEqProofs only [evr, id, reduceCtorEq, reduceIte, Nat.reduceMul, Nat.reduceAdd, Nat.reduceLT, Nat.reduceLeDiff, Nat.reduceEqDiff, Int.reduceLT, Int.reduceBEq, Int.reduceBNe, Nat.reduceBEq, res_one, res_ro, List.append_nil, Int.toNat_zero, Nat.sub_self, resRow, ansEqs, List.all_cons, List.all_nil, id_eq, res_eqr, cft_one, cft_0, cft_1, cft_2, cft_3]
    refine ⟨fun h1 => ⟨fun h2 => ⟨fun h3 => ?_, fun h3 => ?_⟩, fun h2 => ?_⟩, fun h1 => ?_⟩
    · refine wcall_plain (equalC F x.a x.cap x.c.l hx y.a y.cap y.c.l hy) rfl (by rintro _ rfl; exact ok_plain rfl) ?_
      rintro r rfl
      simp -implicitDefEqProofs only [evr, id, reduceCtorEq, reduceIte, Nat.reduceMul, Nat.reduceAdd, Nat.reduceLT, Nat.reduceLeDiff, Nat.reduceEqDiff, Int.reduceLT, Int.reduceBEq, Int.reduceBNe, Nat.reduceBEq, res_one, res_ro, List.append_nil, Int.toNat_zero, Nat.sub_self, resRow, ansEqs, List.all_cons, List.all_nil, id_eq, res_eqr, cft_one, cft_0, cft_1, cft_2, cft_3]
      refine hk _ ?_
      have e : decide (x.c = y.c) = decide (x.c.l = y.c.l) := by
        simp only [beq_iff_eq] at h1 h2 h3
        simp [cft_ext, h1, h2, h3]
      simp only [e]
      simp -implicitDefEqProofs only [evr, id, reduceCtorEq, reduceIte, Nat.reduceMul, Nat.reduceAdd, Nat.reduceLT, Nat.reduceLeDiff, Nat.reduceEqDiff, Int.reduceLT, Int.reduceBEq, Int.reduceBNe, Nat.reduceBEq, res_one, res_ro, List.append_nil, Int.toNat_zero, Nat.sub_self, resRow, ansEqs, List.all_cons, List.all_nil, id_eq, res_eqr, cft_one, cft_0, cft_1, cft_2, cft_3, evl]
    all_goals
      refine hk _ ?_
      have e : decide (x.c = y.c) = false := by
        apply decide_eq_false
        rw [cft_ext]
        rintro ⟨q1, q2, q3, q4⟩
        simp_all
      simp only [e]
      simp -implicitDefEqProofs only [evr, id, reduceCtorEq, reduceIte, Nat.reduceMul, Nat.reduceAdd, Nat.reduceLT, Nat.reduceLeDiff, Nat.reduceEqDiff, Int.reduceLT, Int.reduceBEq, Int.reduceBNe, Nat.reduceBEq, res_one, res_ro, List.append_nil, Int.toNat_zero, Nat.sub_self, resRow, ansEqs, List.all_cons, List.all_nil, id_eq, res_eqr, cft_one, cft_0, cft_1, cft_2, cft_3, evl]
  simp only [thenK]
  refine Sat.ret ?_
  simp only [Try.results70, evr, id, reduceCtorEq, reduceIte, Nat.reduceMul, Nat.reduceAdd, Nat.reduceLT, Nat.reduceLeDiff, Nat.reduceEqDiff, Int.reduceLT, Int.reduceBEq, Int.reduceBNe, Nat.reduceBEq, res_one, res_ro, List.append_nil, Int.toNat_zero, Nat.sub_self, resRow, ansEqs, List.all_cons, List.all_nil, id_eq, res_eqr, cft_one, cft_0, cft_1, cft_2, cft_3]

set_option maxRecDepth 100000 in
theorem equalFuncC (F : Frm) (rdc : Nat → SV) (a : Option Addr) (cap : Nat) (xs : List CftP) (hl : xs.length ≤ 1000000000) (a2 : Option Addr) (cap2 : Nat) (ys : List CftP) (hl2 : ys.length ≤ 1000000000)
    (hx : ∀ i, i < xs.length → (xs.getD i default).c.l.length ≤ 1000000000) (hy : ∀ i, i < ys.length → (ys.getD i default).c.l.length ≤ 1000000000) :
    Contract F Try.prog 69 [.sl a xs.length cap 4 (cftRd xs), .sl a2 ys.length cap2 4 (cftRd ys), .fn 70 0 rdc] (fun r => r = .b (decide (xs.map (·.c) = ys.map (·.c)))) := by
  refine contract_of Try.func69 rfl (by kernel_rfl) ?_
  simp only [Try.ntmps69, argEnv]
  (repeat refine Sat.seq ?_)
  (refine Sat.region_k fun k hk => ?_; simp -implicitDefEqProofs only [evr, id, reduceCtorEq, reduceIte, Nat.reduceMul, Nat.reduceAdd, Nat.reduceLT, Nat.reduceLeDiff, Nat.reduceEqDiff, Int.reduceLT, Int.reduceBEq, Int.reduceBNe, Nat.reduceBEq, res_one, res_ro, List.append_nil, Int.toNat_zero, Nat.sub_self, resRow, ansEqs, List.all_cons, List.all_nil, id_eq, res_eqr, cft_one, cft_0, cft_1, cft_2, cft_3]; refine hk _ ?_; clear hk k; try show Sat _ _ _ _ _)
  (repeat refine Sat.seq ?_)
  (refine Sat.region_k fun k hk => ?_; simp -implicitDefEqProofs only [evr, id, reduceCtorEq, reduceIte, Nat.reduceMul, Nat.reduceAdd, Nat.reduceLT, Nat.reduceLeDiff, Nat.reduceEqDiff, Int.reduceLT, Int.reduceBEq, Int.reduceBNe, Nat.reduceBEq, res_one, res_ro, List.append_nil, Int.toNat_zero, Nat.sub_self, resRow, ansEqs, List.all_cons, List.all_nil, id_eq, res_eqr, cft_one, cft_0, cft_1, cft_2, cft_3]; refine hk _ ?_; clear hk k; try show Sat _ _ _ _ _)
  (repeat refine Sat.seq ?_)
  refine Sat.cond_b rfl (fun h => ?_) (fun h => ?_)
  · have hne : xs.length ≠ ys.length := by simp only [bne_iff_ne, ne_eq] at h; omega
    (repeat refine Sat.seq ?_)
    (refine Sat.region_k fun k hk => ?_; simp -implicitDefEqProofs only [evr, id, reduceCtorEq, reduceIte, Nat.reduceMul, Nat.reduceAdd, Nat.reduceLT, Nat.reduceLeDiff, Nat.reduceEqDiff, Int.reduceLT, Int.reduceBEq, Int.reduceBNe, Nat.reduceBEq, res_one, res_ro, List.append_nil, Int.toNat_zero, Nat.sub_self, resRow, ansEqs, List.all_cons, List.all_nil, id_eq, res_eqr, cft_one, cft_0, cft_1, cft_2, cft_3]; refine hk _ ?_; clear hk k; try show Sat _ _ _ _ _)
    refine Sat.ret ?_
    simp only [Try.results69, evr, id, reduceCtorEq, reduceIte, Nat.reduceMul, Nat.reduceAdd, Nat.reduceLT, Nat.reduceLeDiff, Nat.reduceEqDiff, Int.reduceLT, Int.reduceBEq, Int.reduceBNe, Nat.reduceBEq, res_one, res_ro, List.append_nil, Int.toNat_zero, Nat.sub_self, resRow, ansEqs, List.all_cons, List.all_nil, id_eq, res_eqr, cft_one, cft_0, cft_1, cft_2, cft_3]
    rw [decide_eq_false (fun e => hne (by have := congrArg List.length e; simpa using this))]
  · have heq : xs.length = ys.length := by simp only [bne_eq_false_iff_eq] at h; omega
    refine Sat.skip ?_
    simp only [thenK]
    (repeat refine Sat.seq ?_)
    (refine Sat.region_k fun k hk => ?_; simp -implicitDefEqProofs only [evr, id, reduceCtorEq, reduceIte, Nat.reduceMul, Nat.reduceAdd, Nat.reduceLT, Nat.reduceLeDiff, Nat.reduceEqDiff, Int.reduceLT, Int.reduceBEq, Int.reduceBNe, Nat.reduceBEq, res_one, res_ro, List.append_nil, Int.toNat_zero, Nat.sub_self, resRow, ansEqs, List.all_cons, List.all_nil, id_eq, res_eqr, cft_one, cft_0, cft_1, cft_2, cft_3]; refine hk _ ?_; clear hk k; try show Sat _ _ _ _ _)
    (repeat refine Sat.seq ?_)
    refine Sat.block ?_
    refine Sat.loop (ι := Nat) (fun i => ⟨32, [(17, .i .i64 i), (16, .i .i64 xs.length), (15, .sl a xs.length cap 4 (cftRd xs)), (1, .sl a2 ys.length cap2 4 (cftRd ys)), (2, .fn 70 0 rdc)], []⟩)
      (fun i => i ≤ xs.length ∧ ∀ q, q < i → (xs.getD q default).c = (ys.getD q default).c) (fun i => xs.length - i) 0 ⟨Nat.zero_le _, fun q hq => absurd hq (Nat.not_lt_zero _)⟩ (by simp -implicitDefEqProofs only [evr, id, reduceCtorEq, reduceIte, Nat.reduceMul, Nat.reduceAdd, Nat.reduceLT, Nat.reduceLeDiff, Nat.reduceEqDiff, Int.reduceLT, Int.reduceBEq, Int.reduceBNe, Nat.reduceBEq, res_one, res_ro, List.append_nil, Int.toNat_zero, Nat.sub_self, resRow, ansEqs, List.all_cons, List.all_nil, id_eq, res_eqr, cft_one, cft_0, cft_1, cft_2, cft_3, evl]; rfl) ?_
    rintro i ⟨hi, hq⟩
    (repeat refine Sat.seq ?_)
    (refine Sat.region_k fun k hk => ?_; simp -implicitDefEqProofs only [evr, id, reduceCtorEq, reduceIte, Nat.reduceMul, Nat.reduceAdd, Nat.reduceLT, Nat.reduceLeDiff, Nat.reduceEqDiff, Int.reduceLT, Int.reduceBEq, Int.reduceBNe, Nat.reduceBEq, res_one, res_ro, List.append_nil, Int.toNat_zero, Nat.sub_self, resRow, ansEqs, List.all_cons, List.all_nil, id_eq, res_eqr, cft_one, cft_0, cft_1, cft_2, cft_3]; refine hk _ ?_; clear hk k; try show Sat _ _ _ _ _)
    (repeat refine Sat.seq ?_)
    refine Sat.cond_b rfl (fun h => ?_) (fun h => ?_)
    · have h1 : i < xs.length := by simp only [decide_eq_true_eq] at h; omega
      have e3 : IntKind.i64.wrap ((i : Int) + 1) = ((i + 1 : Nat) : Int) := by rw [w64 (by omega)]; omega
      refine Sat.skip ?_
      simp only [thenK]
      (repeat refine Sat.seq ?_)
      refine Sat.block ?_
      (repeat refine Sat.seq ?_)
      (refine Sat.region_k fun k hk => ?_; simp -implicitDefEqProofs only [evr, id, reduceCtorEq, reduceIte, Nat.reduceMul, Nat.reduceAdd, Nat.reduceLT, Nat.reduceLeDiff, Nat.reduceEqDiff, Int.reduceLT, Int.reduceBEq, Int.reduceBNe, Nat.reduceBEq, res_one, res_ro, List.append_nil, Int.toNat_zero, Nat.sub_self, resRow, ansEqs, List.all_cons, List.all_nil, id_eq, res_eqr, cft_one, cft_0, cft_1, cft_2, cft_3])
      refine ⟨by omega, ?_⟩
      intro blk8
      (refine hk _ ?_; clear hk k; try show Sat _ _ _ _ _)
      (repeat refine Sat.seq ?_)
      (refine Sat.region_k fun k hk => ?_; simp -implicitDefEqProofs only [evr, id, reduceCtorEq, reduceIte, Nat.reduceMul, Nat.reduceAdd, Nat.reduceLT, Nat.reduceLeDiff, Nat.reduceEqDiff, Int.reduceLT, Int.reduceBEq, Int.reduceBNe, Nat.reduceBEq, res_one, res_ro, List.append_nil, Int.toNat_zero, Nat.sub_self, resRow, ansEqs, List.all_cons, List.all_nil, id_eq, res_eqr, cft_one, cft_0, cft_1, cft_2, cft_3])
      refine ⟨by omega, ?_⟩
      intro blk9
      (refine hk _ ?_; clear hk k; try show Sat _ _ _ _ _)
      (repeat refine Sat.seq ?_)
      (refine Sat.region_k fun k hk => ?_; simp -implicitDefEqProofs only [evr, id, reduceCtorEq, reduceIte, Nat.reduceMul, Nat.reduceAdd, Nat.reduceLT, Nat.reduceLeDiff, Nat.reduceEqDiff, Int.reduceLT, Int.reduceBEq, Int.reduceBNe, Nat.reduceBEq, res_one, res_ro, List.append_nil, Int.toNat_zero, Nat.sub_self, resRow, ansEqs, List.all_cons, List.all_nil, id_eq, res_eqr, cft_one, cft_0, cft_1, cft_2, cft_3])
      refine wcall_plain (same1C F (xs.getD i default) (ys.getD i default) (hx i h1) (hy i (by omega)) _ _ (fun _ _ => rfl) (fun _ _ => rfl)) (by simp -implicitDefEqProofs only [evr, id, reduceCtorEq, reduceIte, Nat.reduceMul, Nat.reduceAdd, Nat.reduceLT, Nat.reduceLeDiff, Nat.reduceEqDiff, Int.reduceLT, Int.reduceBEq, Int.reduceBNe, Nat.reduceBEq, res_one, res_ro, List.append_nil, Int.toNat_zero, Nat.sub_self, resRow, ansEqs, List.all_cons, List.all_nil, id_eq, res_eqr, cft_one, cft_0, cft_1, cft_2, cft_3]; rfl) (by rintro _ rfl; exact ok_plain rfl) ?_
      rintro r rfl
      simp -implicitDefEqProofs only [evr, id, reduceCtorEq, reduceIte, Nat.reduceMul, Nat.reduceAdd, Nat.reduceLT, Nat.reduceLeDiff, Nat.reduceEqDiff, Int.reduceLT, Int.reduceBEq, Int.reduceBNe, Nat.reduceBEq, res_one, res_ro, List.append_nil, Int.toNat_zero, Nat.sub_self, resRow, ansEqs, List.all_cons, List.all_nil, id_eq, res_eqr, cft_one, cft_0, cft_1, cft_2, cft_3]
      (refine hk _ ?_; clear hk k; try show Sat _ _ _ _ _)
      refine Sat.cond_b rfl (fun h3 => ?_) (fun h3 => ?_)
      · have hne : ¬ (xs.getD i default).c = (ys.getD i default).c := by simpa using h3
        (repeat refine Sat.seq ?_)
        (refine Sat.region_k fun k hk => ?_; simp -implicitDefEqProofs only [evr, id, reduceCtorEq, reduceIte, Nat.reduceMul, Nat.reduceAdd, Nat.reduceLT, Nat.reduceLeDiff, Nat.reduceEqDiff, Int.reduceLT, Int.reduceBEq, Int.reduceBNe, Nat.reduceBEq, res_one, res_ro, List.append_nil, Int.toNat_zero, Nat.sub_self, resRow, ansEqs, List.all_cons, List.all_nil, id_eq, res_eqr, cft_one, cft_0, cft_1, cft_2, cft_3]; refine hk _ ?_; clear hk k; try show Sat _ _ _ _ _)
        refine Sat.ret ?_
        simp only [Try.results69, evr, id, reduceCtorEq, reduceIte, Nat.reduceMul, Nat.reduceAdd, Nat.reduceLT, Nat.reduceLeDiff, Nat.reduceEqDiff, Int.reduceLT, Int.reduceBEq, Int.reduceBNe, Nat.reduceBEq, res_one, res_ro, List.append_nil, Int.toNat_zero, Nat.sub_self, resRow, ansEqs, List.all_cons, List.all_nil, id_eq, res_eqr, cft_one, cft_0, cft_1, cft_2, cft_3]
        rw [decide_eq_false (fun e => hne (by
          have hq3 : i < ys.length := by omega
          have g1 : (xs.map (·.c))[i]? = (ys.map (·.c))[i]? := by rw [e]
          simp only [List.getElem?_map, List.getElem?_eq_getElem h1, List.getElem?_eq_getElem hq3, Option.map_some, Option.some.injEq] at g1
          simpa [List.getD, h1, hq3] using g1))]
      · have heq2 : (xs.getD i default).c = (ys.getD i default).c := by simpa using h3
        refine Sat.skip ?_
        simp only [thenK, blockK]
        refine Sat.region_k fun k hk => ?_
        simp -implicitDefEqProofs only [evr, id, reduceCtorEq, reduceIte, Nat.reduceMul, Nat.reduceAdd, Nat.reduceLT, Nat.reduceLeDiff, Nat.reduceEqDiff, Int.reduceLT, Int.reduceBEq, Int.reduceBNe, Nat.reduceBEq, res_one, res_ro, List.append_nil, Int.toNat_zero, Nat.sub_self, resRow, ansEqs, List.all_cons, List.all_nil, id_eq, res_eqr, cft_one, cft_0, cft_1, cft_2, cft_3, e3]
        refine hk _ ?_
        simp only [thenK, blockK]
        refine ⟨i + 1, ⟨by omega, fun q hq2 => ?_⟩, by omega, ?_⟩
        · by_cases e : q = i
          · subst e; exact heq2
          · exact hq q (by omega)
        · simp -implicitDefEqProofs only [evr, id, reduceCtorEq, reduceIte, Nat.reduceMul, Nat.reduceAdd, Nat.reduceLT, Nat.reduceLeDiff, Nat.reduceEqDiff, Int.reduceLT, Int.reduceBEq, Int.reduceBNe, Nat.reduceBEq, res_one, res_ro, List.append_nil, Int.toNat_zero, Nat.sub_self, resRow, ansEqs, List.all_cons, List.all_nil, id_eq, res_eqr, cft_one, cft_0, cft_1, cft_2, cft_3, evl]
    · have h1 : i = xs.length := by simp only [decide_eq_false_iff_not] at h; omega
      subst h1
      refine Sat.exit ?_
      simp only [thenK, blockK, reduceIte]
      (repeat refine Sat.seq ?_)
      (refine Sat.region_k fun k hk => ?_; simp -implicitDefEqProofs only [evr, id, reduceCtorEq, reduceIte, Nat.reduceMul, Nat.reduceAdd, Nat.reduceLT, Nat.reduceLeDiff, Nat.reduceEqDiff, Int.reduceLT, Int.reduceBEq, Int.reduceBNe, Nat.reduceBEq, res_one, res_ro, List.append_nil, Int.toNat_zero, Nat.sub_self, resRow, ansEqs, List.all_cons, List.all_nil, id_eq, res_eqr, cft_one, cft_0, cft_1, cft_2, cft_3]; refine hk _ ?_; clear hk k; try show Sat _ _ _ _ _)
      refine Sat.ret ?_
      simp only [Try.results69, evr, id, reduceCtorEq, reduceIte, Nat.reduceMul, Nat.reduceAdd, Nat.reduceLT, Nat.reduceLeDiff, Nat.reduceEqDiff, Int.reduceLT, Int.reduceBEq, Int.reduceBNe, Nat.reduceBEq, res_one, res_ro, List.append_nil, Int.toNat_zero, Nat.sub_self, resRow, ansEqs, List.all_cons, List.all_nil, id_eq, res_eqr, cft_one, cft_0, cft_1, cft_2, cft_3]
      rw [decide_eq_true]
      refine List.ext_getElem (by simpa using heq) fun q h1 h2 => ?_
      have h1' : q < xs.length := by simpa using h1
      have := hq q h1'
      simpa [List.getD, h1', show q < ys.length by omega] using this

theorem lens_get (cs : List CftP) (i : Nat) (h : i < cs.length) : (cs.getD i default).c.l.length ≤ lens cs := by
  have g1 := lens_succ cs i h
  have g2 := lens_le cs (i + 1)
  omega
set_option maxRecDepth 100000 in
theorem msameC (F : Frm) (p q : LedP) (hp : p.led.size ≤ 1000000000) (hq : q.led.size ≤ 1000000000) (hcp : p.cs.length ≤ 1000000000) (hcq : q.cs.length ≤ 1000000000) :
    Contract F Try.prog 51 [ledS p, ledS q] (fun r => r = .b (decide (p.led = q.led))) := by
  rw [size_eq] at hp hq
  have hled : (p.led = q.led) ↔ p.rs = q.rs ∧ p.cs.map (·.c) = q.cs.map (·.c) := by unfold LedP.led; simp
  refine contract_of Try.func51 rfl (by kernel_rfl) ?_
  simp only [Try.ntmps51, argEnv, ledS]
  (repeat refine Sat.seq ?_)
  (refine Sat.region_k fun k hk => ?_; simp -implicitDefEqProofs only [evr, id, reduceCtorEq, reduceIte, Nat.reduceMul, Nat.reduceAdd, Nat.reduceLT, Nat.reduceLeDiff, Nat.reduceEqDiff, Int.reduceLT, Int.reduceBEq, Int.reduceBNe, Nat.reduceBEq, res_one, res_ro, List.append_nil, Int.toNat_zero, Nat.sub_self, resRow, ansEqs, List.all_cons, List.all_nil, id_eq, res_eqr, cft_one, cft_0, cft_1, cft_2, cft_3])
  intro blk2 blk3
  (refine hk _ ?_; clear hk k; try show Sat _ _ _ _ _)
  (repeat refine Sat.seq ?_)
  refine Sat.region_at ⟨17, [(4, .b (decide (p.led = q.led)))], []⟩ (fun k hk => ?_) ?_
  · simp -implicitDefEqProofs only [evr, id, reduceCtorEq, reduceIte, Nat.reduceMul, Nat.reduceAdd, Nat.reduceLT, Nat.reduceLeDiff, Nat.reduceEqDiff, Int.reduceLT, Int.reduceBEq, Int.reduceBNe, Nat.reduceBEq, res_one, res_ro, List.append_nil, Int.toNat_zero, Nat.sub_self, resRow, ansEqs, List.all_cons, List.all_nil, id_eq, res_eqr, cft_one, cft_0, cft_1, cft_2, cft_3]
    refine wcall_plain (equalC F p.a0 p.c0 p.rs (by omega) q.a0 q.c0 q.rs (by omega)) rfl (by rintro _ rfl; exact ok_plain rfl) ?_
    rintro r rfl
    simp -implicitDefEqProofs only [evr, id, reduceCtorEq, reduceIte, Nat.reduceMul, Nat.reduceAdd, Nat.reduceLT, Nat.reduceLeDiff, Nat.reduceEqDiff, Int.reduceLT, Int.reduceBEq, Int.reduceBNe, Nat.reduceBEq, res_one, res_ro, List.append_nil, Int.toNat_zero, Nat.sub_self, resRow, ansEqs, List.all_cons, List.all_nil, id_eq, res_eqr, cft_one, cft_0, cft_1, cft_2, cft_3]
    refine ⟨fun h => ?_, fun h => ?_⟩
    · refine wcall_plain (equalFuncC F _ p.a1 p.c1 p.cs (by omega) q.a1 q.c1 q.cs (by omega) (fun i hi => Nat.le_trans (lens_get _ _ hi) (by omega)) (fun i hi => Nat.le_trans (lens_get _ _ hi) (by omega))) (by simp -implicitDefEqProofs only [evr, id, reduceCtorEq, reduceIte, Nat.reduceMul, Nat.reduceAdd, Nat.reduceLT, Nat.reduceLeDiff, Nat.reduceEqDiff, Int.reduceLT, Int.reduceBEq, Int.reduceBNe, Nat.reduceBEq, res_one, res_ro, List.append_nil, Int.toNat_zero, Nat.sub_self, resRow, ansEqs, List.all_cons, List.all_nil, id_eq, res_eqr, cft_one, cft_0, cft_1, cft_2, cft_3]; rfl) (by rintro _ rfl; exact ok_plain rfl) ?_
      rintro r rfl
      simp -implicitDefEqProofs only [evr, id, reduceCtorEq, reduceIte, Nat.reduceMul, Nat.reduceAdd, Nat.reduceLT, Nat.reduceLeDiff, Nat.reduceEqDiff, Int.reduceLT, Int.reduceBEq, Int.reduceBNe, Nat.reduceBEq, res_one, res_ro, List.append_nil, Int.toNat_zero, Nat.sub_self, resRow, ansEqs, List.all_cons, List.all_nil, id_eq, res_eqr, cft_one, cft_0, cft_1, cft_2, cft_3]
      refine hk _ ?_
      have e : decide (p.led = q.led) = decide (p.cs.map (·.c) = q.cs.map (·.c)) := by
        simp [hled, h]
      simp only [e]
      simp -implicitDefEqProofs only [evr, id, reduceCtorEq, reduceIte, Nat.reduceMul, Nat.reduceAdd, Nat.reduceLT, Nat.reduceLeDiff, Nat.reduceEqDiff, Int.reduceLT, Int.reduceBEq, Int.reduceBNe, Nat.reduceBEq, res_one, res_ro, List.append_nil, Int.toNat_zero, Nat.sub_self, resRow, ansEqs, List.all_cons, List.all_nil, id_eq, res_eqr, cft_one, cft_0, cft_1, cft_2, cft_3, evl]
    · refine hk _ ?_
      have e : decide (p.led = q.led) = false := decide_eq_false fun h2 => h (hled.1 h2).1
      simp only [e]
      simp -implicitDefEqProofs only [evr, id, reduceCtorEq, reduceIte, Nat.reduceMul, Nat.reduceAdd, Nat.reduceLT, Nat.reduceLeDiff, Nat.reduceEqDiff, Int.reduceLT, Int.reduceBEq, Int.reduceBNe, Nat.reduceBEq, res_one, res_ro, List.append_nil, Int.toNat_zero, Nat.sub_self, resRow, ansEqs, List.all_cons, List.all_nil, id_eq, res_eqr, cft_one, cft_0, cft_1, cft_2, cft_3, evl]
  simp only [thenK]
  refine Sat.ret ?_
  simp only [Try.results51, evr, id, reduceCtorEq, reduceIte, Nat.reduceMul, Nat.reduceAdd, Nat.reduceLT, Nat.reduceLeDiff, Nat.reduceEqDiff, Int.reduceLT, Int.reduceBEq, Int.reduceBNe, Nat.reduceBEq, res_one, res_ro, List.append_nil, Int.toNat_zero, Nat.sub_self, resRow, ansEqs, List.all_cons, List.all_nil, id_eq, res_eqr, cft_one, cft_0, cft_1, cft_2, cft_3]

/-- the error of a ledger -/
def LedErr (l : Led) (e : Int) : Prop := (16384 < l.size ∧ e = 5) ∨ (¬ 16384 < l.size ∧ (∃ r, r ∈ l.all ∧ chk r ≠ 0) ∧ e = 2) ∨ (¬ 16384 < l.size ∧ (∀ r, r ∈ l.all → chk r = 0) ∧ (((∀ c, Canon c l.all → l ≠ ledOf c) ∧ e = 2) ∨ ((∃ c, Canon c l.all ∧ l = ledOf c) ∧ e = 0)))
theorem LedErr.unique {l : Led} {e f : Int} (h : LedErr l e) (k : LedErr l f) : e = f := by
  rcases h with ⟨h1, rfl⟩ | ⟨h1, ⟨r, h2, h3⟩, rfl⟩ | ⟨h1, h2, ⟨h3, rfl⟩ | ⟨⟨c, h3, h4⟩, rfl⟩⟩ <;> rcases k with ⟨k1, rfl⟩ | ⟨k1, ⟨q, k2, k3⟩, rfl⟩ | ⟨k1, k2, ⟨k3, rfl⟩ | ⟨⟨d, k3, k4⟩, rfl⟩⟩ <;> first | rfl | exact absurd h1 k1 | exact absurd k1 h1 | exact absurd (k2 _ h2) h3 | exact absurd (h2 _ k2) k3 | exact absurd k4 (h3 _ k3) | exact absurd h4 (k3 _ h3)
theorem LedErr.ok {p : LedP} {xs : List Res} {n : Nat} (h : IsL p xs n) (hn : n ≤ 16384) (hc : ∀ x ∈ xs, chk x = 0) : LedErr p.led 0 := by
  have hs := h.size
  obtain ⟨c, h1, h2, h3, h4⟩ := h
  refine .inr (.inr ⟨by omega, fun r hr => by rw [h2, ledOf_mem] at hr; exact hc r ((h1.mem r).1 hr), .inr ⟨⟨c, ⟨h1.asc, fun r => by rw [h2, ledOf_mem]⟩, h2⟩, rfl⟩⟩)
set_option maxRecDepth 100000 in
theorem mcheckC (F : Frm) (p : LedP) (hp : p.led.size ≤ 1000000000) (hcp : p.cs.length ≤ 1000000000) :
    Contract F Try.prog 21 [ledS p] (fun r => ∃ e, LedErr p.led e ∧ r = .i .i64 e) := by
  have hsz : p.led.all.length = p.led.size := rfl
  refine contract_of Try.func21 rfl (by kernel_rfl) ?_
  simp only [Try.ntmps21, argEnv, ledS]
  (repeat refine Sat.seq ?_)
  (refine Sat.region_k fun k hk => ?_; simp -implicitDefEqProofs only [evr, id, reduceCtorEq, reduceIte, Nat.reduceMul, Nat.reduceAdd, Nat.reduceLT, Nat.reduceLeDiff, Nat.reduceEqDiff, Int.reduceLT, Int.reduceBEq, Int.reduceBNe, Nat.reduceBEq, res_one, res_ro, List.append_nil, Int.toNat_zero, Nat.sub_self, resRow, ansEqs, List.all_cons, List.all_nil, id_eq, res_eqr, cft_one, cft_0, cft_1, cft_2, cft_3])
  intro blk1
  (refine hk _ ?_; clear hk k; try show Sat _ _ _ _ _)
  (repeat refine Sat.seq ?_)
  (refine Sat.region_k fun k hk => ?_; simp -implicitDefEqProofs only [evr, id, reduceCtorEq, reduceIte, Nat.reduceMul, Nat.reduceAdd, Nat.reduceLT, Nat.reduceLeDiff, Nat.reduceEqDiff, Int.reduceLT, Int.reduceBEq, Int.reduceBNe, Nat.reduceBEq, res_one, res_ro, List.append_nil, Int.toNat_zero, Nat.sub_self, resRow, ansEqs, List.all_cons, List.all_nil, id_eq, res_eqr, cft_one, cft_0, cft_1, cft_2, cft_3])
  refine wcall_plain (sizeC F p (by omega) (by omega)) (by simp -implicitDefEqProofs only [evr, id, reduceCtorEq, reduceIte, Nat.reduceMul, Nat.reduceAdd, Nat.reduceLT, Nat.reduceLeDiff, Nat.reduceEqDiff, Int.reduceLT, Int.reduceBEq, Int.reduceBNe, Nat.reduceBEq, res_one, res_ro, List.append_nil, Int.toNat_zero, Nat.sub_self, resRow, ansEqs, List.all_cons, List.all_nil, id_eq, res_eqr, cft_one, cft_0, cft_1, cft_2, cft_3]; rfl) (by rintro _ rfl; exact ok_plain rfl) ?_
  rintro r rfl
  simp -implicitDefEqProofs only [evr, id, reduceCtorEq, reduceIte, Nat.reduceMul, Nat.reduceAdd, Nat.reduceLT, Nat.reduceLeDiff, Nat.reduceEqDiff, Int.reduceLT, Int.reduceBEq, Int.reduceBNe, Nat.reduceBEq, res_one, res_ro, List.append_nil, Int.toNat_zero, Nat.sub_self, resRow, ansEqs, List.all_cons, List.all_nil, id_eq, res_eqr, cft_one, cft_0, cft_1, cft_2, cft_3]
  (refine hk _ ?_; clear hk k; try show Sat _ _ _ _ _)
  refine Sat.cond_b rfl (fun h => ?_) (fun h => ?_)
  · have h1 : 16384 < p.led.size := by simp only [decide_eq_true_eq] at h; omega
    (repeat refine Sat.seq ?_)
    (refine Sat.region_k fun k hk => ?_; simp -implicitDefEqProofs only [evr, id, reduceCtorEq, reduceIte, Nat.reduceMul, Nat.reduceAdd, Nat.reduceLT, Nat.reduceLeDiff, Nat.reduceEqDiff, Int.reduceLT, Int.reduceBEq, Int.reduceBNe, Nat.reduceBEq, res_one, res_ro, List.append_nil, Int.toNat_zero, Nat.sub_self, resRow, ansEqs, List.all_cons, List.all_nil, id_eq, res_eqr, cft_one, cft_0, cft_1, cft_2, cft_3]; refine hk _ ?_; clear hk k; try show Sat _ _ _ _ _)
    refine Sat.ret ?_
    simp only [Try.results21, evr, id, reduceCtorEq, reduceIte, Nat.reduceMul, Nat.reduceAdd, Nat.reduceLT, Nat.reduceLeDiff, Nat.reduceEqDiff, Int.reduceLT, Int.reduceBEq, Int.reduceBNe, Nat.reduceBEq, res_one, res_ro, List.append_nil, Int.toNat_zero, Nat.sub_self, resRow, ansEqs, List.all_cons, List.all_nil, id_eq, res_eqr, cft_one, cft_0, cft_1, cft_2, cft_3]
    exact ⟨5, .inl ⟨h1, rfl⟩, rfl⟩
  have h1 : ¬ 16384 < p.led.size := by simp only [decide_eq_false_iff_not] at h; omega
  refine Sat.skip ?_
  simp only [thenK]
  (repeat refine Sat.seq ?_)
  (refine Sat.region_k fun k hk => ?_; simp -implicitDefEqProofs only [evr, id, reduceCtorEq, reduceIte, Nat.reduceMul, Nat.reduceAdd, Nat.reduceLT, Nat.reduceLeDiff, Nat.reduceEqDiff, Int.reduceLT, Int.reduceBEq, Int.reduceBNe, Nat.reduceBEq, res_one, res_ro, List.append_nil, Int.toNat_zero, Nat.sub_self, resRow, ansEqs, List.all_cons, List.all_nil, id_eq, res_eqr, cft_one, cft_0, cft_1, cft_2, cft_3])
  refine wcall_new (allC F p (by omega) (by omega)) rfl rfl ?_
  rintro ra ty len rc sz rrd ⟨ra', rc', e⟩
  simp only [resRow, Own.row.injEq] at e
  obtain ⟨rfl, rfl, rfl, rfl, rfl, rfl⟩ := e
  simp -implicitDefEqProofs only [evr, id, reduceCtorEq, reduceIte, Nat.reduceMul, Nat.reduceAdd, Nat.reduceLT, Nat.reduceLeDiff, Nat.reduceEqDiff, Int.reduceLT, Int.reduceBEq, Int.reduceBNe, Nat.reduceBEq, res_one, res_ro, List.append_nil, Int.toNat_zero, Nat.sub_self, resRow, ansEqs, List.all_cons, List.all_nil, id_eq, res_eqr, cft_one, cft_0, cft_1, cft_2, cft_3]
  (refine hk _ ?_; clear hk k; try show Sat _ _ _ _ _)
  refine Sat.settle2 9 rfl rfl ?_
  simp -implicitDefEqProofs only [evr, id, reduceCtorEq, reduceIte, Nat.reduceMul, Nat.reduceAdd, Nat.reduceLT, Nat.reduceLeDiff, Nat.reduceEqDiff, Int.reduceLT, Int.reduceBEq, Int.reduceBNe, Nat.reduceBEq, res_one, res_ro, List.append_nil, Int.toNat_zero, Nat.sub_self, resRow, ansEqs, List.all_cons, List.all_nil, id_eq, res_eqr, cft_one, cft_0, cft_1, cft_2, cft_3]
  refine Sat.block ?_
  refine Sat.loop (ι := Nat) (fun i => ⟨25, [(11, .i .i64 i), (10, .i .i64 p.led.all.length), (9, .sl ra p.led.all.length rc 17 (resRd p.led.all.toArray)), (1, .op 0 blk1 0)], [.box blk1 30 [.sl p.a0 p.rs.length p.c0 17 (resRd p.rs.toArray), .sl p.a1 p.cs.length p.c1 4 (cftRd p.cs)]]⟩)
    (fun i => i ≤ p.led.all.length ∧ ∀ q, q < i → chk p.led.all[q]! = 0) (fun i => p.led.all.length - i) 0 ⟨Nat.zero_le _, fun q hq => absurd hq (Nat.not_lt_zero _)⟩ (by simp -implicitDefEqProofs only [evr, id, reduceCtorEq, reduceIte, Nat.reduceMul, Nat.reduceAdd, Nat.reduceLT, Nat.reduceLeDiff, Nat.reduceEqDiff, Int.reduceLT, Int.reduceBEq, Int.reduceBNe, Nat.reduceBEq, res_one, res_ro, List.append_nil, Int.toNat_zero, Nat.sub_self, resRow, ansEqs, List.all_cons, List.all_nil, id_eq, res_eqr, cft_one, cft_0, cft_1, cft_2, cft_3, evl]; try rfl) ?_
  rintro i ⟨hi, hq⟩
  (repeat refine Sat.seq ?_)
  (refine Sat.region_k fun k hk => ?_; simp -implicitDefEqProofs only [evr, id, reduceCtorEq, reduceIte, Nat.reduceMul, Nat.reduceAdd, Nat.reduceLT, Nat.reduceLeDiff, Nat.reduceEqDiff, Int.reduceLT, Int.reduceBEq, Int.reduceBNe, Nat.reduceBEq, res_one, res_ro, List.append_nil, Int.toNat_zero, Nat.sub_self, resRow, ansEqs, List.all_cons, List.all_nil, id_eq, res_eqr, cft_one, cft_0, cft_1, cft_2, cft_3]; refine hk _ ?_; clear hk k; try show Sat _ _ _ _ _)
  (repeat refine Sat.seq ?_)
  refine Sat.cond_b rfl (fun h => ?_) (fun h => ?_)
  · have h2 : i < p.led.all.length := by simp only [decide_eq_true_eq] at h; omega
    have e3 : IntKind.i64.wrap ((i : Int) + 1) = ((i + 1 : Nat) : Int) := by rw [w64 (by omega)]; omega
    refine Sat.skip ?_
    simp only [thenK]
    (repeat refine Sat.seq ?_)
    refine Sat.block ?_
    (repeat refine Sat.seq ?_)
    (refine Sat.region_k fun k hk => ?_; simp -implicitDefEqProofs only [evr, id, reduceCtorEq, reduceIte, Nat.reduceMul, Nat.reduceAdd, Nat.reduceLT, Nat.reduceLeDiff, Nat.reduceEqDiff, Int.reduceLT, Int.reduceBEq, Int.reduceBNe, Nat.reduceBEq, res_one, res_ro, List.append_nil, Int.toNat_zero, Nat.sub_self, resRow, ansEqs, List.all_cons, List.all_nil, id_eq, res_eqr, cft_one, cft_0, cft_1, cft_2, cft_3])
    refine ⟨by omega, ?_⟩
    intro blk4
    (refine hk _ ?_; clear hk k; try show Sat _ _ _ _ _)
    (repeat refine Sat.seq ?_)
    (refine Sat.region_k fun k hk => ?_; simp -implicitDefEqProofs only [evr, id, reduceCtorEq, reduceIte, Nat.reduceMul, Nat.reduceAdd, Nat.reduceLT, Nat.reduceLeDiff, Nat.reduceEqDiff, Int.reduceLT, Int.reduceBEq, Int.reduceBNe, Nat.reduceBEq, res_one, res_ro, List.append_nil, Int.toNat_zero, Nat.sub_self, resRow, ansEqs, List.all_cons, List.all_nil, id_eq, res_eqr, cft_one, cft_0, cft_1, cft_2, cft_3])
    refine wcall_plain (jcheckG F p.led.all[i]!) (by simp -implicitDefEqProofs only [evr, id, reduceCtorEq, reduceIte, Nat.reduceMul, Nat.reduceAdd, Nat.reduceLT, Nat.reduceLeDiff, Nat.reduceEqDiff, Int.reduceLT, Int.reduceBEq, Int.reduceBNe, Nat.reduceBEq, res_one, res_ro, List.append_nil, Int.toNat_zero, Nat.sub_self, resRow, ansEqs, List.all_cons, List.all_nil, id_eq, res_eqr, cft_one, cft_0, cft_1, cft_2, cft_3, resRd, List.getElem!_toArray]; rfl) (by rintro _ rfl; exact ok_plain rfl) ?_
    rintro r rfl
    simp -implicitDefEqProofs only [evr, id, reduceCtorEq, reduceIte, Nat.reduceMul, Nat.reduceAdd, Nat.reduceLT, Nat.reduceLeDiff, Nat.reduceEqDiff, Int.reduceLT, Int.reduceBEq, Int.reduceBNe, Nat.reduceBEq, res_one, res_ro, List.append_nil, Int.toNat_zero, Nat.sub_self, resRow, ansEqs, List.all_cons, List.all_nil, id_eq, res_eqr, cft_one, cft_0, cft_1, cft_2, cft_3]
    (refine hk _ ?_; clear hk k; try show Sat _ _ _ _ _)
    have hm : p.led.all[i]! ∈ p.led.all := by rw [getElem!_pos p.led.all i h2]; exact List.getElem_mem h2
    refine Sat.cond_b rfl (fun h3 => ?_) (fun h3 => ?_)
    · have hne : chk p.led.all[i]! ≠ 0 := by simpa using h3
      (repeat refine Sat.seq ?_)
      (refine Sat.region_k fun k hk => ?_; simp -implicitDefEqProofs only [evr, id, reduceCtorEq, reduceIte, Nat.reduceMul, Nat.reduceAdd, Nat.reduceLT, Nat.reduceLeDiff, Nat.reduceEqDiff, Int.reduceLT, Int.reduceBEq, Int.reduceBNe, Nat.reduceBEq, res_one, res_ro, List.append_nil, Int.toNat_zero, Nat.sub_self, resRow, ansEqs, List.all_cons, List.all_nil, id_eq, res_eqr, cft_one, cft_0, cft_1, cft_2, cft_3]; refine hk _ ?_; clear hk k; try show Sat _ _ _ _ _)
      refine Sat.ret ?_
      simp only [Try.results21, evr, id, reduceCtorEq, reduceIte, Nat.reduceMul, Nat.reduceAdd, Nat.reduceLT, Nat.reduceLeDiff, Nat.reduceEqDiff, Int.reduceLT, Int.reduceBEq, Int.reduceBNe, Nat.reduceBEq, res_one, res_ro, List.append_nil, Int.toNat_zero, Nat.sub_self, resRow, ansEqs, List.all_cons, List.all_nil, id_eq, res_eqr, cft_one, cft_0, cft_1, cft_2, cft_3]
      exact ⟨2, .inr (.inl ⟨h1, ⟨_, hm, hne⟩, rfl⟩), rfl⟩
    · have heq : chk p.led.all[i]! = 0 := by simpa using h3
      refine Sat.skip ?_
      simp only [thenK, blockK]
      refine Sat.region_k fun k hk => ?_
      simp -implicitDefEqProofs only [evr, id, reduceCtorEq, reduceIte, Nat.reduceMul, Nat.reduceAdd, Nat.reduceLT, Nat.reduceLeDiff, Nat.reduceEqDiff, Int.reduceLT, Int.reduceBEq, Int.reduceBNe, Nat.reduceBEq, res_one, res_ro, List.append_nil, Int.toNat_zero, Nat.sub_self, resRow, ansEqs, List.all_cons, List.all_nil, id_eq, res_eqr, cft_one, cft_0, cft_1, cft_2, cft_3, e3]
      refine hk _ ?_
      simp only [thenK, blockK]
      refine ⟨i + 1, ⟨by omega, fun q hq2 => ?_⟩, by omega, ?_⟩
      · by_cases e : q = i
        · subst e; exact heq
        · exact hq q (by omega)
      · simp -implicitDefEqProofs only [evr, id, reduceCtorEq, reduceIte, Nat.reduceMul, Nat.reduceAdd, Nat.reduceLT, Nat.reduceLeDiff, Nat.reduceEqDiff, Int.reduceLT, Int.reduceBEq, Int.reduceBNe, Nat.reduceBEq, res_one, res_ro, List.append_nil, Int.toNat_zero, Nat.sub_self, resRow, ansEqs, List.all_cons, List.all_nil, id_eq, res_eqr, cft_one, cft_0, cft_1, cft_2, cft_3, evl]
  have h2 : i = p.led.all.length := by simp only [decide_eq_false_iff_not] at h; omega
  subst h2
  have hall : ∀ r, r ∈ p.led.all → chk r = 0 := fun r hr => by
    obtain ⟨q, hq2, rfl⟩ := List.getElem_of_mem hr
    have := hq q hq2
    rwa [getElem!_pos p.led.all q hq2] at this
  refine Sat.exit ?_
  simp only [thenK, blockK, reduceIte]
  (repeat refine Sat.seq ?_)
  (refine Sat.region_rows [⟨0, 20, 2, 1⟩, ⟨0, 21, 2, 1⟩, ⟨2, 22, 1048576, 2⟩, ⟨4, 23, 2097152, 2⟩, ⟨9, 24, 4718592, 2⟩, ⟨16, 25, 8388608, 0⟩] [0, 1] [(2, false), (3, false), (4, false), (5, false)] [2, 3] (by kernel_rfl) (by kernel_rfl) (fun _ _ h => h) fun k hk => ?_; simp only [List.map_cons, List.map_nil, List.getD_cons_zero, List.getD_cons_succ, btseq_cons, btseq_free, btseq_nil]; simp -implicitDefEqProofs only [evr, id, reduceCtorEq, reduceIte, Nat.reduceMul, Nat.reduceAdd, Nat.reduceLT, Nat.reduceLeDiff, Nat.reduceEqDiff, Int.reduceLT, Int.reduceBEq, Int.reduceBNe, Nat.reduceBEq, res_one, res_ro, List.append_nil, Int.toNat_zero, Nat.sub_self, resRow, ansEqs, List.all_cons, List.all_nil, id_eq, res_eqr, cft_one, cft_0, cft_1, cft_2, cft_3])
  refine wcall_new (allC F p (by omega) (by omega)) rfl rfl ?_
  rintro ra ty len rc sz rrd ⟨ra', rc', e⟩
  simp only [resRow, Own.row.injEq] at e
  obtain ⟨rfl, rfl, rfl, rfl, rfl, rfl⟩ := e
  simp -implicitDefEqProofs only [evr, id, reduceCtorEq, reduceIte, Nat.reduceMul, Nat.reduceAdd, Nat.reduceLT, Nat.reduceLeDiff, Nat.reduceEqDiff, Int.reduceLT, Int.reduceBEq, Int.reduceBNe, Nat.reduceBEq, res_one, res_ro, List.append_nil, Int.toNat_zero, Nat.sub_self, resRow, ansEqs, List.all_cons, List.all_nil, id_eq, res_eqr, cft_one, cft_0, cft_1, cft_2, cft_3]
  refine wcall_slice (ledgerC F ra rc p.led.all (by omega)) rfl (by simp -implicitDefEqProofs only [evr, id, reduceCtorEq, reduceIte, Nat.reduceMul, Nat.reduceAdd, Nat.reduceLT, Nat.reduceLeDiff, Nat.reduceEqDiff, Int.reduceLT, Int.reduceBEq, Int.reduceBNe, Nat.reduceBEq, res_one, res_ro, List.append_nil, Int.toNat_zero, Nat.sub_self, resRow, ansEqs, List.all_cons, List.all_nil, id_eq, res_eqr, cft_one, cft_0, cft_1, cft_2, cft_3]) ?_
  rintro r ⟨q, c, g1, g2, g3, g4, rfl⟩
  have g5 : q.led.size = c.length := by rw [g2, ledOf_size]
  simp -implicitDefEqProofs only [evr, id, reduceCtorEq, reduceIte, Nat.reduceMul, Nat.reduceAdd, Nat.reduceLT, Nat.reduceLeDiff, Nat.reduceEqDiff, Int.reduceLT, Int.reduceBEq, Int.reduceBNe, Nat.reduceBEq, res_one, res_ro, List.append_nil, Int.toNat_zero, Nat.sub_self, resRow, ansEqs, List.all_cons, List.all_nil, id_eq, res_eqr, cft_one, cft_0, cft_1, cft_2, cft_3, ledS]
  refine wcall_plain (msameC F p q (by omega) (by omega) (by omega) (by omega)) (by simp -implicitDefEqProofs only [evr, id, reduceCtorEq, reduceIte, Nat.reduceMul, Nat.reduceAdd, Nat.reduceLT, Nat.reduceLeDiff, Nat.reduceEqDiff, Int.reduceLT, Int.reduceBEq, Int.reduceBNe, Nat.reduceBEq, res_one, res_ro, List.append_nil, Int.toNat_zero, Nat.sub_self, resRow, ansEqs, List.all_cons, List.all_nil, id_eq, res_eqr, cft_one, cft_0, cft_1, cft_2, cft_3]; rfl) (by rintro _ rfl; exact ok_plain rfl) ?_
  rintro r rfl
  simp -implicitDefEqProofs only [evr, id, reduceCtorEq, reduceIte, Nat.reduceMul, Nat.reduceAdd, Nat.reduceLT, Nat.reduceLeDiff, Nat.reduceEqDiff, Int.reduceLT, Int.reduceBEq, Int.reduceBNe, Nat.reduceBEq, res_one, res_ro, List.append_nil, Int.toNat_zero, Nat.sub_self, resRow, ansEqs, List.all_cons, List.all_nil, id_eq, res_eqr, cft_one, cft_0, cft_1, cft_2, cft_3]
  (refine hk _ ?_; clear hk k; try show Sat _ _ _ _ _)
  refine Sat.cond_b rfl (fun h3 => ?_) (fun h3 => ?_)
  · have hne : ¬ p.led = q.led := by simpa using h3
    (repeat refine Sat.seq ?_)
    (refine Sat.region_k fun k hk => ?_; simp -implicitDefEqProofs only [evr, id, reduceCtorEq, reduceIte, Nat.reduceMul, Nat.reduceAdd, Nat.reduceLT, Nat.reduceLeDiff, Nat.reduceEqDiff, Int.reduceLT, Int.reduceBEq, Int.reduceBNe, Nat.reduceBEq, res_one, res_ro, List.append_nil, Int.toNat_zero, Nat.sub_self, resRow, ansEqs, List.all_cons, List.all_nil, id_eq, res_eqr, cft_one, cft_0, cft_1, cft_2, cft_3]; refine hk _ ?_; clear hk k; try show Sat _ _ _ _ _)
    refine Sat.ret ?_
    simp only [Try.results21, evr, id, reduceCtorEq, reduceIte, Nat.reduceMul, Nat.reduceAdd, Nat.reduceLT, Nat.reduceLeDiff, Nat.reduceEqDiff, Int.reduceLT, Int.reduceBEq, Int.reduceBNe, Nat.reduceBEq, res_one, res_ro, List.append_nil, Int.toNat_zero, Nat.sub_self, resRow, ansEqs, List.all_cons, List.all_nil, id_eq, res_eqr, cft_one, cft_0, cft_1, cft_2, cft_3]
    exact ⟨2, .inr (.inr ⟨h1, hall, .inl ⟨fun d hd e => hne (by rw [e, g2, hd.unique g1 (fun _ => Iff.rfl)]), rfl⟩⟩), rfl⟩
  · have heq : p.led = q.led := by simpa using h3
    refine Sat.skip ?_
    simp only [thenK]
    (repeat refine Sat.seq ?_)
    (refine Sat.region_k fun k hk => ?_; simp -implicitDefEqProofs only [evr, id, reduceCtorEq, reduceIte, Nat.reduceMul, Nat.reduceAdd, Nat.reduceLT, Nat.reduceLeDiff, Nat.reduceEqDiff, Int.reduceLT, Int.reduceBEq, Int.reduceBNe, Nat.reduceBEq, res_one, res_ro, List.append_nil, Int.toNat_zero, Nat.sub_self, resRow, ansEqs, List.all_cons, List.all_nil, id_eq, res_eqr, cft_one, cft_0, cft_1, cft_2, cft_3]; refine hk _ ?_; clear hk k; try show Sat _ _ _ _ _)
    refine Sat.ret ?_
    simp only [Try.results21, evr, id, reduceCtorEq, reduceIte, Nat.reduceMul, Nat.reduceAdd, Nat.reduceLT, Nat.reduceLeDiff, Nat.reduceEqDiff, Int.reduceLT, Int.reduceBEq, Int.reduceBNe, Nat.reduceBEq, res_one, res_ro, List.append_nil, Int.toNat_zero, Nat.sub_self, resRow, ansEqs, List.all_cons, List.all_nil, id_eq, res_eqr, cft_one, cft_0, cft_1, cft_2, cft_3]
    exact ⟨0, .inr (.inr ⟨h1, hall, .inr ⟨⟨c, g1, heq.trans g2⟩, rfl⟩⟩), rfl⟩
end Go.Proofs.Ythhofjkbmnklmaa
