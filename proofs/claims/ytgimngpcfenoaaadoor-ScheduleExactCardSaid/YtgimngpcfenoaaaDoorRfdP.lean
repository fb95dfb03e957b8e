/- The reference's Check of plans, by the evaluator. -/
import Derived.Test.YtgimngpcfenoaaaDoorRfcP
set_option linter.unusedSimpArgs false
set_option linter.unusedVariables false
namespace Go.Proofs.YtgimngpcfenoaaaDoor
open Go.Sort Eng
set_option maxHeartbeats 2000000 in
set_option maxRecDepth 100000 in
theorem rfCheckC (F : Frm) (p : PlanP) (ht : ∀ t ∈ p.ts, 0 ≤ t.dst ∧ t.dst < 4294967296) : Contract F Tryd.prog 15 [planS p] (fun r => r = .i .i64 (planErr p)) := by
  have hts : ∀ i, i < p.ts.length → _ := fun i hi => ht (p.ts.getD i default) (by
    have : p.ts.getD i default = p.ts[i] := by simp [List.getD, hi]
    rw [this]; exact List.getElem_mem _)
  have hbk := rfBkCheckC F p.burst p.every
  refine contract_of Tryd.func15 rfl (by kernel_rfl) ?_
  simp only [Tryd.ntmps15, argEnv, planS, planC]
  (repeat refine Sat.seq ?_)
  (refine Sat.region_k fun k hk => ?_; simp -implicitDefEqProofs only [evr, id, reduceCtorEq, reduceIte, Nat.reduceMul, Nat.reduceAdd, Nat.reduceLT, Nat.reduceLeDiff, Nat.reduceEqDiff, Int.reduceLT, Int.reduceBEq, Int.reduceBNe, Nat.reduceBEq, planC, tsk_one, bk_eq, sh1, tsk_0, tsk_1, tsk_2, tsk_3, tsk_4, tsk_5, tsk_6, evn])
  intro b1
  (refine hk _ ?_; clear hk k; try show Sat _ _ _ _ _)
  (repeat refine Sat.seq ?_)
  (refine Sat.region_k fun k hk => ?_; simp -implicitDefEqProofs only [evr, id, reduceCtorEq, reduceIte, Nat.reduceMul, Nat.reduceAdd, Nat.reduceLT, Nat.reduceLeDiff, Nat.reduceEqDiff, Int.reduceLT, Int.reduceBEq, Int.reduceBNe, Nat.reduceBEq, planC, tsk_one, bk_eq, sh1, tsk_0, tsk_1, tsk_2, tsk_3, tsk_4, tsk_5, tsk_6, evn]; refine hk _ ?_; clear hk k; try show Sat _ _ _ _ _)
  refine Sat.cond_b rfl (fun h => ?_) (fun h => ?_)
  · (repeat refine Sat.seq ?_)
    (refine Sat.region_k fun k hk => ?_; simp -implicitDefEqProofs only [evr, id, reduceCtorEq, reduceIte, Nat.reduceMul, Nat.reduceAdd, Nat.reduceLT, Nat.reduceLeDiff, Nat.reduceEqDiff, Int.reduceLT, Int.reduceBEq, Int.reduceBNe, Nat.reduceBEq, planC, tsk_one, bk_eq, sh1, tsk_0, tsk_1, tsk_2, tsk_3, tsk_4, tsk_5, tsk_6, evn]; refine hk _ ?_; clear hk k; try show Sat _ _ _ _ _)
    refine Sat.ret ?_
    simp only [Tryd.results15, evr, id, reduceCtorEq, reduceIte, Nat.reduceMul, Nat.reduceAdd, Nat.reduceLT, Nat.reduceLeDiff, Nat.reduceEqDiff, Int.reduceLT, Int.reduceBEq, Int.reduceBNe, Nat.reduceBEq, List.append_nil, Int.toNat_zero, Nat.sub_self, planC, tsk_one, bk_eq, sh1, tsk_0, tsk_1, tsk_2, tsk_3, tsk_4, tsk_5, tsk_6]
    unfold planErr
    simp only [decide_eq_true_eq] at h
    rw [if_pos (by omega)]
  have hlen : p.ts.length ≤ 64 := by simp only [decide_eq_false_iff_not] at h; omega
  clear h
  refine Sat.skip ?_
  simp only [thenK]
  (repeat refine Sat.seq ?_)
  (refine Sat.region_k fun k hk => ?_; simp -implicitDefEqProofs only [evr, id, reduceCtorEq, reduceIte, Nat.reduceMul, Nat.reduceAdd, Nat.reduceLT, Nat.reduceLeDiff, Nat.reduceEqDiff, Int.reduceLT, Int.reduceBEq, Int.reduceBNe, Nat.reduceBEq, planC, tsk_one, bk_eq, sh1, tsk_0, tsk_1, tsk_2, tsk_3, tsk_4, tsk_5, tsk_6, evn]; refine hk _ ?_; clear hk k; try show Sat _ _ _ _ _)
  (repeat refine Sat.seq ?_)
  refine Sat.block ?_
  refine Sat.loop (ι := Nat) (fun i => ⟨101, [(3, .i .i64 i), (2, .i .i64 0), (1, .op 0 b1 0)], [.box b1 28 [.sl p.a p.ts.length p.cap 7 (tskRd p.ts), .i .i64 p.burst, .i .i64 p.every]]⟩) (fun i => i ≤ p.ts.length ∧ tasksErr p.ts = tasksErr (p.ts.drop i)) (fun i => p.ts.length - i) 0 ⟨Nat.zero_le _, rfl⟩ (by simp -implicitDefEqProofs only [evr, id, reduceCtorEq, reduceIte, Nat.reduceMul, Nat.reduceAdd, Nat.reduceLT, Nat.reduceLeDiff, Nat.reduceEqDiff, Int.reduceLT, Int.reduceBEq, Int.reduceBNe, Nat.reduceBEq, planC, tsk_one, bk_eq, sh1, tsk_0, tsk_1, tsk_2, tsk_3, tsk_4, tsk_5, tsk_6, evl, evn]; try rfl) ?_
  rintro i ⟨hi, hte⟩
  (repeat refine Sat.seq ?_)
  (refine Sat.region_k fun k hk => ?_; simp -implicitDefEqProofs only [evr, id, reduceCtorEq, reduceIte, Nat.reduceMul, Nat.reduceAdd, Nat.reduceLT, Nat.reduceLeDiff, Nat.reduceEqDiff, Int.reduceLT, Int.reduceBEq, Int.reduceBNe, Nat.reduceBEq, planC, tsk_one, bk_eq, sh1, tsk_0, tsk_1, tsk_2, tsk_3, tsk_4, tsk_5, tsk_6, evn]; refine hk _ ?_; clear hk k; try show Sat _ _ _ _ _)
  (repeat refine Sat.seq ?_)
  refine Sat.cond_b rfl (fun h => ?_) (fun h => ?_)
  · have h1 : i < p.ts.length := by simp only [decide_eq_true_eq] at h; omega
    have e3 : IntKind.i64.wrap ((i : Int) + 1) = ((i + 1 : Nat) : Int) := by rw [w64 (by omega)]; omega
    have hstep := tasksErr_step p.ts i h1
    have hT := hts i h1
    refine Sat.skip ?_
    simp only [thenK]
    (repeat refine Sat.seq ?_)
    refine Sat.block ?_
    (repeat refine Sat.seq ?_)
    (refine Sat.region_k fun k hk => ?_; simp -implicitDefEqProofs only [evr, id, reduceCtorEq, reduceIte, Nat.reduceMul, Nat.reduceAdd, Nat.reduceLT, Nat.reduceLeDiff, Nat.reduceEqDiff, Int.reduceLT, Int.reduceBEq, Int.reduceBNe, Nat.reduceBEq, planC, tsk_one, bk_eq, sh1, tsk_0, tsk_1, tsk_2, tsk_3, tsk_4, tsk_5, tsk_6, evn])
    refine ⟨by omega, ?_⟩
    intro b4
    generalize p.ts.getD i default = t at hstep hT ⊢
    (refine hk _ ?_; clear hk k; try show Sat _ _ _ _ _)
    have hus := rfUsableC F t.dst.toNat (by omega)
    rw [show ((t.dst.toNat : Nat) : Int) = t.dst by omega] at hus
    have hadd : decide (spc t.dst.toNat = 0 ∨ spc t.dst.toNat = 3) = decide (okAddr t) := by
      apply Bool.eq_iff_iff.2
      simp only [decide_eq_true_eq]
      exact Iff.rfl
    rw [hadd] at hus
    clear hadd
    (repeat refine Sat.seq ?_)
    refine Sat.region_at ⟨101, [(33, .b (decide (¬ okProto t))), (4, .op 1 b4 0), (3, .i .i64 i), (2, .i .i64 0), (1, .op 0 b1 0)], [.box b1 28 [.sl p.a p.ts.length p.cap 7 (tskRd p.ts), .i .i64 p.burst, .i .i64 p.every], .box b4 56 [.i .u32 t.dst, .i .i64 t.proto, .i .i64 t.flow, .i .i64 t.ttl, .i .i64 t.start, .i .i64 t.every, .i .i64 t.count]]⟩ (fun k hk => ?_) ?_
    · simp -implicitDefEqProofs only [evr, id, reduceCtorEq, reduceIte, Nat.reduceMul, Nat.reduceAdd, Nat.reduceLT, Nat.reduceLeDiff, Nat.reduceEqDiff, Int.reduceLT, Int.reduceBEq, Int.reduceBNe, Nat.reduceBEq, planC, tsk_one, bk_eq, sh1, tsk_0, tsk_1, tsk_2, tsk_3, tsk_4, tsk_5, tsk_6, evn]
      simp only [bne_iff_ne, bne_eq_false_iff_eq, ne_eq]
      repeat' (first
        | (with_reducible refine And.intro ?_ ?_)
        | (with_reducible intro hh)
        | (with_reducible refine hk _ ?_
           first
           | (have e9 : decide (¬ okProto t) = true := decide_eq_true (by unfold okProto; omega)
              simp only [e9]
              simp -implicitDefEqProofs only [evr, id, reduceCtorEq, reduceIte, Nat.reduceMul, Nat.reduceAdd, Nat.reduceLT, Nat.reduceLeDiff, Nat.reduceEqDiff, Int.reduceLT, Int.reduceBEq, Int.reduceBNe, Nat.reduceBEq, planC, tsk_one, bk_eq, sh1, tsk_0, tsk_1, tsk_2, tsk_3, tsk_4, tsk_5, tsk_6, evl, evn]
              done)
           | (have e9 : decide (¬ okProto t) = false := decide_eq_false (by unfold okProto; omega)
              simp only [e9]
              simp -implicitDefEqProofs only [evr, id, reduceCtorEq, reduceIte, Nat.reduceMul, Nat.reduceAdd, Nat.reduceLT, Nat.reduceLeDiff, Nat.reduceEqDiff, Int.reduceLT, Int.reduceBEq, Int.reduceBNe, Nat.reduceBEq, planC, tsk_one, bk_eq, sh1, tsk_0, tsk_1, tsk_2, tsk_3, tsk_4, tsk_5, tsk_6, evl, evn]
              done)
           | (have e9 : decide (¬ okProto t) = (t.proto != 17) := by
                apply Bool.eq_iff_iff.2
                simp only [decide_eq_true_eq, bne_iff_ne]
                unfold okProto
                omega
              simp only [e9]
              simp -implicitDefEqProofs only [evr, id, reduceCtorEq, reduceIte, Nat.reduceMul, Nat.reduceAdd, Nat.reduceLT, Nat.reduceLeDiff, Nat.reduceEqDiff, Int.reduceLT, Int.reduceBEq, Int.reduceBNe, Nat.reduceBEq, planC, tsk_one, bk_eq, sh1, tsk_0, tsk_1, tsk_2, tsk_3, tsk_4, tsk_5, tsk_6, evl, evn]
              done)))
    refine Sat.cond_b rfl (fun h => ?_) (fun h => ?_)
    · have h := of_decide_eq_true h
      have he : taskErr t = 16 := by unfold taskErr; rw [if_neg h]
      (repeat refine Sat.seq ?_)
      (refine Sat.region_k fun k hk => ?_; simp -implicitDefEqProofs only [evr, id, reduceCtorEq, reduceIte, Nat.reduceMul, Nat.reduceAdd, Nat.reduceLT, Nat.reduceLeDiff, Nat.reduceEqDiff, Int.reduceLT, Int.reduceBEq, Int.reduceBNe, Nat.reduceBEq, planC, tsk_one, bk_eq, sh1, tsk_0, tsk_1, tsk_2, tsk_3, tsk_4, tsk_5, tsk_6, evn]; refine hk _ ?_; clear hk k; try show Sat _ _ _ _ _)
      refine Sat.ret ?_
      simp only [Tryd.results15, evr, id, reduceCtorEq, reduceIte, Nat.reduceMul, Nat.reduceAdd, Nat.reduceLT, Nat.reduceLeDiff, Nat.reduceEqDiff, Int.reduceLT, Int.reduceBEq, Int.reduceBNe, Nat.reduceBEq, List.append_nil, Int.toNat_zero, Nat.sub_self, planC, tsk_one, bk_eq, sh1, tsk_0, tsk_1, tsk_2, tsk_3, tsk_4, tsk_5, tsk_6]
      rw [if_pos (by rw [he]; decide)] at hstep
      unfold planErr
      rw [if_neg (by omega), hte, hstep, he, if_pos (by decide)]
    have hpr := Decidable.not_not.1 (of_decide_eq_false h)
    clear h
    refine Sat.skip ?_
    simp only [thenK]
    (repeat refine Sat.seq ?_)
    refine Sat.region_at ⟨101, [(93, .b (decide (¬ okRange t))), (4, .op 1 b4 0), (3, .i .i64 i), (2, .i .i64 0), (1, .op 0 b1 0)], [.box b1 28 [.sl p.a p.ts.length p.cap 7 (tskRd p.ts), .i .i64 p.burst, .i .i64 p.every], .box b4 56 [.i .u32 t.dst, .i .i64 t.proto, .i .i64 t.flow, .i .i64 t.ttl, .i .i64 t.start, .i .i64 t.every, .i .i64 t.count]]⟩ (fun k hk => ?_) ?_
    · simp -implicitDefEqProofs only [evr, id, reduceCtorEq, reduceIte, Nat.reduceMul, Nat.reduceAdd, Nat.reduceLT, Nat.reduceLeDiff, Nat.reduceEqDiff, Int.reduceLT, Int.reduceBEq, Int.reduceBNe, Nat.reduceBEq, planC, tsk_one, bk_eq, sh1, tsk_0, tsk_1, tsk_2, tsk_3, tsk_4, tsk_5, tsk_6, evn]
      repeat' (first
        | (with_reducible refine And.intro ?_ ?_)
        | (with_reducible intro hh)
        | (with_reducible refine hk _ ?_
           first
           | (have e9 : decide (¬ okRange t) = true := decide_eq_true (by unfold okRange; omega)
              simp only [e9]
              simp -implicitDefEqProofs only [evr, id, reduceCtorEq, reduceIte, Nat.reduceMul, Nat.reduceAdd, Nat.reduceLT, Nat.reduceLeDiff, Nat.reduceEqDiff, Int.reduceLT, Int.reduceBEq, Int.reduceBNe, Nat.reduceBEq, planC, tsk_one, bk_eq, sh1, tsk_0, tsk_1, tsk_2, tsk_3, tsk_4, tsk_5, tsk_6, evl, evn]
              done)
           | (have hm : 0 ≤ (t.count - 1) * t.every := Int.mul_nonneg (by omega) (by omega)
              have hm2 : (t.count - 1) * t.every ≤ 999 * 1099511627776 := Int.mul_le_mul (by omega) (by omega) (by omega) (by omega)
              have e1 : IntKind.i64.wrap (t.count - 1) = t.count - 1 := w64 (by omega)
              have e2 : IntKind.i64.wrap ((t.count - 1) * t.every) = (t.count - 1) * t.every := w64 (by omega)
              have e3 : IntKind.i64.wrap (t.start + (t.count - 1) * t.every) = t.start + (t.count - 1) * t.every := w64 (by omega)
              have e9 : decide (¬ okRange t) = decide (1125899906842624 < t.start + (t.count - 1) * t.every) := by
                by_cases h9 : 1125899906842624 < t.start + (t.count - 1) * t.every
                · rw [decide_eq_true h9, decide_eq_true_eq]; unfold okRange okEnd; omega
                · rw [decide_eq_false h9, decide_eq_false_iff_not]; unfold okRange okEnd; omega
              simp only [e9, e1, e2, e3]
              simp -implicitDefEqProofs only [evr, id, reduceCtorEq, reduceIte, Nat.reduceMul, Nat.reduceAdd, Nat.reduceLT, Nat.reduceLeDiff, Nat.reduceEqDiff, Int.reduceLT, Int.reduceBEq, Int.reduceBNe, Nat.reduceBEq, planC, tsk_one, bk_eq, sh1, tsk_0, tsk_1, tsk_2, tsk_3, tsk_4, tsk_5, tsk_6, evl, evn]
              done)))
    refine Sat.cond_b rfl (fun h => ?_) (fun h => ?_)
    · have h := of_decide_eq_true h
      have he : taskErr t = 1 := by unfold taskErr; rw [if_pos hpr, if_neg h]
      (repeat refine Sat.seq ?_)
      (refine Sat.region_k fun k hk => ?_; simp -implicitDefEqProofs only [evr, id, reduceCtorEq, reduceIte, Nat.reduceMul, Nat.reduceAdd, Nat.reduceLT, Nat.reduceLeDiff, Nat.reduceEqDiff, Int.reduceLT, Int.reduceBEq, Int.reduceBNe, Nat.reduceBEq, planC, tsk_one, bk_eq, sh1, tsk_0, tsk_1, tsk_2, tsk_3, tsk_4, tsk_5, tsk_6, evn]; refine hk _ ?_; clear hk k; try show Sat _ _ _ _ _)
      refine Sat.ret ?_
      simp only [Tryd.results15, evr, id, reduceCtorEq, reduceIte, Nat.reduceMul, Nat.reduceAdd, Nat.reduceLT, Nat.reduceLeDiff, Nat.reduceEqDiff, Int.reduceLT, Int.reduceBEq, Int.reduceBNe, Nat.reduceBEq, List.append_nil, Int.toNat_zero, Nat.sub_self, planC, tsk_one, bk_eq, sh1, tsk_0, tsk_1, tsk_2, tsk_3, tsk_4, tsk_5, tsk_6]
      rw [if_pos (by rw [he]; decide)] at hstep
      unfold planErr
      rw [if_neg (by omega), hte, hstep, he, if_pos (by decide)]
    have hr := Decidable.not_not.1 (of_decide_eq_false h)
    clear h
    refine Sat.skip ?_
    simp only [thenK]
    (repeat refine Sat.seq ?_)
    (refine Sat.region_k fun k hk => ?_; simp -implicitDefEqProofs only [evr, id, reduceCtorEq, reduceIte, Nat.reduceMul, Nat.reduceAdd, Nat.reduceLT, Nat.reduceLeDiff, Nat.reduceEqDiff, Int.reduceLT, Int.reduceBEq, Int.reduceBNe, Nat.reduceBEq, planC, tsk_one, bk_eq, sh1, tsk_0, tsk_1, tsk_2, tsk_3, tsk_4, tsk_5, tsk_6, evn])
    refine wcall_plain hus rfl (by rintro _ rfl; exact ok_plain rfl) ?_
    rintro r rfl
    simp -implicitDefEqProofs only [evr, id, reduceCtorEq, reduceIte, Nat.reduceMul, Nat.reduceAdd, Nat.reduceLT, Nat.reduceLeDiff, Nat.reduceEqDiff, Int.reduceLT, Int.reduceBEq, Int.reduceBNe, Nat.reduceBEq, planC, tsk_one, bk_eq, sh1, tsk_0, tsk_1, tsk_2, tsk_3, tsk_4, tsk_5, tsk_6, evn]
    (refine hk _ ?_; clear hk k; try show Sat _ _ _ _ _)
    refine Sat.cond_b rfl (fun h => ?_) (fun h => ?_)
    · have h : ¬ okAddr t := by simpa using h
      have he : taskErr t = 10 := by unfold taskErr; rw [if_pos hpr, if_pos hr, if_neg h]
      (repeat refine Sat.seq ?_)
      (refine Sat.region_k fun k hk => ?_; simp -implicitDefEqProofs only [evr, id, reduceCtorEq, reduceIte, Nat.reduceMul, Nat.reduceAdd, Nat.reduceLT, Nat.reduceLeDiff, Nat.reduceEqDiff, Int.reduceLT, Int.reduceBEq, Int.reduceBNe, Nat.reduceBEq, planC, tsk_one, bk_eq, sh1, tsk_0, tsk_1, tsk_2, tsk_3, tsk_4, tsk_5, tsk_6, evn]; refine hk _ ?_; clear hk k; try show Sat _ _ _ _ _)
      refine Sat.ret ?_
      simp only [Tryd.results15, evr, id, reduceCtorEq, reduceIte, Nat.reduceMul, Nat.reduceAdd, Nat.reduceLT, Nat.reduceLeDiff, Nat.reduceEqDiff, Int.reduceLT, Int.reduceBEq, Int.reduceBNe, Nat.reduceBEq, List.append_nil, Int.toNat_zero, Nat.sub_self, planC, tsk_one, bk_eq, sh1, tsk_0, tsk_1, tsk_2, tsk_3, tsk_4, tsk_5, tsk_6]
      rw [if_pos (by rw [he]; decide)] at hstep
      unfold planErr
      rw [if_neg (by omega), hte, hstep, he, if_pos (by decide)]
    have h : okAddr t := by simpa using h
    have he : taskErr t = 0 := by unfold taskErr; rw [if_pos hpr, if_pos hr, if_pos h]
    rw [if_neg (fun h9 => h9 he)] at hstep
    refine Sat.skip ?_
    simp only [thenK, blockK]
    refine Sat.region_k fun k hk => ?_
    simp -implicitDefEqProofs only [evr, id, reduceCtorEq, reduceIte, Nat.reduceMul, Nat.reduceAdd, Nat.reduceLT, Nat.reduceLeDiff, Nat.reduceEqDiff, Int.reduceLT, Int.reduceBEq, Int.reduceBNe, Nat.reduceBEq, planC, tsk_one, bk_eq, sh1, tsk_0, tsk_1, tsk_2, tsk_3, tsk_4, tsk_5, tsk_6, e3, evn]
    refine hk _ ?_
    simp only [thenK, blockK]
    refine ⟨i + 1, ⟨by omega, by rw [hte, hstep]⟩, by omega, ?_⟩
    simp -implicitDefEqProofs only [evr, id, reduceCtorEq, reduceIte, Nat.reduceMul, Nat.reduceAdd, Nat.reduceLT, Nat.reduceLeDiff, Nat.reduceEqDiff, Int.reduceLT, Int.reduceBEq, Int.reduceBNe, Nat.reduceBEq, planC, tsk_one, bk_eq, sh1, tsk_0, tsk_1, tsk_2, tsk_3, tsk_4, tsk_5, tsk_6, evl, evn]
    try rfl
  · have h1 : i = p.ts.length := by simp only [decide_eq_false_iff_not] at h; omega
    subst h1
    have hz : tasksErr p.ts = 0 := by rw [hte, List.drop_length]; rfl
    refine Sat.exit ?_
    simp only [thenK, blockK, reduceIte]
    (repeat refine Sat.seq ?_)
    (refine Sat.region_k fun k hk => ?_; simp -implicitDefEqProofs only [evr, id, reduceCtorEq, reduceIte, Nat.reduceMul, Nat.reduceAdd, Nat.reduceLT, Nat.reduceLeDiff, Nat.reduceEqDiff, Int.reduceLT, Int.reduceBEq, Int.reduceBNe, Nat.reduceBEq, planC, tsk_one, bk_eq, sh1, tsk_0, tsk_1, tsk_2, tsk_3, tsk_4, tsk_5, tsk_6, evn])
    refine wcall_plain hbk rfl (by rintro _ rfl; exact ok_plain rfl) ?_
    rintro r rfl
    simp -implicitDefEqProofs only [evr, id, reduceCtorEq, reduceIte, Nat.reduceMul, Nat.reduceAdd, Nat.reduceLT, Nat.reduceLeDiff, Nat.reduceEqDiff, Int.reduceLT, Int.reduceBEq, Int.reduceBNe, Nat.reduceBEq, planC, tsk_one, bk_eq, sh1, tsk_0, tsk_1, tsk_2, tsk_3, tsk_4, tsk_5, tsk_6, evn]
    (refine hk _ ?_; clear hk k; try show Sat _ _ _ _ _)
    refine Sat.ret ?_
    simp only [Tryd.results15, evr, id, reduceCtorEq, reduceIte, Nat.reduceMul, Nat.reduceAdd, Nat.reduceLT, Nat.reduceLeDiff, Nat.reduceEqDiff, Int.reduceLT, Int.reduceBEq, Int.reduceBNe, Nat.reduceBEq, List.append_nil, Int.toNat_zero, Nat.sub_self, planC, tsk_one, bk_eq, sh1, tsk_0, tsk_1, tsk_2, tsk_3, tsk_4, tsk_5, tsk_6]
    unfold planErr
    rw [if_neg (by omega), if_neg (by simp [hz])]
end Go.Proofs.YtgimngpcfenoaaaDoor
