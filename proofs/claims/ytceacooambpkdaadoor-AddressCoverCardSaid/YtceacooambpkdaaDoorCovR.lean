/- The reference's Cover. -/
import Derived.Test.YtceacooambpkdaaDoorCovE
set_option linter.unusedSimpArgs false
set_option linter.unusedVariables false
namespace Go.Proofs.YtceacooambpkdaaDoor
open Go.Sort Eng

set_option maxRecDepth 100000 in
theorem rfCoverC (F : Frm) (low0 high : Nat) (h0 : low0 < 2 ^ 32) (hh : high < 2 ^ 32) : Contract F Tryd.prog 25 [.agg 2 fun j => [SV.i .u32 low0, .i .u32 high].getD j default] (CovPost low0 high) := by
  have c0 := u32_64 h0
  have c1 := u32_64 hh
  refine contract_of Tryd.func25 rfl (by kernel_rfl) ?_
  simp only [Tryd.ntmps25, argEnv]
  (repeat refine Sat.seq ?_)
  (refine Sat.region_k fun k hk => ?_; simp -implicitDefEqProofs only [evr, id, reduceCtorEq, reduceIte, Nat.reduceMul, Nat.reduceAdd, Nat.reduceLT, Nat.reduceLeDiff, Nat.reduceEqDiff, Int.reduceLT, Int.reduceBEq, Int.reduceBNe, Nat.reduceBEq, List.append_nil, Int.toNat_zero, Nat.sub_self, Int.reduceNeg])
  intro b1
  (refine hk _ ?_; clear hk k; try show Sat _ _ _ _ _)
  (repeat refine Sat.seq ?_)
  (refine Sat.region_k fun k hk => ?_; simp -implicitDefEqProofs only [evr, id, reduceCtorEq, reduceIte, Nat.reduceMul, Nat.reduceAdd, Nat.reduceLT, Nat.reduceLeDiff, Nat.reduceEqDiff, Int.reduceLT, Int.reduceBEq, Int.reduceBNe, Nat.reduceBEq, List.append_nil, Int.toNat_zero, Nat.sub_self, Int.reduceNeg]; refine hk _ ?_; clear hk k; try show Sat _ _ _ _ _)
  (repeat refine Sat.seq ?_)
  refine Sat.region_k fun k hk => ?_
  simp -implicitDefEqProofs only [evr, id, reduceCtorEq, reduceIte, Nat.reduceMul, Nat.reduceAdd, Nat.reduceLT, Nat.reduceLeDiff, Nat.reduceEqDiff, Int.reduceLT, Int.reduceBEq, Int.reduceBNe, Nat.reduceBEq, List.append_nil, Int.toNat_zero, Nat.sub_self, Int.reduceNeg, c0]
  (refine hk _ ?_; clear hk k; try show Sat _ _ _ _ _)
  (repeat refine Sat.seq ?_)
  refine Sat.block ?_
  refine Sat.adopt 3 25 2 (prRd (covX low0 high)) rfl ?_
  refine Sat.loop (ι := (Nat × Nat) × Option Addr × Nat) (fun x => ⟨50, [(4, .i .i64 x.1.2), (1, .op 0 b1 0), (3, .os 1 x.2.1 x.1.1 x.2.2)], [.box b1 49 [.i .u32 low0, .i .u32 high], .row x.2.1 25 x.1.1 x.2.2 2 (prRd (covX low0 high))]⟩)
    (fun x => CovInv low0 high x.1.1 x.1.2) (fun x => (covX low0 high).length - x.1.1) ((0, low0), none, 0) ⟨by show low0 ≤ 2 ^ 32; omega, rfl, Nat.zero_le _⟩ (by simp -implicitDefEqProofs only [evr, id, reduceCtorEq, reduceIte, Nat.reduceMul, Nat.reduceAdd, Nat.reduceLT, Nat.reduceLeDiff, Nat.reduceEqDiff, Int.reduceLT, Int.reduceBEq, Int.reduceBNe, Nat.reduceBEq, List.append_nil, Int.toNat_zero, Nat.sub_self, Int.reduceNeg, evl]; try rfl) ?_
  rintro ⟨⟨i, low⟩, a, c⟩ hI
  simp only at hI ⊢
  (repeat refine Sat.seq ?_)
  refine Sat.region_k fun k hk => ?_
  simp -implicitDefEqProofs only [evr, id, reduceCtorEq, reduceIte, Nat.reduceMul, Nat.reduceAdd, Nat.reduceLT, Nat.reduceLeDiff, Nat.reduceEqDiff, Int.reduceLT, Int.reduceBEq, Int.reduceBNe, Nat.reduceBEq, List.append_nil, Int.toNat_zero, Nat.sub_self, Int.reduceNeg, c1]
  (refine hk _ ?_; clear hk k; try show Sat _ _ _ _ _)
  (repeat refine Sat.seq ?_)
  refine Sat.cond_b rfl (fun h => ?_) (fun h => ?_)
  · have hl : low ≤ high := by simp only [decide_eq_true_eq] at h; omega
    clear h
    obtain ⟨hi, hget⟩ := hI.here hl
    have hN := hI.next hl hh
    have hlow : low < 2 ^ 32 := by omega
    have hlen62 : (covX low0 high).length ≤ 62 := cov_len (low := low0) (w := high + 1 - low0) (by omega)
    refine Sat.skip ?_
    simp only [thenK]
    (repeat refine Sat.seq ?_)
    refine Sat.block ?_
    (repeat refine Sat.seq ?_)
    (refine Sat.region_k fun k hk => ?_; simp -implicitDefEqProofs only [evr, id, reduceCtorEq, reduceIte, Nat.reduceMul, Nat.reduceAdd, Nat.reduceLT, Nat.reduceLeDiff, Nat.reduceEqDiff, Int.reduceLT, Int.reduceBEq, Int.reduceBNe, Nat.reduceBEq, List.append_nil, Int.toNat_zero, Nat.sub_self, Int.reduceNeg]; refine hk _ ?_; clear hk k; try show Sat _ _ _ _ _)
    (repeat refine Sat.seq ?_)
    refine Sat.block ?_
    refine Sat.loop (ι := Nat) (fun n => ⟨50, [(5, .i .i64 n), (4, .i .i64 low), (1, .op 0 b1 0), (3, .os 1 a i c)], [.box b1 49 [.i .u32 low0, .i .u32 high], .row a 25 i c 2 (prRd (covX low0 high))]⟩)
      (fun n => n ≤ 32 ∧ CanK low (high + 1 - low) (32 - n)) (fun n => n) 32 ⟨Nat.le_refl _, by refine ⟨?_, ?_⟩ <;> simp <;> omega⟩ (by simp -implicitDefEqProofs only [evr, id, reduceCtorEq, reduceIte, Nat.reduceMul, Nat.reduceAdd, Nat.reduceLT, Nat.reduceLeDiff, Nat.reduceEqDiff, Int.reduceLT, Int.reduceBEq, Int.reduceBNe, Nat.reduceBEq, List.append_nil, Int.toNat_zero, Nat.sub_self, Int.reduceNeg, evl]; try rfl) ?_
    rintro n ⟨hn, hcan⟩
    (repeat refine Sat.seq ?_)
    refine Sat.region_qat (by kernel_rfl) (by kernel_rfl) ⟨50, [(35, .b (decide (0 < n ∧ CanK low (high + 1 - low) (32 - (n - 1))))), (5, .i .i64 n), (4, .i .i64 low), (1, .op 0 b1 0), (3, .os 1 a i c)], [.box b1 49 [.i .u32 low0, .i .u32 high], .row a 25 i c 2 (prRd (covX low0 high))]⟩ (fun k hk => ?_) ?_
    · simp -implicitDefEqProofs only [evr, id, reduceCtorEq, reduceIte, Nat.reduceMul, Nat.reduceAdd, Nat.reduceLT, Nat.reduceLeDiff, Nat.reduceEqDiff, Int.reduceLT, Int.reduceBEq, Int.reduceBNe, Nat.reduceBEq, List.append_nil, Int.toNat_zero, Nat.sub_self, Int.reduceNeg]
      refine ⟨fun h => ?_, fun h => ?_⟩
      · have e1 : IntKind.i64.wrap ((n : Int) - 1) = ((n - 1 : Nat) : Int) := by rw [w64 (by omega)]; omega
        have hpp := Nat.two_pow_pos (32 - (n - 1))
        have hpl := pow_le32 (k := 32 - (n - 1)) (by omega)
        have hs := sizeC Frm.nil ((n - 1 : Nat) : Int) (by omega) (by omega)
        rw [Int.toNat_natCast] at hs
        have hC : CanK low (high + 1 - low) (32 - (n - 1)) ↔ low % 2 ^ (32 - (n - 1)) = 0 ∧ 2 ^ (32 - (n - 1)) ≤ high + 1 - low := Iff.rfl
        generalize 2 ^ (32 - (n - 1)) = q at *
        have e2 : Int.tmod (low : Int) (q : Int) = ((low % q : Nat) : Int) := by rw [Int.tmod_eq_emod_of_nonneg (Int.natCast_nonneg _), ← Int.natCast_emod]
        have e3 : IntKind.i64.wrap ((low : Int) + (q : Int)) = ((low + q : Nat) : Int) := by rw [w64 (by omega)]; omega
        have e4 : IntKind.i64.wrap (((low + q : Nat) : Int) - 1) = ((low + q - 1 : Nat) : Int) := by rw [w64 (by omega)]; omega
        simp only [e1]
        refine qcall hs (by simp -implicitDefEqProofs only [evr, id, reduceCtorEq, reduceIte, Nat.reduceMul, Nat.reduceAdd, Nat.reduceLT, Nat.reduceLeDiff, Nat.reduceEqDiff, Int.reduceLT, Int.reduceBEq, Int.reduceBNe, Nat.reduceBEq, List.append_nil, Int.toNat_zero, Nat.sub_self, Int.reduceNeg]) (ok_plain rfl) ?_
        simp -implicitDefEqProofs only [evr, id, reduceCtorEq, reduceIte, Nat.reduceMul, Nat.reduceAdd, Nat.reduceLT, Nat.reduceLeDiff, Nat.reduceEqDiff, Int.reduceLT, Int.reduceBEq, Int.reduceBNe, Nat.reduceBEq, List.append_nil, Int.toNat_zero, Nat.sub_self, Int.reduceNeg, e2, beq_iff_eq]
        refine ⟨by omega, fun h2 => ?_, fun h2 => ?_⟩
        · simp only [e1]
          refine qcall hs (by simp -implicitDefEqProofs only [evr, id, reduceCtorEq, reduceIte, Nat.reduceMul, Nat.reduceAdd, Nat.reduceLT, Nat.reduceLeDiff, Nat.reduceEqDiff, Int.reduceLT, Int.reduceBEq, Int.reduceBNe, Nat.reduceBEq, List.append_nil, Int.toNat_zero, Nat.sub_self, Int.reduceNeg]) (ok_plain rfl) ?_
          simp -implicitDefEqProofs only [evr, id, reduceCtorEq, reduceIte, Nat.reduceMul, Nat.reduceAdd, Nat.reduceLT, Nat.reduceLeDiff, Nat.reduceEqDiff, Int.reduceLT, Int.reduceBEq, Int.reduceBNe, Nat.reduceBEq, List.append_nil, Int.toNat_zero, Nat.sub_self, Int.reduceNeg, e3, e4, c1]
          refine hk _ ?_
          have e : decide (((low + q - 1 : Nat) : Int) ≤ (high : Int)) = decide (0 < n ∧ CanK low (high + 1 - low) (32 - (n - 1))) := by
            apply Bool.eq_iff_iff.2
            simp only [decide_eq_true_eq, hC]
            omega
          simp only [e]
          simp -implicitDefEqProofs only [evr, id, reduceCtorEq, reduceIte, Nat.reduceMul, Nat.reduceAdd, Nat.reduceLT, Nat.reduceLeDiff, Nat.reduceEqDiff, Int.reduceLT, Int.reduceBEq, Int.reduceBNe, Nat.reduceBEq, List.append_nil, Int.toNat_zero, Nat.sub_self, Int.reduceNeg, evl]
        · refine hk _ ?_
          have e : decide (0 < n ∧ CanK low (high + 1 - low) (32 - (n - 1))) = false := by
            have : ¬ low % q = 0 := by
              intro h9
              have h10 : (((low % q : Nat) : Int) == 0) = true := beq_iff_eq.2 (by omega)
              first | (rw [h10] at h2; cases h2) | omega
            exact decide_eq_false (fun h11 => this (hC.1 h11.2).1)
          simp only [e]
          simp -implicitDefEqProofs only [evr, id, reduceCtorEq, reduceIte, Nat.reduceMul, Nat.reduceAdd, Nat.reduceLT, Nat.reduceLeDiff, Nat.reduceEqDiff, Int.reduceLT, Int.reduceBEq, Int.reduceBNe, Nat.reduceBEq, List.append_nil, Int.toNat_zero, Nat.sub_self, Int.reduceNeg, evl]
      · refine hk _ ?_
        have e : decide (0 < n ∧ CanK low (high + 1 - low) (32 - (n - 1))) = false := decide_eq_false (by omega)
        simp only [e]
        simp -implicitDefEqProofs only [evr, id, reduceCtorEq, reduceIte, Nat.reduceMul, Nat.reduceAdd, Nat.reduceLT, Nat.reduceLeDiff, Nat.reduceEqDiff, Int.reduceLT, Int.reduceBEq, Int.reduceBNe, Nat.reduceBEq, List.append_nil, Int.toNat_zero, Nat.sub_self, Int.reduceNeg, evl]
    try simp only [thenK]
    refine Sat.cond_b rfl (fun h => ?_) (fun h => ?_)
    · simp only [decide_eq_true_eq] at h
      have e1 : IntKind.i64.wrap ((n : Int) - 1) = ((n - 1 : Nat) : Int) := by rw [w64 (by omega)]; omega
      refine Sat.skip ?_
      simp only [thenK, blockK]
      refine Sat.block ?_
      refine Sat.region_k fun k hk => ?_
      simp -implicitDefEqProofs only [evr, id, reduceCtorEq, reduceIte, Nat.reduceMul, Nat.reduceAdd, Nat.reduceLT, Nat.reduceLeDiff, Nat.reduceEqDiff, Int.reduceLT, Int.reduceBEq, Int.reduceBNe, Nat.reduceBEq, List.append_nil, Int.toNat_zero, Nat.sub_self, Int.reduceNeg, e1]
      refine hk _ ?_
      simp only [thenK, blockK]
      refine ⟨n - 1, ⟨by omega, h.2⟩, by omega, ?_⟩
      simp -implicitDefEqProofs only [evr, id, reduceCtorEq, reduceIte, Nat.reduceMul, Nat.reduceAdd, Nat.reduceLT, Nat.reduceLeDiff, Nat.reduceEqDiff, Int.reduceLT, Int.reduceBEq, Int.reduceBNe, Nat.reduceBEq, List.append_nil, Int.toNat_zero, Nat.sub_self, Int.reduceNeg, evl]
    · simp only [decide_eq_false_iff_not] at h
      have hbk : bestK low (high + 1 - low) = 32 - n := bestK_unique (by omega) (by omega) hcan (by
        rcases Nat.eq_zero_or_pos n with rfl | hp
        · exact .inl rfl
        · refine .inr fun hc => h ⟨hp, ?_⟩
          rw [show 32 - (n - 1) = 32 - n + 1 by omega]
          exact hc)
      rw [hbk] at hN hget
      have hg : (32 : Int) - ((32 - n : Nat) : Int) = (n : Int) := by omega
      rw [hg] at hget
      have f1 : IntKind.u32.wrap (low : Int) = (low : Int) := w32u _ (Int.natCast_nonneg _) (by omega)
      have hpl := pow_le32 (k := 32 - n) (by omega)
      have f4' : ∀ q : Nat, q ≤ 2 ^ 32 → IntKind.i64.wrap ((low : Int) + (q : Int)) = ((low + q : Nat) : Int) := fun q hq => by rw [w64 (by omega)]; omega
      have f4 := f4' (2 ^ (32 - n)) hpl
      have hs := sizeC F (n : Int) (by omega) (by omega)
      rw [Int.toNat_natCast] at hs
      refine Sat.exit ?_
      simp only [thenK, blockK, reduceIte]
      (repeat refine Sat.seq ?_)
      refine Sat.region_k fun k hk => ?_
      simp -implicitDefEqProofs only [evr, id, reduceCtorEq, reduceIte, Nat.reduceMul, Nat.reduceAdd, Nat.reduceLT, Nat.reduceLeDiff, Nat.reduceEqDiff, Int.reduceLT, Int.reduceBEq, Int.reduceBNe, Nat.reduceBEq, List.append_nil, Int.toNat_zero, Nat.sub_self, Int.reduceNeg, f1]
      intro blk
      refine ⟨⟨by unfold maxLen; omega, by omega⟩, fun a2 cap2 => ?_⟩
      (refine hk _ ?_; clear hk k; try show Sat _ _ _ _ _)
      (repeat refine Sat.seq ?_)
      (refine Sat.region_k fun k hk => ?_; simp -implicitDefEqProofs only [evr, id, reduceCtorEq, reduceIte, Nat.reduceMul, Nat.reduceAdd, Nat.reduceLT, Nat.reduceLeDiff, Nat.reduceEqDiff, Int.reduceLT, Int.reduceBEq, Int.reduceBNe, Nat.reduceBEq, List.append_nil, Int.toNat_zero, Nat.sub_self, Int.reduceNeg])
      refine wcall_plain hs rfl (by rintro _ rfl; exact ok_plain rfl) ?_
      rintro r rfl
      simp -implicitDefEqProofs only [evr, id, reduceCtorEq, reduceIte, Nat.reduceMul, Nat.reduceAdd, Nat.reduceLT, Nat.reduceLeDiff, Nat.reduceEqDiff, Int.reduceLT, Int.reduceBEq, Int.reduceBNe, Nat.reduceBEq, List.append_nil, Int.toNat_zero, Nat.sub_self, Int.reduceNeg, f4]
      refine hk _ ?_
      simp only [thenK, blockK]
      refine ⟨((i + 1, low + 2 ^ (32 - n)), a2, cap2), hN, by show (covX low0 high).length - (i + 1) < (covX low0 high).length - i; omega, ?_⟩
      simp -implicitDefEqProofs only [evr, id, reduceCtorEq, reduceIte, Nat.reduceMul, Nat.reduceAdd, Nat.reduceLT, Nat.reduceLeDiff, Nat.reduceEqDiff, Int.reduceLT, Int.reduceBEq, Int.reduceBNe, Nat.reduceBEq, List.append_nil, Int.toNat_zero, Nat.sub_self, Int.reduceNeg, evl]
      refine rdEq_snoc (rdEq_refl _ _ _) fun j hj => ?_
      unfold prRd
      rw [hget]
      rcases (show j = 0 ∨ j = 1 by omega) with rfl | rfl <;> rfl
  · have hd := hI.done (by simp only [decide_eq_false_iff_not] at h; omega)
    refine Sat.exit ?_
    simp only [thenK, blockK, reduceIte]
    (repeat refine Sat.seq ?_)
    (refine Sat.region_k fun k hk => ?_; simp -implicitDefEqProofs only [evr, id, reduceCtorEq, reduceIte, Nat.reduceMul, Nat.reduceAdd, Nat.reduceLT, Nat.reduceLeDiff, Nat.reduceEqDiff, Int.reduceLT, Int.reduceBEq, Int.reduceBNe, Nat.reduceBEq, List.append_nil, Int.toNat_zero, Nat.sub_self, Int.reduceNeg]; refine hk _ ?_; clear hk k; try show Sat _ _ _ _ _)
    refine Sat.ret ?_
    simp only [Tryd.results25, evr, id, reduceCtorEq, reduceIte, Nat.reduceMul, Nat.reduceAdd, Nat.reduceLT, Nat.reduceLeDiff, Nat.reduceEqDiff, Int.reduceLT, Int.reduceBEq, Int.reduceBNe, Nat.reduceBEq, List.append_nil, Int.toNat_zero, Nat.sub_self, Int.reduceNeg]
    unfold CovPost
    rw [← hd]
    exact ⟨_, _, rfl⟩
end Go.Proofs.YtceacooambpkdaaDoor
