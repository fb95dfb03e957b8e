import Derived.Test.YtepbdjpcoleegaaParSrt0

/- Sorting in place, by the evaluator: partialInsertionSortCmpFunc. -/
set_option linter.unusedSimpArgs false
set_option linter.unusedVariables false
namespace Go.Proofs.Ytepbdjpcoleegaa
open Go.Sort Eng
theorem par_partialIns {lt : Par → Par → Bool} {a b s i i2 : Nat} {d d2 d3 : Array Par} (h1 : scanSorted lt d b i = i2) (h2 : d2 = if i2 - a ≥ 2 then shiftDown lt (i2 - 1) (swp d i2 (i2 - 1)) else swp d i2 (i2 - 1)) (h3 : d3 = if b - i2 ≥ 2 then shiftUp lt b (i2 + 1) d2 else d2) :
  partialIns lt a b (s + 1) i d = if i2 = b then (d, true) else if b - a < 50 then (d, false) else partialIns lt a b s i2 d3 := by
 rw [partialIns]
 simp only [h1, ← h2, ← h3]
set_option maxRecDepth 100000 in
theorem parPinC (F : Frm) {g : FuncId} {rdc : Nat → SV} {lt : Par → Par → Bool} (hc : parCmp g lt) (ad : Option Addr) (cap N : Nat) (d : Array Par) (hd : d.size = N) (hN : N ≤ 1000000000000) (a b : Nat) (hab : a < b) (hb : b ≤ N) :
  ContractM F Try.prog 92 [.os 0 ad N cap, .i .i64 a, .i .i64 b, .fn g 0 rdc] (parRow ad N cap d)
   (fun r o1 => ∃ d' x, d'.size = N ∧ partialInsertionSort lt d a b = (d', x) ∧ r = .b x ∧ o1 = parRow ad N cap d') := by
 refine contractM_of Try.func92 rfl (by kernel_rfl) (by rintro r o1 ⟨d', x, _, _, _, rfl⟩; exact par_blk _ _) ?_
 simp only [Try.ntmps92, argEnv]
 (repeat refine Sat.seq ?_)
 (refine Sat.region_k fun k hk => ?_; simp -implicitDefEqProofs only [evr, id, seval, par_one, parRow, List.append_nil, retM, retMK]; refine hk _ ?_; clear hk k; try show Sat _ _ _ _ _)
 (repeat refine Sat.seq ?_)
 have e1 : IntKind.i64.wrap ((a : Int) + 1) = ((a + 1 : Nat) : Int) := by rw [w64 (by omega)]; omega
 refine Sat.region_k fun k hk => ?_
 simp -implicitDefEqProofs only [evr, id, seval, par_one, parRow, List.append_nil, retM, retMK, e1]
 (refine hk _ ?_; clear hk k; try show Sat _ _ _ _ _)
 (repeat refine Sat.seq ?_)
 (refine Sat.region_k fun k hk => ?_; simp -implicitDefEqProofs only [evr, id, seval, par_one, parRow, List.append_nil, retM, retMK]; refine hk _ ?_; clear hk k; try show Sat _ _ _ _ _)
 (repeat refine Sat.seq ?_)
 refine Sat.block ?_
 refine Sat.loop (ι := Nat × Nat × Array Par) (fun x => ⟨141, [(9, .i .i64 x.2.1), (10, .i .i64 (5 - (x.1 : Int))), (0, .os 0 ad N cap), (1, .i .i64 a), (2, .i .i64 b), (3, .fn g 0 rdc)], [parRow ad N cap x.2.2]⟩)
  (fun x => x.1 ≤ 5 ∧ a < x.2.1 ∧ x.2.1 ≤ b ∧ x.2.2.size = N ∧ partialIns lt a b x.1 x.2.1 x.2.2 = partialInsertionSort lt d a b) (fun x => x.1) (5, a + 1, d) ⟨Nat.le_refl _, by show a < a + 1; omega, by show a + 1 ≤ b; omega, hd, rfl⟩ (by simp -implicitDefEqProofs only [evr, id, seval, par_one, parRow, List.append_nil, retM, retMK, evl]; try rfl) ?_
 rintro ⟨s, i, d1⟩ ⟨hs, hi1, hi2, hd1, heq1⟩
 simp only at hs hi1 hi2 hd1 heq1 ⊢
 (repeat refine Sat.seq ?_)
 (refine Sat.region_k fun k hk => ?_; simp -implicitDefEqProofs only [evr, id, seval, par_one, parRow, List.append_nil, retM, retMK]; refine hk _ ?_; clear hk k; try show Sat _ _ _ _ _)
 (repeat refine Sat.seq ?_)
 refine Sat.cond_b rfl (fun h => ?_) (fun h => ?_)
 ·simp only [decide_eq_true_eq] at h
  obtain ⟨s, rfl⟩ : ∃ s', s = s' + 1 := ⟨s - 1, by omega⟩
  refine Sat.skip ?_
  simp only [thenK]
  (repeat refine Sat.seq ?_)
  refine Sat.block ?_
  (repeat refine Sat.seq ?_)
  refine Sat.block ?_
  refine Sat.loop (ι := Nat) (fun x => ⟨141, [(9, .i .i64 x), (10, .i .i64 (5 - ((s + 1 : Nat) : Int))), (0, .os 0 ad N cap), (1, .i .i64 a), (2, .i .i64 b), (3, .fn g 0 rdc)], [parRow ad N cap d1]⟩) (fun x => i ≤ x ∧ x ≤ b ∧ scanSorted lt d1 b x = scanSorted lt d1 b i) (fun x => b - x) i ⟨Nat.le_refl _, hi2, rfl⟩ (by simp -implicitDefEqProofs only [evr, id, seval, par_one, parRow, List.append_nil, retM, retMK, evl]) ?_
  rintro m ⟨hm0, hm1, hm2⟩
  (repeat refine Sat.seq ?_)
  have e2 : IntKind.i64.wrap ((m : Int) - 1) = ((m - 1 : Nat) : Int) := by rw [w64 (by omega)]; omega
  refine Sat.region_qat (by kernel_rfl) (by kernel_rfl) ⟨141, [(36, .b (decide (m < b) && !lt d1[m]! d1[m - 1]!)), (9, .i .i64 m), (10, .i .i64 (5 - ((s + 1 : Nat) : Int))), (0, .os 0 ad N cap), (1, .i .i64 a), (2, .i .i64 b), (3, .fn g 0 rdc)], [parRow ad N cap d1]⟩ (fun k hk => ?_) ?_
  ·simp -implicitDefEqProofs only [evr, id, seval, par_one, parRow, List.append_nil, retM, retMK, e2]
   refine ⟨fun h0 => ?_, fun h0 => ?_⟩
   ·refine ⟨by omega, by omega, by omega, by omega, ?_⟩
    refine par_qcmp hc d1[m]! d1[m - 1]! fun c hcl => ?_
    simp -implicitDefEqProofs only [evr, id, seval, par_one, parRow, List.append_nil, retM, retMK]
    refine hk _ ?_
    have e3 : (decide (m < b) && !lt d1[m]! d1[m - 1]!) = !decide (c < 0) := by rw [hcl]; simp; omega
    simp only [e3]
    simp -implicitDefEqProofs only [evr, id, seval, par_one, parRow, List.append_nil, retM, retMK, evl]
   ·refine hk _ ?_
    have e3 : (decide (m < b) && !lt d1[m]! d1[m - 1]!) = false := by simp; omega
    simp only [e3]
    simp -implicitDefEqProofs only [evr, id, seval, par_one, parRow, List.append_nil, retM, retMK, evl]
  ·simp only [thenK]
   refine Sat.cond_b rfl (fun h3 => ?_) (fun h3 => ?_)
   ·have h4 := h3
    simp only [Bool.and_eq_true, decide_eq_true_eq] at h3
    have e4 : IntKind.i64.wrap ((m : Int) + 1) = ((m + 1 : Nat) : Int) := by rw [w64 (by omega)]; omega
    refine Sat.skip ?_
    simp only [thenK]
    (repeat refine Sat.seq ?_)
    refine Sat.block ?_
    (repeat refine Sat.seq ?_)
    refine Sat.region_k fun k hk => ?_
    simp -implicitDefEqProofs only [evr, id, seval, par_one, parRow, List.append_nil, retM, retMK, e4]
    refine hk _ ?_
    simp only [thenK, blockK]
    refine ⟨m + 1, ⟨by omega, by omega, ?_⟩, by omega, ?_⟩
    ·rw [← hm2]; conv => rhs; rw [scanSorted]
     rw [if_pos h4]
    ·simp -implicitDefEqProofs only [evr, id, seval, par_one, parRow, List.append_nil, retM, retMK, evl]
   ·refine Sat.exit ?_
    simp only [thenK, blockK, Nat.reduceEqDiff, reduceIte]
    have hi2' : scanSorted lt d1 b i = m := by rw [← hm2, scanSorted, if_neg (by rw [h3]; exact Bool.false_ne_true)]
    clear hm2 h3
    obtain ⟨d2, hd2e⟩ : ∃ d2, d2 = if m - a ≥ 2 then shiftDown lt (m - 1) (swp d1 m (m - 1)) else swp d1 m (m - 1) := ⟨_, rfl⟩
    obtain ⟨d3, hd3e⟩ : ∃ d3, d3 = if b - m ≥ 2 then shiftUp lt b (m + 1) d2 else d2 := ⟨_, rfl⟩
    have hst := par_partialIns (s := s) hi2' hd2e hd3e
    (repeat refine Sat.seq ?_)
    (refine Sat.region_k fun k hk => ?_; simp -implicitDefEqProofs only [evr, id, seval, par_one, parRow, List.append_nil, retM, retMK]; refine hk _ ?_; clear hk k; try show Sat _ _ _ _ _)
    (repeat refine Sat.seq ?_)
    refine Sat.cond_b rfl (fun h3 => ?_) (fun h3 => ?_)
    ·have h4 : m = b := by
      have : (m : Int) = (b : Int) := by simpa using h3
      omega
     (repeat refine Sat.seq ?_)
     (refine Sat.region_k fun k hk => ?_; simp -implicitDefEqProofs only [evr, id, seval, par_one, parRow, List.append_nil, retM, retMK]; refine hk _ ?_; clear hk k; try show Sat _ _ _ _ _)
     refine Sat.ret ?_
     simp only [Try.results92, evr, id, seval, par_one, parRow, List.append_nil, retM, retMK]
     refine ⟨rfl, _, _, rfl, d1, true, hd1, ?_, rfl, rfl⟩
     rw [← heq1, hst, if_pos h4]
    ·have h4 : ¬ m = b := by
      have : ¬ (m : Int) = (b : Int) := by simpa using h3
      omega
     rw [if_neg h4] at hst
     refine Sat.skip ?_
     simp only [thenK]
     (repeat refine Sat.seq ?_)
     have e3 : IntKind.i64.wrap ((b : Int) - (a : Int)) = ((b - a : Nat) : Int) := by rw [w64 (by omega)]; omega
     refine Sat.region_k fun k hk => ?_
     simp -implicitDefEqProofs only [evr, id, seval, par_one, parRow, List.append_nil, retM, retMK, e3]
     (refine hk _ ?_; clear hk k; try show Sat _ _ _ _ _)
     (repeat refine Sat.seq ?_)
     refine Sat.cond_b rfl (fun h5 => ?_) (fun h5 => ?_)
     ·simp only [decide_eq_true_eq] at h5
      (repeat refine Sat.seq ?_)
      (refine Sat.region_k fun k hk => ?_; simp -implicitDefEqProofs only [evr, id, seval, par_one, parRow, List.append_nil, retM, retMK]; refine hk _ ?_; clear hk k; try show Sat _ _ _ _ _)
      refine Sat.ret ?_
      simp only [Try.results92, evr, id, seval, par_one, parRow, List.append_nil, retM, retMK]
      refine ⟨rfl, _, _, rfl, d1, false, hd1, ?_, rfl, rfl⟩
      rw [← heq1, hst, if_pos (by omega)]
     ·simp only [decide_eq_false_iff_not] at h5
      rw [if_neg (by omega)] at hst
      refine Sat.skip ?_
      simp only [thenK]
      (repeat refine Sat.seq ?_)
      (refine Sat.region_ord [0, 1, 2, 3, 4, 5, 6, 7, 8, 10, 11, 12, 9, 13, 14, 15, 16, 17] (by kernel_rfl) (by kernel_rfl) rfl rfl (fun _ _ h => h) fun k hk => ?_; simp only [List.map_cons, List.map_nil, List.getD_cons_zero, List.getD_cons_succ]; simp -implicitDefEqProofs only [evr, id, seval, par_one, parRow, List.append_nil, retM, retMK])
      simp only [e2, Int.toNat_natCast]
      refine ⟨by omega, by omega, by omega, by omega, by omega, by omega, by omega, by omega, ?_⟩
      refine hk _ ?_
      simp only [thenK, blockK]
      refine Sat.le (st' := ⟨141, [(9, .i .i64 m), (10, .i .i64 (5 - ((s + 1 : Nat) : Int))), (0, .os 0 ad N cap), (1, .i .i64 a), (2, .i .i64 b), (3, .fn g 0 rdc)], [parRow ad N cap (swp d1 (m) (m - 1))]⟩) ?_ (by simp -implicitDefEqProofs only [evr, id, seval, par_one, parRow, List.append_nil, retM, retMK, evl]; exact par_swp hd1 (by omega) (by omega))
      have hds : (swp d1 m (m - 1)).size = N := by rw [swp_size]; exact hd1
      obtain ⟨ds, hdse⟩ : ∃ ds, ds = swp d1 m (m - 1) := ⟨_, rfl⟩
      rw [← hdse] at hds hd2e ⊢
      (repeat refine Sat.seq ?_)
      have e5 : IntKind.i64.wrap ((m : Int) - (a : Int)) = ((m - a : Nat) : Int) := by rw [w64 (by omega)]; omega
      refine Sat.region_k fun k hk => ?_
      simp -implicitDefEqProofs only [evr, id, seval, par_one, parRow, List.append_nil, retM, retMK, e5]
      (refine hk _ ?_; clear hk k; try show Sat _ _ _ _ _)
      (repeat refine Sat.seq ?_)
      refine Sat.atF (ι := Array Par) (fun x => ⟨141, [(9, .i .i64 m), (10, .i .i64 (5 - ((s + 1 : Nat) : Int))), (0, .os 0 ad N cap), (1, .i .i64 a), (2, .i .i64 b), (3, .fn g 0 rdc)], [parRow ad N cap x]⟩) (fun x => x.size = N ∧ x = d2) ?_ ?_
      ·refine Sat.cond_b rfl (fun h6 => ?_) (fun h6 => ?_)
       ·simp only [decide_eq_true_eq] at h6
        rw [if_pos (by omega)] at hd2e
        (repeat refine Sat.seq ?_)
        refine Sat.region_k fun k hk => ?_
        simp -implicitDefEqProofs only [evr, id, seval, par_one, parRow, List.append_nil, retM, retMK, e2]
        (refine hk _ ?_; clear hk k; try show Sat _ _ _ _ _)
        refine Sat.block ?_
        refine Sat.loop (ι := Nat × Array Par) (fun x => ⟨141, [(11, .i .i64 x.1), (9, .i .i64 m), (10, .i .i64 (5 - ((s + 1 : Nat) : Int))), (0, .os 0 ad N cap), (1, .i .i64 a), (2, .i .i64 b), (3, .fn g 0 rdc)], [parRow ad N cap x.2]⟩) (fun x => x.1 < m ∧ x.2.size = N ∧ shiftDown lt x.1 x.2 = shiftDown lt (m - 1) ds) (fun x => x.1) (m - 1, ds) ⟨by show m - 1 < m; omega, hds, rfl⟩ (by simp -implicitDefEqProofs only [evr, id, seval, par_one, parRow, List.append_nil, retM, retMK, evl]) ?_
        rintro ⟨j, dj⟩ ⟨hj, hdj, heqj⟩
        simp only at hj hdj heqj ⊢
        (repeat refine Sat.seq ?_)
        (refine Sat.region_k fun k hk => ?_; simp -implicitDefEqProofs only [evr, id, seval, par_one, parRow, List.append_nil, retM, retMK]; refine hk _ ?_; clear hk k; try show Sat _ _ _ _ _)
        (repeat refine Sat.seq ?_)
        refine Sat.cond_b rfl (fun h7 => ?_) (fun h7 => ?_)
        ·simp only [decide_eq_true_eq] at h7
         obtain ⟨j, rfl⟩ : ∃ j', j = j' + 1 := ⟨j - 1, by omega⟩
         have e6 : IntKind.i64.wrap (((j + 1 : Nat) : Int) - 1) = (j : Int) := by rw [w64 (by omega)]; omega
         refine Sat.skip ?_
         simp only [thenK]
         (repeat refine Sat.seq ?_)
         refine Sat.block ?_
         (repeat refine Sat.seq ?_)
         refine Sat.region_qk (by kernel_rfl) (by kernel_rfl) fun k hk => ?_
         simp -implicitDefEqProofs only [evr, id, seval, par_one, parRow, List.append_nil, retM, retMK, e6]
         refine ⟨by omega, by omega, by omega, by omega, ?_⟩
         refine par_qcmp hc dj[j + 1]! dj[j]! fun c hcl => ?_
         simp -implicitDefEqProofs only [evr, id, seval, par_one, parRow, List.append_nil, retM, retMK, ← hcl]
         (refine hk _ ?_; clear hk k; try show Sat _ _ _ _ _)
         (repeat refine Sat.seq ?_)
         refine Sat.cond_b rfl (fun h8 => ?_) (fun h8 => ?_)
         ·refine Sat.exit ?_
          simp only [thenK, blockK, Nat.reduceEqDiff, reduceIte]
          refine ⟨dj, ⟨hdj, ?_⟩, ?_⟩
          ·rw [hd2e, ← heqj, shiftDown, if_pos h8]
          ·simp -implicitDefEqProofs only [evr, id, seval, par_one, parRow, List.append_nil, retM, retMK, evl]
         ·refine Sat.skip ?_
          simp only [thenK]
          (repeat refine Sat.seq ?_)
          (refine Sat.region_ord [0, 1, 2, 3, 4, 5, 6, 7, 8, 10, 11, 12, 9, 13, 14, 15, 16, 17] (by kernel_rfl) (by kernel_rfl) rfl rfl (fun _ _ h => h) fun k hk => ?_; simp only [List.map_cons, List.map_nil, List.getD_cons_zero, List.getD_cons_succ]; simp -implicitDefEqProofs only [evr, id, seval, par_one, parRow, List.append_nil, retM, retMK])
          simp only [e6, Int.toNat_natCast]
          refine ⟨by omega, by omega, by omega, by omega, by omega, by omega, by omega, by omega, ?_⟩
          refine hk _ ?_
          simp only [thenK, blockK]
          refine Sat.le (st' := ⟨141, [(11, .i .i64 ((j + 1 : Nat) : Int)), (9, .i .i64 m), (10, .i .i64 (5 - ((s + 1 : Nat) : Int))), (0, .os 0 ad N cap), (1, .i .i64 a), (2, .i .i64 b), (3, .fn g 0 rdc)], [parRow ad N cap (swp dj (j + 1) (j))]⟩) ?_ (by simp -implicitDefEqProofs only [evr, id, seval, par_one, parRow, List.append_nil, retM, retMK, evl]; exact par_swp hdj (by omega) (by omega))
          (repeat refine Sat.seq ?_)
          refine Sat.region_k fun k hk => ?_
          simp -implicitDefEqProofs only [evr, id, seval, par_one, parRow, List.append_nil, retM, retMK, e6]
          refine hk _ ?_
          simp only [thenK, blockK]
          refine ⟨(j, swp dj (j + 1) j), ⟨by show j < m; omega, by show (swp dj (j + 1) j).size = N; rw [swp_size]; exact hdj, ?_⟩, by show j < j + 1; omega, ?_⟩
          ·show shiftDown lt j (swp dj (j + 1) j) = _
           rw [← heqj, shiftDown, if_neg (by rw [h8]; exact Bool.false_ne_true)]
          ·simp -implicitDefEqProofs only [evr, id, seval, par_one, parRow, List.append_nil, retM, retMK, evl]
        ·simp only [decide_eq_false_iff_not] at h7
         obtain rfl : j = 0 := by omega
         refine Sat.exit ?_
         simp only [thenK, blockK, Nat.reduceEqDiff, reduceIte]
         refine ⟨dj, ⟨hdj, ?_⟩, ?_⟩
         ·rw [hd2e, ← heqj]; rfl
         ·simp -implicitDefEqProofs only [evr, id, seval, par_one, parRow, List.append_nil, retM, retMK, evl]
       ·simp only [decide_eq_false_iff_not] at h6
        rw [if_neg (by omega)] at hd2e
        refine Sat.skip ?_
        simp only [thenK]
        refine ⟨ds, ⟨hds, hd2e.symm⟩, ?_⟩
        simp -implicitDefEqProofs only [evr, id, seval, par_one, parRow, List.append_nil, retM, retMK, evl]
      ·rintro x ⟨hd2, rfl⟩
       simp only [thenK]
       (repeat refine Sat.seq ?_)
       have e7 : IntKind.i64.wrap ((b : Int) - (m : Int)) = ((b - m : Nat) : Int) := by rw [w64 (by omega)]; omega
       refine Sat.region_k fun k hk => ?_
       simp -implicitDefEqProofs only [evr, id, seval, par_one, parRow, List.append_nil, retM, retMK, e7]
       (refine hk _ ?_; clear hk k; try show Sat _ _ _ _ _)
       (repeat refine Sat.seq ?_)
       refine Sat.atF (ι := Array Par) (fun x => ⟨141, [(9, .i .i64 m), (10, .i .i64 (5 - ((s + 1 : Nat) : Int))), (0, .os 0 ad N cap), (1, .i .i64 a), (2, .i .i64 b), (3, .fn g 0 rdc)], [parRow ad N cap x]⟩) (fun x => x.size = N ∧ x = d3) ?_ ?_
       ·refine Sat.cond_b rfl (fun h6 => ?_) (fun h6 => ?_)
        ·simp only [decide_eq_true_eq] at h6
         rw [if_pos (by omega)] at hd3e
         have e8 : IntKind.i64.wrap ((m : Int) + 1) = ((m + 1 : Nat) : Int) := by rw [w64 (by omega)]; omega
         (repeat refine Sat.seq ?_)
         refine Sat.region_k fun k hk => ?_
         simp -implicitDefEqProofs only [evr, id, seval, par_one, parRow, List.append_nil, retM, retMK, e8]
         (refine hk _ ?_; clear hk k; try show Sat _ _ _ _ _)
         refine Sat.block ?_
         refine Sat.loop (ι := Nat × Array Par) (fun x => ⟨141, [(12, .i .i64 x.1), (9, .i .i64 m), (10, .i .i64 (5 - ((s + 1 : Nat) : Int))), (0, .os 0 ad N cap), (1, .i .i64 a), (2, .i .i64 b), (3, .fn g 0 rdc)], [parRow ad N cap x.2]⟩) (fun x => m < x.1 ∧ x.1 ≤ b ∧ x.2.size = N ∧ shiftUp lt b x.1 x.2 = d3) (fun x => b - x.1) (m + 1, _) ⟨by show m < m + 1; omega, by show m + 1 ≤ b; omega, hd2, hd3e.symm⟩ (by simp -implicitDefEqProofs only [evr, id, seval, par_one, parRow, List.append_nil, retM, retMK, evl]) ?_
         rintro ⟨j, dj⟩ ⟨hj, hjb, hdj, heqj⟩
         simp only at hj hjb hdj heqj ⊢
         (repeat refine Sat.seq ?_)
         (refine Sat.region_k fun k hk => ?_; simp -implicitDefEqProofs only [evr, id, seval, par_one, parRow, List.append_nil, retM, retMK]; refine hk _ ?_; clear hk k; try show Sat _ _ _ _ _)
         (repeat refine Sat.seq ?_)
         refine Sat.cond_b rfl (fun h7 => ?_) (fun h7 => ?_)
         ·simp only [decide_eq_true_eq] at h7
          have e6 : IntKind.i64.wrap ((j : Int) - 1) = ((j - 1 : Nat) : Int) := by rw [w64 (by omega)]; omega
          refine Sat.skip ?_
          simp only [thenK]
          (repeat refine Sat.seq ?_)
          refine Sat.block ?_
          (repeat refine Sat.seq ?_)
          refine Sat.region_qk (by kernel_rfl) (by kernel_rfl) fun k hk => ?_
          simp -implicitDefEqProofs only [evr, id, seval, par_one, parRow, List.append_nil, retM, retMK, e6]
          refine ⟨by omega, by omega, by omega, by omega, ?_⟩
          refine par_qcmp hc dj[j]! dj[j - 1]! fun c hcl => ?_
          simp -implicitDefEqProofs only [evr, id, seval, par_one, parRow, List.append_nil, retM, retMK, ← hcl]
          (refine hk _ ?_; clear hk k; try show Sat _ _ _ _ _)
          (repeat refine Sat.seq ?_)
          refine Sat.cond_b rfl (fun h8 => ?_) (fun h8 => ?_)
          ·refine Sat.exit ?_
           simp only [thenK, blockK, Nat.reduceEqDiff, reduceIte]
           refine ⟨dj, ⟨hdj, ?_⟩, ?_⟩
           ·rw [← heqj, shiftUp, if_pos (by omega), if_pos h8]
           ·simp -implicitDefEqProofs only [evr, id, seval, par_one, parRow, List.append_nil, retM, retMK, evl]
          ·refine Sat.skip ?_
           simp only [thenK]
           (repeat refine Sat.seq ?_)
           (refine Sat.region_ord [0, 1, 2, 3, 4, 5, 6, 7, 8, 10, 11, 12, 9, 13, 14, 15, 16, 17] (by kernel_rfl) (by kernel_rfl) rfl rfl (fun _ _ h => h) fun k hk => ?_; simp only [List.map_cons, List.map_nil, List.getD_cons_zero, List.getD_cons_succ]; simp -implicitDefEqProofs only [evr, id, seval, par_one, parRow, List.append_nil, retM, retMK])
           simp only [e6, Int.toNat_natCast]
           refine ⟨by omega, by omega, by omega, by omega, by omega, by omega, by omega, by omega, ?_⟩
           refine hk _ ?_
           simp only [thenK, blockK]
           refine Sat.le (st' := ⟨141, [(12, .i .i64 j), (9, .i .i64 m), (10, .i .i64 (5 - ((s + 1 : Nat) : Int))), (0, .os 0 ad N cap), (1, .i .i64 a), (2, .i .i64 b), (3, .fn g 0 rdc)], [parRow ad N cap (swp dj (j) (j - 1))]⟩) ?_ (by simp -implicitDefEqProofs only [evr, id, seval, par_one, parRow, List.append_nil, retM, retMK, evl]; exact par_swp hdj (by omega) (by omega))
           (repeat refine Sat.seq ?_)
           have e9 : IntKind.i64.wrap ((j : Int) + 1) = ((j + 1 : Nat) : Int) := by rw [w64 (by omega)]; omega
           refine Sat.region_k fun k hk => ?_
           simp -implicitDefEqProofs only [evr, id, seval, par_one, parRow, List.append_nil, retM, retMK, e9]
           refine hk _ ?_
           simp only [thenK, blockK]
           refine ⟨(j + 1, swp dj j (j - 1)), ⟨by show m < j + 1; omega, by show j + 1 ≤ b; omega, by show (swp dj j (j - 1)).size = N; rw [swp_size]; exact hdj, ?_⟩, by show b - (j + 1) < b - j; omega, ?_⟩
           ·show shiftUp lt b (j + 1) (swp dj j (j - 1)) = _
            rw [← heqj]
            conv => rhs; rw [shiftUp]
            rw [if_pos (by omega), if_neg (by rw [h8]; exact Bool.false_ne_true)]
           ·simp -implicitDefEqProofs only [evr, id, seval, par_one, parRow, List.append_nil, retM, retMK, evl]
         ·simp only [decide_eq_false_iff_not] at h7
          refine Sat.exit ?_
          simp only [thenK, blockK, Nat.reduceEqDiff, reduceIte]
          refine ⟨dj, ⟨hdj, ?_⟩, ?_⟩
          ·rw [← heqj, shiftUp, if_neg (by omega)]
          ·simp -implicitDefEqProofs only [evr, id, seval, par_one, parRow, List.append_nil, retM, retMK, evl]
        ·simp only [decide_eq_false_iff_not] at h6
         rw [if_neg (by omega)] at hd3e
         refine Sat.skip ?_
         simp only [thenK]
         refine ⟨_, ⟨hd2, hd3e.symm⟩, ?_⟩
         simp -implicitDefEqProofs only [evr, id, seval, par_one, parRow, List.append_nil, retM, retMK, evl]
       ·rintro x ⟨hd3, rfl⟩
        simp only [thenK, blockK]
        (repeat refine Sat.seq ?_)
        have e10 : IntKind.i64.wrap (5 - ((s + 1 : Nat) : Int) + 1) = 5 - (s : Int) := by rw [w64 (by omega)]; omega
        refine Sat.region_k fun k hk => ?_
        simp -implicitDefEqProofs only [evr, id, seval, par_one, parRow, List.append_nil, retM, retMK, e10]
        refine hk _ ?_
        simp only [thenK, blockK]
        refine ⟨(s, m, _), ⟨by show s ≤ 5; omega, by show a < m; omega, by show m ≤ b; omega, hd3, by rw [← heq1, hst]⟩, by show s < s + 1; omega, ?_⟩
        simp -implicitDefEqProofs only [evr, id, seval, par_one, parRow, List.append_nil, retM, retMK, evl]
 ·simp only [decide_eq_false_iff_not] at h
  obtain rfl : s = 0 := by omega
  refine Sat.exit ?_
  simp only [thenK, blockK, Nat.reduceEqDiff, reduceIte]
  (repeat refine Sat.seq ?_)
  (refine Sat.region_k fun k hk => ?_; simp -implicitDefEqProofs only [evr, id, seval, par_one, parRow, List.append_nil, retM, retMK]; refine hk _ ?_; clear hk k; try show Sat _ _ _ _ _)
  refine Sat.ret ?_
  simp only [Try.results92, evr, id, seval, par_one, parRow, List.append_nil, retM, retMK]
  refine ⟨rfl, _, _, rfl, d1, false, hd1, ?_, rfl, rfl⟩
  rw [← heq1]; rfl
end Go.Proofs.Ytepbdjpcoleegaa
