import Derived.Test.YtepbdjpcoleegaaParSrt0

/- Sorting in place, by the evaluator: insertionSortCmpFunc. -/
set_option linter.unusedSimpArgs false
set_option linter.unusedVariables false
namespace Go.Proofs.Ytepbdjpcoleegaa
open Go.Sort Eng
theorem par_insOuter {lt : Par → Par → Bool} {a b i : Nat} {d : Array Par} (h : i < b) : insOuter lt a b i d = insOuter lt a b (i + 1) (insInner lt a i d) := by
 rw [insOuter, if_pos h]
theorem par_insOuter_end {lt : Par → Par → Bool} {a b i : Nat} {d : Array Par} (h : ¬ i < b) : insOuter lt a b i d = d := by
 rw [insOuter, if_neg h]
set_option maxRecDepth 100000 in
theorem parInsC (F : Frm) {g : FuncId} {rdc : Nat → SV} {lt : Par → Par → Bool} (hc : parCmp g lt) (ad : Option Addr) (cap N : Nat) (d : Array Par) (hd : d.size = N) (hN : N ≤ 1000000000000) (lo hi : Nat) (hhi : hi ≤ N) (hlo : lo ≤ N) :
  ContractM F Try.prog 87 [.os 0 ad N cap, .i .i64 lo, .i .i64 hi, .fn g 0 rdc] (parRow ad N cap d)
   (fun r o1 => r = tupL [] ∧ ∃ d', d'.size = N ∧ d' = insertionSort lt d lo hi ∧ o1 = parRow ad N cap d') := by
 refine contractM_of Try.func87 rfl (by kernel_rfl) (by rintro r o1 ⟨_, d', _, _, rfl⟩; exact par_blk _ _) ?_
 simp only [Try.ntmps87, argEnv]
 (repeat refine Sat.seq ?_)
 refine Sat.region_k fun k hk => ?_
 have e1 : IntKind.i64.wrap ((lo : Int) + 1) = ((lo + 1 : Nat) : Int) := by rw [w64 (by omega)]; omega
 simp -implicitDefEqProofs only [evr, id, seval, par_one, parRow, List.append_nil, retM, retMK, e1]
 (refine hk _ ?_; clear hk k; try show Sat _ _ _ _ _)
 (repeat refine Sat.seq ?_)
 refine Sat.block ?_
 refine Sat.loop (ι := Nat × Array Par) (fun x => ⟨53, [(8, .i .i64 x.1), (0, .os 0 ad N cap), (1, .i .i64 lo), (2, .i .i64 hi), (3, .fn g 0 rdc)], [parRow ad N cap x.2]⟩)
  (fun x => lo + 1 ≤ x.1 ∧ x.2.size = N ∧ insOuter lt lo hi x.1 x.2 = insertionSort lt d lo hi) (fun x => hi - x.1) (lo + 1, d) ⟨Nat.le_refl _, hd, rfl⟩ (by simp -implicitDefEqProofs only [evr, id, seval, par_one, parRow, List.append_nil, retM, retMK, evl]) ?_
 rintro ⟨i, d1⟩ ⟨hi1, hd1, heq1⟩
 simp only at hi1 hd1 heq1 ⊢
 (repeat refine Sat.seq ?_)
 (refine Sat.region_k fun k hk => ?_; simp -implicitDefEqProofs only [evr, id, seval, par_one, parRow, List.append_nil, retM, retMK]; refine hk _ ?_; clear hk k; try show Sat _ _ _ _ _)
 (repeat refine Sat.seq ?_)
 refine Sat.cond_b rfl (fun h => ?_) (fun h => ?_)
 ·have h1 : i < hi := by simp only [decide_eq_true_eq] at h; omega
  refine Sat.skip ?_
  simp only [thenK]
  (repeat refine Sat.seq ?_)
  refine Sat.block ?_
  (repeat refine Sat.seq ?_)
  (refine Sat.region_k fun k hk => ?_; simp -implicitDefEqProofs only [evr, id, seval, par_one, parRow, List.append_nil, retM, retMK]; refine hk _ ?_; clear hk k; try show Sat _ _ _ _ _)
  (repeat refine Sat.seq ?_)
  refine Sat.block ?_
  refine Sat.loop (ι := Nat × Array Par) (fun x => ⟨53, [(9, .i .i64 x.1), (8, .i .i64 i), (0, .os 0 ad N cap), (1, .i .i64 lo), (2, .i .i64 hi), (3, .fn g 0 rdc)], [parRow ad N cap x.2]⟩)
   (fun x => x.1 ≤ i ∧ x.2.size = N ∧ insInner lt lo x.1 x.2 = insInner lt lo i d1) (fun x => x.1) (i, d1) ⟨Nat.le_refl _, hd1, rfl⟩ (by simp -implicitDefEqProofs only [evr, id, seval, par_one, parRow, List.append_nil, retM, retMK, evl]) ?_
  rintro ⟨j, d2⟩ ⟨hj, hd2, heq2⟩
  simp only at hj hd2 heq2 ⊢
  (repeat refine Sat.seq ?_)
  refine Sat.region_qat (by kernel_rfl) (by kernel_rfl) ⟨53, [(34, .b (decide (lo < j) && lt d2[j]! d2[j - 1]!)), (9, .i .i64 j), (8, .i .i64 i), (0, .os 0 ad N cap), (1, .i .i64 lo), (2, .i .i64 hi), (3, .fn g 0 rdc)], [parRow ad N cap d2]⟩ (fun k hk => ?_) ?_
  ·simp -implicitDefEqProofs only [evr, id, seval, par_one, parRow, List.append_nil, retM, retMK]
   refine ⟨fun h0 => ?_, fun h0 => ?_⟩
   ·have e2 : IntKind.i64.wrap ((j : Int) - 1) = ((j - 1 : Nat) : Int) := by rw [w64 (by omega)]; omega
    simp only [e2, Int.toNat_natCast]
    refine ⟨by omega, by omega, by omega, by omega, ?_⟩
    refine par_qcmp hc d2[j]! d2[j - 1]! fun c hcl => ?_
    simp -implicitDefEqProofs only [evr, id, seval, par_one, parRow, List.append_nil, retM, retMK]
    refine hk _ ?_
    have e3 : (decide (lo < j) && lt d2[j]! d2[j - 1]!) = decide (c < 0) := by rw [hcl]; simp; omega
    simp only [e3]
    simp -implicitDefEqProofs only [evr, id, seval, par_one, parRow, List.append_nil, retM, retMK, evl]
   ·refine hk _ ?_
    have e3 : (decide (lo < j) && lt d2[j]! d2[j - 1]!) = false := by simp; omega
    simp only [e3]
    simp -implicitDefEqProofs only [evr, id, seval, par_one, parRow, List.append_nil, retM, retMK, evl]
  ·simp only [thenK]
   refine Sat.cond_b rfl (fun h3 => ?_) (fun h3 => ?_)
   ·simp only [Bool.and_eq_true, decide_eq_true_eq] at h3
    obtain ⟨q, rfl⟩ : ∃ q, j = q + 1 := ⟨j - 1, by omega⟩
    simp only [Nat.add_sub_cancel] at h3
    have e2 : IntKind.i64.wrap (((q + 1 : Nat) : Int) - 1) = (q : Int) := by rw [w64 (by omega)]; omega
    refine Sat.skip ?_
    simp only [thenK]
    (repeat refine Sat.seq ?_)
    refine Sat.block ?_
    (repeat refine Sat.seq ?_)
    (refine Sat.region_ord [0, 1, 2, 3, 4, 5, 6, 7, 8, 10, 11, 12, 9, 13, 14, 15, 16, 17] (by kernel_rfl) (by kernel_rfl) rfl rfl (fun _ _ h => h) fun k hk => ?_; simp only [List.map_cons, List.map_nil, List.getD_cons_zero, List.getD_cons_succ]; simp -implicitDefEqProofs only [evr, id, seval, par_one, parRow, List.append_nil, retM, retMK])
    simp only [e2, Int.toNat_natCast]
    refine ⟨by omega, by omega, by omega, by omega, by omega, by omega, by omega, by omega, ?_⟩
    refine hk _ ?_
    simp only [thenK, blockK]
    (repeat refine Sat.seq ?_)
    refine Sat.region_k fun k hk => ?_
    simp -implicitDefEqProofs only [evr, id, seval, par_one, parRow, List.append_nil, retM, retMK, e2]
    refine hk _ ?_
    simp only [thenK, blockK]
    refine ⟨(q, swp d2 (q + 1) q), ⟨by show q ≤ i; omega, by show (swp d2 (q + 1) q).size = N; rw [swp_size]; exact hd2, ?_⟩, by show q < q + 1; omega, ?_⟩
    ·show insInner lt lo q (swp d2 (q + 1) q) = insInner lt lo i d1
     rw [← heq2, insInner, if_pos (by simp only [Bool.and_eq_true, decide_eq_true_eq]; exact ⟨h3.1, h3.2⟩)]
    ·simp -implicitDefEqProofs only [evr, id, seval, par_one, parRow, List.append_nil, retM, retMK, evl]
     exact par_swp hd2 (by omega) (by omega)
   ·refine Sat.exit ?_
    simp only [thenK, blockK, reduceIte]
    (repeat refine Sat.seq ?_)
    have e2 : IntKind.i64.wrap ((i : Int) + 1) = ((i + 1 : Nat) : Int) := by rw [w64 (by omega)]; omega
    refine Sat.region_k fun k hk => ?_
    simp -implicitDefEqProofs only [evr, id, seval, par_one, parRow, List.append_nil, retM, retMK, e2]
    refine hk _ ?_
    simp only [thenK, blockK]
    refine ⟨(i + 1, d2), ⟨by show lo + 1 ≤ i + 1; omega, hd2, ?_⟩, by show hi - (i + 1) < hi - i; omega, ?_⟩
    ·show insOuter lt lo hi (i + 1) d2 = insertionSort lt d lo hi
     rw [← heq1, par_insOuter h1, ← heq2]
     congr 1
     cases j with
     | zero => rfl
     | succ q => rw [insInner, if_neg (by simpa using h3)]
    ·simp -implicitDefEqProofs only [evr, id, seval, par_one, parRow, List.append_nil, retM, retMK, evl]
 ·have h1 : ¬ i < hi := by simp only [decide_eq_false_iff_not] at h; omega
  refine Sat.exit ?_
  simp only [thenK, blockK, reduceIte]
  simp only [Try.results87, evr, id, seval, par_one, parRow, List.append_nil, retM, retMK]
  refine ⟨_, _, rfl, d1, hd1, ?_, rfl⟩
  rw [← heq1, par_insOuter_end h1]
end Go.Proofs.Ytepbdjpcoleegaa
