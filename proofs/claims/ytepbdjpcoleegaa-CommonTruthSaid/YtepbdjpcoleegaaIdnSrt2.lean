import Derived.Test.YtepbdjpcoleegaaIdnSrt0

/- Sorting in place, by the evaluator: siftDownCmpFunc, heapSortCmpFunc, reverseRangeCmpFunc. -/
set_option linter.unusedSimpArgs false
set_option linter.unusedVariables false
namespace Go.Proofs.Ytepbdjpcoleegaa
open Go.Sort Eng
theorem idn_sift {lt : Idn → Idn → Bool} {hi first root c : Nat} {d : Array Idn} (h : ¬ 2 * root + 1 ≥ hi) (hc : c = if (decide (2 * root + 1 + 1 < hi) && lt d[first + (2 * root + 1)]! d[first + (2 * root + 1) + 1]!) = true then 2 * root + 2 else 2 * root + 1) :
  siftDown lt hi first root d = if (!lt d[first + root]! d[first + c]!) = true then d else siftDown lt hi first c (swp d (first + root) (first + c)) := by
 rw [siftDown, dif_neg h]
 split at hc
 ·rename_i hb
  subst hc
  rw [if_pos hb]
  have : 2 * root + 2 < hi := by simp only [Bool.and_eq_true, decide_eq_true_eq] at hb; omega
  rw [dif_pos this]
 ·rename_i hb
  subst hc
  rw [if_neg hb]
set_option maxRecDepth 100000 in
theorem idnSiftC (F : Frm) {g : FuncId} {rdc : Nat → SV} {lt : Idn → Idn → Bool} (hc : idnCmp g lt) (ad : Option Addr) (cap N : Nat) (d : Array Idn) (hd : d.size = N) (hN : N ≤ 1000000000000) (lo hi first : Nat) (hhi : first + hi ≤ N) (hlo : lo ≤ N) :
  ContractM F Try.prog 95 [.os 0 ad N cap, .i .i64 lo, .i .i64 hi, .i .i64 first, .fn g 0 rdc] (idnRow ad N cap d)
   (fun r o1 => r = tupL [] ∧ ∃ d', d'.size = N ∧ d' = siftDown lt hi first lo d ∧ o1 = idnRow ad N cap d') := by
 refine contractM_of Try.func95 rfl (by kernel_rfl) (by rintro r o1 ⟨_, d', _, _, rfl⟩; exact idn_blk _ _) ?_
 simp only [Try.ntmps95, argEnv]
 (repeat refine Sat.seq ?_)
 (refine Sat.region_k fun k hk => ?_; simp -implicitDefEqProofs only [evr, id, seval, idn_one, idnRow, List.append_nil, retM, retMK]; refine hk _ ?_; clear hk k; try show Sat _ _ _ _ _)
 (repeat refine Sat.seq ?_)
 refine Sat.block ?_
 refine Sat.loop (ι := Nat × Array Idn) (fun x => ⟨82, [(10, .i .i64 x.1), (0, .os 0 ad N cap), (2, .i .i64 hi), (3, .i .i64 first), (4, .fn g 0 rdc)], [idnRow ad N cap x.2]⟩)
  (fun x => x.1 ≤ N ∧ x.2.size = N ∧ siftDown lt hi first x.1 x.2 = siftDown lt hi first lo d) (fun x => hi - x.1) (lo, d) ⟨hlo, hd, rfl⟩ (by simp -implicitDefEqProofs only [evr, id, seval, idn_one, idnRow, List.append_nil, retM, retMK, evl]) ?_
 rintro ⟨root, d1⟩ ⟨hr1, hd1, heq1⟩
 simp only at hr1 hd1 heq1 ⊢
 (repeat refine Sat.seq ?_)
 refine Sat.block ?_
 (repeat refine Sat.seq ?_)
 have e1 : IntKind.i64.wrap (2 * (root : Int)) = 2 * (root : Int) := w64 (by omega)
 have e2 : IntKind.i64.wrap (2 * (root : Int) + 1) = ((2 * root + 1 : Nat) : Int) := by rw [w64 (by omega)]; omega
 refine Sat.region_k fun k hk => ?_
 simp -implicitDefEqProofs only [evr, id, seval, idn_one, idnRow, List.append_nil, retM, retMK, e1, e2]
 (refine hk _ ?_; clear hk k; try show Sat _ _ _ _ _)
 (repeat refine Sat.seq ?_)
 (refine Sat.region_k fun k hk => ?_; simp -implicitDefEqProofs only [evr, id, seval, idn_one, idnRow, List.append_nil, retM, retMK]; refine hk _ ?_; clear hk k; try show Sat _ _ _ _ _)
 (repeat refine Sat.seq ?_)
 refine Sat.cond_b rfl (fun h => ?_) (fun h => ?_)
 ·have h1 : 2 * root + 1 ≥ hi := by simp only [decide_eq_true_eq] at h; omega
  refine Sat.exit ?_
  simp only [thenK, blockK, Nat.reduceEqDiff, reduceIte, Try.results95, evr, id, reduceCtorEq, reduceIte, Nat.reduceMul, Nat.reduceAdd, Nat.reduceLT, Nat.reduceLeDiff, Nat.reduceEqDiff, Int.reduceLT, Int.reduceBEq, Int.reduceBNe, Nat.reduceBEq, idn_one, idnRow, List.append_nil, retM, retMK]
  refine ⟨_, _, rfl, d1, hd1, ?_, rfl⟩
  rw [← heq1, siftDown, dif_pos h1]
 ·have h1 : ¬ 2 * root + 1 ≥ hi := by simp only [decide_eq_false_iff_not] at h; omega
  refine Sat.skip ?_
  simp only [thenK]
  (repeat refine Sat.seq ?_)
  have e3 : IntKind.i64.wrap (((2 * root + 1 : Nat) : Int) + 1) = ((2 * root + 1 + 1 : Nat) : Int) := by rw [w64 (by omega)]; omega
  have e4 : IntKind.i64.wrap ((first : Int) + ((2 * root + 1 : Nat) : Int)) = ((first + (2 * root + 1) : Nat) : Int) := by rw [w64 (by omega)]; omega
  have e6 : IntKind.i64.wrap ((first : Int) + (root : Int)) = ((first + root : Nat) : Int) := by rw [w64 (by omega)]; omega
  refine Sat.region_qat (by kernel_rfl) (by kernel_rfl) ⟨82, [(40, .b (decide (2 * root + 1 + 1 < hi) && lt d1[first + (2 * root + 1)]! d1[first + (2 * root + 1) + 1]!)), (11, .i .i64 ((2 * root + 1 : Nat) : Int)), (10, .i .i64 root), (0, .os 0 ad N cap), (2, .i .i64 hi), (3, .i .i64 first), (4, .fn g 0 rdc)], [idnRow ad N cap d1]⟩ (fun k hk => ?_) ?_
  ·simp -implicitDefEqProofs only [evr, id, seval, idn_one, idnRow, List.append_nil, retM, retMK, e3, e4]
   refine ⟨fun h0 => ?_, fun h0 => ?_⟩
   ·have e5 : IntKind.i64.wrap (((first + (2 * root + 1) : Nat) : Int) + 1) = ((first + (2 * root + 1) + 1 : Nat) : Int) := by rw [w64 (by omega)]; omega
    simp only [e5, Int.toNat_natCast]
    refine ⟨by omega, by omega, by omega, by omega, ?_⟩
    refine idn_qcmp hc d1[first + (2 * root + 1)]! d1[first + (2 * root + 1) + 1]! fun c hcl => ?_
    simp -implicitDefEqProofs only [evr, id, seval, idn_one, idnRow, List.append_nil, retM, retMK]
    refine hk _ ?_
    have e7 : (decide (2 * root + 1 + 1 < hi) && lt d1[first + (2 * root + 1)]! d1[first + (2 * root + 1) + 1]!) = decide (c < 0) := by rw [hcl]; simp; omega
    simp only [e7]
    simp -implicitDefEqProofs only [evr, id, seval, idn_one, idnRow, List.append_nil, retM, retMK, evl]
   ·refine hk _ ?_
    have e7 : (decide (2 * root + 1 + 1 < hi) && lt d1[first + (2 * root + 1)]! d1[first + (2 * root + 1) + 1]!) = false := by simp; omega
    simp only [e7]
    simp -implicitDefEqProofs only [evr, id, seval, idn_one, idnRow, List.append_nil, retM, retMK, evl]
  ·simp only [thenK]
   refine Sat.atF (ι := Nat) (fun ch => ⟨82, [(11, .i .i64 ch), (10, .i .i64 root), (0, .os 0 ad N cap), (2, .i .i64 hi), (3, .i .i64 first), (4, .fn g 0 rdc)], [idnRow ad N cap d1]⟩)
    (fun ch => ch < hi ∧ ch = if (decide (2 * root + 1 + 1 < hi) && lt d1[first + (2 * root + 1)]! d1[first + (2 * root + 1) + 1]!) = true then 2 * root + 2 else 2 * root + 1) ?_ ?_
   ·refine Sat.cond_b rfl (fun h2 => ?_) (fun h2 => ?_)
    ·have h3 : 2 * root + 1 + 1 < hi := by simp only [Bool.and_eq_true, decide_eq_true_eq] at h2; exact h2.1
     refine Sat.region_k fun k hk => ?_
     simp -implicitDefEqProofs only [evr, id, seval, idn_one, idnRow, List.append_nil, retM, retMK, e3]
     refine hk _ ?_
     simp only [thenK]
     refine ⟨2 * root + 2, ⟨h3, by rw [if_pos h2]⟩, ?_⟩
     simp -implicitDefEqProofs only [evr, id, seval, idn_one, idnRow, List.append_nil, retM, retMK, evl]
    ·refine Sat.skip ?_
     simp only [thenK]
     refine ⟨2 * root + 1, ⟨by omega, by rw [if_neg (by rw [h2]; exact Bool.false_ne_true)]⟩, ?_⟩
     simp -implicitDefEqProofs only [evr, id, seval, idn_one, idnRow, List.append_nil, retM, retMK, evl]
   ·rintro ch ⟨hch, hchd⟩
    simp only [thenK]
    have hst := idn_sift (lt := lt) (first := first) (d := d1) h1 hchd
    have e8 : IntKind.i64.wrap ((first : Int) + (ch : Int)) = ((first + ch : Nat) : Int) := by rw [w64 (by omega)]; omega
    (repeat refine Sat.seq ?_)
    refine Sat.region_qk (by kernel_rfl) (by kernel_rfl) fun k hk => ?_
    simp -implicitDefEqProofs only [evr, id, seval, idn_one, idnRow, List.append_nil, retM, retMK, e6, e8]
    refine ⟨by omega, by omega, by omega, by omega, ?_⟩
    refine idn_qcmp hc d1[first + root]! d1[first + ch]! fun c hcl => ?_
    simp -implicitDefEqProofs only [evr, id, seval, idn_one, idnRow, List.append_nil, retM, retMK, ← hcl]
    (refine hk _ ?_; clear hk k; try show Sat _ _ _ _ _)
    (repeat refine Sat.seq ?_)
    refine Sat.cond_b rfl (fun h2 => ?_) (fun h2 => ?_)
    ·refine Sat.ret ?_
     simp only [thenK, blockK, Try.results95, evr, id, reduceCtorEq, reduceIte, Nat.reduceMul, Nat.reduceAdd, Nat.reduceLT, Nat.reduceLeDiff, Nat.reduceEqDiff, Int.reduceLT, Int.reduceBEq, Int.reduceBNe, Nat.reduceBEq, idn_one, idnRow, List.append_nil, retM, retMK]
     refine ⟨_, _, rfl, d1, hd1, ?_, rfl⟩
     rw [← heq1, hst, if_pos h2]
    ·refine Sat.skip ?_
     simp only [thenK]
     (repeat refine Sat.seq ?_)
     (refine Sat.region_ord [0, 1, 2, 3, 4, 5, 6, 7, 8, 9, 10, 11, 12, 14, 15, 16, 17, 18, 13, 19, 20, 21, 22, 23] (by kernel_rfl) (by kernel_rfl) rfl rfl (fun _ _ h => h) fun k hk => ?_; simp only [List.map_cons, List.map_nil, List.getD_cons_zero, List.getD_cons_succ]; simp -implicitDefEqProofs only [evr, id, seval, idn_one, idnRow, List.append_nil, retM, retMK])
     simp only [e6, e8, Int.toNat_natCast]
     refine ⟨by omega, by omega, by omega, by omega, by omega, by omega, by omega, by omega, ?_⟩
     refine hk _ ?_
     simp only [thenK, blockK]
     (repeat refine Sat.seq ?_)
     (refine Sat.region_k fun k hk => ?_; simp -implicitDefEqProofs only [evr, id, seval, idn_one, idnRow, List.append_nil, retM, retMK])
     refine hk _ ?_
     simp only [thenK, blockK]
     refine ⟨(ch, swp d1 (first + root) (first + ch)), ⟨by show ch ≤ N; omega, by show (swp d1 _ _).size = N; rw [swp_size]; exact hd1, ?_⟩, ?_, ?_⟩
     ·show siftDown lt hi first ch (swp d1 (first + root) (first + ch)) = siftDown lt hi first lo d
      rw [← heq1, hst, if_neg (by rw [h2]; exact Bool.false_ne_true)]
     ·show hi - ch < hi - root
      have : root < ch := by rw [hchd]; split <;> omega
      omega
     ·simp -implicitDefEqProofs only [evr, id, seval, idn_one, idnRow, List.append_nil, retM, retMK, evl]
      exact idn_swp hd1 (by omega) (by omega)
/-! ### heapSortCmpFunc -/
set_option maxRecDepth 100000 in
theorem idnHeapC (F : Frm) {g : FuncId} {rdc : Nat → SV} {lt : Idn → Idn → Bool} (hc : idnCmp g lt) (ad : Option Addr) (cap N : Nat) (d : Array Idn) (hd : d.size = N) (hN : N ≤ 1000000000000) (a b : Nat) (hab : a ≤ b) (hb : b ≤ N) :
  ContractM F Try.prog 69 [.os 0 ad N cap, .i .i64 a, .i .i64 b, .fn g 0 rdc] (idnRow ad N cap d)
   (fun r o1 => r = tupL [] ∧ ∃ d', d'.size = N ∧ d' = heapSort lt d a b ∧ o1 = idnRow ad N cap d') := by
 refine contractM_of Try.func69 rfl (by kernel_rfl) (by rintro r o1 ⟨_, d', _, _, rfl⟩; exact idn_blk _ _) ?_
 simp only [Try.ntmps69, argEnv]
 (repeat refine Sat.seq ?_)
 (refine Sat.region_k fun k hk => ?_; simp -implicitDefEqProofs only [evr, id, seval, idn_one, idnRow, List.append_nil, retM, retMK]; refine hk _ ?_; clear hk k; try show Sat _ _ _ _ _)
 (repeat refine Sat.seq ?_)
 (refine Sat.region_k fun k hk => ?_; simp -implicitDefEqProofs only [evr, id, seval, idn_one, idnRow, List.append_nil, retM, retMK]; refine hk _ ?_; clear hk k; try show Sat _ _ _ _ _)
 (repeat refine Sat.seq ?_)
 obtain ⟨hi, hhi⟩ : ∃ hi, hi = b - a := ⟨_, rfl⟩
 have e1 : IntKind.i64.wrap ((b : Int) - (a : Int)) = (hi : Int) := by rw [w64 (by omega)]; omega
 have e2 : IntKind.i64.wrap (IntKind.i64.wrap ((hi : Int) - 1) |>.tdiv 2) = (((hi - 1) / 2 + 1 : Nat) : Int) - 1 := by
  rw [w64 (x := (hi : Int) - 1) (by omega)]
  by_cases h0 : hi = 0
  ·subst h0; decide
  ·rw [Int.tdiv_eq_ediv_of_nonneg (by omega), w64 (by omega)]; omega
 refine Sat.region_k fun k hk => ?_
 simp -implicitDefEqProofs only [evr, id, seval, idn_one, idnRow, List.append_nil, retM, retMK, e1]
 (refine hk _ ?_; clear hk k; try show Sat _ _ _ _ _)
 (repeat refine Sat.seq ?_)
 refine Sat.region_k fun k hk => ?_
 simp -implicitDefEqProofs only [evr, id, reduceCtorEq, reduceIte, Nat.reduceMul, Nat.reduceAdd, Nat.reduceLT, Nat.reduceLeDiff, Nat.reduceEqDiff, Int.reduceLT, Int.reduceBEq, Int.reduceBNe, Nat.reduceBEq, idn_one, idnRow, List.append_nil, retM, retMK, e2]
 refine ⟨by decide, ?_⟩
 (refine hk _ ?_; clear hk k; try show Sat _ _ _ _ _)
 (repeat refine Sat.seq ?_)
 refine Sat.block ?_
 refine Sat.loop (ι := Nat × Array Idn) (fun x => ⟨60, [(11, .i .i64 ((x.1 : Int) - 1)), (0, .os 0 ad N cap), (3, .fn g 0 rdc), (8, .i .i64 a), (9, .i .i64 0), (10, .i .i64 hi)], [idnRow ad N cap x.2]⟩)
  (fun x => x.1 ≤ (hi - 1) / 2 + 1 ∧ x.2.size = N ∧ heapBuild lt hi a x.1 x.2 = heapBuild lt hi a ((hi - 1) / 2 + 1) d) (fun x => x.1) ((hi - 1) / 2 + 1, d) ⟨Nat.le_refl _, hd, rfl⟩ (by simp -implicitDefEqProofs only [evr, id, seval, idn_one, idnRow, List.append_nil, retM, retMK, evl]) ?_
 rintro ⟨q, d1⟩ ⟨hq, hd1, heq1⟩
 simp only at hq hd1 heq1 ⊢
 (repeat refine Sat.seq ?_)
 (refine Sat.region_k fun k hk => ?_; simp -implicitDefEqProofs only [evr, id, seval, idn_one, idnRow, List.append_nil, retM, retMK]; refine hk _ ?_; clear hk k; try show Sat _ _ _ _ _)
 (repeat refine Sat.seq ?_)
 refine Sat.cond_b rfl (fun h => ?_) (fun h => ?_)
 ·simp only [decide_eq_true_eq] at h
  obtain ⟨q, rfl⟩ : ∃ q', q = q' + 1 := ⟨q - 1, by omega⟩
  have e3 : ((q + 1 : Nat) : Int) - 1 = (q : Int) := by omega
  have e4 : IntKind.i64.wrap ((q : Int) - 1) = (q : Int) - 1 := w64 (by omega)
  simp only [e3]
  refine Sat.skip ?_
  simp only [thenK]
  (repeat refine Sat.seq ?_)
  refine Sat.block ?_
  (repeat refine Sat.seq ?_)
  refine Sat.region_k fun k hk => ?_
  simp -implicitDefEqProofs only [evr, id, seval, idn_one, idnRow, List.append_nil, retM, retMK]
  refine wcall_mut 0 (idnSiftC F (rdc := rdc) hc ad cap N d1 hd1 hN q hi a (by omega) (by omega)) rfl rfl ?_
  rintro r o1 ⟨rfl, d2, hd2, heq2, rfl⟩
  simp -implicitDefEqProofs only [evr, id, seval, idn_one, idnRow, List.append_nil, retM, retMK]
  refine hk _ ?_
  simp only [thenK, blockK]
  (repeat refine Sat.seq ?_)
  refine Sat.region_k fun k hk => ?_
  simp -implicitDefEqProofs only [evr, id, seval, idn_one, idnRow, List.append_nil, retM, retMK, e4]
  refine hk _ ?_
  simp only [thenK, blockK]
  refine ⟨(q, d2), ⟨by show q ≤ _; omega, hd2, ?_⟩, by show q < q + 1; omega, ?_⟩
  ·show heapBuild lt hi a q d2 = _
   rw [← heq1, heq2]
   rfl
  ·simp -implicitDefEqProofs only [evr, id, seval, idn_one, idnRow, List.append_nil, retM, retMK, evl]
 ·simp only [decide_eq_false_iff_not] at h
  obtain rfl : q = 0 := by omega
  refine Sat.exit ?_
  simp only [thenK, blockK, Nat.reduceEqDiff, reduceIte]
  (repeat refine Sat.seq ?_)
  have e5 : IntKind.i64.wrap ((hi : Int) - 1) = (hi : Int) - 1 := w64 (by omega)
  refine Sat.region_k fun k hk => ?_
  simp -implicitDefEqProofs only [evr, id, seval, idn_one, idnRow, List.append_nil, retM, retMK, e5]
  (refine hk _ ?_; clear hk k; try show Sat _ _ _ _ _)
  (repeat refine Sat.seq ?_)
  refine Sat.block ?_
  refine Sat.loop (ι := Nat × Array Idn) (fun x => ⟨60, [(12, .i .i64 ((x.1 : Int) - 1)), (0, .os 0 ad N cap), (3, .fn g 0 rdc), (8, .i .i64 a), (9, .i .i64 0)], [idnRow ad N cap x.2]⟩)
   (fun x => x.1 ≤ hi ∧ x.2.size = N ∧ heapPop lt a x.1 x.2 = heapSort lt d a b) (fun x => x.1) (hi, d1) ⟨Nat.le_refl _, hd1, by show heapPop lt a hi d1 = _; unfold heapSort; rw [← hhi, ← heq1]; rfl⟩ (by simp -implicitDefEqProofs only [evr, id, seval, idn_one, idnRow, List.append_nil, retM, retMK, evl]) ?_
  rintro ⟨q, d3⟩ ⟨hq, hd3, heq3⟩
  simp only at hq hd3 heq3 ⊢
  (repeat refine Sat.seq ?_)
  (refine Sat.region_k fun k hk => ?_; simp -implicitDefEqProofs only [evr, id, seval, idn_one, idnRow, List.append_nil, retM, retMK]; refine hk _ ?_; clear hk k; try show Sat _ _ _ _ _)
  (repeat refine Sat.seq ?_)
  refine Sat.cond_b rfl (fun h => ?_) (fun h => ?_)
  ·simp only [decide_eq_true_eq] at h
   obtain ⟨q, rfl⟩ : ∃ q', q = q' + 1 := ⟨q - 1, by omega⟩
   have e3 : ((q + 1 : Nat) : Int) - 1 = (q : Int) := by omega
   have e4 : IntKind.i64.wrap ((q : Int) - 1) = (q : Int) - 1 := w64 (by omega)
   have e6 : IntKind.i64.wrap ((a : Int) + (q : Int)) = ((a + q : Nat) : Int) := by rw [w64 (by omega)]; omega
   simp only [e3]
   refine Sat.skip ?_
   simp only [thenK]
   (repeat refine Sat.seq ?_)
   refine Sat.block ?_
   (repeat refine Sat.seq ?_)
   (refine Sat.region_ord [0, 1, 2, 3, 4, 5, 6, 7, 8, 9, 10, 12, 13, 14, 11, 15, 16, 17, 18, 19] (by kernel_rfl) (by kernel_rfl) rfl rfl (fun _ _ h => h) fun k hk => ?_; simp only [List.map_cons, List.map_nil, List.getD_cons_zero, List.getD_cons_succ]; simp -implicitDefEqProofs only [evr, id, seval, idn_one, idnRow, List.append_nil, retM, retMK])
   simp only [e6, Int.toNat_natCast]
   refine ⟨by omega, by omega, by omega, by omega, by omega, by omega, by omega, by omega, ?_⟩
   refine hk _ ?_
   simp only [thenK, blockK]
   refine Sat.le (st' := ⟨60, [(12, .i .i64 q), (0, .os 0 ad N cap), (3, .fn g 0 rdc), (8, .i .i64 a), (9, .i .i64 0)], [idnRow ad N cap (swp d3 a (a + q))]⟩) ?_ (by simp -implicitDefEqProofs only [evr, id, seval, idn_one, idnRow, List.append_nil, retM, retMK, evl]; exact idn_swp hd3 (by omega) (by omega))
   (repeat refine Sat.seq ?_)
   refine Sat.region_k fun k hk => ?_
   simp -implicitDefEqProofs only [evr, id, seval, idn_one, idnRow, List.append_nil, retM, retMK]
   refine wcall_mut 0 (idnSiftC F (rdc := rdc) hc ad cap N (swp d3 a (a + q)) (by rw [swp_size]; exact hd3) hN 0 q a (by omega) (by omega)) rfl rfl ?_
   rintro r o1 ⟨rfl, d2, hd2, heq2, rfl⟩
   simp -implicitDefEqProofs only [evr, id, seval, idn_one, idnRow, List.append_nil, retM, retMK]
   refine hk _ ?_
   simp only [thenK, blockK]
   (repeat refine Sat.seq ?_)
   refine Sat.region_k fun k hk => ?_
   simp -implicitDefEqProofs only [evr, id, seval, idn_one, idnRow, List.append_nil, retM, retMK, e4]
   refine hk _ ?_
   simp only [thenK, blockK]
   refine ⟨(q, d2), ⟨by show q ≤ hi; omega, hd2, ?_⟩, by show q < q + 1; omega, ?_⟩
   ·show heapPop lt a q d2 = _
    rw [← heq3, heq2]
    rfl
   ·simp -implicitDefEqProofs only [evr, id, seval, idn_one, idnRow, List.append_nil, retM, retMK, evl]
  ·simp only [decide_eq_false_iff_not] at h
   obtain rfl : q = 0 := by omega
   refine Sat.exit ?_
   simp only [thenK, blockK, Nat.reduceEqDiff, reduceIte, Try.results69, evr, id, reduceCtorEq, reduceIte, Nat.reduceMul, Nat.reduceAdd, Nat.reduceLT, Nat.reduceLeDiff, Nat.reduceEqDiff, Int.reduceLT, Int.reduceBEq, Int.reduceBNe, Nat.reduceBEq, idn_one, idnRow, List.append_nil, retM, retMK]
   refine ⟨_, _, rfl, d3, hd3, ?_, rfl⟩
   rw [← heq3]
   rfl
/-! ### reverseRangeCmpFunc -/
set_option maxRecDepth 100000 in
theorem idnRevC (F : Frm) {fv : SV} (ad : Option Addr) (cap N : Nat) (d : Array Idn) (hd : d.size = N) (hN : N ≤ 1000000000000) (a b : Nat) (hab : a ≤ b) (hb : b ≤ N) :
  ContractM F Try.prog 72 [.os 0 ad N cap, .i .i64 a, .i .i64 b, fv] (idnRow ad N cap d)
   (fun r o1 => r = tupL [] ∧ ∃ d', d'.size = N ∧ PermIn a b d d' ∧ o1 = idnRow ad N cap d') := by
 refine contractM_of Try.func72 rfl (by kernel_rfl) (by rintro r o1 ⟨_, d', _, _, rfl⟩; exact idn_blk _ _) ?_
 simp only [Try.ntmps72, argEnv]
 (repeat refine Sat.seq ?_)
 (refine Sat.region_k fun k hk => ?_; simp -implicitDefEqProofs only [evr, id, seval, idn_one, idnRow, List.append_nil, retM, retMK]; refine hk _ ?_; clear hk k; try show Sat _ _ _ _ _)
 (repeat refine Sat.seq ?_)
 have e1 : IntKind.i64.wrap ((b : Int) - 1) = (b : Int) - 1 := w64 (by omega)
 refine Sat.region_k fun k hk => ?_
 simp -implicitDefEqProofs only [evr, id, seval, idn_one, idnRow, List.append_nil, retM, retMK, e1]
 (refine hk _ ?_; clear hk k; try show Sat _ _ _ _ _)
 (repeat refine Sat.seq ?_)
 refine Sat.block ?_
 refine Sat.loop (ι := Nat × Nat × Array Idn) (fun x => ⟨34, [(8, .i .i64 x.1), (9, .i .i64 ((x.2.1 : Int) - 1)), (0, .os 0 ad N cap)], [idnRow ad N cap x.2.2]⟩)
  (fun x => a ≤ x.1 ∧ x.2.1 ≤ b ∧ x.2.2.size = N ∧ PermIn a b d x.2.2) (fun x => x.2.1) (a, b, d) ⟨Nat.le_refl _, Nat.le_refl _, hd, permIn_refl _ _ _⟩ (by simp -implicitDefEqProofs only [evr, id, seval, idn_one, idnRow, List.append_nil, retM, retMK, evl]) ?_
 rintro ⟨i, j, d1⟩ ⟨hi, hj, hd1, hp⟩
 simp only at hi hj hd1 hp ⊢
 (repeat refine Sat.seq ?_)
 (refine Sat.region_k fun k hk => ?_; simp -implicitDefEqProofs only [evr, id, seval, idn_one, idnRow, List.append_nil, retM, retMK]; refine hk _ ?_; clear hk k; try show Sat _ _ _ _ _)
 (repeat refine Sat.seq ?_)
 refine Sat.cond_b rfl (fun h => ?_) (fun h => ?_)
 ·simp only [decide_eq_true_eq] at h
  obtain ⟨j, rfl⟩ : ∃ j', j = j' + 1 := ⟨j - 1, by omega⟩
  have e3 : ((j + 1 : Nat) : Int) - 1 = (j : Int) := by omega
  have e4 : IntKind.i64.wrap ((j : Int) - 1) = (j : Int) - 1 := w64 (by omega)
  have e5 : IntKind.i64.wrap ((i : Int) + 1) = ((i + 1 : Nat) : Int) := by rw [w64 (by omega)]; omega
  simp only [e3] at h ⊢
  refine Sat.skip ?_
  simp only [thenK]
  (repeat refine Sat.seq ?_)
  refine Sat.block ?_
  (repeat refine Sat.seq ?_)
  (refine Sat.region_ord [0, 1, 2, 3, 4, 5, 6, 8, 9, 10, 7, 11, 12, 13, 14, 15] (by kernel_rfl) (by kernel_rfl) rfl rfl (fun _ _ h => h) fun k hk => ?_; simp only [List.map_cons, List.map_nil, List.getD_cons_zero, List.getD_cons_succ]; simp -implicitDefEqProofs only [evr, id, seval, idn_one, idnRow, List.append_nil, retM, retMK])
  refine ⟨by omega, by omega, by omega, by omega, by omega, by omega, by omega, by omega, ?_⟩
  refine hk _ ?_
  simp only [thenK, blockK]
  (repeat refine Sat.seq ?_)
  refine Sat.region_k fun k hk => ?_
  simp -implicitDefEqProofs only [evr, id, seval, idn_one, idnRow, List.append_nil, retM, retMK, e5]
  refine hk _ ?_
  simp only [thenK, blockK]
  (repeat refine Sat.seq ?_)
  refine Sat.region_k fun k hk => ?_
  simp -implicitDefEqProofs only [evr, id, seval, idn_one, idnRow, List.append_nil, retM, retMK, e4]
  refine hk _ ?_
  simp only [thenK, blockK]
  refine ⟨(i + 1, j, swp d1 i j), ⟨by show a ≤ i + 1; omega, by show j ≤ b; omega, by show (swp d1 i j).size = N; rw [swp_size]; exact hd1, permIn_trans _ _ _ _ _ hp (swp_permIn _ _ _ _ _ hi (by omega) (by omega) (by omega) (by omega))⟩, by show j < j + 1; omega, ?_⟩
  simp -implicitDefEqProofs only [evr, id, seval, idn_one, idnRow, List.append_nil, retM, retMK, evl]
  exact idn_swp hd1 (by omega) (by omega)
 ·refine Sat.exit ?_
  simp only [thenK, blockK, Nat.reduceEqDiff, reduceIte, Try.results72, evr, id, reduceCtorEq, reduceIte, Nat.reduceMul, Nat.reduceAdd, Nat.reduceLT, Nat.reduceLeDiff, Nat.reduceEqDiff, Int.reduceLT, Int.reduceBEq, Int.reduceBNe, Nat.reduceBEq, idn_one, idnRow, List.append_nil, retM, retMK]
  exact ⟨_, _, rfl, d1, hd1, hp, rfl⟩
end Go.Proofs.Ytepbdjpcoleegaa
