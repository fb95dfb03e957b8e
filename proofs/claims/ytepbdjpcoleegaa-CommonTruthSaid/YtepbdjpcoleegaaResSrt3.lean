import Derived.Test.YtepbdjpcoleegaaResSrt0

/- Sorting in place, by the evaluator: partitionCmpFunc, partitionEqualCmpFunc. -/
set_option linter.unusedSimpArgs false
set_option linter.unusedVariables false
namespace Go.Proofs.Ytepbdjpcoleegaa
open Go.Sort Eng
theorem res_partLoop {lt : Res → Res → Bool} {a i j i2 j2 : Nat} {d : Array Res} (h1 : scanUp (fun x => lt x d[a]!) d j i = i2) (h2 : scanDown (fun x => !lt x d[a]!) d i2 j = j2) (hi : 1 ≤ i) (hi2 : i ≤ i2) (hj2 : j2 ≤ j) :
  partLoop lt a i j d = if i2 > j2 then (j2, d) else partLoop lt a (i2 + 1) (j2 - 1) (swp d i2 j2) := by
 rw [partLoop]
 simp only [h1, h2]
 split
 ·rfl
 ·rw [dif_pos (by omega)]
theorem res_partEqLoop {lt : Res → Res → Bool} {a i j i2 j2 : Nat} {d : Array Res} (h1 : scanUp (fun x => !lt d[a]! x) d j i = i2) (h2 : scanDown (fun x => lt d[a]! x) d i2 j = j2) (hi : 1 ≤ i) (hi2 : i ≤ i2) (hj2 : j2 ≤ j) :
  partEqLoop lt a i j d = if i2 > j2 then (i2, d) else partEqLoop lt a (i2 + 1) (j2 - 1) (swp d i2 j2) := by
 rw [partEqLoop]
 simp only [h1, h2]
 split
 ·rfl
 ·rw [dif_pos (by omega)]
set_option maxRecDepth 100000 in
theorem resPeqC (F : Frm) {g : FuncId} {rdc : Nat → SV} {lt : Res → Res → Bool} (hc : resCmp g lt) (ad : Option Addr) (cap N : Nat) (d : Array Res) (hd : d.size = N) (hN : N ≤ 1000000000000) (a b pivot : Nat) (hap : a ≤ pivot) (hpb : pivot < b) (hb : b ≤ N) :
  ContractM F Try.prog 85 [.os 0 ad N cap, .i .i64 a, .i .i64 b, .i .i64 pivot, .fn g 0 rdc] (resRow ad N cap d)
   (fun r o1 => ∃ m d', d'.size = N ∧ partitionEqual lt d a b pivot = (m, d') ∧ r = .i .i64 (m : Nat) ∧ o1 = resRow ad N cap d') := by
 refine contractM_of Try.func85 rfl (by kernel_rfl) (by rintro r o1 ⟨m, d', _, _, _, rfl⟩; exact res_blk _ _) ?_
 simp only [Try.ntmps85, argEnv]
 (repeat refine Sat.seq ?_)
 (refine Sat.region_k fun k hk => ?_; simp -implicitDefEqProofs only [evr, id, seval, res_one, resRow, List.append_nil, retM, retMK]; refine hk _ ?_; clear hk k; try show Sat _ _ _ _ _)
 (repeat refine Sat.seq ?_)
 (refine Sat.region_ord [0, 1, 2, 3, 4, 5, 6, 8, 9, 10, 7, 11, 12, 13, 14, 15] (by kernel_rfl) (by kernel_rfl) rfl rfl (fun _ _ h => h) fun k hk => ?_; simp only [List.map_cons, List.map_nil, List.getD_cons_zero, List.getD_cons_succ]; simp -implicitDefEqProofs only [evr, id, seval, res_one, resRow, List.append_nil, retM, retMK])
 try simp only [Int.toNat_natCast]
 refine ⟨by omega, by omega, by omega, by omega, by omega, by omega, by omega, by omega, ?_⟩
 refine hk _ ?_
 simp only [thenK, blockK]
 refine Sat.le (st' := ⟨90, [(0, .os 0 ad N cap), (1, .i .i64 a), (2, .i .i64 b), (4, .fn g 0 rdc)], [resRow ad N cap (swp d (a) (pivot))]⟩) ?_ (by simp -implicitDefEqProofs only [evr, id, seval, res_one, resRow, List.append_nil, retM, retMK, evl]; exact res_swp hd (by omega) (by omega))
 have hd0 : (swp d a pivot).size = N := by rw [swp_size]; exact hd
 have e1 : IntKind.i64.wrap ((a : Int) + 1) = ((a + 1 : Nat) : Int) := by rw [w64 (by omega)]; omega
 have e2 : IntKind.i64.wrap ((b : Int) - 1) = ((b - 1 : Nat) : Int) := by rw [w64 (by omega)]; omega
 (repeat refine Sat.seq ?_)
 refine Sat.region_k fun k hk => ?_
 simp -implicitDefEqProofs only [evr, id, seval, res_one, resRow, List.append_nil, retM, retMK, e1, e2]
 (refine hk _ ?_; clear hk k; try show Sat _ _ _ _ _)
 (repeat refine Sat.seq ?_)
 refine Sat.block ?_
 refine Sat.loop (ι := Nat × Nat × Array Res) (fun x => ⟨90, [(11, .i .i64 x.1), (12, .i .i64 x.2.1), (0, .os 0 ad N cap), (1, .i .i64 a), (4, .fn g 0 rdc)], [resRow ad N cap x.2.2]⟩)
  (fun x => a < x.1 ∧ x.1 ≤ b ∧ x.2.1 < b ∧ x.2.2.size = N ∧ partEqLoop lt a x.1 x.2.1 x.2.2 = partitionEqual lt d a b pivot) (fun x => x.2.1 + 1 - x.1) (a + 1, b - 1, swp d a pivot) ⟨by show a < a + 1; omega, by show a + 1 ≤ b; omega, by show b - 1 < b; omega, hd0, rfl⟩ (by simp -implicitDefEqProofs only [evr, id, seval, res_one, resRow, List.append_nil, retM, retMK, evl]) ?_
 rintro ⟨i, j, d1⟩ ⟨hi1, hi2, hj1, hd1, heq1⟩
 simp only at hi1 hi2 hj1 hd1 heq1 ⊢
 (repeat refine Sat.seq ?_)
 refine Sat.block ?_
 (repeat refine Sat.seq ?_)
 refine Sat.block ?_
 refine Sat.loop (ι := Nat) (fun x => ⟨90, [(11, .i .i64 x), (0, .os 0 ad N cap), (1, .i .i64 a), (4, .fn g 0 rdc), (12, .i .i64 j)], [resRow ad N cap d1]⟩) (fun x => i ≤ x ∧ x ≤ b + 1 ∧ scanUp (fun x => !lt d1[a]! x) d1 j x = scanUp (fun x => !lt d1[a]! x) d1 j (i)) (fun x => b + 1 - x) (i) ⟨Nat.le_refl _, by omega, rfl⟩ (by simp -implicitDefEqProofs only [evr, id, seval, res_one, resRow, List.append_nil, retM, retMK, evl]) ?_
 rintro m ⟨hm0, hm1, hm2⟩
 (repeat refine Sat.seq ?_)
 refine Sat.region_qat (by kernel_rfl) (by kernel_rfl) ⟨90, [(47, .b (decide (m ≤ j) && !lt d1[a]! d1[m]!)), (11, .i .i64 m), (0, .os 0 ad N cap), (1, .i .i64 a), (4, .fn g 0 rdc), (12, .i .i64 j)], [resRow ad N cap d1]⟩ (fun k hk => ?_) ?_
 ·simp -implicitDefEqProofs only [evr, id, seval, res_one, resRow, List.append_nil, retM, retMK]
  refine ⟨fun h0 => ?_, fun h0 => ?_⟩
  ·refine ⟨by omega, by omega, by omega, by omega, ?_⟩
   refine res_qcmp hc d1[a]! d1[m]! fun c hcl => ?_
   simp -implicitDefEqProofs only [evr, id, seval, res_one, resRow, List.append_nil, retM, retMK]
   refine hk _ ?_
   have e3 : (decide (m ≤ j) && !lt d1[a]! d1[m]!) = !decide (c < 0) := by rw [hcl]; simp; omega
   simp only [e3]
   simp -implicitDefEqProofs only [evr, id, seval, res_one, resRow, List.append_nil, retM, retMK, evl]
  ·refine hk _ ?_
   have e3 : (decide (m ≤ j) && !lt d1[a]! d1[m]!) = false := by simp; omega
   simp only [e3]
   simp -implicitDefEqProofs only [evr, id, seval, res_one, resRow, List.append_nil, retM, retMK, evl]
 ·simp only [thenK]
  refine Sat.cond_b rfl (fun h3 => ?_) (fun h3 => ?_)
  ·simp only [Bool.and_eq_true, decide_eq_true_eq] at h3
   have e2 : IntKind.i64.wrap ((m : Int) + 1) = ((m + 1 : Nat) : Int) := by rw [w64 (by omega)]; omega
   refine Sat.skip ?_
   simp only [thenK]
   (repeat refine Sat.seq ?_)
   refine Sat.block ?_
   (repeat refine Sat.seq ?_)
   refine Sat.region_k fun k hk => ?_
   simp -implicitDefEqProofs only [evr, id, seval, res_one, resRow, List.append_nil, retM, retMK, e2]
   refine hk _ ?_
   simp only [thenK, blockK]
   refine ⟨m + 1, ⟨by omega, by omega, ?_⟩, by omega, ?_⟩
   ·rw [← hm2]; conv => rhs; rw [scanUp]
    rw [if_pos (by simp only [Bool.and_eq_true, decide_eq_true_eq]; exact h3)]
   ·simp -implicitDefEqProofs only [evr, id, seval, res_one, resRow, List.append_nil, retM, retMK, evl]
  ·refine Sat.exit ?_
   simp only [thenK, blockK, Nat.reduceEqDiff, reduceIte]
   have hi2 : scanUp (fun x => !lt d1[a]! x) d1 j (i) = m := by rw [← hm2, scanUp, if_neg (by rw [h3]; exact Bool.false_ne_true)]
   clear hm2
   generalize hgm : m = i2 at *
   (repeat refine Sat.seq ?_)
   refine Sat.block ?_
   refine Sat.loop (ι := Nat) (fun x => ⟨90, [(12, .i .i64 x), (0, .os 0 ad N cap), (1, .i .i64 a), (4, .fn g 0 rdc), (11, .i .i64 i2)], [resRow ad N cap d1]⟩) (fun x => x ≤ j ∧ scanDown (fun x => lt d1[a]! x) d1 i2 x = scanDown (fun x => lt d1[a]! x) d1 i2 (j)) (fun x => x) (j) ⟨Nat.le_refl _, rfl⟩ (by simp -implicitDefEqProofs only [evr, id, seval, res_one, resRow, List.append_nil, retM, retMK, evl]) ?_
   rintro m ⟨hm0, hm2⟩
   (repeat refine Sat.seq ?_)
   refine Sat.region_qat (by kernel_rfl) (by kernel_rfl) ⟨90, [(65, .b (decide (i2 ≤ m) && lt d1[a]! d1[m]!)), (12, .i .i64 m), (0, .os 0 ad N cap), (1, .i .i64 a), (4, .fn g 0 rdc), (11, .i .i64 i2)], [resRow ad N cap d1]⟩ (fun k hk => ?_) ?_
   ·simp -implicitDefEqProofs only [evr, id, seval, res_one, resRow, List.append_nil, retM, retMK]
    refine ⟨fun h0 => ?_, fun h0 => ?_⟩
    ·refine ⟨by omega, by omega, by omega, by omega, ?_⟩
     refine res_qcmp hc d1[a]! d1[m]! fun c hcl => ?_
     simp -implicitDefEqProofs only [evr, id, seval, res_one, resRow, List.append_nil, retM, retMK]
     refine hk _ ?_
     have e3 : (decide (i2 ≤ m) && lt d1[a]! d1[m]!) = decide (c < 0) := by rw [hcl]; simp; omega
     simp only [e3]
     simp -implicitDefEqProofs only [evr, id, seval, res_one, resRow, List.append_nil, retM, retMK, evl]
    ·refine hk _ ?_
     have e3 : (decide (i2 ≤ m) && lt d1[a]! d1[m]!) = false := by simp; omega
     simp only [e3]
     simp -implicitDefEqProofs only [evr, id, seval, res_one, resRow, List.append_nil, retM, retMK, evl]
   ·simp only [thenK]
    refine Sat.cond_b rfl (fun h3 => ?_) (fun h3 => ?_)
    ·simp only [Bool.and_eq_true, decide_eq_true_eq] at h3
     obtain ⟨m, rfl⟩ : ∃ m', m = m' + 1 := ⟨m - 1, by omega⟩
     have e2 : IntKind.i64.wrap (((m + 1 : Nat) : Int) - 1) = (m : Int) := by rw [w64 (by omega)]; omega
     refine Sat.skip ?_
     simp only [thenK]
     (repeat refine Sat.seq ?_)
     refine Sat.block ?_
     (repeat refine Sat.seq ?_)
     refine Sat.region_k fun k hk => ?_
     simp -implicitDefEqProofs only [evr, id, seval, res_one, resRow, List.append_nil, retM, retMK, e2]
     refine hk _ ?_
     simp only [thenK, blockK]
     refine ⟨m, ⟨by omega, ?_⟩, by omega, ?_⟩
     ·rw [← hm2]; conv => rhs; rw [scanDown]
      rw [if_pos (by simp only [Bool.and_eq_true, decide_eq_true_eq]; exact h3)]
     ·simp -implicitDefEqProofs only [evr, id, seval, res_one, resRow, List.append_nil, retM, retMK, evl]
    ·refine Sat.exit ?_
     simp only [thenK, blockK, Nat.reduceEqDiff, reduceIte]
     have hj2 : scanDown (fun x => lt d1[a]! x) d1 i2 (j) = m := by
      rw [← hm2]
      cases m with
      | zero => rfl
      | succ q => rw [scanDown, if_neg (by rw [h3]; exact Bool.false_ne_true)]
     clear hm2
     generalize hgm : m = j2 at *
     have hst := res_partEqLoop (lt := lt) hi2 hj2 (by omega) (by omega) (by omega)
     (repeat refine Sat.seq ?_)
     (refine Sat.region_k fun k hk => ?_; simp -implicitDefEqProofs only [evr, id, seval, res_one, resRow, List.append_nil, retM, retMK]; refine hk _ ?_; clear hk k; try show Sat _ _ _ _ _)
     (repeat refine Sat.seq ?_)
     refine Sat.cond_b rfl (fun h => ?_) (fun h => ?_)
     ·simp only [decide_eq_true_eq] at h
      refine Sat.exit ?_
      simp only [thenK, blockK, Nat.reduceEqDiff, reduceIte]
      (repeat refine Sat.seq ?_)
      (refine Sat.region_k fun k hk => ?_; simp -implicitDefEqProofs only [evr, id, seval, res_one, resRow, List.append_nil, retM, retMK]; refine hk _ ?_; clear hk k; try show Sat _ _ _ _ _)
      refine Sat.ret ?_
      simp only [Try.results85, evr, id, seval, res_one, resRow, List.append_nil, retM, retMK]
      refine ⟨rfl, _, _, rfl, i2, d1, hd1, ?_, rfl, rfl⟩
      rw [← heq1, hst, if_pos (by omega)]
     ·simp only [decide_eq_false_iff_not] at h
      refine Sat.skip ?_
      simp only [thenK]
      (repeat refine Sat.seq ?_)
      (refine Sat.region_ord [0, 1, 2, 3, 4, 5, 6, 8, 9, 10, 7, 11, 12, 13, 14, 15] (by kernel_rfl) (by kernel_rfl) rfl rfl (fun _ _ h => h) fun k hk => ?_; simp only [List.map_cons, List.map_nil, List.getD_cons_zero, List.getD_cons_succ]; simp -implicitDefEqProofs only [evr, id, seval, res_one, resRow, List.append_nil, retM, retMK])
      try simp only [Int.toNat_natCast]
      refine ⟨by omega, by omega, by omega, by omega, by omega, by omega, by omega, by omega, ?_⟩
      refine hk _ ?_
      simp only [thenK, blockK]
      refine Sat.le (st' := ⟨90, [(11, .i .i64 i2), (12, .i .i64 j2), (0, .os 0 ad N cap), (1, .i .i64 a), (4, .fn g 0 rdc)], [resRow ad N cap (swp d1 (i2) (j2))]⟩) ?_ (by simp -implicitDefEqProofs only [evr, id, seval, res_one, resRow, List.append_nil, retM, retMK, evl]; exact res_swp hd1 (by omega) (by omega))
      (repeat refine Sat.seq ?_)
      have e5 : IntKind.i64.wrap ((i2 : Int) + 1) = ((i2 + 1 : Nat) : Int) := by rw [w64 (by omega)]; omega
      have e6 : IntKind.i64.wrap ((j2 : Int) - 1) = ((j2 - 1 : Nat) : Int) := by rw [w64 (by omega)]; omega
      refine Sat.region_k fun k hk => ?_
      simp -implicitDefEqProofs only [evr, id, seval, res_one, resRow, List.append_nil, retM, retMK, e5]
      (refine hk _ ?_; clear hk k; try show Sat _ _ _ _ _)
      (repeat refine Sat.seq ?_)
      refine Sat.region_k fun k hk => ?_
      simp -implicitDefEqProofs only [evr, id, seval, res_one, resRow, List.append_nil, retM, retMK, e6]
      refine hk _ ?_
      simp only [thenK, blockK]
      refine ⟨(i2 + 1, j2 - 1, swp d1 i2 j2), ⟨by show a < i2 + 1; omega, by show i2 + 1 ≤ b; omega, by show j2 - 1 < b; omega, by show (swp d1 i2 j2).size = N; rw [swp_size]; exact hd1, ?_⟩, by show j2 - 1 + 1 - (i2 + 1) < j + 1 - i; omega, ?_⟩
      ·show partEqLoop lt a (i2 + 1) (j2 - 1) (swp d1 i2 j2) = _
       rw [← heq1, hst, if_neg (by omega)]
      ·simp -implicitDefEqProofs only [evr, id, seval, res_one, resRow, List.append_nil, retM, retMK, evl]
/-! ### partitionCmpFunc -/
set_option maxRecDepth 100000 in
theorem resPartC (F : Frm) {g : FuncId} {rdc : Nat → SV} {lt : Res → Res → Bool} (hc : resCmp g lt) (ad : Option Addr) (cap N : Nat) (d : Array Res) (hd : d.size = N) (hN : N ≤ 1000000000000) (a b pivot : Nat) (hap : a ≤ pivot) (hpb : pivot < b) (hb : b ≤ N) :
  ContractM F Try.prog 86 [.os 0 ad N cap, .i .i64 a, .i .i64 b, .i .i64 pivot, .fn g 0 rdc] (resRow ad N cap d)
   (fun r o1 => ∃ m ap d', d'.size = N ∧ partition lt d a b pivot = (m, ap, d') ∧ r = tupL [.i .i64 (m : Nat), .b ap] ∧ o1 = resRow ad N cap d') := by
 refine contractM_of Try.func86 rfl (by kernel_rfl) (by rintro r o1 ⟨m, ap, d', _, _, _, rfl⟩; exact res_blk _ _) ?_
 simp only [Try.ntmps86, argEnv]
 (repeat refine Sat.seq ?_)
 (refine Sat.region_k fun k hk => ?_; simp -implicitDefEqProofs only [evr, id, seval, res_one, resRow, List.append_nil, retM, retMK]; refine hk _ ?_; clear hk k; try show Sat _ _ _ _ _)
 (repeat refine Sat.seq ?_)
 (refine Sat.region_ord [0, 1, 2, 3, 4, 5, 6, 8, 9, 10, 7, 11, 12, 13, 14, 15] (by kernel_rfl) (by kernel_rfl) rfl rfl (fun _ _ h => h) fun k hk => ?_; simp only [List.map_cons, List.map_nil, List.getD_cons_zero, List.getD_cons_succ]; simp -implicitDefEqProofs only [evr, id, seval, res_one, resRow, List.append_nil, retM, retMK])
 try simp only [Int.toNat_natCast]
 refine ⟨by omega, by omega, by omega, by omega, by omega, by omega, by omega, by omega, ?_⟩
 refine hk _ ?_
 simp only [thenK, blockK]
 refine Sat.le (st' := ⟨178, [(0, .os 0 ad N cap), (1, .i .i64 a), (2, .i .i64 b), (4, .fn g 0 rdc)], [resRow ad N cap (swp d (a) (pivot))]⟩) ?_ (by simp -implicitDefEqProofs only [evr, id, seval, res_one, resRow, List.append_nil, retM, retMK, evl]; exact res_swp hd (by omega) (by omega))
 have hd0 : (swp d a pivot).size = N := by rw [swp_size]; exact hd
 obtain ⟨d0, hd0e⟩ : ∃ d0, d0 = swp d a pivot := ⟨_, rfl⟩
 rw [← hd0e] at hd0 ⊢
 obtain ⟨b1, hb1⟩ : ∃ b1, b1 = b - 1 := ⟨_, rfl⟩
 have e1 : IntKind.i64.wrap ((a : Int) + 1) = ((a + 1 : Nat) : Int) := by rw [w64 (by omega)]; omega
 have e2 : IntKind.i64.wrap ((b : Int) - 1) = ((b1 : Nat) : Int) := by rw [w64 (by omega)]; omega
 (repeat refine Sat.seq ?_)
 refine Sat.region_k fun k hk => ?_
 simp -implicitDefEqProofs only [evr, id, seval, res_one, resRow, List.append_nil, retM, retMK, e1, e2]
 (refine hk _ ?_; clear hk k; try show Sat _ _ _ _ _)
 (repeat refine Sat.seq ?_)
 refine Sat.block ?_
 refine Sat.loop (ι := Nat) (fun x => ⟨178, [(12, .i .i64 x), (0, .os 0 ad N cap), (1, .i .i64 a), (4, .fn g 0 rdc), (13, .i .i64 b1)], [resRow ad N cap d0]⟩) (fun x => (a + 1) ≤ x ∧ x ≤ b + 1 ∧ scanUp (fun x => lt x d0[a]!) d0 b1 x = scanUp (fun x => lt x d0[a]!) d0 b1 ((a + 1))) (fun x => b + 1 - x) ((a + 1)) ⟨Nat.le_refl _, by omega, rfl⟩ (by simp -implicitDefEqProofs only [evr, id, seval, res_one, resRow, List.append_nil, retM, retMK, evl]) ?_
 rintro m ⟨hm0, hm1, hm2⟩
 (repeat refine Sat.seq ?_)
 refine Sat.region_qat (by kernel_rfl) (by kernel_rfl) ⟨178, [(47, .b (decide (m ≤ b1) && lt d0[m]! d0[a]!)), (12, .i .i64 m), (0, .os 0 ad N cap), (1, .i .i64 a), (4, .fn g 0 rdc), (13, .i .i64 b1)], [resRow ad N cap d0]⟩ (fun k hk => ?_) ?_
 ·simp -implicitDefEqProofs only [evr, id, seval, res_one, resRow, List.append_nil, retM, retMK]
  refine ⟨fun h0 => ?_, fun h0 => ?_⟩
  ·refine ⟨by omega, by omega, by omega, by omega, ?_⟩
   refine res_qcmp hc d0[m]! d0[a]! fun c hcl => ?_
   simp -implicitDefEqProofs only [evr, id, seval, res_one, resRow, List.append_nil, retM, retMK]
   refine hk _ ?_
   have e3 : (decide (m ≤ b1) && lt d0[m]! d0[a]!) = decide (c < 0) := by rw [hcl]; simp; omega
   simp only [e3]
   simp -implicitDefEqProofs only [evr, id, seval, res_one, resRow, List.append_nil, retM, retMK, evl]
  ·refine hk _ ?_
   have e3 : (decide (m ≤ b1) && lt d0[m]! d0[a]!) = false := by simp; omega
   simp only [e3]
   simp -implicitDefEqProofs only [evr, id, seval, res_one, resRow, List.append_nil, retM, retMK, evl]
 ·simp only [thenK]
  refine Sat.cond_b rfl (fun h3 => ?_) (fun h3 => ?_)
  ·simp only [Bool.and_eq_true, decide_eq_true_eq] at h3
   have e2 : IntKind.i64.wrap ((m : Int) + 1) = ((m + 1 : Nat) : Int) := by rw [w64 (by omega)]; omega
   refine Sat.skip ?_
   simp only [thenK]
   (repeat refine Sat.seq ?_)
   refine Sat.block ?_
   (repeat refine Sat.seq ?_)
   refine Sat.region_k fun k hk => ?_
   simp -implicitDefEqProofs only [evr, id, seval, res_one, resRow, List.append_nil, retM, retMK, e2]
   refine hk _ ?_
   simp only [thenK, blockK]
   refine ⟨m + 1, ⟨by omega, by omega, ?_⟩, by omega, ?_⟩
   ·rw [← hm2]; conv => rhs; rw [scanUp]
    rw [if_pos (by simp only [Bool.and_eq_true, decide_eq_true_eq]; exact h3)]
   ·simp -implicitDefEqProofs only [evr, id, seval, res_one, resRow, List.append_nil, retM, retMK, evl]
  ·refine Sat.exit ?_
   simp only [thenK, blockK, Nat.reduceEqDiff, reduceIte]
   have hi1 : scanUp (fun x => lt x d0[a]!) d0 b1 ((a + 1)) = m := by rw [← hm2, scanUp, if_neg (by rw [h3]; exact Bool.false_ne_true)]
   clear hm2
   generalize hgm : m = i1 at *
   (repeat refine Sat.seq ?_)
   refine Sat.block ?_
   refine Sat.loop (ι := Nat) (fun x => ⟨178, [(13, .i .i64 x), (0, .os 0 ad N cap), (1, .i .i64 a), (4, .fn g 0 rdc), (12, .i .i64 i1)], [resRow ad N cap d0]⟩) (fun x => x ≤ b1 ∧ scanDown (fun x => !lt x d0[a]!) d0 i1 x = scanDown (fun x => !lt x d0[a]!) d0 i1 (b1)) (fun x => x) (b1) ⟨Nat.le_refl _, rfl⟩ (by simp -implicitDefEqProofs only [evr, id, seval, res_one, resRow, List.append_nil, retM, retMK, evl]) ?_
   rintro m ⟨hm0, hm2⟩
   (repeat refine Sat.seq ?_)
   refine Sat.region_qat (by kernel_rfl) (by kernel_rfl) ⟨178, [(66, .b (decide (i1 ≤ m) && !lt d0[m]! d0[a]!)), (13, .i .i64 m), (0, .os 0 ad N cap), (1, .i .i64 a), (4, .fn g 0 rdc), (12, .i .i64 i1)], [resRow ad N cap d0]⟩ (fun k hk => ?_) ?_
   ·simp -implicitDefEqProofs only [evr, id, seval, res_one, resRow, List.append_nil, retM, retMK]
    refine ⟨fun h0 => ?_, fun h0 => ?_⟩
    ·refine ⟨by omega, by omega, by omega, by omega, ?_⟩
     refine res_qcmp hc d0[m]! d0[a]! fun c hcl => ?_
     simp -implicitDefEqProofs only [evr, id, seval, res_one, resRow, List.append_nil, retM, retMK]
     refine hk _ ?_
     have e3 : (decide (i1 ≤ m) && !lt d0[m]! d0[a]!) = !decide (c < 0) := by rw [hcl]; simp; omega
     simp only [e3]
     simp -implicitDefEqProofs only [evr, id, seval, res_one, resRow, List.append_nil, retM, retMK, evl]
    ·refine hk _ ?_
     have e3 : (decide (i1 ≤ m) && !lt d0[m]! d0[a]!) = false := by simp; omega
     simp only [e3]
     simp -implicitDefEqProofs only [evr, id, seval, res_one, resRow, List.append_nil, retM, retMK, evl]
   ·simp only [thenK]
    refine Sat.cond_b rfl (fun h3 => ?_) (fun h3 => ?_)
    ·simp only [Bool.and_eq_true, decide_eq_true_eq] at h3
     obtain ⟨m, rfl⟩ : ∃ m', m = m' + 1 := ⟨m - 1, by omega⟩
     have e2 : IntKind.i64.wrap (((m + 1 : Nat) : Int) - 1) = (m : Int) := by rw [w64 (by omega)]; omega
     refine Sat.skip ?_
     simp only [thenK]
     (repeat refine Sat.seq ?_)
     refine Sat.block ?_
     (repeat refine Sat.seq ?_)
     refine Sat.region_k fun k hk => ?_
     simp -implicitDefEqProofs only [evr, id, seval, res_one, resRow, List.append_nil, retM, retMK, e2]
     refine hk _ ?_
     simp only [thenK, blockK]
     refine ⟨m, ⟨by omega, ?_⟩, by omega, ?_⟩
     ·rw [← hm2]; conv => rhs; rw [scanDown]
      rw [if_pos (by simp only [Bool.and_eq_true, decide_eq_true_eq]; exact h3)]
     ·simp -implicitDefEqProofs only [evr, id, seval, res_one, resRow, List.append_nil, retM, retMK, evl]
    ·refine Sat.exit ?_
     simp only [thenK, blockK, Nat.reduceEqDiff, reduceIte]
     have hj1 : scanDown (fun x => !lt x d0[a]!) d0 i1 (b1) = m := by
      rw [← hm2]
      cases m with
      | zero => rfl
      | succ q => rw [scanDown, if_neg (by rw [h3]; exact Bool.false_ne_true)]
     clear hm2
     generalize hgm : m = j1 at *
     (repeat refine Sat.seq ?_)
     (refine Sat.region_k fun k hk => ?_; simp -implicitDefEqProofs only [evr, id, seval, res_one, resRow, List.append_nil, retM, retMK]; refine hk _ ?_; clear hk k; try show Sat _ _ _ _ _)
     (repeat refine Sat.seq ?_)
     refine Sat.cond_b rfl (fun h => ?_) (fun h => ?_)
     ·simp only [decide_eq_true_eq] at h
      have hres : partition lt d a b pivot = (j1, true, swp d0 j1 a) := by
       unfold partition
       simp only [← hd0e, ← hb1, hi1, hj1]
       rw [if_pos (by omega)]
      (repeat refine Sat.seq ?_)
      (refine Sat.region_ord [0, 1, 2, 3, 4, 5, 6, 8, 9, 10, 7, 11, 12, 13, 14, 15] (by kernel_rfl) (by kernel_rfl) rfl rfl (fun _ _ h => h) fun k hk => ?_; simp only [List.map_cons, List.map_nil, List.getD_cons_zero, List.getD_cons_succ]; simp -implicitDefEqProofs only [evr, id, seval, res_one, resRow, List.append_nil, retM, retMK])
      try simp only [Int.toNat_natCast]
      refine ⟨by omega, by omega, by omega, by omega, by omega, by omega, by omega, by omega, ?_⟩
      refine hk _ ?_
      simp only [thenK, blockK]
      refine Sat.le (st' := ⟨178, [(13, .i .i64 j1), (0, .os 0 ad N cap)], [resRow ad N cap (swp d0 (j1) (a))]⟩) ?_ (by simp -implicitDefEqProofs only [evr, id, seval, res_one, resRow, List.append_nil, retM, retMK, evl]; exact res_swp hd0 (by omega) (by omega))
      (repeat refine Sat.seq ?_)
      (refine Sat.region_k fun k hk => ?_; simp -implicitDefEqProofs only [evr, id, seval, res_one, resRow, List.append_nil, retM, retMK]; refine hk _ ?_; clear hk k; try show Sat _ _ _ _ _)
      refine Sat.ret ?_
      simp only [Try.results86, evr, id, seval, res_one, resRow, List.append_nil, retM, retMK]
      exact ⟨rfl, _, _, rfl, j1, true, swp d0 j1 a, by rw [swp_size]; exact hd0, hres, rfl, rfl⟩
     ·simp only [decide_eq_false_iff_not] at h
      have hres : partition lt d a b pivot = ((partLoop lt a (i1 + 1) (j1 - 1) (swp d0 i1 j1)).1, false, swp (partLoop lt a (i1 + 1) (j1 - 1) (swp d0 i1 j1)).2 (partLoop lt a (i1 + 1) (j1 - 1) (swp d0 i1 j1)).1 a) := by
       unfold partition
       simp only [← hd0e, ← hb1, hi1, hj1]
       rw [if_neg (by omega)]
      refine Sat.skip ?_
      simp only [thenK]
      (repeat refine Sat.seq ?_)
      (refine Sat.region_ord [0, 1, 2, 3, 4, 5, 6, 8, 9, 10, 7, 11, 12, 13, 14, 15] (by kernel_rfl) (by kernel_rfl) rfl rfl (fun _ _ h => h) fun k hk => ?_; simp only [List.map_cons, List.map_nil, List.getD_cons_zero, List.getD_cons_succ]; simp -implicitDefEqProofs only [evr, id, seval, res_one, resRow, List.append_nil, retM, retMK])
      try simp only [Int.toNat_natCast]
      refine ⟨by omega, by omega, by omega, by omega, by omega, by omega, by omega, by omega, ?_⟩
      refine hk _ ?_
      simp only [thenK, blockK]
      refine Sat.le (st' := ⟨178, [(12, .i .i64 i1), (13, .i .i64 j1), (0, .os 0 ad N cap), (1, .i .i64 a), (4, .fn g 0 rdc)], [resRow ad N cap (swp d0 (i1) (j1))]⟩) ?_ (by simp -implicitDefEqProofs only [evr, id, seval, res_one, resRow, List.append_nil, retM, retMK, evl]; exact res_swp hd0 (by omega) (by omega))
      (repeat refine Sat.seq ?_)
      have e5 : IntKind.i64.wrap ((i1 : Int) + 1) = ((i1 + 1 : Nat) : Int) := by rw [w64 (by omega)]; omega
      have e6 : IntKind.i64.wrap ((j1 : Int) - 1) = ((j1 - 1 : Nat) : Int) := by rw [w64 (by omega)]; omega
      refine Sat.region_k fun k hk => ?_
      simp -implicitDefEqProofs only [evr, id, seval, res_one, resRow, List.append_nil, retM, retMK, e5]
      (refine hk _ ?_; clear hk k; try show Sat _ _ _ _ _)
      (repeat refine Sat.seq ?_)
      refine Sat.region_k fun k hk => ?_
      simp -implicitDefEqProofs only [evr, id, seval, res_one, resRow, List.append_nil, retM, retMK, e6]
      (refine hk _ ?_; clear hk k; try show Sat _ _ _ _ _)
      (repeat refine Sat.seq ?_)
      refine Sat.block ?_
      refine Sat.loop (ι := Nat × Nat × Array Res) (fun x => ⟨178, [(12, .i .i64 x.1), (13, .i .i64 x.2.1), (0, .os 0 ad N cap), (1, .i .i64 a), (4, .fn g 0 rdc)], [resRow ad N cap x.2.2]⟩)
       (fun x => a < x.1 ∧ x.1 ≤ b ∧ x.2.1 < b ∧ x.2.2.size = N ∧ partLoop lt a x.1 x.2.1 x.2.2 = partLoop lt a (i1 + 1) (j1 - 1) (swp d0 i1 j1)) (fun x => x.2.1 + 1 - x.1) (i1 + 1, j1 - 1, swp d0 i1 j1) ⟨by show a < i1 + 1; omega, by show i1 + 1 ≤ b; omega, by show j1 - 1 < b; omega, by show (swp d0 i1 j1).size = N; rw [swp_size]; exact hd0, rfl⟩ (by simp -implicitDefEqProofs only [evr, id, seval, res_one, resRow, List.append_nil, retM, retMK, evl]) ?_
      clear hi1 hj1
      rintro ⟨i, j, d1⟩ ⟨hi1, hi2, hj1, hd1, heq1⟩
      simp only at hi1 hi2 hj1 hd1 heq1 ⊢
      (repeat refine Sat.seq ?_)
      refine Sat.block ?_
      (repeat refine Sat.seq ?_)
      refine Sat.block ?_
      refine Sat.loop (ι := Nat) (fun x => ⟨178, [(12, .i .i64 x), (0, .os 0 ad N cap), (1, .i .i64 a), (4, .fn g 0 rdc), (13, .i .i64 j)], [resRow ad N cap d1]⟩) (fun x => i ≤ x ∧ x ≤ b + 1 ∧ scanUp (fun x => lt x d1[a]!) d1 j x = scanUp (fun x => lt x d1[a]!) d1 j (i)) (fun x => b + 1 - x) (i) ⟨Nat.le_refl _, by omega, rfl⟩ (by simp -implicitDefEqProofs only [evr, id, seval, res_one, resRow, List.append_nil, retM, retMK, evl]) ?_
      rintro m ⟨hm0, hm1, hm2⟩
      (repeat refine Sat.seq ?_)
      refine Sat.region_qat (by kernel_rfl) (by kernel_rfl) ⟨178, [(120, .b (decide (m ≤ j) && lt d1[m]! d1[a]!)), (12, .i .i64 m), (0, .os 0 ad N cap), (1, .i .i64 a), (4, .fn g 0 rdc), (13, .i .i64 j)], [resRow ad N cap d1]⟩ (fun k hk => ?_) ?_
      ·simp -implicitDefEqProofs only [evr, id, seval, res_one, resRow, List.append_nil, retM, retMK]
       refine ⟨fun h0 => ?_, fun h0 => ?_⟩
       ·refine ⟨by omega, by omega, by omega, by omega, ?_⟩
        refine res_qcmp hc d1[m]! d1[a]! fun c hcl => ?_
        simp -implicitDefEqProofs only [evr, id, seval, res_one, resRow, List.append_nil, retM, retMK]
        refine hk _ ?_
        have e3 : (decide (m ≤ j) && lt d1[m]! d1[a]!) = decide (c < 0) := by rw [hcl]; simp; omega
        simp only [e3]
        simp -implicitDefEqProofs only [evr, id, seval, res_one, resRow, List.append_nil, retM, retMK, evl]
       ·refine hk _ ?_
        have e3 : (decide (m ≤ j) && lt d1[m]! d1[a]!) = false := by simp; omega
        simp only [e3]
        simp -implicitDefEqProofs only [evr, id, seval, res_one, resRow, List.append_nil, retM, retMK, evl]
      ·simp only [thenK]
       refine Sat.cond_b rfl (fun h3 => ?_) (fun h3 => ?_)
       ·simp only [Bool.and_eq_true, decide_eq_true_eq] at h3
        have e2 : IntKind.i64.wrap ((m : Int) + 1) = ((m + 1 : Nat) : Int) := by rw [w64 (by omega)]; omega
        refine Sat.skip ?_
        simp only [thenK]
        (repeat refine Sat.seq ?_)
        refine Sat.block ?_
        (repeat refine Sat.seq ?_)
        refine Sat.region_k fun k hk => ?_
        simp -implicitDefEqProofs only [evr, id, seval, res_one, resRow, List.append_nil, retM, retMK, e2]
        refine hk _ ?_
        simp only [thenK, blockK]
        refine ⟨m + 1, ⟨by omega, by omega, ?_⟩, by omega, ?_⟩
        ·rw [← hm2]; conv => rhs; rw [scanUp]
         rw [if_pos (by simp only [Bool.and_eq_true, decide_eq_true_eq]; exact h3)]
        ·simp -implicitDefEqProofs only [evr, id, seval, res_one, resRow, List.append_nil, retM, retMK, evl]
       ·refine Sat.exit ?_
        simp only [thenK, blockK, Nat.reduceEqDiff, reduceIte]
        have hi2 : scanUp (fun x => lt x d1[a]!) d1 j (i) = m := by rw [← hm2, scanUp, if_neg (by rw [h3]; exact Bool.false_ne_true)]
        clear hm2
        generalize hgm : m = i2 at *
        (repeat refine Sat.seq ?_)
        refine Sat.block ?_
        refine Sat.loop (ι := Nat) (fun x => ⟨178, [(13, .i .i64 x), (0, .os 0 ad N cap), (1, .i .i64 a), (4, .fn g 0 rdc), (12, .i .i64 i2)], [resRow ad N cap d1]⟩) (fun x => x ≤ j ∧ scanDown (fun x => !lt x d1[a]!) d1 i2 x = scanDown (fun x => !lt x d1[a]!) d1 i2 (j)) (fun x => x) (j) ⟨Nat.le_refl _, rfl⟩ (by simp -implicitDefEqProofs only [evr, id, seval, res_one, resRow, List.append_nil, retM, retMK, evl]) ?_
        rintro m ⟨hm0, hm2⟩
        (repeat refine Sat.seq ?_)
        refine Sat.region_qat (by kernel_rfl) (by kernel_rfl) ⟨178, [(139, .b (decide (i2 ≤ m) && !lt d1[m]! d1[a]!)), (13, .i .i64 m), (0, .os 0 ad N cap), (1, .i .i64 a), (4, .fn g 0 rdc), (12, .i .i64 i2)], [resRow ad N cap d1]⟩ (fun k hk => ?_) ?_
        ·simp -implicitDefEqProofs only [evr, id, seval, res_one, resRow, List.append_nil, retM, retMK]
         refine ⟨fun h0 => ?_, fun h0 => ?_⟩
         ·refine ⟨by omega, by omega, by omega, by omega, ?_⟩
          refine res_qcmp hc d1[m]! d1[a]! fun c hcl => ?_
          simp -implicitDefEqProofs only [evr, id, seval, res_one, resRow, List.append_nil, retM, retMK]
          refine hk _ ?_
          have e3 : (decide (i2 ≤ m) && !lt d1[m]! d1[a]!) = !decide (c < 0) := by rw [hcl]; simp; omega
          simp only [e3]
          simp -implicitDefEqProofs only [evr, id, seval, res_one, resRow, List.append_nil, retM, retMK, evl]
         ·refine hk _ ?_
          have e3 : (decide (i2 ≤ m) && !lt d1[m]! d1[a]!) = false := by simp; omega
          simp only [e3]
          simp -implicitDefEqProofs only [evr, id, seval, res_one, resRow, List.append_nil, retM, retMK, evl]
        ·simp only [thenK]
         refine Sat.cond_b rfl (fun h3 => ?_) (fun h3 => ?_)
         ·simp only [Bool.and_eq_true, decide_eq_true_eq] at h3
          obtain ⟨m, rfl⟩ : ∃ m', m = m' + 1 := ⟨m - 1, by omega⟩
          have e2 : IntKind.i64.wrap (((m + 1 : Nat) : Int) - 1) = (m : Int) := by rw [w64 (by omega)]; omega
          refine Sat.skip ?_
          simp only [thenK]
          (repeat refine Sat.seq ?_)
          refine Sat.block ?_
          (repeat refine Sat.seq ?_)
          refine Sat.region_k fun k hk => ?_
          simp -implicitDefEqProofs only [evr, id, seval, res_one, resRow, List.append_nil, retM, retMK, e2]
          refine hk _ ?_
          simp only [thenK, blockK]
          refine ⟨m, ⟨by omega, ?_⟩, by omega, ?_⟩
          ·rw [← hm2]; conv => rhs; rw [scanDown]
           rw [if_pos (by simp only [Bool.and_eq_true, decide_eq_true_eq]; exact h3)]
          ·simp -implicitDefEqProofs only [evr, id, seval, res_one, resRow, List.append_nil, retM, retMK, evl]
         ·refine Sat.exit ?_
          simp only [thenK, blockK, Nat.reduceEqDiff, reduceIte]
          have hj2 : scanDown (fun x => !lt x d1[a]!) d1 i2 (j) = m := by
           rw [← hm2]
           cases m with
           | zero => rfl
           | succ q => rw [scanDown, if_neg (by rw [h3]; exact Bool.false_ne_true)]
          clear hm2
          generalize hgm : m = j2 at *
          have hst := res_partLoop (lt := lt) hi2 hj2 (by omega) (by omega) (by omega)
          (repeat refine Sat.seq ?_)
          (refine Sat.region_k fun k hk => ?_; simp -implicitDefEqProofs only [evr, id, seval, res_one, resRow, List.append_nil, retM, retMK]; refine hk _ ?_; clear hk k; try show Sat _ _ _ _ _)
          (repeat refine Sat.seq ?_)
          refine Sat.cond_b rfl (fun h => ?_) (fun h => ?_)
          ·simp only [decide_eq_true_eq] at h
           refine Sat.exit ?_
           simp only [thenK, blockK, Nat.reduceEqDiff, reduceIte]
           have hfin : partLoop lt a (i1 + 1) (j1 - 1) (swp d0 i1 j1) = (j2, d1) := by rw [← heq1, hst, if_pos (by omega)]
           rw [hfin] at hres
           simp only at hres
           (repeat refine Sat.seq ?_)
           (refine Sat.region_ord [0, 1, 2, 3, 4, 5, 6, 8, 9, 10, 7, 11, 12, 13, 14, 15] (by kernel_rfl) (by kernel_rfl) rfl rfl (fun _ _ h => h) fun k hk => ?_; simp only [List.map_cons, List.map_nil, List.getD_cons_zero, List.getD_cons_succ]; simp -implicitDefEqProofs only [evr, id, seval, res_one, resRow, List.append_nil, retM, retMK])
           try simp only [Int.toNat_natCast]
           refine ⟨by omega, by omega, by omega, by omega, by omega, by omega, by omega, by omega, ?_⟩
           refine hk _ ?_
           simp only [thenK, blockK]
           refine Sat.le (st' := ⟨178, [(13, .i .i64 j2), (0, .os 0 ad N cap)], [resRow ad N cap (swp d1 (j2) (a))]⟩) ?_ (by simp -implicitDefEqProofs only [evr, id, seval, res_one, resRow, List.append_nil, retM, retMK, evl]; exact res_swp hd1 (by omega) (by omega))
           (repeat refine Sat.seq ?_)
           (refine Sat.region_k fun k hk => ?_; simp -implicitDefEqProofs only [evr, id, seval, res_one, resRow, List.append_nil, retM, retMK]; refine hk _ ?_; clear hk k; try show Sat _ _ _ _ _)
           refine Sat.ret ?_
           simp only [Try.results86, evr, id, seval, res_one, resRow, List.append_nil, retM, retMK]
           exact ⟨rfl, _, _, rfl, j2, false, swp d1 j2 a, by rw [swp_size]; exact hd1, hres, rfl, rfl⟩
          ·simp only [decide_eq_false_iff_not] at h
           refine Sat.skip ?_
           simp only [thenK]
           (repeat refine Sat.seq ?_)
           (refine Sat.region_ord [0, 1, 2, 3, 4, 5, 6, 8, 9, 10, 7, 11, 12, 13, 14, 15] (by kernel_rfl) (by kernel_rfl) rfl rfl (fun _ _ h => h) fun k hk => ?_; simp only [List.map_cons, List.map_nil, List.getD_cons_zero, List.getD_cons_succ]; simp -implicitDefEqProofs only [evr, id, seval, res_one, resRow, List.append_nil, retM, retMK])
           try simp only [Int.toNat_natCast]
           refine ⟨by omega, by omega, by omega, by omega, by omega, by omega, by omega, by omega, ?_⟩
           refine hk _ ?_
           simp only [thenK, blockK]
           refine Sat.le (st' := ⟨178, [(12, .i .i64 i2), (13, .i .i64 j2), (0, .os 0 ad N cap), (1, .i .i64 a), (4, .fn g 0 rdc)], [resRow ad N cap (swp d1 (i2) (j2))]⟩) ?_ (by simp -implicitDefEqProofs only [evr, id, seval, res_one, resRow, List.append_nil, retM, retMK, evl]; exact res_swp hd1 (by omega) (by omega))
           (repeat refine Sat.seq ?_)
           have e7 : IntKind.i64.wrap ((i2 : Int) + 1) = ((i2 + 1 : Nat) : Int) := by rw [w64 (by omega)]; omega
           have e8 : IntKind.i64.wrap ((j2 : Int) - 1) = ((j2 - 1 : Nat) : Int) := by rw [w64 (by omega)]; omega
           refine Sat.region_k fun k hk => ?_
           simp -implicitDefEqProofs only [evr, id, seval, res_one, resRow, List.append_nil, retM, retMK, e7]
           (refine hk _ ?_; clear hk k; try show Sat _ _ _ _ _)
           (repeat refine Sat.seq ?_)
           refine Sat.region_k fun k hk => ?_
           simp -implicitDefEqProofs only [evr, id, seval, res_one, resRow, List.append_nil, retM, retMK, e8]
           refine hk _ ?_
           simp only [thenK, blockK]
           refine ⟨(i2 + 1, j2 - 1, swp d1 i2 j2), ⟨by show a < i2 + 1; omega, by show i2 + 1 ≤ b; omega, by show j2 - 1 < b; omega, by show (swp d1 i2 j2).size = N; rw [swp_size]; exact hd1, ?_⟩, by show j2 - 1 + 1 - (i2 + 1) < j + 1 - i; omega, ?_⟩
           ·show partLoop lt a (i2 + 1) (j2 - 1) (swp d1 i2 j2) = _
            rw [← heq1, hst, if_neg (by omega)]
           ·simp -implicitDefEqProofs only [evr, id, seval, res_one, resRow, List.append_nil, retM, retMK, evl]
end Go.Proofs.Ytepbdjpcoleegaa
