import Derived.Test.YtepbdjpcoleegaaResSrt5
import Derived.Test.YtepbdjpcoleegaaBitsE

/- Sorting in place, by the evaluator: xorshift, nextPowerOfTwo, breakPatternsCmpFunc. -/
set_option linter.unusedSimpArgs false
set_option linter.unusedVariables false
namespace Go.Proofs.Ytepbdjpcoleegaa
open Go.Sort Eng
def xsh (blk : Nat) (n : Int) : Own := .box blk 139 [.i .u64 n]
set_option maxRecDepth 100000 in
theorem resNextC (F : Frm) (blk : Nat) (n : Int) :
  ContractM F Try.prog 97 [.op 0 blk 0] (xsh blk n)
   (fun r o1 => ∃ m : Nat, m < 18446744073709551616 ∧ o1 = xsh blk m ∧ r = .i .u64 m) := by
 refine contractM_of Try.func97 rfl (by kernel_rfl) (by rintro r o1 ⟨m, _, rfl, _⟩; rfl) ?_
 simp only [Try.ntmps97, argEnv, xsh]
 (repeat refine Sat.seq ?_)
 (refine Sat.region_k fun k hk => ?_; simp -implicitDefEqProofs only [evr, id, seval, res_one, resRow, List.append_nil, retM, retMK]; refine hk _ ?_; clear hk k; try show Sat _ _ _ _ _)
 (repeat refine Sat.seq ?_)
 have u64n : ∀ z : Int, ∃ m : Nat, m < 18446744073709551616 ∧ IntKind.u64.wrap z = (m : Int) := fun z => by
  have h : IntKind.u64.wrap z = z % 18446744073709551616 := by unfold IntKind.wrap; simp [IntKind.bits, IntKind.signed]
  exact ⟨(z % 18446744073709551616).toNat, by omega, by rw [h]; omega⟩
 have xorn : ∀ x y : Int, ∃ m : Nat, m < 18446744073709551616 ∧ bits .xor .u64 x y = (m : Int) := fun x y => u64n _
 (refine Sat.region_ord [0, 1, 3, 4, 2, 5, 6, 7, 8, 9] (by kernel_rfl) (by kernel_rfl) rfl rfl (fun _ _ h => h) fun k hk => ?_; simp only [List.map_cons, List.map_nil, List.getD_cons_zero, List.getD_cons_succ]; simp -implicitDefEqProofs only [evr, id, reduceCtorEq, reduceIte, Nat.reduceMul, Nat.reduceAdd, Nat.reduceLT, Nat.reduceLeDiff, Nat.reduceEqDiff, Int.reduceLT, Int.reduceBEq, Int.reduceBNe, Nat.reduceBEq, res_one, resRow, List.append_nil, retM, retMK])
 refine ⟨by decide, ?_⟩
 obtain ⟨m1, h1, e1⟩ := xorn n (IntKind.u64.wrap (n * 2 ^ min (Int.toNat 13) IntKind.u64.bits))
 rw [e1]
 (refine hk _ ?_; clear hk k; try show Sat _ _ _ _ _)
 (repeat refine Sat.seq ?_)
 (refine Sat.region_ord [0, 1, 3, 4, 2, 5, 6, 7, 8, 9] (by kernel_rfl) (by kernel_rfl) rfl rfl (fun _ _ h => h) fun k hk => ?_; simp only [List.map_cons, List.map_nil, List.getD_cons_zero, List.getD_cons_succ]; simp -implicitDefEqProofs only [evr, id, reduceCtorEq, reduceIte, Nat.reduceMul, Nat.reduceAdd, Nat.reduceLT, Nat.reduceLeDiff, Nat.reduceEqDiff, Int.reduceLT, Int.reduceBEq, Int.reduceBNe, Nat.reduceBEq, res_one, resRow, List.append_nil, retM, retMK])
 refine ⟨by decide, ?_⟩
 obtain ⟨m2, h2, e2⟩ := xorn m1 ((m1 : Int).fdiv (2 ^ min (Int.toNat 7) IntKind.u64.bits))
 rw [e2]
 (refine hk _ ?_; clear hk k; try show Sat _ _ _ _ _)
 (repeat refine Sat.seq ?_)
 (refine Sat.region_ord [0, 1, 3, 4, 2, 5, 6, 7, 8, 9] (by kernel_rfl) (by kernel_rfl) rfl rfl (fun _ _ h => h) fun k hk => ?_; simp only [List.map_cons, List.map_nil, List.getD_cons_zero, List.getD_cons_succ]; simp -implicitDefEqProofs only [evr, id, reduceCtorEq, reduceIte, Nat.reduceMul, Nat.reduceAdd, Nat.reduceLT, Nat.reduceLeDiff, Nat.reduceEqDiff, Int.reduceLT, Int.reduceBEq, Int.reduceBNe, Nat.reduceBEq, res_one, resRow, List.append_nil, retM, retMK])
 refine ⟨by decide, ?_⟩
 obtain ⟨m3, h3, e3⟩ := xorn m2 (IntKind.u64.wrap ((m2 : Int) * 2 ^ min (Int.toNat 17) IntKind.u64.bits))
 rw [e3]
 (refine hk _ ?_; clear hk k; try show Sat _ _ _ _ _)
 (repeat refine Sat.seq ?_)
 (refine Sat.region_k fun k hk => ?_; simp -implicitDefEqProofs only [evr, id, seval, res_one, resRow, List.append_nil, retM, retMK]; refine hk _ ?_; clear hk k; try show Sat _ _ _ _ _)
 refine Sat.ret ?_
 simp only [Try.results97, evr, id, reduceCtorEq, reduceIte, Nat.reduceMul, Nat.reduceAdd, Nat.reduceLT, Nat.reduceLeDiff, Nat.reduceEqDiff, Int.reduceLT, Int.reduceBEq, Int.reduceBNe, Nat.reduceBEq, res_one, resRow, List.append_nil, retM, retMK]
 exact ⟨rfl, _, _, rfl, m3, h3, rfl, rfl⟩
set_option maxRecDepth 100000 in
theorem resNpotC (F : Frm) (n : Nat) (hn : n < 4611686018427387904) : Contract F Try.prog 96 [.i .i64 n] (fun r => r = .i .u64 (2 ^ bitsLen n : Nat)) := by
 refine contract_of Try.func96 rfl (by kernel_rfl) ?_
 simp only [Try.ntmps96, argEnv]
 have hb : bitsLen n ≤ 62 := (bitsLen_le_iff n 62).2 hn
 have hb2 : 2 ^ bitsLen n ≤ 2 ^ 62 := Nat.pow_le_pow_right (by decide) hb
 have e1 : IntKind.u64.wrap (n : Int) = (n : Int) := IntWalk.u64_in _ (by omega)
 have e2 : IntKind.u64.wrap (1 * 2 ^ min (bitsLen n) IntKind.u64.bits) = ((2 ^ bitsLen n : Nat) : Int) := by
  have h64 : IntKind.u64.bits = 64 := rfl
  rw [h64, show min (bitsLen n) 64 = bitsLen n by omega, Int.one_mul, show ((2 : Int) ^ bitsLen n) = ((2 ^ bitsLen n : Nat) : Int) from (Int.natCast_pow 2 (bitsLen n)).symm]
  exact IntWalk.u64_in _ ⟨Int.natCast_nonneg _, (Int.ofNat_le (n := 18446744073709551615)).2 (Nat.le_trans hb2 (by decide))⟩
 (repeat refine Sat.seq ?_)
 (refine Sat.region_k fun k hk => ?_; simp -implicitDefEqProofs only [evr, id, seval, res_one, resRow, List.append_nil, retM, retMK]; refine hk _ ?_; clear hk k; try show Sat _ _ _ _ _)
 (repeat refine Sat.seq ?_)
 refine Sat.region_k fun k hk => ?_
 simp -implicitDefEqProofs only [evr, id, seval, res_one, resRow, List.append_nil, retM, retMK, e1]
 refine wcall_plain (lenC F n (by omega)) rfl (by rintro _ rfl; exact ok_plain rfl) ?_
 rintro r rfl
 simp -implicitDefEqProofs only [evr, id, seval, res_one, resRow, List.append_nil, retM, retMK, e2]
 (refine hk _ ?_; clear hk k; try show Sat _ _ _ _ _)
 refine Sat.ret ?_
 simp only [Try.results96, evr, id, reduceCtorEq, reduceIte, Nat.reduceMul, Nat.reduceAdd, Nat.reduceLT, Nat.reduceLeDiff, Nat.reduceEqDiff, Int.reduceLT, Int.reduceBEq, Int.reduceBNe, Nat.reduceBEq, res_one, resRow, List.append_nil, retM, retMK]
set_option maxRecDepth 100000 in
theorem resBrkC (F : Frm) {fv : SV} (ad : Option Addr) (cap N : Nat) (d : Array Res) (hd : d.size = N) (hN : N ≤ 1000000000000) (a b : Nat) (hab : a ≤ b) (hb : b ≤ N) :
  ContractM F Try.prog 81 [.os 0 ad N cap, .i .i64 a, .i .i64 b, fv] (resRow ad N cap d)
   (fun r o1 => r = tupL [] ∧ ∃ d', d'.size = N ∧ PermIn a b d d' ∧ o1 = resRow ad N cap d') := by
 refine contractM_of Try.func81 rfl (by kernel_rfl) (by rintro r o1 ⟨_, d', _, _, rfl⟩; exact res_blk _ _) ?_
 simp only [Try.ntmps81, argEnv]
 obtain ⟨l, hl⟩ : ∃ l, l = b - a := ⟨_, rfl⟩
 have e1 : IntKind.i64.wrap ((b : Int) - (a : Int)) = (l : Int) := by rw [w64 (by omega)]; omega
 (repeat refine Sat.seq ?_)
 refine Sat.region_k fun k hk => ?_
 simp -implicitDefEqProofs only [evr, id, seval, res_one, resRow, List.append_nil, retM, retMK, e1]
 (refine hk _ ?_; clear hk k; try show Sat _ _ _ _ _)
 (repeat refine Sat.seq ?_)
 (refine Sat.region_k fun k hk => ?_; simp -implicitDefEqProofs only [evr, id, seval, res_one, resRow, List.append_nil, retM, retMK]; refine hk _ ?_; clear hk k; try show Sat _ _ _ _ _)
 refine Sat.cond_b rfl (fun h => ?_) (fun h => ?_)
 ·simp only [decide_eq_true_eq] at h
  have h8 : 8 ≤ l := by omega
  have e2 : IntKind.u64.wrap (l : Int) = (l : Int) := IntWalk.u64_in _ (by omega)
  have hml : 2 ^ (bitsLen l - 1) ≤ l := by
   have h1 : ¬ l < 2 ^ (bitsLen l - 1) := fun hc => by
    have := (bitsLen_le_iff l (bitsLen l - 1)).2 hc
    have h0 : ¬ bitsLen l ≤ 0 := fun h0 => by have := (bitsLen_le_iff l 0).1 h0; omega
    omega
   omega
  have hbl : bitsLen l ≤ 62 := (bitsLen_le_iff l 62).2 (by omega)
  obtain ⟨q, hq⟩ : ∃ q, bitsLen l = q + 1 := ⟨bitsLen l - 1, by
   have h0 : ¬ bitsLen l ≤ 0 := fun h0 => by have := (bitsLen_le_iff l 0).1 h0; omega
   omega⟩
  have hmod : 2 ^ bitsLen l ≤ 2 * l := by rw [hq, Nat.pow_succ]; rw [hq] at hml; simp only [Nat.add_sub_cancel] at hml; omega
  obtain ⟨md, hmd⟩ : ∃ md, md = 2 ^ bitsLen l := ⟨_, rfl⟩
  have hmd0 : 0 < md := by rw [hmd]; exact Nat.two_pow_pos _
  (repeat refine Sat.seq ?_)
  refine Sat.region_k fun k hk => ?_
  simp -implicitDefEqProofs only [evr, id, seval, res_one, resRow, List.append_nil, retM, retMK, e2]
  intro blk
  (refine hk _ ?_; clear hk k; try show Sat _ _ _ _ _)
  (repeat refine Sat.seq ?_)
  (refine Sat.region_k fun k hk => ?_; simp -implicitDefEqProofs only [evr, id, seval, res_one, resRow, List.append_nil, retM, retMK])
  refine wcall_plain (resNpotC F l (by omega)) rfl (by rintro _ rfl; exact ok_plain rfl) ?_
  rintro r rfl
  simp -implicitDefEqProofs only [evr, id, seval, res_one, resRow, List.append_nil, retM, retMK]
  rw [← hmd]
  (refine hk _ ?_; clear hk k; try show Sat _ _ _ _ _)
  have q1 : IntKind.i64.wrap ((l : Int).tdiv 4) = ((l / 4 : Nat) : Int) := by rw [Int.tdiv_eq_ediv_of_nonneg (by omega), w64 (by omega)]; omega
  have q2 : IntKind.i64.wrap (((l / 4 : Nat) : Int) * 2) = ((l / 4 * 2 : Nat) : Int) := by rw [w64 (by omega)]; omega
  have q3 : IntKind.i64.wrap ((a : Int) + ((l / 4 * 2 : Nat) : Int)) = ((a + l / 4 * 2 : Nat) : Int) := by rw [w64 (by omega)]; omega
  have q4 : IntKind.i64.wrap (((a + l / 4 * 2 : Nat) : Int) - 1) = ((a + l / 4 * 2 - 1 : Nat) : Int) := by rw [w64 (by omega)]; omega
  have q5 : IntKind.i64.wrap (((a + l / 4 * 2 : Nat) : Int) + 1) = ((a + l / 4 * 2 + 1 : Nat) : Int) := by rw [w64 (by omega)]; omega
  (repeat refine Sat.seq ?_)
  refine Sat.region_k fun k hk => ?_
  simp -implicitDefEqProofs only [evr, id, reduceCtorEq, reduceIte, Nat.reduceMul, Nat.reduceAdd, Nat.reduceLT, Nat.reduceLeDiff, Nat.reduceEqDiff, Int.reduceLT, Int.reduceBEq, Int.reduceBNe, Nat.reduceBEq, res_one, resRow, List.append_nil, retM, retMK, q1, q2, q3, q4]
  refine ⟨by decide, ?_⟩
  (refine hk _ ?_; clear hk k; try show Sat _ _ _ _ _)
  refine Sat.block ?_
  refine Sat.loop (ι := Nat × Array Res × Int) (fun x => ⟨67, [(11, .i .i64 x.1), (0, .os 0 ad N cap), (1, .i .i64 a), (8, .i .i64 l), (9, .op 1 blk 0), (10, .i .u64 md)], [resRow ad N cap x.2.1, xsh blk x.2.2]⟩)
   (fun x => a + l / 4 * 2 - 1 ≤ x.1 ∧ x.1 ≤ a + l / 4 * 2 + 2 ∧ x.2.1.size = N ∧ PermIn a b d x.2.1) (fun x => a + l / 4 * 2 + 2 - x.1) (a + l / 4 * 2 - 1, d, (l : Int)) ⟨Nat.le_refl _, by show _ ≤ _; omega, hd, permIn_refl _ _ _⟩ (by simp only [xsh]; simp -implicitDefEqProofs only [evr, id, seval, res_one, resRow, List.append_nil, retM, retMK, evl]) ?_
  rintro ⟨i, d1, s⟩ ⟨hi1, hi2, hd1, hp⟩
  simp only [xsh] at hi1 hi2 hd1 hp ⊢
  (repeat refine Sat.seq ?_)
  refine Sat.region_k fun k hk => ?_
  simp -implicitDefEqProofs only [evr, id, reduceCtorEq, reduceIte, Nat.reduceMul, Nat.reduceAdd, Nat.reduceLT, Nat.reduceLeDiff, Nat.reduceEqDiff, Int.reduceLT, Int.reduceBEq, Int.reduceBNe, Nat.reduceBEq, res_one, resRow, List.append_nil, retM, retMK, q1, q2, q3, q5]
  refine ⟨by decide, ?_⟩
  (refine hk _ ?_; clear hk k; try show Sat _ _ _ _ _)
  (repeat refine Sat.seq ?_)
  refine Sat.cond_b rfl (fun h => ?_) (fun h => ?_)
  ·simp only [decide_eq_true_eq] at h
   refine Sat.skip ?_
   simp only [thenK]
   (repeat refine Sat.seq ?_)
   refine Sat.block ?_
   (repeat refine Sat.seq ?_)
   (refine Sat.region_k fun k hk => ?_; simp -implicitDefEqProofs only [evr, id, seval, res_one, resRow, List.append_nil, retM, retMK])
   refine wcall_mut 1 (resNextC F blk s) rfl rfl ?_
   rintro r o1 ⟨m, hm, rfl, rfl⟩
   have e5 : IntKind.u64.wrap ((md : Int) - 1) = ((md - 1 : Nat) : Int) := by rw [IntWalk.u64_in _ (by omega)]; omega
   obtain ⟨o, ho, e6⟩ : ∃ o : Nat, o < md ∧ bits .and .u64 (m : Int) ((md - 1 : Nat) : Int) = (o : Int) := by
    refine ⟨m &&& (md - 1), ?_, Go.u64_and_nat m (md - 1) hm (by omega)⟩
    have := @Nat.and_le_right m (md - 1)
    omega
   have e7 : IntKind.i64.wrap (o : Int) = (o : Int) := w64 (by omega)
   simp -implicitDefEqProofs only [evr, id, seval, res_one, resRow, List.append_nil, retM, retMK, e5, e6, e7]
   (refine hk _ ?_; clear hk k; try show Sat _ _ _ _ _)
   (repeat refine Sat.seq ?_)
   (refine Sat.region_k fun k hk => ?_; simp -implicitDefEqProofs only [evr, id, seval, res_one, resRow, List.append_nil, retM, retMK]; refine hk _ ?_; clear hk k; try show Sat _ _ _ _ _)
   (repeat refine Sat.seq ?_)
   have e8 : IntKind.i64.wrap ((o : Int) - (l : Int)) = (o : Int) - (l : Int) := w64 (by omega)
   have e9 : IntKind.i64.wrap ((i : Int) + 1) = ((i + 1 : Nat) : Int) := by rw [w64 (by omega)]; omega
   refine Sat.atF (ι := Nat) (fun x => ⟨67, [(0, .os 0 ad N cap), (1, .i .i64 a), (8, .i .i64 l), (9, .op 1 blk 0), (10, .i .u64 md), (11, .i .i64 i), (12, .i .i64 x)], [resRow ad N cap d1, xsh blk m]⟩) (fun x => x < l) ?_ ?_
   ·refine Sat.cond_b rfl (fun h2 => ?_) (fun h2 => ?_)
    ·simp only [decide_eq_true_eq] at h2
     (repeat refine Sat.seq ?_)
     refine Sat.region_k fun k hk => ?_
     simp -implicitDefEqProofs only [evr, id, seval, res_one, resRow, List.append_nil, retM, retMK, e8]
     refine hk _ ?_
     simp only [thenK]
     refine ⟨o - l, by show o - l < l; omega, ?_⟩
     rw [show (o : Int) - (l : Int) = ((o - l : Nat) : Int) by omega]
     simp only [xsh]
     simp -implicitDefEqProofs only [evr, id, seval, res_one, resRow, List.append_nil, retM, retMK, evl]
    ·simp only [decide_eq_false_iff_not] at h2
     refine Sat.skip ?_
     simp only [thenK]
     refine ⟨o, by show o < l; omega, ?_⟩
     simp only [xsh]
     simp -implicitDefEqProofs only [evr, id, seval, res_one, resRow, List.append_nil, retM, retMK, evl]
   ·rintro x hx
    simp only [xsh]
    simp only [thenK]
    have e10 : IntKind.i64.wrap ((a : Int) + (x : Int)) = ((a + x : Nat) : Int) := by rw [w64 (by omega)]; omega
    (repeat refine Sat.seq ?_)
    (refine Sat.region_ord [0, 1, 2, 3, 4, 5, 6, 7, 8, 9, 10, 12, 13, 14, 11, 15, 16, 17, 18, 19] (by kernel_rfl) (by kernel_rfl) rfl rfl (fun _ _ h => h) fun k hk => ?_; simp only [List.map_cons, List.map_nil, List.getD_cons_zero, List.getD_cons_succ]; simp -implicitDefEqProofs only [evr, id, seval, res_one, resRow, List.append_nil, retM, retMK])
    simp only [e10]
    refine ⟨by omega, by omega, by omega, by omega, by omega, by omega, by omega, by omega, ?_⟩
    refine hk _ ?_
    simp only [thenK, blockK]
    refine Sat.region_k fun k hk => ?_
    simp -implicitDefEqProofs only [evr, id, seval, res_one, resRow, List.append_nil, retM, retMK, e9]
    refine hk _ ?_
    simp only [thenK, blockK]
    refine ⟨(i + 1, swp d1 i (a + x), (m : Int)), ⟨by show _ ≤ i + 1; omega, by show i + 1 ≤ _; omega, by show (swp d1 i (a + x)).size = N; rw [swp_size]; exact hd1, permIn_trans _ _ _ _ _ hp (swp_permIn _ _ _ _ _ (by omega) (by omega) (by omega) (by omega) (by omega))⟩, by show _ - (i + 1) < _ - i; omega, ?_⟩
    simp only [xsh]
    simp -implicitDefEqProofs only [evr, id, seval, res_one, resRow, List.append_nil, retM, retMK, evl]
    exact res_swp hd1 (by omega) (by omega)
  ·refine Sat.exit ?_
   simp only [thenK, blockK, Nat.reduceEqDiff, reduceIte, Try.results81, evr, id, reduceCtorEq, reduceIte, Nat.reduceMul, Nat.reduceAdd, Nat.reduceLT, Nat.reduceLeDiff, Nat.reduceEqDiff, Int.reduceLT, Int.reduceBEq, Int.reduceBNe, Nat.reduceBEq, res_one, resRow, List.append_nil, retM, retMK]
   exact ⟨_, _, rfl, d1, hd1, hp, rfl⟩
 ·refine Sat.skip ?_
  simp only [thenK, blockK, Nat.reduceEqDiff, reduceIte, Try.results81, evr, id, reduceCtorEq, reduceIte, Nat.reduceMul, Nat.reduceAdd, Nat.reduceLT, Nat.reduceLeDiff, Nat.reduceEqDiff, Int.reduceLT, Int.reduceBEq, Int.reduceBNe, Nat.reduceBEq, res_one, resRow, List.append_nil, retM, retMK]
  exact ⟨_, _, rfl, d, hd, permIn_refl _ _ _, rfl⟩
end Go.Proofs.Ytepbdjpcoleegaa
