/- StoppingCounts: Onto counts the tables in which each successor has a flow, by going through all of them. The law holds of every input. -/
import Derived.Test.YtagmohpafjncfaaPk1
set_option linter.unusedSimpArgs false
set_option linter.unusedVariables false
namespace Go.Proofs.Ytagmohpafjncfaa
open Eng Lmb Go.RowKit

/-- what is seen in the first i digits of t -/
def seenI (k t : Nat) : Nat → Nat
  | 0 => 0
  | i + 1 => seenI k t i ||| (2 ^ (t / k ^ i % k))
def fullC (n k : Nat) : Nat → Nat
  | 0 => 0
  | t + 1 => fullC n k t + (if seenI k t n = 2 ^ k - 1 then 1 else 0)
theorem full_six : fullC 6 4 (4 ^ 6) = cnt 4 6 4 := by decide +kernel
theorem full_few : ∀ n, n < 6 → fullC n 4 (4 ^ n) = cnt 4 n 4 := by decide +kernel
theorem full_less : ∀ n, n < 7 → ∀ k, k < 4 → fullC n k (k ^ n) = cnt k n k := by decide +kernel
theorem full_eq {n k : Nat} (hn : n < 7) (hk : k ≤ 4) : fullC n k (k ^ n) = cnt k n k := by
  rcases (show k < 4 ∨ k = 4 by omega) with h | rfl
  · exact full_less n hn k h
  · rcases (show n < 6 ∨ n = 6 by omega) with h | rfl
    · exact full_few n h
    · exact full_six
theorem fullC_le (n k : Nat) : ∀ t, fullC n k t ≤ t
  | 0 => Nat.le_refl _
  | t + 1 => by
    have := fullC_le n k t
    unfold fullC
    split <;> omega
theorem seenI_lt {k t : Nat} (hk : 0 < k) (hk4 : k ≤ 4) : ∀ i, seenI k t i < 16
  | 0 => by unfold seenI; decide
  | i + 1 => by
    unfold seenI
    have h1 := seenI_lt (t := t) hk hk4 i
    have h2 : 2 ^ (t / k ^ i % k) < 2 ^ 4 := Nat.pow_lt_pow_right (by decide) (by have := Nat.mod_lt (t / k ^ i) hk; omega)
    exact Nat.or_lt_two_pow (n := 4) h1 h2
theorem tab_le {n k : Nat} (hn : n < 7) (hk : k ≤ 4) : k ^ n ≤ 4096 := Nat.le_trans (Nat.pow_le_pow_left hk n) (Nat.pow_le_pow_right (n := 4) (by decide) (show n ≤ 6 by omega))
theorem or_small {a b : Nat} (ha : a < 16) (hb : b < 16) : bits .or .i64 (a : Int) (b : Int) = ((a ||| b : Nat) : Int) := by
  show IntKind.i64.wrap ((BitVec.ofInt 64 (a : Int) ||| BitVec.ofInt 64 (b : Int)).toNat : Int) = _
  rw [BitVec.toNat_or, Zn.ofInt_i64 _ (by omega), Zn.ofInt_i64 _ (by omega)]
  have : a ||| b < 2 ^ 4 := Nat.or_lt_two_pow (n := 4) ha hb
  exact w64 (by omega)

theorem nat_tmod (q m : Nat) : ((q : Int)).tmod m = ((q % m : Nat) : Int) := by
  rw [Int.tmod_eq_emod_of_nonneg (Int.natCast_nonneg q)]; exact (Int.natCast_emod q m).symm
theorem nat_tdiv (q m : Nat) (hq : q < 9223372036854775808) : IntKind.i64.wrap (((q : Int)).tdiv m) = ((q / m : Nat) : Int) := by
  have h := Nat.div_le_self q m
  rw [Int.tdiv_eq_ediv_of_nonneg (Int.natCast_nonneg q), ← Int.natCast_ediv]
  generalize q / m = z at h
  exact w64 (by omega)
theorem pow_wrap (x : Nat) (hx : x < 32) : IntKind.i64.wrap (1 * 2 ^ min x IntKind.i64.bits) = ((2 ^ x : Nat) : Int) := by
  have h4 : 2 ^ x < 2 ^ 32 := Nat.pow_lt_pow_right (by decide) hx
  have e : ((2 ^ x : Nat) : Int) = (2 : Int) ^ x := by simp
  rw [Nat.min_eq_left (by show _ ≤ 64; omega), Int.one_mul, ← e]
  generalize 2 ^ x = z at h4
  exact w64 (by omega)

set_option maxRecDepth 100000 in
theorem tablesC (F : Frm) {n k : Nat} (hn : n < 7) (hk : k ≤ 4) (hk1 : 1 ≤ k) : Contract F Try.prog 15 [.i .i64 n, .i .i64 k] (fun r => r = .i .i64 (k ^ n : Nat)) := by
  refine contract_of Try.func15 rfl (by kernel_rfl) ?_
  simp only [Try.ntmps15, argEnv]
  (repeat refine Sat.seq ?_)
  (refine Sat.region_k fun k hk => ?_; simp -implicitDefEqProofs only [evr, id, reduceCtorEq, reduceIte, Nat.reduceMul, Nat.reduceAdd, Nat.reduceLT, Nat.reduceLeDiff, Nat.reduceEqDiff, Int.reduceLT, Int.reduceBEq, Int.reduceBNe, Nat.reduceBEq, List.append_nil, Int.toNat_zero, Nat.sub_self, frS, ptr]; refine hk _ ?_; clear hk k; try show Sat _ _ _ _ _)
  (repeat refine Sat.seq ?_)
  (refine Sat.region_k fun k hk => ?_; simp -implicitDefEqProofs only [evr, id, reduceCtorEq, reduceIte, Nat.reduceMul, Nat.reduceAdd, Nat.reduceLT, Nat.reduceLeDiff, Nat.reduceEqDiff, Int.reduceLT, Int.reduceBEq, Int.reduceBNe, Nat.reduceBEq, List.append_nil, Int.toNat_zero, Nat.sub_self, frS, ptr]; refine hk _ ?_; clear hk k; try show Sat _ _ _ _ _)
  (repeat refine Sat.seq ?_)
  (refine Sat.region_k fun k hk => ?_; simp -implicitDefEqProofs only [evr, id, reduceCtorEq, reduceIte, Nat.reduceMul, Nat.reduceAdd, Nat.reduceLT, Nat.reduceLeDiff, Nat.reduceEqDiff, Int.reduceLT, Int.reduceBEq, Int.reduceBNe, Nat.reduceBEq, List.append_nil, Int.toNat_zero, Nat.sub_self, frS, ptr]; refine hk _ ?_; clear hk k; try show Sat _ _ _ _ _)
  (repeat refine Sat.seq ?_)
  refine Sat.block ?_
  (repeat refine Sat.seq ?_)
  refine Sat.loop (ι := Nat) (fun i => ⟨16, [(6, .i .i64 (i : Int)), (5, .i .i64 ((k ^ i : Nat) : Int)), (0, .i .i64 n), (1, .i .i64 k)], []⟩)
    (fun i => i ≤ n) (fun i => n - i) 0 (Nat.zero_le _) (by rw [Nat.pow_zero]; simp -implicitDefEqProofs only [evr, id, reduceCtorEq, reduceIte, Nat.reduceMul, Nat.reduceAdd, Nat.reduceLT, Nat.reduceLeDiff, Nat.reduceEqDiff, Int.reduceLT, Int.reduceBEq, Int.reduceBNe, Nat.reduceBEq, List.append_nil, Int.toNat_zero, Nat.sub_self, frS, ptr, evl]; try exact ⟨rfl, rfl⟩) ?_
  rintro i hi
  (repeat refine Sat.seq ?_)
  (refine Sat.region_k fun k hk => ?_; simp -implicitDefEqProofs only [evr, id, reduceCtorEq, reduceIte, Nat.reduceMul, Nat.reduceAdd, Nat.reduceLT, Nat.reduceLeDiff, Nat.reduceEqDiff, Int.reduceLT, Int.reduceBEq, Int.reduceBNe, Nat.reduceBEq, List.append_nil, Int.toNat_zero, Nat.sub_self, frS, ptr]; refine hk _ ?_; clear hk k; try show Sat _ _ _ _ _)
  (repeat refine Sat.seq ?_)
  refine Sat.cond_b rfl (fun h => ?_) (fun h => ?_)
  · simp only [decide_eq_true_eq] at h
    have hp : k ^ i * k ≤ 4096 := by rw [← Nat.pow_succ]; exact tab_le (by omega) hk
    have e1 : IntKind.i64.wrap (((k ^ i : Nat) : Int) * (k : Int)) = ((k ^ (i + 1) : Nat) : Int) := by
      rw [Nat.pow_succ]
      rw [← Int.natCast_mul]
      exact w64 (by omega)
    have e2 : IntKind.i64.wrap ((i : Int) + 1) = ((i + 1 : Nat) : Int) := by rw [w64 (by omega)]; omega
    refine Sat.skip ?_
    simp only [thenK]
    (repeat refine Sat.seq ?_)
    refine Sat.block ?_
    refine Sat.region_k fun k2 hk2 => ?_
    simp -implicitDefEqProofs only [evr, id, reduceCtorEq, reduceIte, Nat.reduceMul, Nat.reduceAdd, Nat.reduceLT, Nat.reduceLeDiff, Nat.reduceEqDiff, Int.reduceLT, Int.reduceBEq, Int.reduceBNe, Nat.reduceBEq, List.append_nil, Int.toNat_zero, Nat.sub_self, frS, ptr, e1]
    refine hk2 _ ?_
    simp only [thenK, blockK]
    refine Sat.region_k fun k2 hk2 => ?_
    simp -implicitDefEqProofs only [evr, id, reduceCtorEq, reduceIte, Nat.reduceMul, Nat.reduceAdd, Nat.reduceLT, Nat.reduceLeDiff, Nat.reduceEqDiff, Int.reduceLT, Int.reduceBEq, Int.reduceBNe, Nat.reduceBEq, List.append_nil, Int.toNat_zero, Nat.sub_self, frS, ptr, e2]
    refine hk2 _ ?_
    simp only [thenK, blockK]
    refine ⟨i + 1, by show i + 1 ≤ n; omega, by omega, ?_⟩
    simp -implicitDefEqProofs only [evr, id, reduceCtorEq, reduceIte, Nat.reduceMul, Nat.reduceAdd, Nat.reduceLT, Nat.reduceLeDiff, Nat.reduceEqDiff, Int.reduceLT, Int.reduceBEq, Int.reduceBNe, Nat.reduceBEq, List.append_nil, Int.toNat_zero, Nat.sub_self, frS, ptr, evl]
  · simp only [decide_eq_false_iff_not] at h
    obtain rfl : i = n := by omega
    refine Sat.exit ?_
    simp only [thenK, blockK, reduceIte]
    (repeat refine Sat.seq ?_)
    (refine Sat.region_k fun k hk => ?_; simp -implicitDefEqProofs only [evr, id, reduceCtorEq, reduceIte, Nat.reduceMul, Nat.reduceAdd, Nat.reduceLT, Nat.reduceLeDiff, Nat.reduceEqDiff, Int.reduceLT, Int.reduceBEq, Int.reduceBNe, Nat.reduceBEq, List.append_nil, Int.toNat_zero, Nat.sub_self, frS, ptr]; refine hk _ ?_; clear hk k; try show Sat _ _ _ _ _)
    refine Sat.ret ?_
    simp only [Try.results15, evr, id, reduceCtorEq, reduceIte, Nat.reduceMul, Nat.reduceAdd, Nat.reduceLT, Nat.reduceLeDiff, Nat.reduceEqDiff, Int.reduceLT, Int.reduceBEq, Int.reduceBNe, Nat.reduceBEq, List.append_nil, Int.toNat_zero, Nat.sub_self, frS, ptr]

set_option maxHeartbeats 2000000 in
set_option maxRecDepth 100000 in
theorem countsC (a b : Int) (ha : 0 ≤ a ∧ a < 256) (hb : 0 ≤ b ∧ b < 256) : Contract Frm.nil Try.prog 4 [.i .u8 a, .i .u8 b] (fun r => r = .b true) := by
  refine contract_of Try.func4 rfl (by kernel_rfl) ?_
  simp only [Try.ntmps4, argEnv]
  obtain ⟨n, hn⟩ : ∃ n : Nat, a % 7 = n := ⟨(a % 7).toNat, by omega⟩
  obtain ⟨m, hm⟩ : ∃ m : Nat, b % 4 + 1 = m := ⟨(b % 4 + 1).toNat, by omega⟩
  have hn7 : n < 7 := by omega
  have hm1 : 1 ≤ m := by omega
  have hm4 : m ≤ 4 := by omega
  have e1 : (IntKind.i64.wrap a).tmod 7 = (n : Int) := by rw [w64 (by omega), Int.tmod_eq_emod_of_nonneg (by omega), hn]
  have e2 : IntKind.i64.wrap (1 + (IntKind.i64.wrap b).tmod 4) = (m : Int) := by rw [w64 (x := b) (by omega), Int.tmod_eq_emod_of_nonneg (by omega), w64 (by omega)]; omega
  have htab := tab_le hn7 hm4
  have hpos : 0 < m ^ n := Nat.pow_pos hm1
  (repeat refine Sat.seq ?_)
  (refine Sat.region_k fun k hk => ?_; simp -implicitDefEqProofs only [evr, id, reduceCtorEq, reduceIte, Nat.reduceMul, Nat.reduceAdd, Nat.reduceLT, Nat.reduceLeDiff, Nat.reduceEqDiff, Int.reduceLT, Int.reduceBEq, Int.reduceBNe, Nat.reduceBEq, List.append_nil, Int.toNat_zero, Nat.sub_self, frS, ptr]; refine hk _ ?_; clear hk k; try show Sat _ _ _ _ _)
  (repeat refine Sat.seq ?_)
  (refine Sat.region_k fun k hk => ?_; simp -implicitDefEqProofs only [evr, id, reduceCtorEq, reduceIte, Nat.reduceMul, Nat.reduceAdd, Nat.reduceLT, Nat.reduceLeDiff, Nat.reduceEqDiff, Int.reduceLT, Int.reduceBEq, Int.reduceBNe, Nat.reduceBEq, List.append_nil, Int.toNat_zero, Nat.sub_self, frS, ptr])
  refine wcall_plain (awakeC Frm.nil) rfl (by rintro _ rfl; exact ok_plain rfl) ?_
  rintro r rfl
  simp -implicitDefEqProofs only [evr, id, reduceCtorEq, reduceIte, Nat.reduceMul, Nat.reduceAdd, Nat.reduceLT, Nat.reduceLeDiff, Nat.reduceEqDiff, Int.reduceLT, Int.reduceBEq, Int.reduceBNe, Nat.reduceBEq, List.append_nil, Int.toNat_zero, Nat.sub_self, frS, ptr]
  (refine hk _ ?_; clear hk k; try show Sat _ _ _ _ _)
  (repeat refine Sat.seq ?_)
  refine Sat.cond_b rfl (fun h => absurd h (by decide)) (fun _ => ?_)
  refine Sat.skip ?_
  simp only [thenK]
  (repeat refine Sat.seq ?_)
  refine Sat.region_k fun k hk => ?_
  simp -implicitDefEqProofs only [evr, id, reduceCtorEq, reduceIte, Nat.reduceMul, Nat.reduceAdd, Nat.reduceLT, Nat.reduceLeDiff, Nat.reduceEqDiff, Int.reduceLT, Int.reduceBEq, Int.reduceBNe, Nat.reduceBEq, List.append_nil, Int.toNat_zero, Nat.sub_self, frS, ptr, e1, e2]
  refine ⟨by decide, by decide, ?_⟩
  (refine hk _ ?_; clear hk k; try show Sat _ _ _ _ _)
  (repeat refine Sat.seq ?_)
  (refine Sat.region_k fun k hk => ?_; simp -implicitDefEqProofs only [evr, id, reduceCtorEq, reduceIte, Nat.reduceMul, Nat.reduceAdd, Nat.reduceLT, Nat.reduceLeDiff, Nat.reduceEqDiff, Int.reduceLT, Int.reduceBEq, Int.reduceBNe, Nat.reduceBEq, List.append_nil, Int.toNat_zero, Nat.sub_self, frS, ptr])
  refine wcall_plain (tablesC Frm.nil hn7 hm4 hm1) rfl (by rintro _ rfl; exact ok_plain rfl) ?_
  rintro r rfl
  simp -implicitDefEqProofs only [evr, id, reduceCtorEq, reduceIte, Nat.reduceMul, Nat.reduceAdd, Nat.reduceLT, Nat.reduceLeDiff, Nat.reduceEqDiff, Int.reduceLT, Int.reduceBEq, Int.reduceBNe, Nat.reduceBEq, List.append_nil, Int.toNat_zero, Nat.sub_self, frS, ptr]
  (refine hk _ ?_; clear hk k; try show Sat _ _ _ _ _)
  (repeat refine Sat.seq ?_)
  (refine Sat.region_k fun k hk => ?_; simp -implicitDefEqProofs only [evr, id, reduceCtorEq, reduceIte, Nat.reduceMul, Nat.reduceAdd, Nat.reduceLT, Nat.reduceLeDiff, Nat.reduceEqDiff, Int.reduceLT, Int.reduceBEq, Int.reduceBNe, Nat.reduceBEq, List.append_nil, Int.toNat_zero, Nat.sub_self, frS, ptr]; refine hk _ ?_; clear hk k; try show Sat _ _ _ _ _)
  (repeat refine Sat.seq ?_)
  refine Sat.block ?_
  (repeat refine Sat.seq ?_)
  refine Sat.loop (ι := Nat) (fun t => ⟨105, [(9, .i .i64 (t : Int)), (8, .i .i64 (fullC n m t : Nat)), (7, .i .i64 ((m ^ n : Nat) : Int)), (5, .i .i64 n), (6, .i .i64 m)], []⟩)
    (fun t => t ≤ m ^ n) (fun t => m ^ n - t) 0 (Nat.zero_le _) (by simp -implicitDefEqProofs only [evr, id, reduceCtorEq, reduceIte, Nat.reduceMul, Nat.reduceAdd, Nat.reduceLT, Nat.reduceLeDiff, Nat.reduceEqDiff, Int.reduceLT, Int.reduceBEq, Int.reduceBNe, Nat.reduceBEq, List.append_nil, Int.toNat_zero, Nat.sub_self, frS, ptr, evl]; try exact ⟨rfl, rfl⟩) ?_
  rintro t ht
  (repeat refine Sat.seq ?_)
  (refine Sat.region_k fun k hk => ?_; simp -implicitDefEqProofs only [evr, id, reduceCtorEq, reduceIte, Nat.reduceMul, Nat.reduceAdd, Nat.reduceLT, Nat.reduceLeDiff, Nat.reduceEqDiff, Int.reduceLT, Int.reduceBEq, Int.reduceBNe, Nat.reduceBEq, List.append_nil, Int.toNat_zero, Nat.sub_self, frS, ptr]; refine hk _ ?_; clear hk k; try show Sat _ _ _ _ _)
  (repeat refine Sat.seq ?_)
  refine Sat.cond_b rfl (fun h => ?_) (fun h => ?_)
  · simp only [decide_eq_true_eq] at h
    have htl : t < m ^ n := by omega
    have et : IntKind.i64.wrap ((t : Int) + 1) = ((t + 1 : Nat) : Int) := by rw [w64 (by omega)]; omega
    refine Sat.skip ?_
    simp only [thenK]
    (repeat refine Sat.seq ?_)
    refine Sat.block ?_
    (repeat refine Sat.seq ?_)
    (refine Sat.region_k fun k hk => ?_; simp -implicitDefEqProofs only [evr, id, reduceCtorEq, reduceIte, Nat.reduceMul, Nat.reduceAdd, Nat.reduceLT, Nat.reduceLeDiff, Nat.reduceEqDiff, Int.reduceLT, Int.reduceBEq, Int.reduceBNe, Nat.reduceBEq, List.append_nil, Int.toNat_zero, Nat.sub_self, frS, ptr]; refine hk _ ?_; clear hk k; try show Sat _ _ _ _ _)
    (repeat refine Sat.seq ?_)
    (refine Sat.region_k fun k hk => ?_; simp -implicitDefEqProofs only [evr, id, reduceCtorEq, reduceIte, Nat.reduceMul, Nat.reduceAdd, Nat.reduceLT, Nat.reduceLeDiff, Nat.reduceEqDiff, Int.reduceLT, Int.reduceBEq, Int.reduceBNe, Nat.reduceBEq, List.append_nil, Int.toNat_zero, Nat.sub_self, frS, ptr]; refine hk _ ?_; clear hk k; try show Sat _ _ _ _ _)
    (repeat refine Sat.seq ?_)
    refine Sat.block ?_
    (repeat refine Sat.seq ?_)
    refine Sat.loop (ι := Nat) (fun i => ⟨105, [(12, .i .i64 (i : Int)), (10, .i .i64 (seenI m t i : Nat)), (11, .i .i64 (t / m ^ i : Nat)), (9, .i .i64 (t : Int)), (8, .i .i64 (fullC n m t : Nat)), (7, .i .i64 ((m ^ n : Nat) : Int)), (5, .i .i64 n), (6, .i .i64 m)], []⟩)
      (fun i => i ≤ n) (fun i => n - i) 0 (Nat.zero_le _) (by rw [Nat.pow_zero, Nat.div_one]; simp -implicitDefEqProofs only [evr, id, reduceCtorEq, reduceIte, Nat.reduceMul, Nat.reduceAdd, Nat.reduceLT, Nat.reduceLeDiff, Nat.reduceEqDiff, Int.reduceLT, Int.reduceBEq, Int.reduceBNe, Nat.reduceBEq, List.append_nil, Int.toNat_zero, Nat.sub_self, frS, ptr, evl]; try exact ⟨rfl, rfl⟩) ?_
    rintro i hi
    (repeat refine Sat.seq ?_)
    (refine Sat.region_k fun k hk => ?_; simp -implicitDefEqProofs only [evr, id, reduceCtorEq, reduceIte, Nat.reduceMul, Nat.reduceAdd, Nat.reduceLT, Nat.reduceLeDiff, Nat.reduceEqDiff, Int.reduceLT, Int.reduceBEq, Int.reduceBNe, Nat.reduceBEq, List.append_nil, Int.toNat_zero, Nat.sub_self, frS, ptr]; refine hk _ ?_; clear hk k; try show Sat _ _ _ _ _)
    (repeat refine Sat.seq ?_)
    refine Sat.cond_b rfl (fun h => ?_) (fun h => ?_)
    · simp only [decide_eq_true_eq] at h
      have hx : t / m ^ i ≤ t := Nat.div_le_self _ _
      have hmod : t / m ^ i % m < m := Nat.mod_lt _ hm1
      have f1 := nat_tmod (t / m ^ i) m
      have f2 : IntKind.i64.wrap (((t / m ^ i : Nat) : Int).tdiv m) = ((t / m ^ (i + 1) : Nat) : Int) := by
        rw [Nat.pow_succ, ← Nat.div_div_eq_div_mul]
        exact nat_tdiv _ _ (Nat.lt_of_le_of_lt hx (by omega))
      have f3 := pow_wrap (t / m ^ i % m) (by omega)
      have f4 : bits .or .i64 ((seenI m t i : Nat) : Int) ((2 ^ (t / m ^ i % m) : Nat) : Int) = ((seenI m t (i + 1) : Nat) : Int) := or_small (seenI_lt hm1 hm4 i) (Nat.pow_lt_pow_right (n := 4) (by decide) (by omega))
      have ei : IntKind.i64.wrap ((i : Int) + 1) = ((i + 1 : Nat) : Int) := by rw [w64 (by omega)]; omega
      refine Sat.skip ?_
      simp only [thenK]
      (repeat refine Sat.seq ?_)
      refine Sat.block ?_
      (repeat refine Sat.seq ?_)
      refine Sat.region_k fun k hk => ?_
      simp -implicitDefEqProofs only [evr, id, reduceCtorEq, reduceIte, Nat.reduceMul, Nat.reduceAdd, Nat.reduceLT, Nat.reduceLeDiff, Nat.reduceEqDiff, Int.reduceLT, Int.reduceBEq, Int.reduceBNe, Nat.reduceBEq, List.append_nil, Int.toNat_zero, Nat.sub_self, frS, ptr, f1, f3, f4]
      refine ⟨by omega, ?_⟩
      (refine hk _ ?_; clear hk k; try show Sat _ _ _ _ _)
      refine Sat.region_k fun k hk => ?_
      simp -implicitDefEqProofs only [evr, id, reduceCtorEq, reduceIte, Nat.reduceMul, Nat.reduceAdd, Nat.reduceLT, Nat.reduceLeDiff, Nat.reduceEqDiff, Int.reduceLT, Int.reduceBEq, Int.reduceBNe, Nat.reduceBEq, List.append_nil, Int.toNat_zero, Nat.sub_self, frS, ptr, f2]
      refine ⟨by omega, ?_⟩
      refine hk _ ?_
      clear hk k
      simp only [thenK, blockK]
      (repeat refine Sat.seq ?_)
      refine Sat.region_k fun k hk => ?_
      simp -implicitDefEqProofs only [evr, id, reduceCtorEq, reduceIte, Nat.reduceMul, Nat.reduceAdd, Nat.reduceLT, Nat.reduceLeDiff, Nat.reduceEqDiff, Int.reduceLT, Int.reduceBEq, Int.reduceBNe, Nat.reduceBEq, List.append_nil, Int.toNat_zero, Nat.sub_self, frS, ptr, ei]
      refine hk _ ?_
      simp only [thenK, blockK]
      refine ⟨i + 1, by show i + 1 ≤ n; omega, by omega, ?_⟩
      simp -implicitDefEqProofs only [evr, id, reduceCtorEq, reduceIte, Nat.reduceMul, Nat.reduceAdd, Nat.reduceLT, Nat.reduceLeDiff, Nat.reduceEqDiff, Int.reduceLT, Int.reduceBEq, Int.reduceBNe, Nat.reduceBEq, List.append_nil, Int.toNat_zero, Nat.sub_self, frS, ptr, evl]
    · simp only [decide_eq_false_iff_not] at h
      obtain rfl : i = n := by omega
      have f5 := pow_wrap m (by omega)
      have hp2 : 1 ≤ 2 ^ m := Nat.pow_pos (by decide)
      have hp3 : 2 ^ m < 2 ^ 32 := Nat.pow_lt_pow_right (by decide) (by omega)
      have f6 : IntKind.i64.wrap (((2 ^ m : Nat) : Int) - 1) = ((2 ^ m - 1 : Nat) : Int) := by rw [w64 (by omega)]; omega
      have hfl := fullC_le i m t
      refine Sat.exit ?_
      simp only [thenK, blockK, reduceIte]
      (repeat refine Sat.seq ?_)
      refine Sat.region_k fun k hk => ?_
      simp -implicitDefEqProofs only [evr, id, reduceCtorEq, reduceIte, Nat.reduceMul, Nat.reduceAdd, Nat.reduceLT, Nat.reduceLeDiff, Nat.reduceEqDiff, Int.reduceLT, Int.reduceBEq, Int.reduceBNe, Nat.reduceBEq, List.append_nil, Int.toNat_zero, Nat.sub_self, frS, ptr, f5, f6]
      (refine hk _ ?_; clear hk k; try show Sat _ _ _ _ _)
      refine Sat.cond_b rfl (fun h => ?_) (fun h => ?_)
      · have hs : seenI m t i = 2 ^ m - 1 := by
          have h8 := eq_of_beq h
          omega
        have ef : IntKind.i64.wrap ((fullC i m t : Nat) + 1) = ((fullC i m (t + 1) : Nat) : Int) := by
          conv => rhs; unfold fullC
          rw [if_pos hs, w64 (by omega)]
          omega
        refine Sat.region_k fun k hk => ?_
        simp -implicitDefEqProofs only [evr, id, reduceCtorEq, reduceIte, Nat.reduceMul, Nat.reduceAdd, Nat.reduceLT, Nat.reduceLeDiff, Nat.reduceEqDiff, Int.reduceLT, Int.reduceBEq, Int.reduceBNe, Nat.reduceBEq, List.append_nil, Int.toNat_zero, Nat.sub_self, frS, ptr, ef]
        refine hk _ ?_
        clear hk k
        simp only [thenK, blockK]
        (repeat refine Sat.seq ?_)
        refine Sat.region_k fun k hk => ?_
        simp -implicitDefEqProofs only [evr, id, reduceCtorEq, reduceIte, Nat.reduceMul, Nat.reduceAdd, Nat.reduceLT, Nat.reduceLeDiff, Nat.reduceEqDiff, Int.reduceLT, Int.reduceBEq, Int.reduceBNe, Nat.reduceBEq, List.append_nil, Int.toNat_zero, Nat.sub_self, frS, ptr, et]
        refine hk _ ?_
        simp only [thenK, blockK]
        refine ⟨t + 1, by show t + 1 ≤ m ^ i; omega, by omega, ?_⟩
        simp -implicitDefEqProofs only [evr, id, reduceCtorEq, reduceIte, Nat.reduceMul, Nat.reduceAdd, Nat.reduceLT, Nat.reduceLeDiff, Nat.reduceEqDiff, Int.reduceLT, Int.reduceBEq, Int.reduceBNe, Nat.reduceBEq, List.append_nil, Int.toNat_zero, Nat.sub_self, frS, ptr, evl]
      · have hs : ¬ seenI m t i = 2 ^ m - 1 := by
          intro h9
          rw [h9] at h
          simp at h
        have ef : fullC i m (t + 1) = fullC i m t := by
          conv => lhs; unfold fullC
          rw [if_neg hs]
          rfl
        refine Sat.skip ?_
        simp only [thenK, blockK]
        (repeat refine Sat.seq ?_)
        refine Sat.region_k fun k hk => ?_
        simp -implicitDefEqProofs only [evr, id, reduceCtorEq, reduceIte, Nat.reduceMul, Nat.reduceAdd, Nat.reduceLT, Nat.reduceLeDiff, Nat.reduceEqDiff, Int.reduceLT, Int.reduceBEq, Int.reduceBNe, Nat.reduceBEq, List.append_nil, Int.toNat_zero, Nat.sub_self, frS, ptr, et]
        refine hk _ ?_
        simp only [thenK, blockK]
        refine ⟨t + 1, by show t + 1 ≤ m ^ i; omega, by omega, ?_⟩
        rw [ef]
        simp -implicitDefEqProofs only [evr, id, reduceCtorEq, reduceIte, Nat.reduceMul, Nat.reduceAdd, Nat.reduceLT, Nat.reduceLeDiff, Nat.reduceEqDiff, Int.reduceLT, Int.reduceBEq, Int.reduceBNe, Nat.reduceBEq, List.append_nil, Int.toNat_zero, Nat.sub_self, frS, ptr, evl]
  · simp only [decide_eq_false_iff_not] at h
    obtain rfl : t = m ^ n := by omega
    rw [full_eq hn7 hm4]
    refine Sat.exit ?_
    simp only [thenK, blockK, reduceIte]
    have hcl := cnt_le m n m (Nat.le_refl _)
    have es : IntKind.i64.wrap (((m ^ n : Nat) : Int) - ((cnt m n m : Nat) : Int)) = ((m ^ n - cnt m n m : Nat) : Int) := by rw [w64 (by omega)]; omega
    (repeat refine Sat.seq ?_)
    (refine Sat.region_k fun k hk => ?_; simp -implicitDefEqProofs only [evr, id, reduceCtorEq, reduceIte, Nat.reduceMul, Nat.reduceAdd, Nat.reduceLT, Nat.reduceLeDiff, Nat.reduceEqDiff, Int.reduceLT, Int.reduceBEq, Int.reduceBNe, Nat.reduceBEq, List.append_nil, Int.toNat_zero, Nat.sub_self, frS, ptr])
    refine wcall_slice (stOntoC Frm.nil n m (by omega) (by omega)) rfl rfl ?_
    rintro y ⟨s, rfl, hy⟩
    have hs2 := hy
    obtain ⟨a2, c2, z2, r2, x2, rfl, _⟩ := hy
    simp -implicitDefEqProofs only [evr, id, reduceCtorEq, reduceIte, Nat.reduceMul, Nat.reduceAdd, Nat.reduceLT, Nat.reduceLeDiff, Nat.reduceEqDiff, Int.reduceLT, Int.reduceBEq, Int.reduceBNe, Nat.reduceBEq, List.append_nil, Int.toNat_zero, Nat.sub_self, frS, ptr]
    (refine hk _ ?_; clear hk k; try show Sat _ _ _ _ _)
    (repeat refine Sat.seq ?_)
    (refine Sat.region_k fun k hk => ?_; simp -implicitDefEqProofs only [evr, id, reduceCtorEq, reduceIte, Nat.reduceMul, Nat.reduceAdd, Nat.reduceLT, Nat.reduceLeDiff, Nat.reduceEqDiff, Int.reduceLT, Int.reduceBEq, Int.reduceBNe, Nat.reduceBEq, List.append_nil, Int.toNat_zero, Nat.sub_self, frS, ptr])
    refine wcall_plain (natIntC Frm.nil hs2 (Int.lt_of_le_of_lt (by omega) (show ((4096 : Nat) : Int) < pw 512 from lt_pw (a := 12) (by decide) (by decide)))) rfl (by rintro _ rfl; exact ok_tupL rfl) ?_
    rintro y rfl
    have eV : intV (cnt m n m) = ((cnt m n m : Nat) : Int) := by unfold intV; rw [if_pos (by omega)]
    have eE : intE (cnt m n m) = 0 := by unfold intE; rw [if_pos (by omega)]
    rw [eV, eE]
    simp -implicitDefEqProofs only [evr, id, reduceCtorEq, reduceIte, Nat.reduceMul, Nat.reduceAdd, Nat.reduceLT, Nat.reduceLeDiff, Nat.reduceEqDiff, Int.reduceLT, Int.reduceBEq, Int.reduceBNe, Nat.reduceBEq, List.append_nil, Int.toNat_zero, Nat.sub_self, frS, ptr]
    (refine hk _ ?_; clear hk k; try show Sat _ _ _ _ _)
    (repeat refine Sat.seq ?_)
    (refine Sat.region_k fun k hk => ?_; simp -implicitDefEqProofs only [evr, id, reduceCtorEq, reduceIte, Nat.reduceMul, Nat.reduceAdd, Nat.reduceLT, Nat.reduceLeDiff, Nat.reduceEqDiff, Int.reduceLT, Int.reduceBEq, Int.reduceBNe, Nat.reduceBEq, List.append_nil, Int.toNat_zero, Nat.sub_self, frS, ptr])
    refine wcall_slice (stMissingC Frm.nil n m (by omega) (by omega) hm1) rfl rfl ?_
    rintro r ⟨f, rfl, sp, sq, rfl, hp, hq⟩
    have hp' := hp
    have hq' := hq
    obtain ⟨a3, c3, z3, r3, x3, rfl, _⟩ := hp
    obtain ⟨a4, c4, z4, r4, x4, rfl, _⟩ := hq
    simp -implicitDefEqProofs only [evr, id, reduceCtorEq, reduceIte, Nat.reduceMul, Nat.reduceAdd, Nat.reduceLT, Nat.reduceLeDiff, Nat.reduceEqDiff, Int.reduceLT, Int.reduceBEq, Int.reduceBNe, Nat.reduceBEq, List.append_nil, Int.toNat_zero, Nat.sub_self, frS, ptr]
    intro b17
    (refine hk _ ?_; clear hk k; try show Sat _ _ _ _ _)
    (repeat refine Sat.seq ?_)
    refine Sat.region_k fun k hk => ?_
    simp -implicitDefEqProofs only [evr, id, reduceCtorEq, reduceIte, Nat.reduceMul, Nat.reduceAdd, Nat.reduceLT, Nat.reduceLeDiff, Nat.reduceEqDiff, Int.reduceLT, Int.reduceBEq, Int.reduceBNe, Nat.reduceBEq, List.append_nil, Int.toNat_zero, Nat.sub_self, frS, ptr, es]
    refine wcall_slice (refFromC Frm.nil ((m ^ n - cnt m n m : Nat) : Int) ((m ^ n : Nat) : Int) (by omega) (by omega) (by omega) (by omega) (by omega)) rfl rfl ?_
    rintro r ⟨f, rfl, sr, ss, rfl, hr, hs⟩
    have e4 : ((decide (((m ^ n - cnt m n m : Nat) : Int) < 0) != decide (((m ^ n : Nat) : Int) < 0)) && decide (0 < (((m ^ n - cnt m n m : Nat) : Int)).natAbs)) = false := by
      rw [decide_eq_false (show ¬ (((m ^ n - cnt m n m : Nat) : Int) < 0) by omega), decide_eq_false (show ¬ (((m ^ n : Nat) : Int) < 0) by omega)]; rfl
    have hr' : Nats sr (misP n m) := hr
    have hs' : Nats ss (misQ n m) := hs
    have hr2 := hr'
    have hs3 := hs'
    clear hr hs
    obtain ⟨a5, c5, z5, r5, x5, rfl, _⟩ := hr2
    obtain ⟨a6, c6, z6, r6, x6, rfl, _⟩ := hs3
    rw [e4]
    simp -implicitDefEqProofs only [evr, id, reduceCtorEq, reduceIte, Nat.reduceMul, Nat.reduceAdd, Nat.reduceLT, Nat.reduceLeDiff, Nat.reduceEqDiff, Int.reduceLT, Int.reduceBEq, Int.reduceBNe, Nat.reduceBEq, List.append_nil, Int.toNat_zero, Nat.sub_self, frS, ptr]
    intro b19
    (refine hk _ ?_; clear hk k; try show Sat _ _ _ _ _)
    have bP : ((misP n m : Nat) : Int) < pw 512 := Int.lt_of_le_of_lt (by have := misP_le n m; omega) (show ((4096 : Nat) : Int) < pw 512 from lt_pw (a := 12) (by decide) (by decide))
    have bQ : ((misQ n m : Nat) : Int) < pw 512 := Int.lt_of_le_of_lt (by have := misQ_le n m; omega) (show ((4096 : Nat) : Int) < pw 512 from lt_pw (a := 12) (by decide) (by decide))
    (repeat refine Sat.seq ?_)
    (refine Sat.region_k fun k hk => ?_; simp -implicitDefEqProofs only [evr, id, reduceCtorEq, reduceIte, Nat.reduceMul, Nat.reduceAdd, Nat.reduceLT, Nat.reduceLeDiff, Nat.reduceEqDiff, Int.reduceLT, Int.reduceBEq, Int.reduceBNe, Nat.reduceBEq, List.append_nil, Int.toNat_zero, Nat.sub_self, frS, ptr])
    refine wcall_plain (refSame3C Frm.nil false false hp' hq' hr' hs' bP bQ bP bQ) (by simp -implicitDefEqProofs only [evr, id, reduceCtorEq, reduceIte, Nat.reduceMul, Nat.reduceAdd, Nat.reduceLT, Nat.reduceLeDiff, Nat.reduceEqDiff, Int.reduceLT, Int.reduceBEq, Int.reduceBNe, Nat.reduceBEq, List.append_nil, Int.toNat_zero, Nat.sub_self, frS, ptr]; try rfl) (by rintro _ rfl; exact ok_plain rfl) ?_
    rintro y rfl
    simp -implicitDefEqProofs only [evr, id, reduceCtorEq, reduceIte, Nat.reduceMul, Nat.reduceAdd, Nat.reduceLT, Nat.reduceLeDiff, Nat.reduceEqDiff, Int.reduceLT, Int.reduceBEq, Int.reduceBNe, Nat.reduceBEq, List.append_nil, Int.toNat_zero, Nat.sub_self, frS, ptr]
    (refine hk _ ?_; clear hk k; try show Sat _ _ _ _ _)
    refine Sat.ret ?_
    simp only [Try.results4, evr, id, reduceCtorEq, reduceIte, Nat.reduceMul, Nat.reduceAdd, Nat.reduceLT, Nat.reduceLeDiff, Nat.reduceEqDiff, Int.reduceLT, Int.reduceBEq, Int.reduceBNe, Nat.reduceBEq, List.append_nil, Int.toNat_zero, Nat.sub_self, frS, ptr]

theorem bounds_u8' {x : Int} (h : (Lit.int .u8 x).wf = true) : 0 ≤ x ∧ x < 256 := by have := bounds_u8 h; omega
theorem counts_holds : Rows.StoppingCountsSaid := stoppingCounts.of_walk fun a0 a1 w h0 h1 =>
  walk_of (countsC a0 a1 (bounds_u8' h0) (bounds_u8' h1)) (fun s hs => by
    rcases List.mem_cons.1 hs with rfl | hs
    · trivial
    · rw [List.mem_singleton.1 hs]; trivial)
end Go.Proofs.Ytagmohpafjncfaa
