/- StoppingFails: Fail is the fraction of all tables for which the rule stops too early, by going through all of them. The law holds of every input. -/
import Derived.Test.YtagmohpafjncfaaFailsM
import Derived.Test.YtagmohpafjncfaaPk2
set_option linter.unusedSimpArgs false
set_option linter.unusedVariables false
namespace Go.Proofs.Ytagmohpafjncfaa
open Eng Lmb Go.RowKit

theorem slB_bytesS (a : Option Addr) (cap : Nat) (z : List Int) (hz : ∀ n ∈ z, (Lit.int .u8 n).wf = true) : isBytes (slB a cap z) :=
  ⟨a, z.length, cap, _, rfl, fun i hi => ⟨z.getD i 0, by have := bounds_u8 (hz _ (getD_mem (d := 0) hi)); omega, by have := bounds_u8 (hz _ (getD_mem (d := 0) hi)); omega, rfl⟩⟩
theorem tab9_le {n k : Nat} (hn : n ≤ 9) (hk : k ≤ 3) : k ^ n ≤ 19683 := Nat.le_trans (Nat.pow_le_pow_left hk n) (Nat.pow_le_pow_right (n := 3) (by decide) hn)
theorem or_small9 {a b : Nat} (ha : a < 16) (hb : b < 16) : bits .or .i64 (a : Int) (b : Int) = ((a ||| b : Nat) : Int) := by
  show IntKind.i64.wrap ((BitVec.ofInt 64 (a : Int) ||| BitVec.ofInt 64 (b : Int)).toNat : Int) = _
  rw [BitVec.toNat_or, Zn.ofInt_i64 _ (by omega), Zn.ofInt_i64 _ (by omega)]
  have : a ||| b < 2 ^ 4 := Nat.or_lt_two_pow (n := 4) ha hb
  exact w64 (by omega)
theorem and_one {a : Nat} (ha : a < 16) : bits .and .i64 (a : Int) 1 = ((a % 2 : Nat) : Int) := by
  show IntKind.i64.wrap ((BitVec.ofInt 64 (a : Int) &&& BitVec.ofInt 64 ((1 : Nat) : Int)).toNat : Int) = _
  rw [BitVec.toNat_and, Zn.ofInt_i64 _ (by omega), Zn.ofInt_i64 _ (by omega), Nat.and_one_is_mod]
  exact w64 (by omega)
theorem nat_tmod9 (q m : Nat) : ((q : Int)).tmod m = ((q % m : Nat) : Int) := by
  rw [Int.tmod_eq_emod_of_nonneg (Int.natCast_nonneg q)]; exact (Int.natCast_emod q m).symm
theorem nat_tdiv9 (q m : Nat) (hq : q < 9223372036854775808) : IntKind.i64.wrap (((q : Int)).tdiv m) = ((q / m : Nat) : Int) := by
  have h := Nat.div_le_self q m
  rw [Int.tdiv_eq_ediv_of_nonneg (Int.natCast_nonneg q), ← Int.natCast_ediv]
  generalize q / m = z at h
  exact w64 (by omega)
theorem pow_wrap9 (x : Nat) (hx : x < 32) : IntKind.i64.wrap (1 * 2 ^ min x IntKind.i64.bits) = ((2 ^ x : Nat) : Int) := by
  have h4 : 2 ^ x < 2 ^ 32 := Nat.pow_lt_pow_right (by decide) hx
  have e : ((2 ^ x : Nat) : Int) = (2 : Int) ^ x := by simp
  rw [Nat.min_eq_left (by show _ ≤ 64; omega), Int.one_mul, ← e]
  generalize 2 ^ x = z at h4
  exact w64 (by omega)
theorem shr_small (s x : Nat) (hx : x < 32) : ((s : Int)).fdiv (2 ^ min x IntKind.i64.bits) = ((s / 2 ^ x : Nat) : Int) := by
  have e : ((2 ^ x : Nat) : Int) = (2 : Int) ^ x := by simp
  rw [Nat.min_eq_left (by show _ ≤ 64; omega), ← e, Int.fdiv_eq_ediv_of_nonneg _ (Int.natCast_nonneg _)]
  exact (Int.natCast_ediv _ _).symm

set_option maxRecDepth 100000 in
theorem tables9C (F : Frm) {n k : Nat} (hn : n ≤ 9) (hk : k ≤ 3) (hk1 : 1 ≤ k) : Contract F Try.prog 15 [.i .i64 n, .i .i64 k] (fun r => r = .i .i64 (k ^ n : Nat)) := by
  refine contract_of Try.func15 rfl (by kernel_rfl) ?_
  simp only [Try.ntmps15, argEnv]
  (repeat refine Sat.seq ?_)
  (refine Sat.region_k fun k hk => ?_; simp -implicitDefEqProofs only [evr, id, reduceCtorEq, reduceIte, Nat.reduceMul, Nat.reduceAdd, Nat.reduceLT, Nat.reduceLeDiff, Nat.reduceEqDiff, Int.reduceLT, Int.reduceBEq, Int.reduceBNe, Nat.reduceBEq, List.append_nil, Int.toNat_zero, Nat.sub_self, frS, ptr]; refine hk _ ?_; clear hk k; try show Sat _ _ _ _ _)
  (repeat refine Sat.seq ?_)
  (refine Sat.region_k fun k hk => ?_; simp -implicitDefEqProofs only [evr, id, reduceCtorEq, reduceIte, Nat.reduceMul, Nat.reduceAdd, Nat.reduceLT, Nat.reduceLeDiff, Nat.reduceEqDiff, Int.reduceLT, Int.reduceBEq, Int.reduceBNe, Nat.reduceBEq, List.append_nil, Int.toNat_zero, Nat.sub_self, frS, ptr]; refine hk _ ?_; clear hk k; try show Sat _ _ _ _ _)
  (repeat refine Sat.seq ?_)
  (refine Sat.region_k fun k hk => ?_; simp -implicitDefEqProofs only [evr, id, reduceCtorEq, reduceIte, Nat.reduceMul, Nat.reduceAdd, Nat.reduceLT, Nat.reduceLeDiff, Nat.reduceEqDiff, Int.reduceLT, Int.reduceBEq, Int.reduceBNe, Nat.reduceBEq, List.append_nil, Int.toNat_zero, Nat.sub_self, frS, ptr]; refine hk _ ?_; clear hk k; try show Sat _ _ _ _ _)
  (repeat refine Sat.seq ?_)
  refine Sat.block ?_
  (repeat refine Sat.seq ?_)
  refine Sat.loop (ι := Nat) (fun i => ⟨16, [(6, .i .i64 (i : Int)), (5, .i .i64 ((k ^ i : Nat) : Int)), (0, .i .i64 n), (1, .i .i64 k)], []⟩)
    (fun i => i ≤ n) (fun i => n - i) 0 (Nat.zero_le _) (by rw [Nat.pow_zero]; simp -implicitDefEqProofs only [evr, id, reduceCtorEq, reduceIte, Nat.reduceMul, Nat.reduceAdd, Nat.reduceLT, Nat.reduceLeDiff, Nat.reduceEqDiff, Int.reduceLT, Int.reduceBEq, Int.reduceBNe, Nat.reduceBEq, List.append_nil, Int.toNat_zero, Nat.sub_self, frS, ptr, evl]; try exact ⟨rfl, rfl⟩) ?_
  rintro i hi
  (repeat refine Sat.seq ?_)
  (refine Sat.region_k fun k hk => ?_; simp -implicitDefEqProofs only [evr, id, reduceCtorEq, reduceIte, Nat.reduceMul, Nat.reduceAdd, Nat.reduceLT, Nat.reduceLeDiff, Nat.reduceEqDiff, Int.reduceLT, Int.reduceBEq, Int.reduceBNe, Nat.reduceBEq, List.append_nil, Int.toNat_zero, Nat.sub_self, frS, ptr]; refine hk _ ?_; clear hk k; try show Sat _ _ _ _ _)
  (repeat refine Sat.seq ?_)
  refine Sat.cond_b rfl (fun h => ?_) (fun h => ?_)
  · simp only [decide_eq_true_eq] at h
    have hp : k ^ i * k ≤ 19683 := by rw [← Nat.pow_succ]; exact tab9_le (by omega) hk
    have e1 : IntKind.i64.wrap (((k ^ i : Nat) : Int) * (k : Int)) = ((k ^ (i + 1) : Nat) : Int) := by
      rw [Nat.pow_succ]
      rw [← Int.natCast_mul]
      exact w64 (by omega)
    have e2 : IntKind.i64.wrap ((i : Int) + 1) = ((i + 1 : Nat) : Int) := by rw [w64 (by omega)]; omega
    refine Sat.skip ?_
    simp only [thenK]
    (repeat refine Sat.seq ?_)
    refine Sat.block ?_
    refine Sat.region_k fun k2 hk2 => ?_
    simp -implicitDefEqProofs only [evr, id, reduceCtorEq, reduceIte, Nat.reduceMul, Nat.reduceAdd, Nat.reduceLT, Nat.reduceLeDiff, Nat.reduceEqDiff, Int.reduceLT, Int.reduceBEq, Int.reduceBNe, Nat.reduceBEq, List.append_nil, Int.toNat_zero, Nat.sub_self, frS, ptr, e1]
    refine hk2 _ ?_
    simp only [thenK, blockK]
    refine Sat.region_k fun k2 hk2 => ?_
    simp -implicitDefEqProofs only [evr, id, reduceCtorEq, reduceIte, Nat.reduceMul, Nat.reduceAdd, Nat.reduceLT, Nat.reduceLeDiff, Nat.reduceEqDiff, Int.reduceLT, Int.reduceBEq, Int.reduceBNe, Nat.reduceBEq, List.append_nil, Int.toNat_zero, Nat.sub_self, frS, ptr, e2]
    refine hk2 _ ?_
    simp only [thenK, blockK]
    refine ⟨i + 1, by show i + 1 ≤ n; omega, by omega, ?_⟩
    simp -implicitDefEqProofs only [evr, id, reduceCtorEq, reduceIte, Nat.reduceMul, Nat.reduceAdd, Nat.reduceLT, Nat.reduceLeDiff, Nat.reduceEqDiff, Int.reduceLT, Int.reduceBEq, Int.reduceBNe, Nat.reduceBEq, List.append_nil, Int.toNat_zero, Nat.sub_self, frS, ptr, evl]
  · simp only [decide_eq_false_iff_not] at h
    obtain rfl : i = n := by omega
    refine Sat.exit ?_
    simp only [thenK, blockK, reduceIte]
    (repeat refine Sat.seq ?_)
    (refine Sat.region_k fun k hk => ?_; simp -implicitDefEqProofs only [evr, id, reduceCtorEq, reduceIte, Nat.reduceMul, Nat.reduceAdd, Nat.reduceLT, Nat.reduceLeDiff, Nat.reduceEqDiff, Int.reduceLT, Int.reduceBEq, Int.reduceBNe, Nat.reduceBEq, List.append_nil, Int.toNat_zero, Nat.sub_self, frS, ptr]; refine hk _ ?_; clear hk k; try show Sat _ _ _ _ _)
    refine Sat.ret ?_
    simp only [Try.results15, evr, id, reduceCtorEq, reduceIte, Nat.reduceMul, Nat.reduceAdd, Nat.reduceLT, Nat.reduceLeDiff, Nat.reduceEqDiff, Int.reduceLT, Int.reduceBEq, Int.reduceBNe, Nat.reduceBEq, List.append_nil, Int.toNat_zero, Nat.sub_self, frS, ptr]

theorem some_need : ¬ missed 20 2 1 7 ∧ ¬ missed 20 3 1 7 := by unfold missed; decide
theorem no_beyond {j p q : Nat} (hj : j = 1 ∨ j = 2) (hq : 0 < q) (h : q ≤ 7 * p) : ¬ NoNeed j p q := by
  intro hn
  have h2 := missed_mono (p := 1) (q := 7) (by omega) hq (by omega) (hn 20 (by omega))
  rcases hj with rfl | rfl
  · exact some_need.1 h2
  · exact some_need.2 h2

theorem alive_none {k : Nat} {st : Nat → Nat} {t i : Nat} (h : aliveS k st t i = none) : ∀ d, aliveS k st t (i + d) = none ∧ failT k st t (i + d) = failT k st t i
  | 0 => ⟨h, rfl⟩
  | d + 1 => by
    obtain ⟨h1, h2⟩ := alive_none h d
    rw [← Nat.add_assoc, aliveS, failT, h1, h2]
    exact ⟨rfl, rfl⟩
theorem alive_zero {k : Nat} {st : Nat → Nat} {t : Nat} : ∀ i s, aliveS k st t i = some s → failT k st t i = 0
  | 0, s, h => rfl
  | i + 1, s, h => by
    rw [aliveS] at h
    rw [failT]
    cases ho : aliveS k st t i with
    | none => rw [ho] at h; cases h
    | some s' =>
      rw [ho] at h
      rw [alive_zero i s' ho]
      simp only [Option.bind_some] at h
      simp only [stopN]
      split at h
      · cases h
      · rename_i h1
        split at h
        · cases h
        · rename_i h2
          rw [if_neg h1, if_neg h2]
/-- how a flow goes on -/
theorem alive_step {k : Nat} {st : Nat → Nat} {t i s : Nat} (h : aliveS k st t i = some s) (h1 : ¬ pc (stepS s (t / k ^ i % k)) = k) (h2 : ¬ st (pc (stepS s (t / k ^ i % k))) ≤ i + 1) : aliveS k st t (i + 1) = some (stepS s (t / k ^ i % k)) := by
  rw [aliveS, h, Option.bind_some, if_neg h1, if_neg h2]
theorem fail_done {k : Nat} {st : Nat → Nat} {t i s n : Nat} (h : aliveS k st t i = some s) (hi : i < n) (h1 : pc (stepS s (t / k ^ i % k)) = k) : failT k st t n = 0 := by
  obtain ⟨d, rfl⟩ := Nat.exists_eq_add_of_le (show i + 1 ≤ n by omega)
  have hn : aliveS k st t (i + 1) = none := by rw [aliveS, h, Option.bind_some, if_pos h1]
  rw [(alive_none hn d).2, failT, alive_zero i s h, h]
  simp only [stopN]
  rw [if_pos h1]
theorem fail_now {k : Nat} {st : Nat → Nat} {t i s n : Nat} (h : aliveS k st t i = some s) (hi : i < n) (h1 : ¬ pc (stepS s (t / k ^ i % k)) = k) (h2 : st (pc (stepS s (t / k ^ i % k))) ≤ i + 1) : failT k st t n = 1 := by
  obtain ⟨d, rfl⟩ := Nat.exists_eq_add_of_le (show i + 1 ≤ n by omega)
  have hn : aliveS k st t (i + 1) = none := by rw [aliveS, h, Option.bind_some, if_neg h1, if_pos h2]
  rw [(alive_none hn d).2, failT, alive_zero i s h, h]
  simp only [stopN]
  rw [if_neg h1, if_pos h2]
theorem failT_le {k : Nat} {st : Nat → Nat} {t : Nat} : ∀ n, failT k st t n ≤ 1
  | 0 => Nat.zero_le _
  | n + 1 => by
    have ih := failT_le (k := k) (st := st) (t := t) n
    rw [failT]
    cases ho : aliveS k st t n with
    | none => exact ih
    | some s =>
      rw [alive_zero n s ho]
      simp only [stopN]
      split
      · omega
      · split <;> omega
theorem sumF_le (k : Nat) (st : Nat → Nat) (n : Nat) : ∀ t, sumUp (fun t => failT k st t n) t ≤ t
  | 0 => Nat.le_refl _
  | t + 1 => by
    have := sumF_le k st n t
    have h2 := failT_le (k := k) (st := st) (t := t) n
    rw [sumUp]
    show _ + failT k st t n ≤ _
    omega

set_option maxHeartbeats 4000000 in
set_option maxRecDepth 100000 in
theorem failsC (a : Option Addr) (cap : Nat) (z : List Int) (hz : ∀ n ∈ z, (Lit.int .u8 n).wf = true) : Contract Frm.nil Try.prog 6 [slB a cap z] (fun r => r = .b true) := by
  have hb := slB_bytesS a cap z hz
  refine contract_of Try.func6 rfl (by kernel_rfl) ?_
  simp only [Try.ntmps6, argEnv]
  (repeat refine Sat.seq ?_)
  (refine Sat.region_k fun k hk => ?_; simp -implicitDefEqProofs only [evr, id, reduceCtorEq, reduceIte, Nat.reduceMul, Nat.reduceAdd, Nat.reduceLT, Nat.reduceLeDiff, Nat.reduceEqDiff, Int.reduceLT, Int.reduceBEq, Int.reduceBNe, Nat.reduceBEq, List.append_nil, Int.toNat_zero, Nat.sub_self, frS, ptr]; refine hk _ ?_; clear hk k; try show Sat _ _ _ _ _)
  (repeat refine Sat.seq ?_)
  (refine Sat.region_k fun k hk => ?_; simp -implicitDefEqProofs only [evr, id, reduceCtorEq, reduceIte, Nat.reduceMul, Nat.reduceAdd, Nat.reduceLT, Nat.reduceLeDiff, Nat.reduceEqDiff, Int.reduceLT, Int.reduceBEq, Int.reduceBNe, Nat.reduceBEq, List.append_nil, Int.toNat_zero, Nat.sub_self, frS, ptr])
  refine wcall_plain (awakeC Frm.nil) rfl (by rintro _ rfl; exact ok_plain rfl) ?_
  rintro r rfl
  simp -implicitDefEqProofs only [evr, id, reduceCtorEq, reduceIte, Nat.reduceMul, Nat.reduceAdd, Nat.reduceLT, Nat.reduceLeDiff, Nat.reduceEqDiff, Int.reduceLT, Int.reduceBEq, Int.reduceBNe, Nat.reduceBEq, List.append_nil, Int.toNat_zero, Nat.sub_self, frS, ptr]
  (refine hk _ ?_; clear hk k; try show Sat _ _ _ _ _)
  (repeat refine Sat.seq ?_)
  refine Sat.cond_b rfl (fun h => absurd h (by decide)) (fun _ => ?_)
  refine Sat.skip ?_
  simp only [thenK]
  refine Sat.seq ?_
  (refine Sat.region_k fun k hk => ?_; simp -implicitDefEqProofs only [evr, id, reduceCtorEq, reduceIte, Nat.reduceMul, Nat.reduceAdd, Nat.reduceLT, Nat.reduceLeDiff, Nat.reduceEqDiff, Int.reduceLT, Int.reduceBEq, Int.reduceBNe, Nat.reduceBEq, List.append_nil, Int.toNat_zero, Nat.sub_self, frS, ptr])
  refine wcall_make (newRC (slB a cap z) hb 20 (by decide)) ?_
  intro cb
  simp -implicitDefEqProofs only [evr, id, reduceCtorEq, reduceIte, Nat.reduceMul, Nat.reduceAdd, Nat.reduceLT, Nat.reduceLeDiff, Nat.reduceEqDiff, Int.reduceLT, Int.reduceBEq, Int.reduceBNe, Nat.reduceBEq, List.append_nil, Int.toNat_zero, Nat.sub_self, frS, ptr]
  (refine hk _ ?_; clear hk k; try show Sat _ _ _ _ _)
  refine Sat.switch (cb := cb) (id := 0) (F' := Frm.codes cb) (fun b => Iff.rfl) rfl ?_
  (repeat refine Sat.seq ?_)
  (refine Sat.region_k fun k hk => ?_; simp -implicitDefEqProofs only [evr, id, reduceCtorEq, reduceIte, Nat.reduceMul, Nat.reduceAdd, Nat.reduceLT, Nat.reduceLeDiff, Nat.reduceEqDiff, Int.reduceLT, Int.reduceBEq, Int.reduceBNe, Nat.reduceBEq, List.append_nil, Int.toNat_zero, Nat.sub_self, frS, ptr])
  refine wcall_plain (nextC cb 3 (by decide) (by decide)) rfl (by rintro _ ⟨x, rfl, _⟩; exact ok_plain rfl) ?_
  rintro r ⟨x, rfl, hx0, hx1⟩
  obtain ⟨y, rfl⟩ := Int.eq_ofNat_of_zero_le hx0
  have e1 : IntKind.i64.wrap (1 + (y : Int)) = ((y + 1 : Nat) : Int) := by rw [w64 (by omega)]; omega
  generalize hkd : y + 1 = kk at e1
  have hk1 : 1 ≤ kk := by omega
  have hk3 : kk ≤ 3 := by omega
  simp -implicitDefEqProofs only [evr, id, reduceCtorEq, reduceIte, Nat.reduceMul, Nat.reduceAdd, Nat.reduceLT, Nat.reduceLeDiff, Nat.reduceEqDiff, Int.reduceLT, Int.reduceBEq, Int.reduceBNe, Nat.reduceBEq, List.append_nil, Int.toNat_zero, Nat.sub_self, frS, ptr, e1]
  (refine hk _ ?_; clear hk k; try show Sat _ _ _ _ _)
  clear hkd hx0 hx1
  (repeat refine Sat.seq ?_)
  (refine Sat.region_k fun k hk => ?_; simp -implicitDefEqProofs only [evr, id, reduceCtorEq, reduceIte, Nat.reduceMul, Nat.reduceAdd, Nat.reduceLT, Nat.reduceLeDiff, Nat.reduceEqDiff, Int.reduceLT, Int.reduceBEq, Int.reduceBNe, Nat.reduceBEq, List.append_nil, Int.toNat_zero, Nat.sub_self, frS, ptr])
  refine wcall_plain (nextC cb 4 (by decide) (by decide)) rfl (by rintro _ ⟨x, rfl, _⟩; exact ok_plain rfl) ?_
  rintro r ⟨x1, rfl, hx0, hx1⟩
  have e2 : IntKind.i64.wrap (1 + x1) = 1 + x1 := w64 (by omega)
  simp -implicitDefEqProofs only [evr, id, reduceCtorEq, reduceIte, Nat.reduceMul, Nat.reduceAdd, Nat.reduceLT, Nat.reduceLeDiff, Nat.reduceEqDiff, Int.reduceLT, Int.reduceBEq, Int.reduceBNe, Nat.reduceBEq, List.append_nil, Int.toNat_zero, Nat.sub_self, frS, ptr, e2]
  refine wcall_plain (nextC cb 3 (by decide) (by decide)) rfl (by rintro _ ⟨x, rfl, _⟩; exact ok_plain rfl) ?_
  rintro r ⟨x2, rfl, hy0, hy1⟩
  have e3 : IntKind.i64.wrap (5 + x2) = 5 + x2 := w64 (by omega)
  simp -implicitDefEqProofs only [evr, id, reduceCtorEq, reduceIte, Nat.reduceMul, Nat.reduceAdd, Nat.reduceLT, Nat.reduceLeDiff, Nat.reduceEqDiff, Int.reduceLT, Int.reduceBEq, Int.reduceBNe, Nat.reduceBEq, List.append_nil, Int.toNat_zero, Nat.sub_self, frS, ptr, e3]
  refine wcall_slice (refFromC (Frm.codes cb) (1 + x1) (5 + x2) (by omega) (by omega) (by omega) (by omega) (by omega)) rfl rfl ?_
  rintro r ⟨f, rfl, sp, sq, rfl, hp, hq⟩
  have e4 : ((decide (1 + x1 < 0) != decide (5 + x2 < 0)) && decide (0 < (1 + x1).natAbs)) = false := by
    rw [decide_eq_false (show ¬ 1 + x1 < 0 by omega), decide_eq_false (show ¬ 5 + x2 < 0 by omega)]; rfl
  have hap := alpha_parts (n := (1 + x1).natAbs) (d := (5 + x2).natAbs) (by omega) (by omega) (by omega)
  have hap7 : (5 + x2).natAbs / Nat.gcd (1 + x1).natAbs (5 + x2).natAbs ≤ 7 * ((1 + x1).natAbs / Nat.gcd (1 + x1).natAbs (5 + x2).natAbs) := by
    have h1 := Nat.div_mul_cancel (Nat.gcd_dvd_left (1 + x1).natAbs (5 + x2).natAbs)
    have h2 := Nat.div_mul_cancel (Nat.gcd_dvd_right (1 + x1).natAbs (5 + x2).natAbs)
    have hg : 0 < Nat.gcd (1 + x1).natAbs (5 + x2).natAbs := Nat.gcd_pos_of_pos_left _ (by omega)
    refine Nat.le_of_mul_le_mul_right (c := Nat.gcd (1 + x1).natAbs (5 + x2).natAbs) ?_ hg
    rw [Nat.mul_assoc, h1, h2]
    omega
  generalize (1 + x1).natAbs / Nat.gcd (1 + x1).natAbs (5 + x2).natAbs = p at hp hap hap7
  generalize (5 + x2).natAbs / Nat.gcd (1 + x1).natAbs (5 + x2).natAbs = q at hq hap hap7
  obtain ⟨g1, g2, g3⟩ := hap
  have hp1 := hp
  have hq1 := hq
  obtain ⟨a1, c1, z1, r1, x1', rfl, _⟩ := hp
  obtain ⟨a2, c2, z2, r2, x2', rfl, _⟩ := hq
  rw [e4]
  simp -implicitDefEqProofs only [evr, id, reduceCtorEq, reduceIte, Nat.reduceMul, Nat.reduceAdd, Nat.reduceLT, Nat.reduceLeDiff, Nat.reduceEqDiff, Int.reduceLT, Int.reduceBEq, Int.reduceBNe, Nat.reduceBEq, List.append_nil, Int.toNat_zero, Nat.sub_self, frS, ptr]
  intro b5
  (refine hk _ ?_; clear hk k; try show Sat _ _ _ _ _)
  clear e4 hx0 hx1 hy0 hy1
  (repeat refine Sat.seq ?_)
  (refine Sat.region_k fun k hk => ?_; simp -implicitDefEqProofs only [evr, id, reduceCtorEq, reduceIte, Nat.reduceMul, Nat.reduceAdd, Nat.reduceLT, Nat.reduceLeDiff, Nat.reduceEqDiff, Int.reduceLT, Int.reduceBEq, Int.reduceBNe, Nat.reduceBEq, List.append_nil, Int.toNat_zero, Nat.sub_self, frS, ptr]; refine hk _ ?_; clear hk k; try show Sat _ _ _ _ _)
  (repeat refine Sat.seq ?_)
  (refine Sat.region_k fun k hk => ?_; simp -implicitDefEqProofs only [evr, id, reduceCtorEq, reduceIte, Nat.reduceMul, Nat.reduceAdd, Nat.reduceLT, Nat.reduceLeDiff, Nat.reduceEqDiff, Int.reduceLT, Int.reduceBEq, Int.reduceBNe, Nat.reduceBEq, List.append_nil, Int.toNat_zero, Nat.sub_self, frS, ptr])
  intro b8
  (refine hk _ ?_; clear hk k; try show Sat _ _ _ _ _)
  (repeat refine Sat.seq ?_)
  (refine Sat.region_k fun k hk => ?_; simp -implicitDefEqProofs only [evr, id, reduceCtorEq, reduceIte, Nat.reduceMul, Nat.reduceAdd, Nat.reduceLT, Nat.reduceLeDiff, Nat.reduceEqDiff, Int.reduceLT, Int.reduceBEq, Int.reduceBNe, Nat.reduceBEq, List.append_nil, Int.toNat_zero, Nat.sub_self, frS, ptr]; refine hk _ ?_; clear hk k; try show Sat _ _ _ _ _)
  (repeat refine Sat.seq ?_)
  refine Sat.block ?_
  (repeat refine Sat.seq ?_)
  refine Sat.loop (ι := Int × Nat × Nat) (fun x => ⟨123, [(9, .i .i64 x.1), (7, .i .i64 ((max x.2.1 x.2.2 : Nat) : Int)), (4, .i .i64 (kk : Int)), (5, .op 0 b5 0), (8, .op 1 b8 0)], [.box b5 30 [.b false, .sl a1 x1'.length c1 z1 r1, .sl a2 x2'.length c2 z2 r2], .box b8 49 [.i .i64 0, .i .i64 (x.2.1 : Int), .i .i64 (x.2.2 : Int), .i .i64 0]]⟩)
    (fun x => 1 ≤ x.1 ∧ x.1 ≤ kk ∧ (1 < x.1 → IsNeed 1 p q x.2.1) ∧ (2 < x.1 → IsNeed 2 p q x.2.2) ∧ (x.1 ≤ 1 → x.2.1 = 0) ∧ (x.1 ≤ 2 → x.2.2 = 0)) (fun x => (kk - x.1).toNat) (1, 0, 0) ⟨by decide, by show (1 : Int) ≤ kk; omega, fun h => absurd h (by decide), fun h => absurd h (by decide), fun _ => rfl, fun _ => rfl⟩ (by simp -implicitDefEqProofs only [evr, id, reduceCtorEq, reduceIte, Nat.reduceMul, Nat.reduceAdd, Nat.reduceLT, Nat.reduceLeDiff, Nat.reduceEqDiff, Int.reduceLT, Int.reduceBEq, Int.reduceBNe, Nat.reduceBEq, List.append_nil, Int.toNat_zero, Nat.sub_self, frS, ptr, evl]; try exact ⟨rfl, rfl⟩) ?_
  rintro ⟨j, n1, n2⟩ ⟨i1, i2, i3, i4, i5, i6⟩
  simp only at i1 i2 i3 i4 i5 i6 ⊢
  (repeat refine Sat.seq ?_)
  (refine Sat.region_k fun k hk => ?_; simp -implicitDefEqProofs only [evr, id, reduceCtorEq, reduceIte, Nat.reduceMul, Nat.reduceAdd, Nat.reduceLT, Nat.reduceLeDiff, Nat.reduceEqDiff, Int.reduceLT, Int.reduceBEq, Int.reduceBNe, Nat.reduceBEq, List.append_nil, Int.toNat_zero, Nat.sub_self, frS, ptr]; refine hk _ ?_; clear hk k; try show Sat _ _ _ _ _)
  (repeat refine Sat.seq ?_)
  refine Sat.cond_b rfl (fun h => ?_) (fun h => ?_)
  · simp only [decide_eq_true_eq] at h
    refine Sat.skip ?_
    simp only [thenK]
    (repeat refine Sat.seq ?_)
    refine Sat.block ?_
    rcases (show j = 1 ∨ j = 2 by omega) with rfl | rfl
    · obtain rfl : n1 = 0 := i5 (by decide)
      obtain rfl : n2 = 0 := i6 (by decide)
      (repeat refine Sat.seq ?_)
      (refine Sat.region_k fun k hk => ?_; simp -implicitDefEqProofs only [evr, id, reduceCtorEq, reduceIte, Nat.reduceMul, Nat.reduceAdd, Nat.reduceLT, Nat.reduceLeDiff, Nat.reduceEqDiff, Int.reduceLT, Int.reduceBEq, Int.reduceBNe, Nat.reduceBEq, List.append_nil, Int.toNat_zero, Nat.sub_self, frS, ptr])
      refine wcall_plain (stNeededC (Frm.codes cb) 1 (by omega) (by omega) hp1 hq1 g1 g2 (by omega)) (by simp -implicitDefEqProofs only [evr, id, reduceCtorEq, reduceIte, Nat.reduceMul, Nat.reduceAdd, Nat.reduceLT, Nat.reduceLeDiff, Nat.reduceEqDiff, Int.reduceLT, Int.reduceBEq, Int.reduceBNe, Nat.reduceBEq, List.append_nil, Int.toNat_zero, Nat.sub_self, frS, ptr]; try rfl) (fun r h => by rcases needPost_cases h with ⟨n, rfl, _⟩ | ⟨rfl, _⟩ <;> exact ok_tupL rfl) ?_
      intro r hr
      rcases needPost_cases hr with ⟨n, rfl, hn⟩ | ⟨rfl, hn⟩
      · simp -implicitDefEqProofs only [evr, id, reduceCtorEq, reduceIte, Nat.reduceMul, Nat.reduceAdd, Nat.reduceLT, Nat.reduceLeDiff, Nat.reduceEqDiff, Int.reduceLT, Int.reduceBEq, Int.reduceBNe, Nat.reduceBEq, List.append_nil, Int.toNat_zero, Nat.sub_self, frS, ptr]
        (refine hk _ ?_; clear hk k; try show Sat _ _ _ _ _)
        (repeat refine Sat.seq ?_)
        (refine Sat.region_k fun k hk => ?_; simp -implicitDefEqProofs only [evr, id, reduceCtorEq, reduceIte, Nat.reduceMul, Nat.reduceAdd, Nat.reduceLT, Nat.reduceLeDiff, Nat.reduceEqDiff, Int.reduceLT, Int.reduceBEq, Int.reduceBNe, Nat.reduceBEq, List.append_nil, Int.toNat_zero, Nat.sub_self, frS, ptr]; refine hk _ ?_; clear hk k; try show Sat _ _ _ _ _)
        refine Sat.cond_b rfl (fun h => absurd h (by decide)) (fun h => ?_)
        refine Sat.skip ?_
        simp only [thenK]
        have eT : Int.toNat 1 * 1 = 1 := rfl
        have ew : IntKind.i64.wrap (1 + 1) = 2 := by decide
        (repeat refine Sat.seq ?_)
        refine Sat.region_k fun k hk => ?_
        simp -implicitDefEqProofs only [evr, id, reduceCtorEq, reduceIte, Nat.reduceMul, Nat.reduceAdd, Nat.reduceLT, Nat.reduceLeDiff, Nat.reduceEqDiff, Int.reduceLT, Int.reduceBEq, Int.reduceBNe, Nat.reduceBEq, List.append_nil, Int.toNat_zero, Nat.sub_self, frS, ptr, eT]
        refine ⟨by decide, ?_⟩
        refine hk _ ?_
        clear hk k
        simp only [thenK, blockK]
        (repeat refine Sat.seq ?_)
        refine Sat.region_k fun k hk => ?_
        simp -implicitDefEqProofs only [evr, id, reduceCtorEq, reduceIte, Nat.reduceMul, Nat.reduceAdd, Nat.reduceLT, Nat.reduceLeDiff, Nat.reduceEqDiff, Int.reduceLT, Int.reduceBEq, Int.reduceBNe, Nat.reduceBEq, List.append_nil, Int.toNat_zero, Nat.sub_self, frS, ptr, ew]
        refine hk _ ?_
        simp only [thenK, blockK]
        refine ⟨(2, n, 0), ⟨by show (1 : Int) ≤ 2; decide, by show (2 : Int) ≤ kk; omega, fun _ => hn, fun h => absurd (show (2 : Int) < 2 from h) (by decide), fun h => absurd (show (2 : Int) ≤ 1 from h) (by decide), fun _ => rfl⟩, by show ((kk : Int) - 2).toNat < ((kk : Int) - 1).toNat; omega, ?_⟩
        simp -implicitDefEqProofs only [evr, id, reduceCtorEq, reduceIte, Nat.reduceMul, Nat.reduceAdd, Nat.reduceLT, Nat.reduceLeDiff, Nat.reduceEqDiff, Int.reduceLT, Int.reduceBEq, Int.reduceBNe, Nat.reduceBEq, List.append_nil, Int.toNat_zero, Nat.sub_self, frS, ptr, evl]
        first | omega | (refine ⟨?_, rfl⟩; omega) | (refine ⟨by omega, ?_⟩; rfl) | trace_state
      · exact absurd hn (no_beyond (.inl rfl) (by omega) hap7)
    · obtain rfl : n2 = 0 := i6 (by decide)
      have hn1 := i3 (by decide)
      (repeat refine Sat.seq ?_)
      (refine Sat.region_k fun k hk => ?_; simp -implicitDefEqProofs only [evr, id, reduceCtorEq, reduceIte, Nat.reduceMul, Nat.reduceAdd, Nat.reduceLT, Nat.reduceLeDiff, Nat.reduceEqDiff, Int.reduceLT, Int.reduceBEq, Int.reduceBNe, Nat.reduceBEq, List.append_nil, Int.toNat_zero, Nat.sub_self, frS, ptr])
      refine wcall_plain (stNeededC (Frm.codes cb) 2 (by omega) (by omega) hp1 hq1 g1 g2 (by omega)) (by simp -implicitDefEqProofs only [evr, id, reduceCtorEq, reduceIte, Nat.reduceMul, Nat.reduceAdd, Nat.reduceLT, Nat.reduceLeDiff, Nat.reduceEqDiff, Int.reduceLT, Int.reduceBEq, Int.reduceBNe, Nat.reduceBEq, List.append_nil, Int.toNat_zero, Nat.sub_self, frS, ptr]; try rfl) (fun r h => by rcases needPost_cases h with ⟨n, rfl, _⟩ | ⟨rfl, _⟩ <;> exact ok_tupL rfl) ?_
      intro r hr
      rcases needPost_cases hr with ⟨n, rfl, hn⟩ | ⟨rfl, hn⟩
      · simp -implicitDefEqProofs only [evr, id, reduceCtorEq, reduceIte, Nat.reduceMul, Nat.reduceAdd, Nat.reduceLT, Nat.reduceLeDiff, Nat.reduceEqDiff, Int.reduceLT, Int.reduceBEq, Int.reduceBNe, Nat.reduceBEq, List.append_nil, Int.toNat_zero, Nat.sub_self, frS, ptr]
        (refine hk _ ?_; clear hk k; try show Sat _ _ _ _ _)
        (repeat refine Sat.seq ?_)
        (refine Sat.region_k fun k hk => ?_; simp -implicitDefEqProofs only [evr, id, reduceCtorEq, reduceIte, Nat.reduceMul, Nat.reduceAdd, Nat.reduceLT, Nat.reduceLeDiff, Nat.reduceEqDiff, Int.reduceLT, Int.reduceBEq, Int.reduceBNe, Nat.reduceBEq, List.append_nil, Int.toNat_zero, Nat.sub_self, frS, ptr]; refine hk _ ?_; clear hk k; try show Sat _ _ _ _ _)
        refine Sat.cond_b rfl (fun h => absurd h (by decide)) (fun h => ?_)
        refine Sat.skip ?_
        simp only [thenK]
        have eT : Int.toNat 2 * 1 = 2 := rfl
        have ew : IntKind.i64.wrap (2 + 1) = 3 := by decide
        (repeat refine Sat.seq ?_)
        refine Sat.region_k fun k hk => ?_
        simp -implicitDefEqProofs only [evr, id, reduceCtorEq, reduceIte, Nat.reduceMul, Nat.reduceAdd, Nat.reduceLT, Nat.reduceLeDiff, Nat.reduceEqDiff, Int.reduceLT, Int.reduceBEq, Int.reduceBNe, Nat.reduceBEq, List.append_nil, Int.toNat_zero, Nat.sub_self, frS, ptr, eT]
        refine ⟨by decide, ?_⟩
        refine hk _ ?_
        clear hk k
        simp only [thenK, blockK]
        (repeat refine Sat.seq ?_)
        refine Sat.region_k fun k hk => ?_
        simp -implicitDefEqProofs only [evr, id, reduceCtorEq, reduceIte, Nat.reduceMul, Nat.reduceAdd, Nat.reduceLT, Nat.reduceLeDiff, Nat.reduceEqDiff, Int.reduceLT, Int.reduceBEq, Int.reduceBNe, Nat.reduceBEq, List.append_nil, Int.toNat_zero, Nat.sub_self, frS, ptr, ew]
        refine hk _ ?_
        simp only [thenK, blockK]
        refine ⟨(3, n1, n), ⟨by show (1 : Int) ≤ 3; decide, by show (3 : Int) ≤ kk; omega, fun _ => hn1, fun _ => hn, fun h => absurd (show (3 : Int) ≤ 1 from h) (by decide), fun h => absurd (show (3 : Int) ≤ 2 from h) (by decide)⟩, by show ((kk : Int) - 3).toNat < ((kk : Int) - 2).toNat; omega, ?_⟩
        simp -implicitDefEqProofs only [evr, id, reduceCtorEq, reduceIte, Nat.reduceMul, Nat.reduceAdd, Nat.reduceLT, Nat.reduceLeDiff, Nat.reduceEqDiff, Int.reduceLT, Int.reduceBEq, Int.reduceBNe, Nat.reduceBEq, List.append_nil, Int.toNat_zero, Nat.sub_self, frS, ptr, evl]
        first | omega | (refine ⟨?_, rfl⟩; omega) | (refine ⟨by omega, ?_⟩; rfl) | trace_state
      · exact absurd hn (no_beyond (.inr rfl) (by omega) hap7)
  · simp only [decide_eq_false_iff_not] at h
    have hjk : j = (kk : Int) := by omega
    subst hjk
    obtain ⟨st, hst, hst1, hst2⟩ : ∃ st : Nat → Nat, Stops kk p q st ∧ st 1 = n1 ∧ st 2 = n2 := ⟨fun i => if i = 1 then n1 else n2, fun i h1 h2 => by
      rcases (show i = 1 ∨ i = 2 by omega) with rfl | rfl
      · exact i3 (by omega)
      · exact i4 (by omega), rfl, rfl⟩
    have hlate : ∀ i, 1 ≤ i → i < kk → st i ≤ max n1 n2 := fun i h1 h2 => by
      rcases (show i = 1 ∨ i = 2 by omega) with rfl | rfl
      · rw [hst1]; exact Nat.le_max_left _ _
      · rw [hst2]; exact Nat.le_max_right _ _
    have hmost : 1 ≤ max n1 n2 ∨ kk ≤ 1 := by
      rcases Nat.lt_or_ge 1 kk with h9 | h9
      · left
        have := need_gt (i3 (by omega)) g2
        have := Nat.le_max_left n1 n2
        omega
      · exact .inr h9
    generalize hM : max n1 n2 = M at hlate hmost
    clear i1 i2 i3 i4 i5 i6 h
    refine Sat.exit ?_
    simp only [thenK, blockK, reduceIte]
    (repeat refine Sat.seq ?_)
    (refine Sat.region_k fun k hk => ?_; simp -implicitDefEqProofs only [evr, id, reduceCtorEq, reduceIte, Nat.reduceMul, Nat.reduceAdd, Nat.reduceLT, Nat.reduceLeDiff, Nat.reduceEqDiff, Int.reduceLT, Int.reduceBEq, Int.reduceBNe, Nat.reduceBEq, List.append_nil, Int.toNat_zero, Nat.sub_self, frS, ptr]; refine hk _ ?_; clear hk k; try show Sat _ _ _ _ _)
    refine Sat.cond_b rfl (fun h => ?_) (fun h => ?_)
    · (repeat refine Sat.seq ?_)
      (refine Sat.region_k fun k hk => ?_; simp -implicitDefEqProofs only [evr, id, reduceCtorEq, reduceIte, Nat.reduceMul, Nat.reduceAdd, Nat.reduceLT, Nat.reduceLeDiff, Nat.reduceEqDiff, Int.reduceLT, Int.reduceBEq, Int.reduceBNe, Nat.reduceBEq, List.append_nil, Int.toNat_zero, Nat.sub_self, frS, ptr]; refine hk _ ?_; clear hk k; try show Sat _ _ _ _ _)
      refine Sat.ret ?_
      simp only [Try.results6, evr, id, reduceCtorEq, reduceIte, Nat.reduceMul, Nat.reduceAdd, Nat.reduceLT, Nat.reduceLeDiff, Nat.reduceEqDiff, Int.reduceLT, Int.reduceBEq, Int.reduceBNe, Nat.reduceBEq, List.append_nil, Int.toNat_zero, Nat.sub_self, frS, ptr]
    have hM9 : M ≤ 9 := by have := of_decide_eq_false h; omega
    refine Sat.skip ?_
    simp only [thenK]
    (repeat refine Sat.seq ?_)
    (refine Sat.region_k fun k hk => ?_; simp -implicitDefEqProofs only [evr, id, reduceCtorEq, reduceIte, Nat.reduceMul, Nat.reduceAdd, Nat.reduceLT, Nat.reduceLeDiff, Nat.reduceEqDiff, Int.reduceLT, Int.reduceBEq, Int.reduceBNe, Nat.reduceBEq, List.append_nil, Int.toNat_zero, Nat.sub_self, frS, ptr])
    refine wcall_plain (tables9C (Frm.codes cb) hM9 hk3 hk1) rfl (by rintro _ rfl; exact ok_plain rfl) ?_
    rintro r rfl
    simp -implicitDefEqProofs only [evr, id, reduceCtorEq, reduceIte, Nat.reduceMul, Nat.reduceAdd, Nat.reduceLT, Nat.reduceLeDiff, Nat.reduceEqDiff, Int.reduceLT, Int.reduceBEq, Int.reduceBNe, Nat.reduceBEq, List.append_nil, Int.toNat_zero, Nat.sub_self, frS, ptr]
    (refine hk _ ?_; clear hk k; try show Sat _ _ _ _ _)
    (repeat refine Sat.seq ?_)
    (refine Sat.region_k fun k hk => ?_; simp -implicitDefEqProofs only [evr, id, reduceCtorEq, reduceIte, Nat.reduceMul, Nat.reduceAdd, Nat.reduceLT, Nat.reduceLeDiff, Nat.reduceEqDiff, Int.reduceLT, Int.reduceBEq, Int.reduceBNe, Nat.reduceBEq, List.append_nil, Int.toNat_zero, Nat.sub_self, frS, ptr]; refine hk _ ?_; clear hk k; try show Sat _ _ _ _ _)
    (repeat refine Sat.seq ?_)
    refine Sat.block ?_
    (repeat refine Sat.seq ?_)
    have htab := tab9_le hM9 hk3
    have hpos : 0 < kk ^ M := Nat.pow_pos hk1
    refine Sat.loop (ι := Nat) (fun t => ⟨123, [(14, .i .i64 (t : Int)), (13, .i .i64 (sumUp (fun t => failT kk st t M) t : Nat)), (12, .i .i64 ((kk ^ M : Nat) : Int)), (7, .i .i64 (M : Int)), (4, .i .i64 (kk : Int)), (5, .op 0 b5 0), (8, .op 1 b8 0)], [.box b5 30 [.b false, .sl a1 x1'.length c1 z1 r1, .sl a2 x2'.length c2 z2 r2], .box b8 49 [.i .i64 0, .i .i64 (n1 : Int), .i .i64 (n2 : Int), .i .i64 0]]⟩)
      (fun t => t ≤ kk ^ M) (fun t => kk ^ M - t) 0 (Nat.zero_le _) (by simp -implicitDefEqProofs only [evr, id, reduceCtorEq, reduceIte, Nat.reduceMul, Nat.reduceAdd, Nat.reduceLT, Nat.reduceLeDiff, Nat.reduceEqDiff, Int.reduceLT, Int.reduceBEq, Int.reduceBNe, Nat.reduceBEq, List.append_nil, Int.toNat_zero, Nat.sub_self, frS, ptr, evl]; try exact ⟨rfl, rfl⟩) ?_
    rintro t ht
    (repeat refine Sat.seq ?_)
    (refine Sat.region_k fun k hk => ?_; simp -implicitDefEqProofs only [evr, id, reduceCtorEq, reduceIte, Nat.reduceMul, Nat.reduceAdd, Nat.reduceLT, Nat.reduceLeDiff, Nat.reduceEqDiff, Int.reduceLT, Int.reduceBEq, Int.reduceBNe, Nat.reduceBEq, List.append_nil, Int.toNat_zero, Nat.sub_self, frS, ptr]; refine hk _ ?_; clear hk k; try show Sat _ _ _ _ _)
    (repeat refine Sat.seq ?_)
    refine Sat.cond_b rfl (fun h => ?_) (fun h => ?_)
    · simp only [decide_eq_true_eq] at h
      have htl : t < kk ^ M := by omega
      have et : IntKind.i64.wrap ((t : Int) + 1) = ((t + 1 : Nat) : Int) := by rw [w64 (by omega)]; omega
      have hfl := sumF_le kk st M t
      have ef : IntKind.i64.wrap ((sumUp (fun t => failT kk st t M) t : Nat) + 1) = ((sumUp (fun t => failT kk st t M) t + 1 : Nat) : Int) := by rw [w64 (by omega)]; omega
      have eS : sumUp (fun t => failT kk st t M) (t + 1) = sumUp (fun t => failT kk st t M) t + failT kk st t M := rfl
      refine Sat.skip ?_
      simp only [thenK]
      (repeat refine Sat.seq ?_)
      refine Sat.block ?_
      (repeat refine Sat.seq ?_)
      (refine Sat.region_k fun k hk => ?_; simp -implicitDefEqProofs only [evr, id, reduceCtorEq, reduceIte, Nat.reduceMul, Nat.reduceAdd, Nat.reduceLT, Nat.reduceLeDiff, Nat.reduceEqDiff, Int.reduceLT, Int.reduceBEq, Int.reduceBNe, Nat.reduceBEq, List.append_nil, Int.toNat_zero, Nat.sub_self, frS, ptr]; refine hk _ ?_; clear hk k; try show Sat _ _ _ _ _)
      (repeat refine Sat.seq ?_)
      (refine Sat.region_k fun k hk => ?_; simp -implicitDefEqProofs only [evr, id, reduceCtorEq, reduceIte, Nat.reduceMul, Nat.reduceAdd, Nat.reduceLT, Nat.reduceLeDiff, Nat.reduceEqDiff, Int.reduceLT, Int.reduceBEq, Int.reduceBNe, Nat.reduceBEq, List.append_nil, Int.toNat_zero, Nat.sub_self, frS, ptr]; refine hk _ ?_; clear hk k; try show Sat _ _ _ _ _)
      (repeat refine Sat.seq ?_)
      refine Sat.block ?_
      (repeat refine Sat.seq ?_)
      refine Sat.loop (ι := Nat × Nat) (fun x => ⟨123, [(18, .i .i64 ((x.1 + 1 : Nat) : Int)), (15, .i .i64 (x.2 : Int)), (16, .i .i64 (pc x.2 : Nat)), (17, .i .i64 (t / kk ^ x.1 : Nat)), (14, .i .i64 (t : Int)), (13, .i .i64 (sumUp (fun t => failT kk st t M) t : Nat)), (12, .i .i64 ((kk ^ M : Nat) : Int)), (7, .i .i64 (M : Int)), (4, .i .i64 (kk : Int)), (5, .op 0 b5 0), (8, .op 1 b8 0)], [.box b5 30 [.b false, .sl a1 x1'.length c1 z1 r1, .sl a2 x2'.length c2 z2 r2], .box b8 49 [.i .i64 0, .i .i64 (n1 : Int), .i .i64 (n2 : Int), .i .i64 0]]⟩)
        (fun x => x.1 ≤ M ∧ aliveS kk st t x.1 = some x.2) (fun x => M - x.1) (0, 0) ⟨Nat.zero_le _, rfl⟩ (by rw [Nat.pow_zero, Nat.div_one]; simp -implicitDefEqProofs only [evr, id, reduceCtorEq, reduceIte, Nat.reduceMul, Nat.reduceAdd, Nat.reduceLT, Nat.reduceLeDiff, Nat.reduceEqDiff, Int.reduceLT, Int.reduceBEq, Int.reduceBNe, Nat.reduceBEq, List.append_nil, Int.toNat_zero, Nat.sub_self, frS, ptr, evl]; try exact ⟨rfl, rfl, rfl⟩) ?_
      rintro ⟨i, s⟩ ⟨hi, hal⟩
      simp only at hi hal ⊢
      have hs := alive_lt hk1 (by omega) i s hal
      have hs8 : s < 8 := Nat.lt_of_lt_of_le hs (Nat.pow_le_pow_right (n := 2) (by decide) (show kk ≤ 3 by omega))
      (repeat refine Sat.seq ?_)
      (refine Sat.region_k fun k hk => ?_; simp -implicitDefEqProofs only [evr, id, reduceCtorEq, reduceIte, Nat.reduceMul, Nat.reduceAdd, Nat.reduceLT, Nat.reduceLeDiff, Nat.reduceEqDiff, Int.reduceLT, Int.reduceBEq, Int.reduceBNe, Nat.reduceBEq, List.append_nil, Int.toNat_zero, Nat.sub_self, frS, ptr]; refine hk _ ?_; clear hk k; try show Sat _ _ _ _ _)
      (repeat refine Sat.seq ?_)
      refine Sat.cond_b rfl (fun h => ?_) (fun h => ?_)
      · simp only [decide_eq_true_eq] at h
        have hiM : i < M := by omega
        have hx : t / kk ^ i % kk < kk := Nat.mod_lt _ hk1
        have hxt : t / kk ^ i ≤ t := Nat.div_le_self _ _
        have f1 := nat_tmod9 (t / kk ^ i) kk
        have astep := @alive_step kk st t i s hal
        have adone := @fail_done kk st t i s M hal hiM
        have anow := @fail_now kk st t i s M hal hiM
        have ei : IntKind.i64.wrap (((i + 1 : Nat) : Int) + 1) = ((i + 1 + 1 : Nat) : Int) := by rw [w64 (by omega)]; omega
        have fq : IntKind.i64.wrap (((t / kk ^ i : Nat) : Int).tdiv kk) = ((t / kk ^ (i + 1) : Nat) : Int) := by
          rw [Nat.pow_succ, ← Nat.div_div_eq_div_mul]
          exact nat_tdiv9 _ _ (Nat.lt_of_le_of_lt hxt (by omega))
        generalize t / kk ^ i % kk = x at hx f1 astep adone anow
        have hx3 : x < 3 := by omega
        have f2 := shr_small s x (by omega)
        have hsx : s / 2 ^ x < 16 := Nat.lt_of_le_of_lt (Nat.div_le_self _ _) (by omega)
        have f3 := and_one hsx
        have f4 := pow_wrap9 x (by omega)
        have hpx : 2 ^ x < 16 := Nat.lt_of_lt_of_le (Nat.pow_lt_pow_right (by decide) hx3) (by decide)
        have f5 := or_small9 (a := s) (b := 2 ^ x) (by omega) hpx
        have hps := pc_step s hs8 x hx3
        have hp1' := pc_pos s hs8 x hx3
        have hsl := step_lt kk (by omega) s hs x hx
        have hpl := pc_le kk (by omega) _ hsl
        have hpl0 := pc_le kk (by omega) _ hs
        refine Sat.skip ?_
        simp only [thenK]
        (repeat refine Sat.seq ?_)
        refine Sat.block ?_
        (repeat refine Sat.seq ?_)
        refine Sat.region_k fun k hk => ?_
        simp -implicitDefEqProofs only [evr, id, reduceCtorEq, reduceIte, Nat.reduceMul, Nat.reduceAdd, Nat.reduceLT, Nat.reduceLeDiff, Nat.reduceEqDiff, Int.reduceLT, Int.reduceBEq, Int.reduceBNe, Nat.reduceBEq, List.append_nil, Int.toNat_zero, Nat.sub_self, frS, ptr, f1, f2, f3]
        refine ⟨by omega, ?_⟩
        (refine hk _ ?_; clear hk k; try show Sat _ _ _ _ _)
        refine Sat.join2 (fun _ : Unit => ⟨123, [(18, .i .i64 ((i + 1 : Nat) : Int)), (15, .i .i64 (stepS s x : Nat)), (16, .i .i64 (pc (stepS s x) : Nat)), (17, .i .i64 (t / kk ^ i : Nat)), (14, .i .i64 (t : Int)), (13, .i .i64 (sumUp (fun t => failT kk st t M) t : Nat)), (12, .i .i64 ((kk ^ M : Nat) : Int)), (7, .i .i64 (M : Int)), (4, .i .i64 (kk : Int)), (5, .op 0 b5 0), (8, .op 1 b8 0)], [.box b5 30 [.b false, .sl a1 x1'.length c1 z1 r1, .sl a2 x2'.length c2 z2 r2], .box b8 49 [.i .i64 0, .i .i64 (n1 : Int), .i .i64 (n2 : Int), .i .i64 0]]⟩) (fun _ => True) (fun hrest => ?_) ?_
        · refine Sat.cond_b rfl (fun h => ?_) (fun h => ?_)
          · have h0 : s / 2 ^ x % 2 = 0 := by have h9 := eq_of_beq h; omega
            rw [if_pos h0] at hps
            have e5 : stepS s x = s ||| 2 ^ x := by unfold stepS; rw [if_pos h0]
            have e6 : IntKind.i64.wrap ((pc s : Int) + 1) = ((pc (stepS s x) : Nat) : Int) := by rw [hps, w64 (by omega)]; omega
            rw [← e5] at f5
            (repeat refine Sat.seq ?_)
            refine Sat.region_k fun k hk => ?_
            simp -implicitDefEqProofs only [evr, id, reduceCtorEq, reduceIte, Nat.reduceMul, Nat.reduceAdd, Nat.reduceLT, Nat.reduceLeDiff, Nat.reduceEqDiff, Int.reduceLT, Int.reduceBEq, Int.reduceBNe, Nat.reduceBEq, List.append_nil, Int.toNat_zero, Nat.sub_self, frS, ptr, f1, f4, f5]
            refine ⟨by omega, ?_⟩
            (refine hk _ ?_; clear hk k; try show Sat _ _ _ _ _)
            refine Sat.region_k fun k hk => ?_
            simp -implicitDefEqProofs only [evr, id, reduceCtorEq, reduceIte, Nat.reduceMul, Nat.reduceAdd, Nat.reduceLT, Nat.reduceLeDiff, Nat.reduceEqDiff, Int.reduceLT, Int.reduceBEq, Int.reduceBNe, Nat.reduceBEq, List.append_nil, Int.toNat_zero, Nat.sub_self, frS, ptr, e6]
            refine hk _ ?_
            clear hk
            simp only [thenK]
            refine Sat.le (hrest () trivial) ?_
            simp -implicitDefEqProofs only [evr, id, reduceCtorEq, reduceIte, Nat.reduceMul, Nat.reduceAdd, Nat.reduceLT, Nat.reduceLeDiff, Nat.reduceEqDiff, Int.reduceLT, Int.reduceBEq, Int.reduceBNe, Nat.reduceBEq, List.append_nil, Int.toNat_zero, Nat.sub_self, frS, ptr, evl]
          · have h0 : ¬ s / 2 ^ x % 2 = 0 := by
              intro h9
              rw [h9] at h
              cases h
            rw [if_neg h0] at hps
            have e5 : stepS s x = s := by unfold stepS; rw [if_neg h0]
            refine Sat.skip ?_
            simp only [thenK]
            refine Sat.le (hrest () trivial) ?_
            rw [e5]
            simp -implicitDefEqProofs only [evr, id, reduceCtorEq, reduceIte, Nat.reduceMul, Nat.reduceAdd, Nat.reduceLT, Nat.reduceLeDiff, Nat.reduceEqDiff, Int.reduceLT, Int.reduceBEq, Int.reduceBNe, Nat.reduceBEq, List.append_nil, Int.toNat_zero, Nat.sub_self, frS, ptr, evl]
        rintro _ _
        generalize stepS s x = s' at hp1' hsl hpl astep adone anow
        clear hps f5
        (repeat refine Sat.seq ?_)
        refine Sat.region_k fun k hk => ?_
        simp -implicitDefEqProofs only [evr, id, reduceCtorEq, reduceIte, Nat.reduceMul, Nat.reduceAdd, Nat.reduceLT, Nat.reduceLeDiff, Nat.reduceEqDiff, Int.reduceLT, Int.reduceBEq, Int.reduceBNe, Nat.reduceBEq, List.append_nil, Int.toNat_zero, Nat.sub_self, frS, ptr, fq]
        refine ⟨by omega, ?_⟩
        (refine hk _ ?_; clear hk k; try show Sat _ _ _ _ _)
        (repeat refine Sat.seq ?_)
        (refine Sat.region_k fun k hk => ?_; simp -implicitDefEqProofs only [evr, id, reduceCtorEq, reduceIte, Nat.reduceMul, Nat.reduceAdd, Nat.reduceLT, Nat.reduceLeDiff, Nat.reduceEqDiff, Int.reduceLT, Int.reduceBEq, Int.reduceBNe, Nat.reduceBEq, List.append_nil, Int.toNat_zero, Nat.sub_self, frS, ptr]; refine hk _ ?_; clear hk k; try show Sat _ _ _ _ _)
        refine Sat.cond_b rfl (fun h => ?_) (fun h => ?_)
        · have h9 : pc s' = kk := by have h9 := eq_of_beq h; omega
          have hf0 := adone h9
          refine Sat.exit ?_
          simp only [thenK, blockK, reduceIte]
          (repeat refine Sat.seq ?_)
          refine Sat.region_k fun k hk => ?_
          simp -implicitDefEqProofs only [evr, id, reduceCtorEq, reduceIte, Nat.reduceMul, Nat.reduceAdd, Nat.reduceLT, Nat.reduceLeDiff, Nat.reduceEqDiff, Int.reduceLT, Int.reduceBEq, Int.reduceBNe, Nat.reduceBEq, List.append_nil, Int.toNat_zero, Nat.sub_self, frS, ptr, et]
          refine hk _ ?_
          simp only [thenK, blockK]
          refine ⟨t + 1, by show t + 1 ≤ kk ^ M; omega, by omega, ?_⟩
          rw [eS, hf0, Nat.add_zero]
          simp -implicitDefEqProofs only [evr, id, reduceCtorEq, reduceIte, Nat.reduceMul, Nat.reduceAdd, Nat.reduceLT, Nat.reduceLeDiff, Nat.reduceEqDiff, Int.reduceLT, Int.reduceBEq, Int.reduceBNe, Nat.reduceBEq, List.append_nil, Int.toNat_zero, Nat.sub_self, frS, ptr, evl]
        have h9 : ¬ pc s' = kk := by
          intro h9
          rw [h9] at h
          simp at h
        have astep := astep h9
        have anow := anow h9
        refine Sat.skip ?_
        simp only [thenK]
        rcases (show pc s' = 1 ∨ pc s' = 2 by omega) with e | e
        · rw [e, hst1] at astep anow
          rw [e]
          (repeat refine Sat.seq ?_)
          (refine Sat.region_k fun k hk => ?_; simp -implicitDefEqProofs only [evr, id, reduceCtorEq, reduceIte, Nat.reduceMul, Nat.reduceAdd, Nat.reduceLT, Nat.reduceLeDiff, Nat.reduceEqDiff, Int.reduceLT, Int.reduceBEq, Int.reduceBNe, Nat.reduceBEq, List.append_nil, Int.toNat_zero, Nat.sub_self, frS, ptr])
          refine ⟨by omega, ?_⟩
          (refine hk _ ?_; clear hk k; try show Sat _ _ _ _ _)
          refine Sat.cond_b rfl (fun h => ?_) (fun h => ?_)
          · have h8 : n1 ≤ i + 1 := by have := of_decide_eq_true h; omega
            have hf1 := anow h8
            (repeat refine Sat.seq ?_)
            refine Sat.region_k fun k hk => ?_
            simp -implicitDefEqProofs only [evr, id, reduceCtorEq, reduceIte, Nat.reduceMul, Nat.reduceAdd, Nat.reduceLT, Nat.reduceLeDiff, Nat.reduceEqDiff, Int.reduceLT, Int.reduceBEq, Int.reduceBNe, Nat.reduceBEq, List.append_nil, Int.toNat_zero, Nat.sub_self, frS, ptr, ef]
            refine hk _ ?_
            clear hk k
            simp only [thenK]
            refine Sat.exit ?_
            simp only [thenK, blockK, reduceIte]
            (repeat refine Sat.seq ?_)
            refine Sat.region_k fun k hk => ?_
            simp -implicitDefEqProofs only [evr, id, reduceCtorEq, reduceIte, Nat.reduceMul, Nat.reduceAdd, Nat.reduceLT, Nat.reduceLeDiff, Nat.reduceEqDiff, Int.reduceLT, Int.reduceBEq, Int.reduceBNe, Nat.reduceBEq, List.append_nil, Int.toNat_zero, Nat.sub_self, frS, ptr, et]
            refine hk _ ?_
            simp only [thenK, blockK]
            refine ⟨t + 1, by show t + 1 ≤ kk ^ M; omega, by omega, ?_⟩
            rw [eS, hf1]
            simp -implicitDefEqProofs only [evr, id, reduceCtorEq, reduceIte, Nat.reduceMul, Nat.reduceAdd, Nat.reduceLT, Nat.reduceLeDiff, Nat.reduceEqDiff, Int.reduceLT, Int.reduceBEq, Int.reduceBNe, Nat.reduceBEq, List.append_nil, Int.toNat_zero, Nat.sub_self, frS, ptr, evl]
          · have h8 : ¬ n1 ≤ i + 1 := by have := of_decide_eq_false h; omega
            have hal2 := astep h8
            refine Sat.skip ?_
            simp only [thenK, blockK]
            (repeat refine Sat.seq ?_)
            refine Sat.region_k fun k hk => ?_
            simp -implicitDefEqProofs only [evr, id, reduceCtorEq, reduceIte, Nat.reduceMul, Nat.reduceAdd, Nat.reduceLT, Nat.reduceLeDiff, Nat.reduceEqDiff, Int.reduceLT, Int.reduceBEq, Int.reduceBNe, Nat.reduceBEq, List.append_nil, Int.toNat_zero, Nat.sub_self, frS, ptr, ei]
            refine hk _ ?_
            simp only [thenK, blockK]
            refine ⟨(i + 1, s'), ⟨by show i + 1 ≤ M; omega, hal2⟩, by show M - (i + 1) < M - i; omega, ?_⟩
            simp -implicitDefEqProofs only [evr, id, reduceCtorEq, reduceIte, Nat.reduceMul, Nat.reduceAdd, Nat.reduceLT, Nat.reduceLeDiff, Nat.reduceEqDiff, Int.reduceLT, Int.reduceBEq, Int.reduceBNe, Nat.reduceBEq, List.append_nil, Int.toNat_zero, Nat.sub_self, frS, ptr, evl]
            omega
        · rw [e, hst2] at astep anow
          rw [e]
          (repeat refine Sat.seq ?_)
          (refine Sat.region_k fun k hk => ?_; simp -implicitDefEqProofs only [evr, id, reduceCtorEq, reduceIte, Nat.reduceMul, Nat.reduceAdd, Nat.reduceLT, Nat.reduceLeDiff, Nat.reduceEqDiff, Int.reduceLT, Int.reduceBEq, Int.reduceBNe, Nat.reduceBEq, List.append_nil, Int.toNat_zero, Nat.sub_self, frS, ptr])
          refine ⟨by omega, ?_⟩
          (refine hk _ ?_; clear hk k; try show Sat _ _ _ _ _)
          refine Sat.cond_b rfl (fun h => ?_) (fun h => ?_)
          · have h8 : n2 ≤ i + 1 := by have := of_decide_eq_true h; omega
            have hf1 := anow h8
            (repeat refine Sat.seq ?_)
            refine Sat.region_k fun k hk => ?_
            simp -implicitDefEqProofs only [evr, id, reduceCtorEq, reduceIte, Nat.reduceMul, Nat.reduceAdd, Nat.reduceLT, Nat.reduceLeDiff, Nat.reduceEqDiff, Int.reduceLT, Int.reduceBEq, Int.reduceBNe, Nat.reduceBEq, List.append_nil, Int.toNat_zero, Nat.sub_self, frS, ptr, ef]
            refine hk _ ?_
            clear hk k
            simp only [thenK]
            refine Sat.exit ?_
            simp only [thenK, blockK, reduceIte]
            (repeat refine Sat.seq ?_)
            refine Sat.region_k fun k hk => ?_
            simp -implicitDefEqProofs only [evr, id, reduceCtorEq, reduceIte, Nat.reduceMul, Nat.reduceAdd, Nat.reduceLT, Nat.reduceLeDiff, Nat.reduceEqDiff, Int.reduceLT, Int.reduceBEq, Int.reduceBNe, Nat.reduceBEq, List.append_nil, Int.toNat_zero, Nat.sub_self, frS, ptr, et]
            refine hk _ ?_
            simp only [thenK, blockK]
            refine ⟨t + 1, by show t + 1 ≤ kk ^ M; omega, by omega, ?_⟩
            rw [eS, hf1]
            simp -implicitDefEqProofs only [evr, id, reduceCtorEq, reduceIte, Nat.reduceMul, Nat.reduceAdd, Nat.reduceLT, Nat.reduceLeDiff, Nat.reduceEqDiff, Int.reduceLT, Int.reduceBEq, Int.reduceBNe, Nat.reduceBEq, List.append_nil, Int.toNat_zero, Nat.sub_self, frS, ptr, evl]
          · have h8 : ¬ n2 ≤ i + 1 := by have := of_decide_eq_false h; omega
            have hal2 := astep h8
            refine Sat.skip ?_
            simp only [thenK, blockK]
            (repeat refine Sat.seq ?_)
            refine Sat.region_k fun k hk => ?_
            simp -implicitDefEqProofs only [evr, id, reduceCtorEq, reduceIte, Nat.reduceMul, Nat.reduceAdd, Nat.reduceLT, Nat.reduceLeDiff, Nat.reduceEqDiff, Int.reduceLT, Int.reduceBEq, Int.reduceBNe, Nat.reduceBEq, List.append_nil, Int.toNat_zero, Nat.sub_self, frS, ptr, ei]
            refine hk _ ?_
            simp only [thenK, blockK]
            refine ⟨(i + 1, s'), ⟨by show i + 1 ≤ M; omega, hal2⟩, by show M - (i + 1) < M - i; omega, ?_⟩
            simp -implicitDefEqProofs only [evr, id, reduceCtorEq, reduceIte, Nat.reduceMul, Nat.reduceAdd, Nat.reduceLT, Nat.reduceLeDiff, Nat.reduceEqDiff, Int.reduceLT, Int.reduceBEq, Int.reduceBNe, Nat.reduceBEq, List.append_nil, Int.toNat_zero, Nat.sub_self, frS, ptr, evl]
            omega
      · simp only [decide_eq_false_iff_not] at h
        have hf0 := alive_zero i s hal
        rw [show i = M by omega] at hf0
        refine Sat.exit ?_
        simp only [thenK, blockK, reduceIte]
        (repeat refine Sat.seq ?_)
        refine Sat.region_k fun k hk => ?_
        simp -implicitDefEqProofs only [evr, id, reduceCtorEq, reduceIte, Nat.reduceMul, Nat.reduceAdd, Nat.reduceLT, Nat.reduceLeDiff, Nat.reduceEqDiff, Int.reduceLT, Int.reduceBEq, Int.reduceBNe, Nat.reduceBEq, List.append_nil, Int.toNat_zero, Nat.sub_self, frS, ptr, et]
        refine hk _ ?_
        simp only [thenK, blockK]
        refine ⟨t + 1, by show t + 1 ≤ kk ^ M; omega, by omega, ?_⟩
        rw [eS, hf0, Nat.add_zero]
        simp -implicitDefEqProofs only [evr, id, reduceCtorEq, reduceIte, Nat.reduceMul, Nat.reduceAdd, Nat.reduceLT, Nat.reduceLeDiff, Nat.reduceEqDiff, Int.reduceLT, Int.reduceBEq, Int.reduceBNe, Nat.reduceBEq, List.append_nil, Int.toNat_zero, Nat.sub_self, frS, ptr, evl]
    · simp only [decide_eq_false_iff_not] at h
      have htt : t = kk ^ M := by omega
      subst htt
      have hcnt := fail_count (st := st) hk1 (show kk < 4 by omega) M
      have hend := failN_end (k := kk) (st := st) hmost hlate (128 - M)
      have hfle := failN_le kk st M
      rw [show M + (128 - M) = 128 by omega] at hend
      have hj0 : 0 < kk ^ 128 := Nat.pow_pos hk1
      have hred := red_eq (a := failN kk st 128) (b := kk ^ 128) (c := failN kk st M) (d := kk ^ M) hj0 hpos (by
        rw [hend, Nat.mul_assoc, ← Nat.pow_add, show 128 - M + M = 128 by omega])
      refine Sat.exit ?_
      simp only [thenK, blockK, reduceIte]
      rw [hcnt]
      (repeat refine Sat.seq ?_)
      (refine Sat.region_k fun k hk => ?_; simp -implicitDefEqProofs only [evr, id, reduceCtorEq, reduceIte, Nat.reduceMul, Nat.reduceAdd, Nat.reduceLT, Nat.reduceLeDiff, Nat.reduceEqDiff, Int.reduceLT, Int.reduceBEq, Int.reduceBNe, Nat.reduceBEq, List.append_nil, Int.toNat_zero, Nat.sub_self, frS, ptr])
      refine wcall_slice (stFailC (Frm.codes cb) kk (by omega) hk1 hp1 hq1 g1 g2 (by omega)) rfl (by simp -implicitDefEqProofs only [evr, id, reduceCtorEq, reduceIte, Nat.reduceMul, Nat.reduceAdd, Nat.reduceLT, Nat.reduceLeDiff, Nat.reduceEqDiff, Int.reduceLT, Int.reduceBEq, Int.reduceBNe, Nat.reduceBEq, List.append_nil, Int.toNat_zero, Nat.sub_self, frS, ptr]; try rfl) ?_
      intro r hr
      obtain ⟨f, st', hst', rfl, hF⟩ : ∃ f st', Stops kk p q st' ∧ r = tupL [f, .i .i64 0] ∧ FrS f false (redP (failN kk st' 128) (kk ^ 128)) (redQ (failN kk st' 128) (kk ^ 128)) := by
        rcases hr with ⟨st', f, h1, h2, h3⟩ | ⟨h1, _⟩
        · exact ⟨f, st', h1, h2, h3⟩
        · exact absurd h1 (stops_beyond hst)
      have hsame : failN kk st' 128 = failN kk st 128 := by
        have ee : ∀ i, 1 ≤ i → i < kk → st' i = st i := fun i h1 h2 => by
          have a1 := hst i h1 h2
          have a2 := hst' i h1 h2
          rcases Nat.lt_trichotomy (st' i) (st i) with h9 | h9 | h9
          · exact absurd (a1.2.2 _ h9) a2.2.1
          · exact h9
          · exact absurd (a2.2.2 _ h9) a1.2.1
        exact Nat.le_antisymm (failN_mono (fun i h1 h2 => Nat.le_of_eq (ee i h1 h2).symm) 128) (failN_mono (fun i h1 h2 => Nat.le_of_eq (ee i h1 h2)) 128)
      rw [hsame, hred.1, hred.2] at hF
      obtain ⟨sp3, sq3, rfl, hP, hQ⟩ := hF
      have hP' := hP
      have hQ' := hQ
      obtain ⟨a7, c7, z7, r7, x7, rfl, _⟩ := hP
      obtain ⟨a8, c8, z8, r8, x8, rfl, _⟩ := hQ
      simp only [frS, evr, id, reduceCtorEq, reduceIte, Nat.reduceMul, Nat.reduceAdd, Nat.reduceLT, Nat.reduceLeDiff, Nat.reduceEqDiff, Int.reduceLT, Int.reduceBEq, Int.reduceBNe, Nat.reduceBEq, List.append_nil, Int.toNat_zero, Nat.sub_self, frS, ptr]
      intro b19
      (refine hk _ ?_; clear hk k; try show Sat _ _ _ _ _)
      (repeat refine Sat.seq ?_)
      (refine Sat.region_k fun k hk => ?_; simp -implicitDefEqProofs only [evr, id, reduceCtorEq, reduceIte, Nat.reduceMul, Nat.reduceAdd, Nat.reduceLT, Nat.reduceLeDiff, Nat.reduceEqDiff, Int.reduceLT, Int.reduceBEq, Int.reduceBNe, Nat.reduceBEq, List.append_nil, Int.toNat_zero, Nat.sub_self, frS, ptr])
      refine wcall_slice (refFromC (Frm.codes cb) ((failN kk st M : Nat) : Int) ((kk ^ M : Nat) : Int) (by omega) (by omega) (by omega) (by omega) (by omega)) rfl rfl ?_
      rintro r ⟨f, rfl, sr, ss, rfl, hr, hs⟩
      have e9 : ((decide (((failN kk st M : Nat) : Int) < 0) != decide (((kk ^ M : Nat) : Int) < 0)) && decide (0 < ((failN kk st M : Nat) : Int).natAbs)) = false := by
        rw [decide_eq_false (show ¬ (((failN kk st M : Nat) : Int) < 0) by omega), decide_eq_false (show ¬ (((kk ^ M : Nat) : Int) < 0) by omega)]; rfl
      have hr1 : Nats sr (redP (failN kk st M) (kk ^ M)) := hr
      have hs1 : Nats ss (redQ (failN kk st M) (kk ^ M)) := hs
      have hr2 := hr1
      have hs2 := hs1
      clear hr hs
      obtain ⟨a9, c9, z9, r9, x9, rfl, _⟩ := hr2
      obtain ⟨a10, c10, z10, r10, x10, rfl, _⟩ := hs2
      rw [e9]
      simp -implicitDefEqProofs only [evr, id, reduceCtorEq, reduceIte, Nat.reduceMul, Nat.reduceAdd, Nat.reduceLT, Nat.reduceLeDiff, Nat.reduceEqDiff, Int.reduceLT, Int.reduceBEq, Int.reduceBNe, Nat.reduceBEq, List.append_nil, Int.toNat_zero, Nat.sub_self, frS, ptr]
      intro b21
      (refine hk _ ?_; clear hk k; try show Sat _ _ _ _ _)
      have bb : ((19683 : Nat) : Int) < pw 512 := lt_pw (a := 15) (by decide) (by decide)
      have bP := redP_le (failN kk st M) (kk ^ M)
      have bQ := redQ_le (failN kk st M) (kk ^ M)
      (repeat refine Sat.seq ?_)
      (refine Sat.region_k fun k hk => ?_; simp -implicitDefEqProofs only [evr, id, reduceCtorEq, reduceIte, Nat.reduceMul, Nat.reduceAdd, Nat.reduceLT, Nat.reduceLeDiff, Nat.reduceEqDiff, Int.reduceLT, Int.reduceBEq, Int.reduceBNe, Nat.reduceBEq, List.append_nil, Int.toNat_zero, Nat.sub_self, frS, ptr])
      refine wcall_plain (refSame3C (Frm.codes cb) false false hP' hQ' hr1 hs1 (by omega) (by omega) (by omega) (by omega)) (by simp -implicitDefEqProofs only [evr, id, reduceCtorEq, reduceIte, Nat.reduceMul, Nat.reduceAdd, Nat.reduceLT, Nat.reduceLeDiff, Nat.reduceEqDiff, Int.reduceLT, Int.reduceBEq, Int.reduceBNe, Nat.reduceBEq, List.append_nil, Int.toNat_zero, Nat.sub_self, frS, ptr]; try rfl) (by rintro _ rfl; exact ok_plain rfl) ?_
      rintro y rfl
      simp -implicitDefEqProofs only [evr, id, reduceCtorEq, reduceIte, Nat.reduceMul, Nat.reduceAdd, Nat.reduceLT, Nat.reduceLeDiff, Nat.reduceEqDiff, Int.reduceLT, Int.reduceBEq, Int.reduceBNe, Nat.reduceBEq, List.append_nil, Int.toNat_zero, Nat.sub_self, frS, ptr]
      (refine hk _ ?_; clear hk k; try show Sat _ _ _ _ _)
      refine Sat.ret ?_
      simp only [Try.results6, evr, id, reduceCtorEq, reduceIte, Nat.reduceMul, Nat.reduceAdd, Nat.reduceLT, Nat.reduceLeDiff, Nat.reduceEqDiff, Int.reduceLT, Int.reduceBEq, Int.reduceBNe, Nat.reduceBEq, List.append_nil, Int.toNat_zero, Nat.sub_self, frS, ptr]

theorem fails_holds : Rows.StoppingFailsSaid := stoppingFails.of_walk fun a0 z0 w ⟨h, hz⟩ => by
  obtain ⟨a, cap, rfl, hok⟩ := slB_of h
  exact walk_of (failsC a cap z0 hz) (fun s hs => by rw [List.mem_singleton.1 hs]; exact hok)
end Go.Proofs.Ytagmohpafjncfaa
