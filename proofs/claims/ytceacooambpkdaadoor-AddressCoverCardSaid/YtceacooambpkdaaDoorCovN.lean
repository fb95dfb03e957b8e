/- The next prefix of a range, by TrailingZeros64 and Len64. -/
import Derived.Test.YtceacooambpkdaaDoorCovM
import Derived.Lib.BitFns
import Derived.Laws.Bits64b
namespace Go.Proofs.YtceacooambpkdaaDoor

theorem bitLen_spec : ∀ x : Nat, x < 2 ^ 64 → 0 < x → 1 ≤ Lib.bitLen x ∧ 2 ^ (Lib.bitLen x - 1) ≤ x ∧ x < 2 ^ Lib.bitLen x := by
  intro x
  induction x using Nat.strongRecOn with
  | _ x ih =>
    intro hx h0
    have e := Lib.bitLen_half x (by omega) hx
    rcases Nat.eq_zero_or_pos (x / 2) with h | h
    · have hx1 : x = 1 := by omega
      subst hx1
      decide
    · obtain ⟨h1, h2, h3⟩ := ih (x / 2) (by omega) (by omega) h
      rw [e]
      generalize Lib.bitLen (x / 2) = b at h1 h2 h3
      have e2 : 1 + b - 1 = (b - 1) + 1 := by omega
      refine ⟨by omega, ?_, ?_⟩
      · rw [e2, Nat.pow_succ]; omega
      · rw [Nat.add_comm 1 b, Nat.pow_succ]; omega
theorem len_iff {x j : Nat} (hx : x < 2 ^ 64) (h0 : 0 < x) : j ≤ Lib.bitLen x - 1 ↔ 2 ^ j ≤ x := by
  obtain ⟨h1, h2, h3⟩ := bitLen_spec x hx h0
  constructor
  · intro h; exact Nat.le_trans (pow_mono h) h2
  · intro h
    have : j < Lib.bitLen x := (Nat.pow_lt_pow_iff_right (by decide : 1 < 2)).1 (Nat.lt_of_le_of_lt h h3)
    omega
theorem bitLen_le64 {x : Nat} (hx : x < 2 ^ 64) (h0 : 0 < x) : Lib.bitLen x ≤ 64 := by
  by_cases h : 64 ≤ Lib.bitLen x - 1
  · exact absurd ((len_iff (j := 64) hx h0).1 h) (Nat.not_le_of_lt hx)
  · omega
theorem bitLen_pred {low high : Nat} (hl : low ≤ high) (hh : high < 2 ^ 32) : 1 ≤ Lib.bitLen (high + 1 - low) ∧ Lib.bitLen (high + 1 - low) ≤ 64 := by
  have h1 : high + 1 - low < 2 ^ 64 := by omega
  exact ⟨(bitLen_spec _ h1 (by omega)).1, bitLen_le64 h1 (by omega)⟩
theorem ctz_iff {x j : Nat} (hx : x < 2 ^ 64) (h0 : 0 < x) : x % 2 ^ j = 0 ↔ j ≤ Lib.ctz 64 x := by
  have e : Lib.ctz 64 x = Lib.ctzFrom 64 x := by unfold Lib.ctz; rw [if_neg (by omega)]
  rw [e]
  obtain ⟨m, hm, _⟩ := Lib.ctzFrom_spec 64 x h0 hx
  generalize Lib.ctzFrom 64 x = t at hm
  subst hm
  constructor
  · intro h
    rcases Nat.lt_or_ge t j with hlt | hge
    · have h1 := mod_of_mod (i := t + 1) (by omega) h
      have e3 : 2 ^ (t + 1) = 2 ^ t * 2 := by rw [Nat.pow_succ]
      rw [e3, Nat.mul_mod_mul_left] at h1
      have hp := Nat.two_pow_pos t
      have : (2 * m + 1) % 2 = 1 := by omega
      rw [this, Nat.mul_one] at h1
      omega
    · exact hge
  · intro h
    exact mod_of_mod h (Nat.mul_mod_right _ _)
theorem or_top {low : Nat} (h : low < 2 ^ 32) : low ||| 4294967296 = low + 2 ^ 32 := by
  have := Nat.two_pow_add_eq_or_of_lt h 1
  rw [Nat.mul_one] at this
  rw [Nat.or_comm]
  show 2 ^ 32 ||| low = _
  rw [← this, Nat.add_comm]
theorem ctz_top {low j : Nat} (h : low < 2 ^ 32) : j ≤ Lib.ctz 64 (low + 2 ^ 32) ↔ j ≤ 32 ∧ low % 2 ^ j = 0 := by
  rw [← ctz_iff (by omega) (by omega)]
  constructor
  · intro h1
    have hj : j ≤ 32 := by
      rcases Nat.lt_or_ge 32 j with h9 | h9
      · have h2 := mod_of_mod (i := 33) (by omega) h1
        omega
      · exact h9
    refine ⟨hj, ?_⟩
    have h3 : 2 ^ 32 % 2 ^ j = 0 := mod_of_mod hj (Nat.mod_self _)
    rwa [Nat.add_mod, h3, Nat.add_zero, Nat.mod_mod] at h1
  · rintro ⟨hj, h1⟩
    have h3 : 2 ^ 32 % 2 ^ j = 0 := mod_of_mod hj (Nat.mod_self _)
    rw [Nat.add_mod, h3, h1]
    simp
theorem best_min {low w : Nat} (hl : low < 2 ^ 32) (hw : 0 < w) (hw2 : w < 2 ^ 64) : min (Lib.ctz 64 (low + 2 ^ 32)) (Lib.bitLen w - 1) = bestK low w := by
  obtain ⟨g1, g2, g3⟩ := bestK_spec (low := low) hw
  have h1 : bestK low w ≤ min (Lib.ctz 64 (low + 2 ^ 32)) (Lib.bitLen w - 1) := Nat.le_min.2 ⟨(ctz_top hl).2 ⟨g1, g2.1⟩, (len_iff hw2 hw).2 g2.2⟩
  have h2 := (ctz_top (j := min (Lib.ctz 64 (low + 2 ^ 32)) (Lib.bitLen w - 1)) hl).1 (Nat.min_le_left _ _)
  have h3 := (len_iff (j := min (Lib.ctz 64 (low + 2 ^ 32)) (Lib.bitLen w - 1)) hw2 hw).1 (Nat.min_le_right _ _)
  have := g3 _ h2.1 ⟨h2.2, h3⟩
  omega
theorem best_min2 {low high : Nat} (hl : low ≤ high) (hh : high < 2 ^ 32) : min (Lib.ctz 64 (low + 2 ^ 32)) (Lib.bitLen (high + 1 - low) - 1) = bestK low (high + 1 - low) := by
  have h1 : high + 1 - low < 2 ^ 64 := by omega
  exact best_min (by omega) (by omega) h1
end Go.Proofs.YtceacooambpkdaaDoor
