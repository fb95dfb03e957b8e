import Derived.Test.YtabgkfjfmjdfiaaGreatDoorZSub

/- Bounds of sums and products; Same at equal numbers; the length of a number's slice. -/
set_option linter.unusedSectionVars false
set_option linter.unusedSimpArgs false
set_option linter.unusedVariables false
namespace Go.Proofs.YtabgkfjfmjdfiaaGreatDoor.Zn
open Go.RowKit Lmb
variable [Zone]
omit [Zone] in
theorem mul_pw {m n a b : Nat} (h : (m : Int) < pw a) (k : (n : Int) < pw b) : ((m * n : Nat) : Int) < pw (a + b) := by
  rw [pw_add, Int.natCast_mul]
  have h1 := pw_pos a
  have h2 : (m : Int) * (n : Int) ≤ (m : Int) * pw b := Int.mul_le_mul_of_nonneg_left (by omega) (by omega)
  have h3 : (m : Int) * pw b < pw a * pw b := Int.mul_lt_mul_of_pos_right h (pw_pos b)
  omega
theorem NatAt.len {w : World} {v : Value} {n : Nat} (h : NatAt w v n) : ∃ ad k c, v = .slice ad k c ∧ (k = 0 ↔ n = 0) := by
  obtain ⟨xs, ⟨ad, cap, rfl, _⟩, hd⟩ := h
  exact ⟨ad, xs.length, cap, rfl, hd.len_zero⟩
end Go.Proofs.YtabgkfjfmjdfiaaGreatDoor.Zn
