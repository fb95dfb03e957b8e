import Derived.Test.YtabgkfjfmjdfiaaGreatDoorEv

/- The digits of a number, as bytes. -/
set_option linter.unusedSimpArgs false
set_option linter.unusedVariables false
namespace Go.Proofs.YtabgkfjfmjdfiaaGreatDoor
open Eng
def decB (n : Nat) : ByteArray := if h : n < 10 then bytesOf [48 + (n : Int)] else decB (n / 10) ++ bytesOf [48 + ((n % 10 : Nat) : Int)]
theorem decB_small {n : Nat} (h : n < 10) : decB n = bytesOf [48 + (n : Int)] := by rw [decB, dif_pos h]
theorem decB_big {n : Nat} (h : ¬ n < 10) : decB n = decB (n / 10) ++ bytesOf [48 + ((n % 10 : Nat) : Int)] := by rw [decB, dif_neg h]
theorem bytesOf_one (z : Int) : (bytesOf [z]).size = 1 := rfl
theorem decB_size : ∀ (k n : Nat), n < 10 ^ (k + 1) → (decB n).size ≤ k + 1 ∧ 1 ≤ (decB n).size
  | 0, n, h => by
    rw [decB_small (by simpa using h), bytesOf_one]
    exact ⟨Nat.le_refl _, Nat.le_refl _⟩
  | k + 1, n, h => by
    by_cases h9 : n < 10
    · rw [decB_small h9, bytesOf_one]; omega
    · rw [decB_big h9, ByteArray.size_append, bytesOf_one]
      have := decB_size k (n / 10) (by
        rw [Nat.pow_succ] at h
        exact Nat.div_lt_of_lt_mul (by omega))
      omega
end Go.Proofs.YtabgkfjfmjdfiaaGreatDoor
