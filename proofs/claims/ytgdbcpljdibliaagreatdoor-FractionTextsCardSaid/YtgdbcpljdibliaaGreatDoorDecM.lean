/- The digits of a number, as bytes. -/
import Derived.Test.YtgdbcpljdibliaaGreatDoorEv
set_option linter.unusedSimpArgs false
set_option linter.unusedVariables false
namespace Go.Proofs.YtgdbcpljdibliaaGreatDoor
open Eng
def decB (n : Nat) : ByteArray := if h : n < 10 then bytesOf [48 + (n : Int)] else decB (n / 10) ++ bytesOf [48 + ((n % 10 : Nat) : Int)]
theorem decB_small {n : Nat} (h : n < 10) : decB n = bytesOf [48 + (n : Int)] := by rw [decB, dif_pos h]
theorem decB_big {n : Nat} (h : ¬ n < 10) : decB n = decB (n / 10) ++ bytesOf [48 + ((n % 10 : Nat) : Int)] := by rw [decB, dif_neg h]
theorem bytesOf_one (z : Int) : (bytesOf [z]).size = 1 := rfl
theorem decB_size : ∀ (k n : Nat), n < 10 ^ (k + 1) → (decB n).size ≤ k + 1 ∧ 1 ≤ (decB n).size
  | 0, n, h => by
    rw [decB_small (by simpa using h), bytesOf_one]
    exact ⟨Nat.le_refl _, Nat.le_refl _⟩
  | k + 1, n, h => by
    by_cases h9 : n < 10
    · rw [decB_small h9, bytesOf_one]; omega
    · rw [decB_big h9, ByteArray.size_append, bytesOf_one]
      have := decB_size k (n / 10) (by
        rw [Nat.pow_succ] at h
        exact Nat.div_lt_of_lt_mul (by omega))
      omega
theorem byteAt_app (a b : ByteArray) (h : 0 < a.size) : byteAt (a ++ b) 0 = byteAt a 0 := by
  unfold byteAt
  have h2 : 0 < (a ++ b).size := by rw [ByteArray.size_append]; omega
  rw [getElem?_pos (a ++ b) 0 h2, getElem?_pos a 0 h, ByteArray.getElem_append_left h]
theorem decB_first : ∀ (n : Nat), 0 < n → byteAt (decB n) 0 ≠ 48 := by
  intro n
  induction n using Nat.strongRecOn with
  | ind n ih =>
  intro h0
  by_cases h : n < 10
  · rw [decB_small h]
    have : n = 1 ∨ n = 2 ∨ n = 3 ∨ n = 4 ∨ n = 5 ∨ n = 6 ∨ n = 7 ∨ n = 8 ∨ n = 9 := by omega
    rcases this with rfl | rfl | rfl | rfl | rfl | rfl | rfl | rfl | rfl <;> decide
  · rw [decB_big h, byteAt_app _ _ (by have := (decB_size n (n / 10) (Nat.lt_of_le_of_lt (Nat.div_le_self _ _) (Nat.lt_trans (Nat.lt_succ_self n) (Nat.lt_pow_self (by decide))))).2; omega)]
    exact ih (n / 10) (by omega) (by omega)
theorem app_empty (a : ByteArray) : a ++ ByteArray.empty = a := by simp
end Go.Proofs.YtgdbcpljdibliaaGreatDoor
