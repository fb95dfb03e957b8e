/- The other end of a subnet, plain. -/
import Derived.Test.YtceacooambpkdaaDoorSpeE
namespace Go.Proofs.YtceacooambpkdaaDoor
open Go.Sort Eng

def mateP (a : Nat) (n : Int) : Nat × Int :=
  if n = 31 then (a ^^^ 1, 0) else if n ≠ 30 then (0, 1) else if a % 4 = 0 ∨ a % 4 = 3 then (0, 10) else (a ^^^ 3, 0)
theorem mateN_eq (a : Nat) (n : Int) : mateN a n = tupL [.i .u32 ((mateP a n).1 : Nat), .i .i64 (mateP a n).2] := by
  unfold mateN mateP
  repeat' split
  all_goals first | rfl | contradiction
theorem mateP_lt {a : Nat} (ha : a < 2 ^ 32) (n : Int) : (mateP a n).1 < 2 ^ 32 := by
  unfold mateP
  repeat' split
  · exact xor_lt32 (b := 1) ha (by decide)
  · exact (by decide : (0 : Nat) < 2 ^ 32)
  · exact (by decide : (0 : Nat) < 2 ^ 32)
  · exact xor_lt32 (b := 3) ha (by decide)
theorem xor_self2 (a b : Nat) : (a ^^^ b) ^^^ b = a := by rw [Nat.xor_assoc, Nat.xor_self, Nat.xor_zero]
theorem com_le {a b m : Nat} (ha : a < 2 ^ 32) (hb : b < 2 ^ 32) (h : a / 2 ^ m = b / 2 ^ m) : (32 : Int) - m ≤ (comP a b).len := by
  have hk : a / 2 ^ 32 = b / 2 ^ 32 := by omega
  have h3 := (comK_spec a b 32 hk).2.2
  have : comK a b 32 ≤ m := Nat.le_of_not_lt fun hlt => h3 m hlt h
  unfold comP
  simp only
  omega
theorem xor3_mod (a : Nat) : (a ^^^ 3) % 4 = 3 - a % 4 := by
  have h1 : (a ^^^ 3) % 2 ^ 2 = a % 2 ^ 2 ^^^ 3 % 2 ^ 2 := Nat.xor_mod_two_pow
  have h2 : a % 4 < 4 := Nat.mod_lt _ (by decide)
  show (a ^^^ 3) % 2 ^ 2 = 3 - a % 4
  rw [h1]
  show a % 4 ^^^ 3 = 3 - a % 4
  rcases (show a % 4 = 0 ∨ a % 4 = 1 ∨ a % 4 = 2 ∨ a % 4 = 3 by omega) with h | h | h | h <;> rw [h] <;> decide
/-- the other end of the other end -/
theorem mate_back {a : Nat} (ha : a < 2 ^ 32) {n : Int} (h : (mateP a n).2 = 0) : mateP (mateP a n).1 n = (a, 0) ∧ 30 ≤ (comP a (mateP a n).1).len := by
  have hx := mateP_lt ha n
  by_cases h31 : n = 31
  · subst h31
    have e : (mateP a 31).1 = a ^^^ 1 := rfl
    rw [e] at hx ⊢
    refine ⟨?_, ?_⟩
    · show ((a ^^^ 1) ^^^ 1, (0 : Int)) = _
      rw [xor_self2]
    · have := com_le (m := 1) ha hx (by rw [xor_div]; simp)
      omega
  · by_cases h30 : n = 30
    · subst h30
      have e : mateP a 30 = if a % 4 = 0 ∨ a % 4 = 3 then (0, 10) else (a ^^^ 3, 0) := rfl
      have e' : ∀ x, mateP x 30 = if x % 4 = 0 ∨ x % 4 = 3 then (0, 10) else (x ^^^ 3, 0) := fun _ => rfl
      by_cases h4 : a % 4 = 0 ∨ a % 4 = 3
      · rw [e, if_pos h4] at h; simp at h
      · rw [e, if_neg h4] at hx ⊢
        simp only at hx ⊢
        have hm := xor3_mod a
        refine ⟨?_, ?_⟩
        · rw [e', if_neg (by omega), xor_self2]
        · have := com_le (m := 2) ha hx (by rw [xor_div]; simp)
          omega
    · unfold mateP at h
      rw [if_neg h31, if_pos h30] at h
      simp at h
end Go.Proofs.YtceacooambpkdaaDoor
