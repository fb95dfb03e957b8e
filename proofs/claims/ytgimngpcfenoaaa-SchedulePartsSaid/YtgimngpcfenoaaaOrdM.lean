/- Orders of lists of ints, the first that differs counts (no program in sight). -/
import Derived.Sort.Statements
namespace Go.Proofs.Ytgimngpcfenoaaa
open Go.Sort
def ordI (a b : Int) : Int := if a < b then -1 else if b < a then 1 else 0
def orL : List Int → Int
  | [] => 0
  | x :: l => if x ≠ 0 then x else orL l
def cmpL (a b : List Int) : Int := orL (List.zipWith ordI a b)
theorem ordI_neg (a b : Int) : ordI b a = - ordI a b := by unfold ordI; split <;> split <;> omega
theorem ordI_zero {a b : Int} : ordI a b = 0 ↔ a = b := by unfold ordI; split <;> (try split) <;> omega
theorem ordI_lt {a b : Int} : ordI a b < 0 ↔ a < b := by unfold ordI; split <;> (try split) <;> omega
theorem ordI_vals (a b : Int) : ordI a b = -1 ∨ ordI a b = 0 ∨ ordI a b = 1 := by unfold ordI; split <;> (try split) <;> simp
theorem cmpL_cons (x : Int) (a : List Int) (y : Int) (b : List Int) : cmpL (x :: a) (y :: b) = if x = y then cmpL a b else ordI x y := by
  unfold cmpL
  simp only [List.zipWith_cons_cons, orL, ne_eq, ite_not, ordI_zero]
theorem cmpL_neg : ∀ (a b : List Int), cmpL b a = - cmpL a b
  | [], [] => rfl
  | [], _ :: _ => rfl
  | _ :: _, [] => rfl
  | x :: a, y :: b => by
    rw [cmpL_cons, cmpL_cons, cmpL_neg a b, ordI_neg x y]
    by_cases h : x = y
    · simp [h]
    · simp [h, Ne.symm h]
theorem cmpL_zero : ∀ (a b : List Int), a.length = b.length → (cmpL a b = 0 ↔ a = b)
  | [], [], _ => by simp [cmpL, orL]
  | [], _ :: _, h => by simp at h
  | _ :: _, [], h => by simp at h
  | x :: a, y :: b, h => by
    rw [cmpL_cons]
    by_cases e : x = y
    · simp [e, cmpL_zero a b (by simpa using h)]
    · simp [e, ordI_zero]
theorem cmpL_self (a : List Int) : cmpL a a = 0 := (cmpL_zero a a rfl).2 rfl
theorem cmpL_vals : ∀ (a b : List Int), cmpL a b = -1 ∨ cmpL a b = 0 ∨ cmpL a b = 1
  | [], [] => .inr (.inl rfl)
  | [], _ :: _ => .inr (.inl rfl)
  | _ :: _, [] => .inr (.inl rfl)
  | x :: a, y :: b => by
    rw [cmpL_cons]
    split
    · exact cmpL_vals a b
    · exact ordI_vals x y
theorem cmpL_trans : ∀ (a b c : List Int), a.length = b.length → b.length = c.length → cmpL a b < 0 → cmpL b c < 0 → cmpL a c < 0
  | [], b, c, _, _, h, _ => by
    have : cmpL [] b = 0 := by cases b <;> rfl
    omega
  | x :: a, [], c, h, _, _, _ => by simp at h
  | x :: a, y :: b, [], _, h, _, _ => by simp at h
  | x :: a, y :: b, z :: c, h1, h2, h, k => by
    rw [cmpL_cons] at *
    by_cases e : x = y
    · by_cases e2 : y = z
      · subst e; subst e2
        simp only [if_true] at *
        exact cmpL_trans a b c (by simpa using h1) (by simpa using h2) h k
      · subst e
        simp only [if_neg e2] at *
        exact k
    · by_cases e2 : y = z
      · subst e2
        simp only [if_neg e] at *
        exact h
      · simp only [if_neg e, if_neg e2, ordI_lt] at h k
        rw [if_neg (by omega), ordI_lt]
        omega
theorem cmpL_anti {a b : List Int} (h : a.length = b.length) : cmpL a b < 0 ∨ a = b ∨ cmpL b a < 0 := by
  rw [cmpL_neg a b]
  by_cases e : cmpL a b = 0
  · exact .inr (.inl ((cmpL_zero a b h).1 e))
  · omega
end Go.Proofs.Ytgimngpcfenoaaa
