import Derived.Test.YtepbdjpcoleegaaGreatResMath
import Derived.Sort.Statements

/- The order of results, what is a ledger of a set of results (no program in sight). -/
namespace Go.Proofs.YtepbdjpcoleegaaGreat
open Go.Sort
def ordI (a b : Int) : Int := if a < b then -1 else if b < a then 1 else 0
def orL : List Int → Int
 | [] => 0
 | x :: l => if x ≠ 0 then x else orL l
def cmpL (a b : List Int) : Int := orL (List.zipWith ordI a b)
def b2i (b : Bool) : Int := if b = true then 1 else 0
def Res.keys (r : Res) : List Int := [r.vantage, r.run, r.number, r.at_, r.dst, r.proto, r.flow, r.ttl, b2i r.answered, b2i r.doubled, r.back, r.from_, r.kind, r.code, r.left, r.id, r.quoted]
def resCompare (a b : Res) : Int := cmpL a.keys b.keys
def resLt (a b : Res) : Bool := decide (resCompare a b < 0)
theorem ordI_neg (a b : Int) : ordI b a = - ordI a b := by unfold ordI; split <;> split <;> omega
theorem ordI_zero {a b : Int} : ordI a b = 0 ↔ a = b := by unfold ordI; split <;> (try split) <;> omega
theorem ordI_lt {a b : Int} : ordI a b < 0 ↔ a < b := by unfold ordI; split <;> (try split) <;> omega
theorem ordI_vals (a b : Int) : ordI a b = -1 ∨ ordI a b = 0 ∨ ordI a b = 1 := by unfold ordI; split <;> (try split) <;> simp
theorem cmpL_cons (x : Int) (a : List Int) (y : Int) (b : List Int) : cmpL (x :: a) (y :: b) = if x = y then cmpL a b else ordI x y := by
 unfold cmpL
 simp only [List.zipWith_cons_cons, orL, ne_eq, ite_not, ordI_zero]
theorem cmpL_neg : ∀ (a b : List Int), cmpL b a = - cmpL a b
 | [], [] => rfl
 | [], _ :: _ => rfl
 | _ :: _, [] => rfl
 | x :: a, y :: b => by
  rw [cmpL_cons, cmpL_cons, cmpL_neg a b, ordI_neg x y]
  by_cases h : x = y
  ·simp [h]
  ·simp [h, Ne.symm h]
theorem cmpL_zero : ∀ (a b : List Int), a.length = b.length → (cmpL a b = 0 ↔ a = b)
 | [], [], _ => by simp [cmpL, orL]
 | [], _ :: _, h => by simp at h
 | _ :: _, [], h => by simp at h
 | x :: a, y :: b, h => by
  rw [cmpL_cons]
  by_cases e : x = y
  ·simp [e, cmpL_zero a b (by simpa using h)]
  ·simp [e, ordI_zero]
theorem cmpL_self (a : List Int) : cmpL a a = 0 := (cmpL_zero a a rfl).2 rfl
theorem cmpL_vals : ∀ (a b : List Int), cmpL a b = -1 ∨ cmpL a b = 0 ∨ cmpL a b = 1
 | [], [] => .inr (.inl rfl)
 | [], _ :: _ => .inr (.inl rfl)
 | _ :: _, [] => .inr (.inl rfl)
 | x :: a, y :: b => by
  rw [cmpL_cons]
  split
  ·exact cmpL_vals a b
  ·exact ordI_vals x y
theorem cmpL_trans : ∀ (a b c : List Int), a.length = b.length → b.length = c.length → cmpL a b < 0 → cmpL b c < 0 → cmpL a c < 0
 | [], b, c, _, _, h, _ => by
  have : cmpL [] b = 0 := by cases b <;> rfl
  omega
 | x :: a, [], c, h, _, _, _ => by simp at h
 | x :: a, y :: b, [], _, h, _, _ => by simp at h
 | x :: a, y :: b, z :: c, h1, h2, h, k => by
  rw [cmpL_cons] at *
  by_cases e : x = y
  ·by_cases e2 : y = z
   ·subst e; subst e2
    simp only [if_true] at *
    exact cmpL_trans a b c (by simpa using h1) (by simpa using h2) h k
   ·subst e
    simp only [if_neg e2] at *
    exact k
  ·by_cases e2 : y = z
   ·subst e2
    simp only [if_neg e] at *
    exact h
   ·simp only [if_neg e, if_neg e2, ordI_lt] at h k
    rw [if_neg (by omega), ordI_lt]
    omega
theorem b2i_inj {a b : Bool} (h : b2i a = b2i b) : a = b := by cases a <;> cases b <;> first | rfl | simp [b2i] at h
/-! ### A set of results in its order -/
structure Canon (c xs : List Res) : Prop where
 asc : c.Pairwise fun a b => resLt a b = true
 mem : ∀ r, r ∈ c ↔ r ∈ xs
def compact : List Res → List Res
 | [] => []
 | [x] => [x]
 | x :: y :: l => if x = y then compact (y :: l) else x :: compact (y :: l)
theorem compact_mem : ∀ (l : List Res) (r : Res), r ∈ compact l ↔ r ∈ l
 | [], r => by simp [compact]
 | [x], r => by simp [compact]
 | x :: y :: l, r => by
  unfold compact
  have ih := compact_mem (y :: l) r
  split
  ·rename_i e; subst e
   rw [ih]; simp
  ·rw [List.mem_cons, ih, List.mem_cons (l := y :: l)]
/-! ### Groups of one identity -/
structure Cft where
 vantage : Int
 run : Int
 number : Int
 l : List Res
 deriving DecidableEq
structure Led where
 rs : List Res
 cs : List Cft
 deriving DecidableEq
def several : List Res → Option Cft
 | [] => none
 | [_] => none
 | r :: s :: g => some ⟨r.vantage, r.run, r.number, r :: s :: g⟩
def Led.all (l : Led) : List Res := l.rs ++ (l.cs.map (·.l)).flatten
def Led.size (l : Led) : Nat := l.all.length
end Go.Proofs.YtepbdjpcoleegaaGreat
