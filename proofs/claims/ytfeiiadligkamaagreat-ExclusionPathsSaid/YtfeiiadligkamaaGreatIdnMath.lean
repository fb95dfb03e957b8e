import Derived.Test.YtfeiiadligkamaaGreatResOrd

/- Identities: their fields, their order (no program in sight). -/
namespace Go.Proofs.YtfeiiadligkamaaGreat
open Eng
structure Idn where
 van : Int
 run : Int
 num : Int
 deriving DecidableEq
instance : Inhabited Idn := ⟨⟨0, 0, 0⟩⟩
def Idn.cs (s : Idn) : List SV := [.i .i64 s.van, .i .i64 s.run, .i .i64 s.num]
def Idn.keys (s : Idn) : List Int := [s.van, s.run, s.num]
def idnCmpI (a b : Idn) : Int := cmpL a.keys b.keys
def idnLt (a b : Idn) : Bool := decide (idnCmpI a b < 0)
theorem idnKeys_inj {a b : Idn} (h : a.keys = b.keys) : a = b := by
 cases a; cases b
 simp only [Idn.keys, List.cons.injEq, and_true] at h
 obtain ⟨rfl, rfl, rfl⟩ := h
 rfl
theorem idnCmpI_zero {a b : Idn} : idnCmpI a b = 0 ↔ a = b := ⟨fun h => idnKeys_inj ((cmpL_zero a.keys b.keys rfl).1 h), fun h => by subst h; exact cmpL_self _⟩
theorem idnLt_irrefl (x : Idn) : idnLt x x = false := by unfold idnLt idnCmpI; rw [cmpL_self]; rfl
theorem idnLt_trans (x y z : Idn) (h : idnLt x y = true) (k : idnLt y z = true) : idnLt x z = true := by
 unfold idnLt at *
 simp only [decide_eq_true_eq] at *
 exact cmpL_trans x.keys y.keys z.keys rfl rfl h k
theorem idnLt_total (x y : Idn) : idnLt x y = true ∨ x = y ∨ idnLt y x = true := by
 unfold idnLt
 simp only [decide_eq_true_eq]
 have h1 : idnCmpI y x = - idnCmpI x y := cmpL_neg _ _
 rcases cmpL_vals x.keys y.keys with h | h | h
 ·exact .inl (by unfold idnCmpI; omega)
 ·exact .inr (.inl (idnCmpI_zero.1 h))
 ·exact .inr (.inr (by rw [h1]; unfold idnCmpI; omega))
theorem idnLt_swo : Go.Sort.SWO idnLt := by
 refine ⟨idnLt_irrefl, idnLt_trans, fun x y z h k => ?_⟩
 cases hz : idnLt x z with
 | false => rfl
 | true =>
  rcases idnLt_total x y with h1 | h1 | h1
  ·rw [h1] at h; cases h
  ·subst h1; rw [k] at hz; cases hz
  ·rw [idnLt_trans y x z h1 hz] at k; cases k
def compactN : List Idn → List Idn
 | [] => []
 | [x] => [x]
 | x :: y :: l => if x = y then compactN (y :: l) else x :: compactN (y :: l)
theorem compactN_mem : ∀ (l : List Idn) (r : Idn), r ∈ compactN l ↔ r ∈ l
 | [], r => by simp [compactN]
 | [x], r => by simp [compactN]
 | x :: y :: l, r => by
  unfold compactN
  have ih := compactN_mem (y :: l) r
  split
  ·rename_i e; subst e; rw [ih]; simp
  ·simp only [List.mem_cons] at ih ⊢; rw [ih]
theorem compactN_asc : ∀ (l : List Idn), l.Pairwise (fun a b => idnLt b a = false) → (compactN l).Pairwise fun a b => idnLt a b = true
 | [], _ => by simp [compactN]
 | [x], _ => by simp [compactN]
 | x :: y :: l, h => by
  have h1 := List.pairwise_cons.1 h
  have ih := compactN_asc (y :: l) h1.2
  unfold compactN
  split
  ·exact ih
  ·rename_i hne
   refine List.pairwise_cons.2 ⟨fun b hb => ?_, ih⟩
   have hxy : idnLt x y = true := by
    rcases idnLt_total x y with h | h | h
    ·exact h
    ·exact absurd h hne
    ·rw [h1.1 y (by simp)] at h; cases h
   have hb' := (compactN_mem (y :: l) b).1 hb
   rcases List.mem_cons.1 hb' with e | hb'
   ·rw [e]; exact hxy
   ·have hyb := (List.pairwise_cons.1 h1.2).1 b hb'
    rcases idnLt_total y b with h | h | h
    ·exact idnLt_trans _ _ _ hxy h
    ·rw [← h]; exact hxy
    ·rw [hyb] at h; cases h
theorem compactN_le : ∀ l : List Idn, (compactN l).length ≤ l.length
 | [] => Nat.le_refl _
 | [x] => Nat.le_refl _
 | x :: y :: l => by
  have ih := compactN_le (y :: l)
  unfold compactN
  split
  ·simp only [List.length_cons] at ih ⊢; omega
  ·simp only [List.length_cons] at ih ⊢; omega
end Go.Proofs.YtfeiiadligkamaaGreat
