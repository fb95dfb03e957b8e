import Derived.Test.YtfeiiadligkamaaGreatResOrd

/- Pairs of addresses: their fields, their order (no program in sight). -/
namespace Go.Proofs.YtfeiiadligkamaaGreat
open Eng
structure Par where
 a : Int
 b : Int
 deriving DecidableEq
instance : Inhabited Par := ⟨⟨0, 0⟩⟩
def Par.cs (s : Par) : List SV := [.i .u32 s.a, .i .u32 s.b]
def Par.keys (s : Par) : List Int := [s.a, s.b]
def parCmpI (a b : Par) : Int := cmpL a.keys b.keys
def parLt (a b : Par) : Bool := decide (parCmpI a b < 0)
theorem parKeys_inj {a b : Par} (h : a.keys = b.keys) : a = b := by
 cases a; cases b
 simp only [Par.keys, List.cons.injEq, and_true] at h
 obtain ⟨rfl, rfl⟩ := h
 rfl
theorem parCmpI_zero {a b : Par} : parCmpI a b = 0 ↔ a = b := ⟨fun h => parKeys_inj ((cmpL_zero a.keys b.keys rfl).1 h), fun h => by subst h; exact cmpL_self _⟩
theorem parLt_irrefl (x : Par) : parLt x x = false := by unfold parLt parCmpI; rw [cmpL_self]; rfl
theorem parLt_trans (x y z : Par) (h : parLt x y = true) (k : parLt y z = true) : parLt x z = true := by
 unfold parLt at *
 simp only [decide_eq_true_eq] at *
 exact cmpL_trans x.keys y.keys z.keys rfl rfl h k
theorem parLt_total (x y : Par) : parLt x y = true ∨ x = y ∨ parLt y x = true := by
 unfold parLt
 simp only [decide_eq_true_eq]
 have h1 : parCmpI y x = - parCmpI x y := cmpL_neg _ _
 rcases cmpL_vals x.keys y.keys with h | h | h
 ·exact .inl (by unfold parCmpI; omega)
 ·exact .inr (.inl (parCmpI_zero.1 h))
 ·exact .inr (.inr (by rw [h1]; unfold parCmpI; omega))
end Go.Proofs.YtfeiiadligkamaaGreat
