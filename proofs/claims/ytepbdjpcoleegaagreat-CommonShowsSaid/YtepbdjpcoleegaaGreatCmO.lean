import Derived.Test.YtepbdjpcoleegaaGreatCmD

/- The order of evidence (no program in sight). -/
set_option linter.unusedSimpArgs false
set_option linter.unusedVariables false
namespace Go.Proofs.YtepbdjpcoleegaaGreat
open Eng
theorem cmpIds_zero : ∀ {l m : List Idn}, cmpIds l m = 0 ↔ l = m
 | [], [] => by simp [cmpIds]
 | [], _ :: _ => by simp [cmpIds]
 | _ :: _, [] => by simp [cmpIds]
 | x :: l, y :: m => by
  unfold cmpIds
  by_cases h : idnCmpI x y = 0
  ·rw [if_neg (by simp [h]), cmpIds_zero]
   have := idnCmpI_zero.1 h
   subst this
   simp
  ·rw [if_pos h]
   constructor
   ·intro h2; exact absurd h2 h
   ·intro h2
    simp only [List.cons.injEq] at h2
    exact absurd (idnCmpI_zero.2 h2.1) h
def lex3 (p q r w : Int) : Int := if p ≠ 0 then p else if q ≠ 0 then q else if r ≠ 0 then r else w
theorem evCmp_lex (e f : Evd) : evCmp e f = lex3 (ordI e.kind f.kind) (ordI e.a f.a) (ordI e.b f.b) (cmpIds e.ids f.ids) := by
 unfold evCmp lex3 orL orL orL orL orL
 by_cases h : cmpIds e.ids f.ids = 0
 ·simp [h]
 ·simp [h]
theorem evCmp_zero (e f : Evd) : evCmp e f = 0 ↔ e.kind = f.kind ∧ e.a = f.a ∧ e.b = f.b ∧ e.ids = f.ids := by
 rw [evCmp_lex]
 unfold lex3
 by_cases h1 : ordI e.kind f.kind = 0
 ·rw [if_neg (by simp [h1])]
  by_cases h2 : ordI e.a f.a = 0
  ·rw [if_neg (by simp [h2])]
   by_cases h3 : ordI e.b f.b = 0
   ·rw [if_neg (by simp [h3]), cmpIds_zero]
    rw [ordI_zero] at h1 h2 h3
    simp [h1, h2, h3]
   ·rw [if_pos h3]
    exact ⟨fun h => absurd h h3, fun h => absurd (ordI_zero.2 h.2.2.1) h3⟩
  ·rw [if_pos h2]
   exact ⟨fun h => absurd h h2, fun h => absurd (ordI_zero.2 h.2.1) h2⟩
 ·rw [if_pos h1]
  exact ⟨fun h => absurd h h1, fun h => absurd (ordI_zero.2 h.1) h1⟩
end Go.Proofs.YtepbdjpcoleegaaGreat
