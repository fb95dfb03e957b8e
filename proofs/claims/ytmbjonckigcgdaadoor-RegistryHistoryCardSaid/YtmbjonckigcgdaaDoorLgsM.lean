/- What RegistryLongest asks of the entry that is found (no program in sight). -/
import Derived.Test.YtmbjonckigcgdaaDoorLkpE
import Derived.Test.YtmbjonckigcgdaaDoorPvrE
set_option linter.unusedSimpArgs false
set_option linter.unusedVariables false
namespace Go.Proofs.YtmbjonckigcgdaaDoor
open Eng
def anyB (a : Nat) (t : Int) (es : List Ent) (i : Nat) : Bool := (es.take i).any (applies a t)
theorem anyB_step {a : Nat} {t : Int} {es : List Ent} {i : Nat} (h : i < es.length) : anyB a t es (i + 1) = (anyB a t es i || applies a t (es.getD i default)) := by
  unfold anyB
  rw [List.take_succ_eq_append_getElem h, List.any_append, getD_lt h]
  simp
theorem anyB_all (a : Nat) (t : Int) (es : List Ent) : anyB a t es es.length = (lkp a t es).isSome := by
  unfold anyB
  rw [List.take_length]
  have h := lkp_best a t es
  cases hb : lkp a t es with
  | none =>
    rw [hb] at h
    rw [Option.isSome_none, List.any_eq_false]
    exact fun e he => by rw [h e he]; simp
  | some x =>
    rw [hb] at h
    rw [Option.isSome_some, List.any_eq_true]
    exact ⟨x, h.1, h.2.1⟩
theorem lkp_longest {a : Nat} {t : Int} {es : List Ent} {i : Nat} (h : i < es.length) (ha : applies a t (es.getD i default) = true) : (lkp a t es).isSome = true ∧ (es.getD i default).len ≤ (optE (lkp a t es)).len := by
  have hB := lkp_best a t es
  have hm : es.getD i default ∈ es := by rw [getD_lt h]; exact List.getElem_mem h
  cases hb : lkp a t es with
  | none => rw [hb] at hB; rw [hB _ hm] at ha; cases ha
  | some x => rw [hb] at hB; exact ⟨rfl, hB.2.2 _ hm ha⟩
theorem lkp_applies {a : Nat} {t : Int} {es : List Ent} (h : (lkp a t es).isSome = true) : applies a t (optE (lkp a t es)) = true ∧ optE (lkp a t es) ∈ es := by
  have hB := lkp_best a t es
  cases hb : lkp a t es with
  | none => rw [hb] at h; cases h
  | some x => rw [hb] at hB; exact ⟨hB.2.1, hB.1⟩
theorem applies_iff {a : Nat} {t : Int} {e : Ent} : applies a t e = true ↔ cont e.pr a = true ∧ e.from_ ≤ t ∧ t < e.to_ := by
  unfold applies
  rw [Bool.and_eq_true, decide_eq_true_eq]
  exact ⟨fun h => ⟨h.2, h.1⟩, fun h => ⟨h.2, h.1⟩⟩
theorem optE_ok {es : List Ent} (h : esOk es) (a : Nat) (t : Int) : eOk (optE (lkp a t es)) := by
  have hB := lkp_best a t es
  cases hb : lkp a t es with
  | none => exact (by decide : (0 : Nat) < 2 ^ 32)
  | some x => rw [hb] at hB; exact h x hB.1
theorem lkV_eq {es : List Ent} (h : RegOk es) (a : Nat) (t : Int) : lkV a t es = lkp a t es := by unfold lkV; rw [if_pos h]
end Go.Proofs.YtmbjonckigcgdaaDoor
