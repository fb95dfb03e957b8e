/- Where two registries differ (no program in sight). -/
import Derived.Test.YtmbjonckigcgdaaDoorHisM
import Derived.Test.YtmbjonckigcgdaaDoorChnE
set_option linter.unusedSimpArgs false
set_option linter.unusedVariables false
namespace Go.Proofs.YtmbjonckigcgdaaDoor
open Eng
structure COk (g : Int → Prop) (u : Int) (l : List Ivl) : Prop where
  each : ∀ i, i < l.length → (l.getD i default).low < (l.getD i default).high ∧ (0 < i → (l.getD (i - 1) default).high < (l.getD i default).low) ∧ ∀ t, (l.getD i default).low ≤ t → t < (l.getD i default).high → g t
  last : 0 < l.length → (l.getD (l.length - 1) default).high ≤ u
  all : ∀ t, 0 ≤ t → t < u → g t → ∃ i, i < l.length ∧ (l.getD i default).low ≤ t ∧ t < (l.getD i default).high
theorem iv_set_eq {l : List Ivl} {i : Nat} (h : i < l.length) (o : Ivl) : (l.set i o).getD i default = o := by simp [List.getD, h]
theorem iv_set_ne {l : List Ivl} {i j : Nat} (h : i ≠ j) (o : Ivl) : (l.set i o).getD j default = l.getD j default := by simp [List.getD, List.getElem?_set, h]
theorem COk.step {g : Int → Prop} {u v p q : Int} {l : List Ivl} (h : COk g u l) (huv : u < v) (hf : ∀ t, u ≤ t → t < v → (g t ↔ p ≠ q)) : COk g v (cgStep l p q u v) := by
  unfold cgStep
  split
  · rename_i hpq
    refine ⟨h.each, fun h0 => by have := h.last h0; omega, fun t h0 h1 h2 => ?_⟩
    rcases Int.lt_or_le t u with h3 | h3
    · exact h.all t h0 h3 h2
    · exact absurd hpq ((hf t h3 h1).1 h2)
  · rename_i hpq
    split
    · rename_i he
      obtain ⟨hl, hu⟩ := he
      refine ⟨fun i hi => ?_, fun hi => ?_, fun t h0 h1 h2 => ?_⟩
      · rw [List.length_set] at hi
        obtain ⟨g1, g2, g3⟩ := h.each i hi
        by_cases hil : i = l.length - 1
        · rw [hil, iv_set_eq (by omega)]
          rw [hil] at g1 g2 g3
          refine ⟨by simp only; omega, fun h0 => ?_, fun t h1 h2 => ?_⟩
          · rw [iv_set_ne (by omega)]; exact g2 h0
          · simp only at h1 h2
            rcases Int.lt_or_le t u with h3 | h3
            · exact g3 t h1 (by omega)
            · exact (hf t h3 h2).2 hpq
        · rw [iv_set_ne (by omega)]
          refine ⟨g1, fun h0 => ?_, g3⟩
          rw [iv_set_ne (by omega)]
          exact g2 h0
      · rw [List.length_set, iv_set_eq (by omega)]
        exact Int.le_refl _
      · rw [List.length_set]
        have g1 := (h.each (l.length - 1) (by omega)).1
        rcases Int.lt_or_le t u with h3 | h3
        · obtain ⟨i, hi, k1, k2⟩ := h.all t h0 h3 h2
          by_cases hil : i = l.length - 1
          · refine ⟨l.length - 1, by omega, ?_, ?_⟩
            · rw [iv_set_eq (by omega)]; rw [hil] at k1; exact k1
            · rw [iv_set_eq (by omega)]; exact h1
          · exact ⟨i, hi, by rw [iv_set_ne (by omega)]; exact k1, by rw [iv_set_ne (by omega)]; exact k2⟩
        · refine ⟨l.length - 1, by omega, ?_, ?_⟩
          · rw [iv_set_eq (by omega)]; simp only; omega
          · rw [iv_set_eq (by omega)]; exact h1
    · rename_i he
      have hlt : 0 < l.length → (l.getD (l.length - 1) default).high < u := fun h0 => by
        have h1 := h.last h0
        have h2 : (l.getD (l.length - 1) default).high ≠ u := fun h3 => he ⟨h0, h3⟩
        omega
      refine ⟨fun i hi => ?_, fun hi => ?_, fun t h0 h1 h2 => ?_⟩
      · rw [List.length_append, List.length_singleton] at hi
        by_cases hil : i = l.length
        · subst hil
          rw [getD_app_r]
          refine ⟨huv, fun h0 => ?_, fun t h1 h2 => (hf t h1 h2).2 hpq⟩
          rw [getD_app_l (by omega)]
          exact hlt h0
        · rw [getD_app_l (by omega)]
          obtain ⟨g1, g2, g3⟩ := h.each i (by omega)
          refine ⟨g1, fun h0 => ?_, g3⟩
          rw [getD_app_l (by omega)]
          exact g2 h0
      · rw [List.length_append, List.length_singleton, Nat.add_sub_cancel, getD_app_r]
        exact Int.le_refl _
      · rw [List.length_append, List.length_singleton]
        rcases Int.lt_or_le t u with h3 | h3
        · obtain ⟨i, hi, k1, k2⟩ := h.all t h0 h3 h2
          exact ⟨i, by omega, by rw [getD_app_l hi]; exact k1, by rw [getD_app_l hi]; exact k2⟩
        · exact ⟨l.length, by omega, by rw [getD_app_r]; exact h3, by rw [getD_app_r]; exact h1⟩
theorem chg_ok {a : Nat} {es fs : List Ent} {ts : List Int} (ho : TsOk ts) (hm : ∀ x ∈ ftL a es, x ∈ ts) (hm' : ∀ x ∈ ftL a fs, x ∈ ts) : ∀ k, k < ts.length → COk (fun t => pvd a t es ≠ pvd a t fs) (ts.getD k 0) (chg a es fs ts k)
  | 0, _ => ⟨fun i hi => absurd hi (Nat.not_lt_zero _), fun hi => absurd hi (Nat.lt_irrefl _), fun t h0 h1 => by rw [ho.2.2.1] at h1; omega⟩
  | k + 1, hk => by
    have ih := chg_ok ho hm hm' k (by omega)
    unfold chg
    refine ih.step (asc_lt ho.1 (Nat.lt_succ_self k) hk) fun t h0 h1 => ?_
    show pvd a t es ≠ pvd a t fs ↔ _
    have e1 : pvd a t es = pvd a (ts.getD k 0) es := by unfold pvd; rw [pvd_const ho.1 hm hk h0 h1]
    have e2 : pvd a t fs = pvd a (ts.getD k 0) fs := by unfold pvd; rw [pvd_const ho.1 hm' hk h0 h1]
    rw [e1, e2]
theorem chgL_ok {a : Nat} {p q : RgP} (hp : RegOk p.es) (hq : RegOk q.es) : COk (fun t => pvd a t p.es ≠ pvd a t q.es) 1125899906842624 (chgL a p q) := by
  have ho := timesL_ok a [p, q] fun r h => by
    rcases List.mem_cons.1 h with rfl | h
    · exact hp
    · rw [List.mem_singleton.1 h]; exact hq
  have hm : ∀ x ∈ ftL a p.es, x ∈ timesL a [p, q] := fun x hx => (timesL_mem a [p, q] x).2 (.inr (.inr (by unfold ftsL; simp [hx])))
  have hm' : ∀ x ∈ ftL a q.es, x ∈ timesL a [p, q] := fun x hx => (timesL_mem a [p, q] x).2 (.inr (.inr (by unfold ftsL; simp [hx])))
  unfold chgL
  rw [if_pos ⟨hp, hq⟩]
  have h := chg_ok ho hm hm' ((timesL a [p, q]).length - 1) (by have := ho.2.1; omega)
  rw [ho.2.2.2] at h
  exact h
theorem chg_same (a : Nat) (es : List Ent) (ts : List Int) : ∀ k, chg a es es ts k = []
  | 0 => rfl
  | k + 1 => by unfold chg cgStep; rw [if_pos rfl, chg_same a es ts k]
theorem chgL_same (a : Nat) (p q : RgP) (h : p.es = q.es) : chgL a p q = [] := by
  unfold chgL
  rw [h]
  split
  · exact chg_same _ _ _ _
  · rfl
def inFirst (l : List Ivl) (t : Int) (i : Nat) : Bool := (l.take i).any fun o => decide (o.low ≤ t ∧ t < o.high)
theorem inFirst_step {l : List Ivl} {t : Int} {i : Nat} (h : i < l.length) : inFirst l t (i + 1) = (inFirst l t i || decide ((l.getD i default).low ≤ t ∧ t < (l.getD i default).high)) := by
  unfold inFirst
  have e : l.getD i default = l[i] := by simp [List.getD, h]
  rw [List.take_succ_eq_append_getElem h, List.any_append, e]
  simp
theorem COk.first {g : Int → Prop} {u t : Int} {l : List Ivl} (h : COk g u l) (h0 : 0 ≤ t) (h1 : t < u) : inFirst l t l.length = true ↔ g t := by
  unfold inFirst
  rw [List.take_length, List.any_eq_true]
  constructor
  · rintro ⟨o, ho, hd⟩
    obtain ⟨i, hi, rfl⟩ := List.getElem_of_mem ho
    rw [decide_eq_true_eq] at hd
    have e : l.getD i default = l[i] := by simp [List.getD, hi]
    have := (h.each i hi).2.2 t
    rw [e] at this
    exact this hd.1 hd.2
  · intro hg
    obtain ⟨i, hi, k1, k2⟩ := h.all t h0 h1 hg
    have e : l.getD i default = l[i] := by simp [List.getD, hi]
    rw [e] at k1 k2
    exact ⟨l[i], List.getElem_mem hi, decide_eq_true ⟨k1, k2⟩⟩
end Go.Proofs.YtmbjonckigcgdaaDoor
