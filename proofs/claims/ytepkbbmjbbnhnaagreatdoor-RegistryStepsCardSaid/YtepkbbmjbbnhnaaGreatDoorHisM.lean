/- What a history is (no program in sight): whole, without neighbours of one provider, and right at each time; where two registries differ. -/
import Derived.Test.YtepkbbmjbbnhnaaGreatDoorAwrM
import Derived.Test.YtepkbbmjbbnhnaaGreatDoorHisE
set_option linter.unusedSimpArgs false
set_option linter.unusedVariables false
namespace Go.Proofs.YtepkbbmjbbnhnaaGreatDoor
open Eng
/-! ### The times -/
theorem compactI_mem : ∀ (l : List Int) (x : Int), x ∈ compactI l ↔ x ∈ l
  | [], x => Iff.rfl
  | [y], x => Iff.rfl
  | y :: z :: l, x => by
    unfold compactI
    have ih := compactI_mem (z :: l) x
    split
    · rename_i h
      rw [ih]
      subst h
      simp
    · rw [List.mem_cons, ih, List.mem_cons (a := x) (b := y)]
theorem compactI_asc : ∀ l : List Int, l.Pairwise (· ≤ ·) → (compactI l).Pairwise (· < ·)
  | [], _ => List.Pairwise.nil
  | [y], _ => List.pairwise_singleton _ _
  | y :: z :: l, h => by
    rw [List.pairwise_cons] at h
    have ih := compactI_asc (z :: l) h.2
    unfold compactI
    split
    · exact ih
    · rename_i hne
      rw [List.pairwise_cons]
      refine ⟨fun x hx => ?_, ih⟩
      rw [compactI_mem] at hx
      have h1 := h.1 z (by simp)
      rcases List.mem_cons.1 hx with rfl | hx
      · omega
      · have h2 := (List.pairwise_cons.1 h.2).1 x hx
        omega
theorem timesL_asc (a : Nat) (rs : List RgP) : (timesL a rs).Pairwise (· < ·) := compactI_asc _ (sortI_sorted _)
theorem timesL_mem (a : Nat) (rs : List RgP) (x : Int) : x ∈ timesL a rs ↔ x = 0 ∨ x = 1125899906842624 ∨ x ∈ ftsL a rs := by
  unfold timesL
  rw [compactI_mem, (sortI_perm _).mem_iff]
  simp
theorem ftL_mem {a : Nat} {es : List Ent} {x : Int} (h : x ∈ ftL a es) : ∃ e ∈ es, x = e.from_ ∨ x = e.to_ := by
  unfold ftL at h
  obtain ⟨e, he, hx⟩ := List.mem_flatMap.1 h
  split at hx
  · exact ⟨e, he, by simpa using hx⟩
  · cases hx
theorem mem_ftL {a : Nat} {es : List Ent} {e : Ent} (he : e ∈ es) (hc : cont e.pr a = true) : e.from_ ∈ ftL a es ∧ e.to_ ∈ ftL a es := by
  unfold ftL
  constructor
  · exact List.mem_flatMap.2 ⟨e, he, by rw [if_pos hc]; simp⟩
  · exact List.mem_flatMap.2 ⟨e, he, by rw [if_pos hc]; simp⟩
def TsOk (ts : List Int) : Prop := ts.Pairwise (· < ·) ∧ 2 ≤ ts.length ∧ ts.getD 0 0 = 0 ∧ ts.getD (ts.length - 1) 0 = 1125899906842624
theorem asc_lt {ts : List Int} (h : ts.Pairwise (· < ·)) {i j : Nat} (hij : i < j) (hj : j < ts.length) : ts.getD i 0 < ts.getD j 0 := by
  have := List.pairwise_iff_getElem.1 h i j (by omega) hj hij
  simpa [List.getD, hj, show i < ts.length by omega] using this
theorem mem_at {ts : List Int} {x : Int} (h : x ∈ ts) : ∃ i, i < ts.length ∧ ts.getD i 0 = x := by
  obtain ⟨i, hi, rfl⟩ := List.getElem_of_mem h
  exact ⟨i, hi, by simp [List.getD, hi]⟩
theorem timesL_ok (a : Nat) (rs : List RgP) (h : ∀ r ∈ rs, RegOk r.es) : TsOk (timesL a rs) := by
  have hasc := timesL_asc a rs
  have hm := timesL_mem a rs
  generalize timesL a rs = ts at *
  have hb : ∀ x ∈ ts, 0 ≤ x ∧ x ≤ 1125899906842624 := fun x hx => by
    rcases (hm x).1 hx with rfl | rfl | hx
    · omega
    · omega
    · unfold ftsL at hx
      obtain ⟨r, hr, hx⟩ := List.mem_flatMap.1 hx
      obtain ⟨e, he, hx⟩ := ftL_mem hx
      have := (h r hr).ent e he
      obtain ⟨_, _, _, h4, h5, h6⟩ := this
      rcases hx with rfl | rfl <;> omega
  obtain ⟨i, hi, hi0⟩ := mem_at ((hm 0).2 (.inl rfl))
  obtain ⟨j, hj, hj0⟩ := mem_at ((hm 1125899906842624).2 (.inr (.inl rfl)))
  have at_mem : ∀ k, k < ts.length → ts.getD k 0 ∈ ts := fun k hk => getD_mem hk
  have hlen : 2 ≤ ts.length := by
    rcases Nat.lt_or_ge ts.length 2 with h2 | h2
    · obtain rfl : i = j := by omega
      rw [hi0] at hj0; cases hj0
    · exact h2
  refine ⟨hasc, hlen, ?_, ?_⟩
  · rcases Nat.eq_zero_or_pos i with rfl | h0
    · exact hi0
    · have h1 := asc_lt hasc h0 hi
      have h2 := hb _ (at_mem 0 (by omega))
      omega
  · rcases Nat.lt_or_ge j (ts.length - 1) with h0 | h0
    · have h1 := asc_lt hasc h0 (by omega)
      have h2 := hb _ (at_mem (ts.length - 1) (by omega))
      omega
    · obtain rfl : j = ts.length - 1 := by omega
      exact hj0
/-! ### Between two times nothing turns -/
theorem lkp_congr {a : Nat} {t t' : Int} {es : List Ent} (h : ∀ e ∈ es, applies a t e = applies a t' e) : lkp a t es = lkp a t' es := by
  unfold lkp
  generalize (none : Option Ent) = b
  induction es generalizing b with
  | nil => rfl
  | cons e es ih =>
    rw [List.foldl_cons, List.foldl_cons]
    have e1 : lkStep a t b e = lkStep a t' b e := by unfold lkStep; rw [h e (by simp)]
    rw [e1]
    exact ih (fun x hx => h x (by simp [hx])) _
theorem at_le {ts : List Int} (h : ts.Pairwise (· < ·)) {k : Nat} (hk : k + 1 < ts.length) {x t : Int} (hx : x ∈ ts) (h0 : ts.getD k 0 ≤ t) (h1 : t < ts.getD (k + 1) 0) : x ≤ t ↔ x ≤ ts.getD k 0 := by
  obtain ⟨i, hi, rfl⟩ := mem_at hx
  constructor
  · intro h2
    rcases Nat.lt_or_ge k i with h3 | h3
    · rcases (show i = k + 1 ∨ k + 1 < i by omega) with rfl | h4
      · omega
      · have := asc_lt h h4 hi; omega
    · rcases (show i = k ∨ i < k by omega) with rfl | h4
      · exact Int.le_refl _
      · have := asc_lt h h4 (by omega); omega
  · intro h2; omega
theorem pvd_const {a : Nat} {es : List Ent} {ts : List Int} (h : ts.Pairwise (· < ·)) (hm : ∀ x ∈ ftL a es, x ∈ ts) {k : Nat} (hk : k + 1 < ts.length) {t : Int} (h0 : ts.getD k 0 ≤ t) (h1 : t < ts.getD (k + 1) 0) : lkp a t es = lkp a (ts.getD k 0) es := by
  refine lkp_congr fun e he => ?_
  unfold applies
  cases hc : cont e.pr a with
  | false => simp
  | true =>
    obtain ⟨m1, m2⟩ := mem_ftL he hc
    have g1 := at_le h hk (hm _ m1) h0 h1
    have g2 := at_le h hk (hm _ m2) h0 h1
    simp only [Bool.and_true]
    apply Bool.eq_iff_iff.2
    rw [decide_eq_true_eq, decide_eq_true_eq]
    omega
/-! ### Histories -/
structure HOk (f : Int → Int) (u : Int) (l : List Owd) : Prop where
  each : ∀ i, i < l.length → (l.getD i default).from_ < (l.getD i default).to_ ∧ (0 < i → (l.getD (i - 1) default).to_ = (l.getD i default).from_ ∧ (l.getD (i - 1) default).prov ≠ (l.getD i default).prov) ∧ ∀ t, (l.getD i default).from_ ≤ t → t < (l.getD i default).to_ → f t = (l.getD i default).prov
  ends : 0 < l.length → (l.getD 0 default).from_ = 0 ∧ (l.getD (l.length - 1) default).to_ = u
  none_ : l.length = 0 → u = 0
theorem getD_set_eq {l : List Owd} {i : Nat} (h : i < l.length) (o : Owd) : (l.set i o).getD i default = o := by simp [List.getD, h]
theorem getD_set_ne {l : List Owd} {i j : Nat} (h : i ≠ j) (o : Owd) : (l.set i o).getD j default = l.getD j default := by simp [List.getD, List.getElem?_set, h]
theorem getD_app_l {A : Type} [Inhabited A] {l : List A} {j : Nat} (h : j < l.length) (o : A) : (l ++ [o]).getD j default = l.getD j default := by simp [List.getD, List.getElem?_append, h]
theorem getD_app_r {A : Type} [Inhabited A] (l : List A) (o : A) : (l ++ [o]).getD l.length default = o := by simp [List.getD]
theorem HOk.step {f : Int → Int} {u v p : Int} {l : List Owd} (h : HOk f u l) (huv : u < v) (hf : ∀ t, u ≤ t → t < v → f t = p) : HOk f v (hsStep l p u v) := by
  unfold hsStep
  split
  · rename_i hg
    obtain ⟨hl, hp⟩ := hg
    obtain ⟨e1, e2⟩ := h.ends hl
    refine ⟨fun i hi => ?_, fun hi => ?_, fun hi => by rw [List.length_set] at hi; omega⟩
    · rw [List.length_set] at hi
      obtain ⟨g1, g2, g3⟩ := h.each i hi
      by_cases hil : i = l.length - 1
      · rw [hil, getD_set_eq (by omega)]
        rw [hil] at g1 g2 g3
        refine ⟨by simp only; omega, fun h0 => ?_, fun t h1 h2 => ?_⟩
        · rw [getD_set_ne (by omega)]
          have := g2 h0
          rw [hp] at this
          exact this
        · simp only at h1 h2 ⊢
          rcases Int.lt_or_le t u with h3 | h3
          · rw [g3 t h1 (by omega), hp]
          · exact hf t h3 h2
      · rw [getD_set_ne (by omega)]
        refine ⟨g1, fun h0 => ?_, g3⟩
        rw [getD_set_ne (by omega)]
        exact g2 h0
    · rw [List.length_set]
      constructor
      · by_cases h0 : l.length - 1 = 0
        · rw [h0, getD_set_eq (by omega)]
          simp only
          rw [show (0 : Nat) = l.length - 1 by omega] at e1
          rw [h0] at e1
          exact e1
        · rw [getD_set_ne (by omega)]; exact e1
      · rw [getD_set_eq (by omega)]
  · rename_i hg
    have hne : 0 < l.length → (l.getD (l.length - 1) default).prov ≠ p := fun h0 h1 => hg ⟨h0, h1⟩
    refine ⟨fun i hi => ?_, fun hi => ?_, fun hi => by simp at hi⟩
    · rw [List.length_append, List.length_singleton] at hi
      by_cases hil : i = l.length
      · subst hil
        rw [getD_app_r]
        refine ⟨huv, fun h0 => ?_, fun t h1 h2 => hf t h1 h2⟩
        rw [getD_app_l (by omega)]
        exact ⟨(h.ends h0).2, hne h0⟩
      · rw [getD_app_l (by omega)]
        obtain ⟨g1, g2, g3⟩ := h.each i (by omega)
        refine ⟨g1, fun h0 => ?_, g3⟩
        rw [getD_app_l (by omega)]
        exact g2 h0
    · rw [List.length_append, List.length_singleton, Nat.add_sub_cancel, getD_app_r]
      refine ⟨?_, rfl⟩
      rcases Nat.eq_zero_or_pos l.length with h0 | h0
      · rw [List.length_eq_zero_iff.1 h0]
        exact h.none_ h0
      · rw [getD_app_l h0]; exact (h.ends h0).1
theorem hist_ok {a : Nat} {es : List Ent} {ts : List Int} (ho : TsOk ts) (hm : ∀ x ∈ ftL a es, x ∈ ts) : ∀ k, k < ts.length → HOk (fun t => pvd a t es) (ts.getD k 0) (hist a es ts k)
  | 0, _ => ⟨fun i hi => absurd hi (Nat.not_lt_zero _), fun hi => absurd hi (Nat.lt_irrefl _), fun _ => ho.2.2.1⟩
  | k + 1, hk => by
    have ih := hist_ok ho hm k (by omega)
    unfold hist
    refine ih.step (asc_lt ho.1 (Nat.lt_succ_self k) hk) fun t h0 h1 => ?_
    show pvd a t es = _
    unfold pvd
    rw [pvd_const ho.1 hm hk h0 h1]
theorem histL_ok {a : Nat} {p : RgP} (hr : RegOk p.es) : HOk (fun t => pvd a t p.es) 1125899906842624 (histL a p) ∧ 0 < (histL a p).length := by
  have ho := timesL_ok a [p] fun r h => by rw [List.mem_singleton.1 h]; exact hr
  have hm : ∀ x ∈ ftL a p.es, x ∈ timesL a [p] := fun x hx => (timesL_mem a [p] x).2 (.inr (.inr (by unfold ftsL; simpa using hx)))
  unfold histL
  rw [if_pos hr]
  have h := hist_ok ho hm ((timesL a [p]).length - 1) (by have := ho.2.1; omega)
  rw [ho.2.2.2] at h
  refine ⟨h, ?_⟩
  rcases Nat.eq_zero_or_pos (hist a p.es (timesL a [p]) ((timesL a [p]).length - 1)).length with h0 | h0
  · have := h.none_ h0; omega
  · exact h0
end Go.Proofs.YtepkbbmjbbnhnaaGreatDoor
