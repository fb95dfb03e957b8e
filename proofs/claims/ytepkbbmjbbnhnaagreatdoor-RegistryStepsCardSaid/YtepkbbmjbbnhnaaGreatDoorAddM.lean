/- Adding and removing (no program in sight): adding an entry and removing it leads back; the order in which two are added does not matter. -/
import Derived.Test.YtepkbbmjbbnhnaaGreatDoorDrgE
import Derived.Test.YtepkbbmjbbnhnaaGreatDoorRmvE
set_option linter.unusedSimpArgs false
set_option linter.unusedVariables false
namespace Go.Proofs.YtepkbbmjbbnhnaaGreatDoor
open Eng
def remV (es : List Ent) (q : Prf) (t : Int) : List Ent × Int :=
  if ¬ RegOk es then ([], 1) else if plcN es [(q.addr : Int), q.len, t] < es.length ∧ (es.getD (plcN es [(q.addr : Int), q.len, t]) default).pr = q ∧ (es.getD (plcN es [(q.addr : Int), q.len, t]) default).from_ = t then (delE es (plcN es [(q.addr : Int), q.len, t]), 0) else ([], 8)
theorem insE_get {es : List Ent} {k : Nat} {e : Ent} (hk : k ≤ es.length) (i : Nat) : (insE es k e).getD i default = if i < k then es.getD i default else if i = k then e else es.getD (i - 1) default := by
  unfold insE
  by_cases h1 : i < k
  · rw [if_pos h1]
    simp only [List.getD]
    rw [List.getElem?_append_left (by rw [List.length_take]; omega), List.getElem?_take, if_pos h1]
  · rw [if_neg h1]
    simp only [List.getD]
    rw [List.getElem?_append_right (by rw [List.length_take]; omega), List.length_take, Nat.min_eq_left hk]
    by_cases h2 : i = k
    · rw [if_pos h2, h2, Nat.sub_self, List.getElem?_cons_zero]; rfl
    · rw [if_neg h2, show i - k = (i - k - 1) + 1 by omega, List.getElem?_cons_succ, List.getElem?_drop, show k + (i - k - 1) = i - 1 by omega]
theorem insE_del {es : List Ent} {k : Nat} {e : Ent} (hk : k ≤ es.length) : delE (insE es k e) k = es := by
  unfold delE insE
  have h1 : (es.take k).length = k := by rw [List.length_take]; omega
  have h2 : List.drop (k + 1) (es.take k) = [] := List.drop_eq_nil_of_le (by omega)
  simp [List.take_append, List.drop_append, h1, h2]
theorem insE_plc {es : List Ent} {k : Nat} {e : Ent} (h : Place es e.fk k) : plcN (insE es k e) e.fk = k := by
  obtain ⟨h0, h1, h2⟩ := h
  have : Place (insE es k e) e.fk k := by
    refine ⟨by rw [insE_len h0]; omega, fun j hj => ?_, fun j hj hj2 => ?_⟩
    · rw [insE_get h0, if_pos hj]; exact h1 j hj
    · rw [insE_get h0, if_neg (by omega)]
      rw [insE_len h0] at hj2
      split
      · rw [cmpL_self]; exact Int.le_refl _
      · exact h2 (j - 1) (by omega) (by omega)
  exact this.eq.symm
theorem add_rem {es : List Ent} {e : Ent} (h : (addV es e).2 = 0) : remV (addV es e).1 e.pr e.from_ = (es, 0) := by
  obtain ⟨hr, he, hno, hp, h1, h2, h3⟩ := addV_ok h
  have e1 : ([(e.pr.addr : Int), e.pr.len, e.from_] : List Int) = e.fk := rfl
  unfold remV
  rw [if_neg (fun h9 => h9 h2), e1]
  rw [h1]
  have e2 := insE_plc hp
  rw [e2]
  have e3 : (insE es (plcN es e.fk) e).getD (plcN es e.fk) default = e := by rw [insE_get hp.1, if_neg (by omega), if_pos rfl]
  rw [e3, if_pos ⟨by rw [insE_len hp.1]; have := hp.1; omega, rfl, rfl⟩, insE_del hp.1]
theorem insE_perm (es : List Ent) (k : Nat) (e : Ent) : (insE es k e).Perm (e :: es) := by
  unfold insE
  have h := List.perm_middle (a := e) (l₁ := es.take k) (l₂ := es.drop k)
  rwa [List.take_append_drop] at h
theorem nb_asym {a b : Ent} (ha : a.from_ < a.to_) (hb : b.from_ < b.to_) (h : nb a b) (h' : nb b a) : False := by
  have g1 := nb_fk h ha
  have g2 := nb_fk h' hb
  rw [cmpL_neg] at g2
  omega
theorem asc_perm_eq : ∀ {l m : List Ent}, (∀ e ∈ l, e.from_ < e.to_) → l.Perm m → Asc l → Asc m → l = m
  | [], m, _, h, _, _ => (List.nil_perm.1 h).symm
  | a :: l, [], _, h, _, _ => absurd (List.perm_nil.1 h) (by simp)
  | a :: l, b :: m, ho, h, h1, h2 => by
    unfold Asc at h1 h2
    rw [List.pairwise_cons] at h1 h2
    have ha : a = b := by
      rcases List.mem_cons.1 (h.subset List.mem_cons_self) with e | e
      · exact e
      · rcases List.mem_cons.1 (h.symm.subset List.mem_cons_self) with e' | e'
        · exact e'.symm
        · exact (nb_asym (ho a (by simp)) (ho b (by simp [e'])) (h1.1 b e') (h2.1 a e)).elim
    subst ha
    rw [asc_perm_eq (fun e he => ho e (by simp [he])) ((List.perm_cons a).1 h) h1.2 h2.2]
theorem addV_err {es : List Ent} {e : Ent} (hr : RegOk es) (he : EntOk e) (hl : es.length < 1024) (h : (addV es e).2 ≠ 0) : (addV es e).2 = 9 ∧ ∃ x ∈ es, overlap x e := by
  unfold addV at h ⊢
  rw [if_neg (fun h9 => h9.elim (fun h9 => h9 hr) (fun h9 => h9 he))] at h ⊢
  split
  · rename_i h1; exact ⟨rfl, h1⟩
  · rename_i h1
    rw [if_neg h1, if_neg (by omega)] at h
    exact absurd rfl h
theorem overlap_symm {x e : Ent} (h : overlap x e) : overlap e x := ⟨h.1.symm, h.2.2, h.2.1⟩
theorem addV_zero {es : List Ent} {e : Ent} (hr : RegOk es) (he : EntOk e) (hl : es.length < 1024) (h : ∀ x ∈ es, ¬ overlap x e) : (addV es e).2 = 0 := by
  by_cases h0 : (addV es e).2 = 0
  · exact h0
  · obtain ⟨_, x, hx, ho⟩ := addV_err hr he hl h0
    exact absurd ho (h x hx)
theorem add_comm {es : List Ent} {e f : Ent} (hl : es.length < 1000) (h : (addV es e).2 = 0) (h' : (addV (addV es e).1 f).2 = 0) :
    (addV es f).2 = 0 ∧ (addV (addV es f).1 e).2 = 0 ∧ (addV (addV es e).1 f).1 = (addV (addV es f).1 e).1 := by
  obtain ⟨hr, he, hno, hp, h1, h2, h3⟩ := addV_ok h
  obtain ⟨hr2, hf, hno2, hp2, g1, g2, g3⟩ := addV_ok h'
  have hnof : ∀ x ∈ es, ¬ overlap x f := fun x hx => hno2 x (by rw [h1]; exact insE_mem.2 (.inl hx))
  have hef : ¬ overlap e f := hno2 e (by rw [h1]; exact insE_mem.2 (.inr rfl))
  have k0 := addV_zero hr hf (by omega) hnof
  obtain ⟨_, _, _, hpf, f1, f2, f3⟩ := addV_ok k0
  have hnoe : ∀ x ∈ (addV es f).1, ¬ overlap x e := fun x hx ho => by
    rw [f1] at hx
    rcases insE_mem.1 hx with hx | rfl
    · exact hno x hx ho
    · exact hef (overlap_symm ho)
  have k1 := addV_zero f2 he (by omega) hnoe
  obtain ⟨_, _, _, _, e1, e2, e3⟩ := addV_ok k1
  refine ⟨k0, k1, asc_perm_eq (fun x hx => (g2.ent x hx).2.2.2.2.1) ?_ g2.asc e2.asc⟩
  rw [g1, e1]
  refine (insE_perm _ _ _).trans (.trans ?_ (insE_perm _ _ _).symm)
  rw [h1, f1]
  exact ((insE_perm es _ e).cons f).trans (.trans (.swap e f es) ((insE_perm es _ f).symm.cons e))
end Go.Proofs.YtepkbbmjbbnhnaaGreatDoor
