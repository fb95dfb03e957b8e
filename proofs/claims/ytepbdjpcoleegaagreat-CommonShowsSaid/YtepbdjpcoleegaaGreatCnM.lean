import Derived.Test.YtepbdjpcoleegaaGreatCmP
import Derived.Test.YtepbdjpcoleegaaGreatInsM

/- Plain laws: identities and evidence that are put into ascending lists, one by one. -/
set_option linter.unusedSimpArgs false
set_option linter.unusedVariables false
namespace Go.Proofs.YtepbdjpcoleegaaGreat
open Go.Sort Eng
theorem insL_pairwise {α : Type} {R : α → α → Prop} {l : List α} {k : Nat} {x : α} (h : l.Pairwise R) (hk : k ≤ l.length) (h1 : ∀ q, (hq : q < k) → R (l[q]'(by omega)) x) (h2 : ∀ q, (hq : q < l.length) → k ≤ q → R x l[q]) : (insL l k x).Pairwise R := by
 unfold insL
 refine List.pairwise_append.2 ⟨h.sublist (List.take_sublist k l), List.pairwise_cons.2 ⟨fun y hy => ?_, h.sublist (List.drop_sublist k l)⟩, fun a ha b hb => ?_⟩
 ·obtain ⟨i, hi, rfl⟩ := List.getElem_of_mem hy
  rw [List.getElem_drop]
  exact h2 _ (by simp at hi; omega) (by omega)
 ·obtain ⟨i, hi, rfl⟩ := List.getElem_of_mem ha
  have hi2 : i < k := by simp at hi; omega
  rw [List.getElem_take]
  rcases List.mem_cons.1 hb with rfl | hb
  ·exact h1 i hi2
  ·obtain ⟨j, hj, rfl⟩ := List.getElem_of_mem hb
   rw [List.getElem_drop]
   exact List.pairwise_iff_getElem.1 h i (k + j) (by omega) (by simp at hj; omega) (by omega)
def PutR (ids : List Idn) (x : Idn) (ids' : List Idn) : Prop :=
 ∃ k, k ≤ ids.length ∧ (∀ q, q < k → idnLt (ids.getD q default) x = true) ∧ ((k < ids.length ∧ ids.getD k default = x ∧ ids' = ids) ∨ ((k < ids.length → idnLt x (ids.getD k default) = true) ∧ ids' = insL ids k x))
theorem getD_at {α : Type} {l : List α} {i : Nat} {d : α} (h : i < l.length) : l.getD i d = l[i] := by rw [List.getD_eq_getElem?_getD, List.getElem?_eq_getElem h]; rfl
theorem putR_law {ids ids' : List Idn} {x : Idn} (hs : ids.Pairwise fun a b => idnLt a b = true) (h : PutR ids x ids') :
  (ids'.Pairwise fun a b => idnLt a b = true) ∧ (∀ d, d ∈ ids' ↔ d ∈ ids ∨ d = x) ∧ ids'.length ≤ ids.length + 1 ∧ ids' ≠ [] := by
 obtain ⟨k, hk, h1, h2⟩ := h
 rcases h2 with ⟨h3, h4, rfl⟩ | ⟨h3, rfl⟩
 ·have hm : x ∈ ids' := by rw [← h4, getD_at h3]; exact List.getElem_mem _
  refine ⟨hs, fun d => ⟨.inl, fun h => h.elim id (fun e => e ▸ hm)⟩, by omega, fun e => by subst e; cases hm⟩
 ·refine ⟨insL_pairwise hs hk (fun q hq => ?_) (fun q hq hkq => ?_), fun d => insL_mem, by rw [insL_len hk]; omega, fun e => ?_⟩
  ·have := h1 q hq
   rwa [getD_at (by omega)] at this
  ·have h5 := h3 (by omega)
   rw [getD_at (by omega)] at h5
   by_cases e : q = k
   ·subst e; exact h5
   ·exact idnLt_trans _ _ _ h5 (List.pairwise_iff_getElem.1 hs k q (by omega) hq (by omega))
  ·have := insL_len (r := x) hk
   rw [e] at this
   simp at this
theorem pairs_none {xs : List Res} {es : List Evd} {r : Res} (h : PairsOf xs es) (hr : showR r = none) : PairsOf (xs ++ [r]) es := by
 refine ⟨h.asc, h.each, fun p d => (h.mem p d).trans ?_, by have := h.len; simp; omega⟩
 constructor
 ·rintro ⟨s, hs, g⟩
  exact ⟨s, by simp [hs], g⟩
 ·rintro ⟨s, hs, g1, g2⟩
  rcases List.mem_append.1 hs with hs | hs
  ·exact ⟨s, hs, g1, g2⟩
  ·rw [List.mem_singleton.1 hs, hr] at g1; cases g1
theorem mem_snoc {xs : List Res} {r : Res} {p : Par} {d : Idn} : (∃ s ∈ xs ++ [r], showR s = some p ∧ s.idn = d) ↔ (∃ s ∈ xs, showR s = some p ∧ s.idn = d) ∨ (showR r = some p ∧ r.idn = d) := by
 constructor
 ·rintro ⟨s, hs, g⟩
  rcases List.mem_append.1 hs with hs | hs
  ·exact .inl ⟨s, hs, g⟩
  ·rw [List.mem_singleton.1 hs] at g; exact .inr g
 ·rintro (⟨s, hs, g⟩ | g)
  ·exact ⟨s, by simp [hs], g⟩
  ·exact ⟨r, by simp, g⟩
theorem pairs_set {xs : List Res} {es : List Evd} {r : Res} {p : Par} {k : Nat} {e' : Evd} (h : PairsOf xs es) (hk : k < es.length) (hr : showR r = some p) (hp : (es.getD k default).pr = p) (hp' : e'.pr = p) (hkd : e'.kind = 1) (hids : PutR (es.getD k default).ids r.idn e'.ids) (hl : e'.ids.length ≤ 512) :
  PairsOf (xs ++ [r]) (es.set k e') := by
 rw [getD_at hk] at hp hids
 have hem : es[k] ∈ es := List.getElem_mem _
 obtain ⟨k1, k2, k3, k4⟩ := h.each _ hem
 obtain ⟨g1, g2, g3, g4⟩ := putR_law k2 hids
 have hmem : ∀ f, f ∈ es.set k e' ↔ f = e' ∨ (f ∈ es ∧ f.pr ≠ p) := fun f => by
  constructor
  ·intro hf
   obtain ⟨i, hi, rfl⟩ := List.getElem_of_mem hf
   rw [List.length_set] at hi
   rw [List.getElem_set]
   split
   ·exact .inl rfl
   ·rename_i hne
    refine .inr ⟨List.getElem_mem _, fun e => ?_⟩
    have hpw := List.pairwise_iff_getElem.1 h.asc
    rcases Nat.lt_or_ge k i with h5 | h5
    ·have := hpw k i hk hi h5; rw [hp, e, parLt_irrefl] at this; cases this
    ·have := hpw i k hi hk (by omega); rw [hp, e, parLt_irrefl] at this; cases this
  ·rintro (rfl | ⟨hf, hne⟩)
   ·exact List.mem_iff_getElem.2 ⟨k, by simpa using hk, by simp⟩
   ·obtain ⟨i, hi, rfl⟩ := List.getElem_of_mem hf
    exact List.mem_iff_getElem.2 ⟨i, by simpa using hi, by rw [List.getElem_set, if_neg (fun e => hne (by subst e; exact hp))]⟩
 refine ⟨?_, fun f hf => ?_, fun p' d => ?_, by have := h.len; simp; omega⟩
 ·have e1 : (es.set k e').map Evd.pr = es.map Evd.pr := by
   rw [List.map_set, hp', ← hp]
   refine List.ext_getElem (by simp) fun i h1 h2 => ?_
   rw [List.getElem_set]
   split
   ·rename_i e; subst e; simp
   ·rfl
  have : (es.map Evd.pr).Pairwise fun a b => parLt a b = true := List.pairwise_map.2 h.asc
  rw [← e1] at this
  exact List.pairwise_map.1 this
 ·rcases (hmem f).1 hf with rfl | ⟨hf, _⟩
  ·exact ⟨hkd, g1, g4, hl⟩
  ·exact h.each f hf
 ·rw [mem_snoc, ← h.mem]
  constructor
  ·rintro ⟨f, hf, q1, q2⟩
   rcases (hmem f).1 hf with rfl | ⟨hf, hne⟩
   ·rw [hp'] at q1
    subst q1
    rcases (g2 d).1 q2 with q3 | q3
    ·exact .inl ⟨_, hem, hp, q3⟩
    ·exact .inr ⟨hr, q3.symm⟩
   ·exact .inl ⟨f, hf, q1, q2⟩
  ·rintro (⟨f, hf, q1, q2⟩ | ⟨q1, q2⟩)
   ·by_cases e : f.pr = p
    ·have : f = es[k] := h.one hf hem (e.trans hp.symm)
     subst this
     exact ⟨e', (hmem _).2 (.inl rfl), by rw [hp', ← q1, hp], (g2 d).2 (.inl q2)⟩
    ·exact ⟨f, (hmem f).2 (.inr ⟨hf, e⟩), q1, q2⟩
   ·rw [hr] at q1
    exact ⟨e', (hmem _).2 (.inl rfl), hp'.trans (Option.some.inj q1), (g2 d).2 (.inr q2.symm)⟩
theorem pairs_ins {xs : List Res} {es : List Evd} {r : Res} {p : Par} {k : Nat} {e' : Evd} (h : PairsOf xs es) (hk : k ≤ es.length) (hr : showR r = some p) (hne : ∀ e ∈ es, e.pr ≠ p) (h1 : ∀ q, q < k → parLt (es.getD q default).pr p = true) (h2 : k < es.length → parLt (es.getD k default).pr p = false)
  (hp' : e'.pr = p) (hkd : e'.kind = 1) (hids : e'.ids = [r.idn]) : PairsOf (xs ++ [r]) (insL es k e') := by
 refine ⟨insL_pairwise h.asc hk (fun q hq => ?_) (fun q hq hkq => ?_), fun f hf => ?_, fun p' d => ?_, by have := h.len; rw [insL_len hk]; simp; omega⟩
 ·have := h1 q hq
  rw [getD_at (by omega)] at this
  rw [hp']
  exact this
 ·have h5 := h2 (by omega)
  rw [getD_at (by omega)] at h5
  have h6 : parLt p es[k].pr = true := by
   rcases parLt_total es[k].pr p with h7 | h7 | h7
   ·rw [h7] at h5; cases h5
   ·exact absurd h7 (hne _ (List.getElem_mem _))
   ·exact h7
  rw [hp']
  by_cases e : q = k
  ·subst e; exact h6
  ·exact parLt_trans _ _ _ h6 (List.pairwise_iff_getElem.1 h.asc k q (by omega) hq (by omega))
 ·rcases insL_mem.1 hf with hf | rfl
  ·exact h.each f hf
  ·exact ⟨hkd, by rw [hids]; exact List.pairwise_singleton _ _, by rw [hids]; simp, by rw [hids]; simp⟩
 ·rw [mem_snoc, ← h.mem]
  constructor
  ·rintro ⟨f, hf, q1, q2⟩
   rcases insL_mem.1 hf with hf | rfl
   ·exact .inl ⟨f, hf, q1, q2⟩
   ·rw [hids, List.mem_singleton] at q2
    exact .inr ⟨by rw [hr, ← q1, hp'], q2.symm⟩
  ·rintro (⟨f, hf, q1, q2⟩ | ⟨q1, q2⟩)
   ·exact ⟨f, insL_mem.2 (.inl hf), q1, q2⟩
   ·rw [hr] at q1
    exact ⟨e', insL_mem.2 (.inr rfl), hp'.trans (Option.some.inj q1), by rw [hids, q2]; simp⟩
theorem pairs_nil : PairsOf [] [] := ⟨.nil, fun e he => (by cases he), fun p d => ⟨fun h => (by obtain ⟨e, he, _⟩ := h; cases he), fun h => (by obtain ⟨r, hr, _⟩ := h; cases hr)⟩, Nat.le_refl _⟩
end Go.Proofs.YtepbdjpcoleegaaGreat
