import Derived.Test.YtepbdjpcoleegaaCmL

/- Plain laws of pairs: they depend on the set of results alone, and each result that shows a pair is named once. -/
set_option linter.unusedSimpArgs false
set_option linter.unusedVariables false
namespace Go.Proofs.Ytepbdjpcoleegaa
open Go.Sort Eng
theorem sorted_ext {α : Type} {lt : α → α → Bool} (irr : ∀ a, lt a a = false) (asy : ∀ a b, lt a b = true → lt b a = true → False) :
  ∀ {l m : List α}, (l.Pairwise fun x y => lt x y = true) → (m.Pairwise fun x y => lt x y = true) → (∀ x, x ∈ l ↔ x ∈ m) → l = m
 | [], [], _, _, _ => rfl
 | [], b :: m, _, _, h => absurd ((h b).2 (by simp)) (by simp)
 | a :: l, [], _, _, h => absurd ((h a).1 (by simp)) (by simp)
 | a :: l, b :: m, hl, hm, h => by
  obtain ⟨l1, l2⟩ := List.pairwise_cons.1 hl
  obtain ⟨m1, m2⟩ := List.pairwise_cons.1 hm
  have hab : a = b := by
   rcases List.mem_cons.1 ((h a).1 (by simp)) with e | e
   ·exact e
   ·rcases List.mem_cons.1 ((h b).2 (by simp)) with e2 | e2
    ·exact e2.symm
    ·exact (asy _ _ (m1 a e) (l1 b e2)).elim
  subst hab
  rw [sorted_ext irr asy l2 m2 fun x => ⟨fun hx => ?_, fun hx => ?_⟩]
  ·rcases List.mem_cons.1 ((h x).1 (by simp [hx])) with e | e
   ·subst e; have := l1 x hx; rw [irr] at this; cases this
   ·exact e
  ·rcases List.mem_cons.1 ((h x).2 (by simp [hx])) with e | e
   ·subst e; have := m1 x hx; rw [irr] at this; cases this
   ·exact e
theorem idnLt_asymm (a b : Idn) (h : idnLt a b = true) (g : idnLt b a = true) : False := by
 have := idnLt_trans _ _ _ h g
 rw [idnLt_irrefl] at this
 cases this
theorem parLt_asymm (a b : Par) (h : parLt a b = true) (g : parLt b a = true) : False := by
 have := parLt_trans _ _ _ h g
 rw [parLt_irrefl] at this
 cases this
def Evd.say (e : Evd) : Int × Par × List Idn := (e.kind, e.pr, e.ids)
theorem PairsOf.prs {xs : List Res} {es : List Evd} (h : PairsOf xs es) (p : Par) : p ∈ es.map Evd.pr ↔ ∃ r ∈ xs, showR r = some p := by
 constructor
 ·intro hp
  obtain ⟨e, he, rfl⟩ := List.mem_map.1 hp
  have hne := (h.each e he).2.2.1
  match hi : e.ids, hne with
  | d :: l, _ =>
   obtain ⟨r, hr, h1, _⟩ := (h.mem e.pr d).1 ⟨e, he, rfl, by rw [hi]; simp⟩
   exact ⟨r, hr, h1⟩
 ·rintro ⟨r, hr, h1⟩
  obtain ⟨e, he, h2, _⟩ := (h.mem p r.idn).2 ⟨r, hr, h1, rfl⟩
  exact List.mem_map.2 ⟨e, he, h2⟩
theorem PairsOf.one {xs : List Res} {es : List Evd} (h : PairsOf xs es) {e f : Evd} (he : e ∈ es) (hf : f ∈ es) (hp : e.pr = f.pr) : e = f := by
 have key : ∀ {l : List Evd}, (l.Pairwise fun x y => parLt x.pr y.pr = true) → ∀ e ∈ l, ∀ f ∈ l, e.pr = f.pr → e = f := by
  intro l
  induction l with
  | nil => intro _ e he; cases he
  | cons x l ih =>
   intro hl e he f hf hp
   obtain ⟨l1, l2⟩ := List.pairwise_cons.1 hl
   rcases List.mem_cons.1 he with g1 | g1 <;> rcases List.mem_cons.1 hf with g2 | g2
   ·rw [g1, g2]
   ·have := l1 f g2; rw [← g1, hp, parLt_irrefl] at this; cases this
   ·have := l1 e g1; rw [← g2, hp, parLt_irrefl] at this; cases this
   ·exact ih l2 e g1 f g2 hp
 exact key h.asc e he f hf hp
theorem pairs_same {xs ys : List Res} {es fs : List Evd} (h : PairsOf xs es) (g : PairsOf ys fs) (hm : ∀ r, r ∈ ys ↔ r ∈ xs) : es.map Evd.say = fs.map Evd.say := by
 have hp : es.map Evd.pr = fs.map Evd.pr := by
  refine sorted_ext parLt_irrefl parLt_asymm (List.pairwise_map.2 h.asc) (List.pairwise_map.2 g.asc) fun p => ?_
  rw [h.prs, g.prs]
  exact ⟨fun ⟨r, hr, e⟩ => ⟨r, (hm r).2 hr, e⟩, fun ⟨r, hr, e⟩ => ⟨r, (hm r).1 hr, e⟩⟩
 have hlen : es.length = fs.length := by have := congrArg List.length hp; simpa using this
 refine List.ext_getElem (by simpa using hlen) fun i h1 h2 => ?_
 rw [List.length_map] at h1 h2
 rw [List.getElem_map, List.getElem_map]
 have he : es[i] ∈ es := List.getElem_mem h1
 have hf : fs[i] ∈ fs := List.getElem_mem h2
 have e1 : es[i].pr = fs[i].pr := by
  have := congrArg (fun l => l[i]?) hp
  simpa [h1, h2] using this
 have e2 : es[i].ids = fs[i].ids := by
  refine sorted_ext idnLt_irrefl idnLt_asymm (h.each _ he).2.1 (g.each _ hf).2.1 fun d => ?_
  constructor
  ·intro hd
   obtain ⟨r, hr, k1, k2⟩ := (h.mem es[i].pr d).1 ⟨_, he, rfl, hd⟩
   obtain ⟨e, he2, k3, k4⟩ := (g.mem es[i].pr d).2 ⟨r, (hm r).2 hr, k1, k2⟩
   rw [← g.one he2 hf (k3.trans e1)]; exact k4
  ·intro hd
   obtain ⟨r, hr, k1, k2⟩ := (g.mem fs[i].pr d).1 ⟨_, hf, rfl, hd⟩
   obtain ⟨e, he2, k3, k4⟩ := (h.mem fs[i].pr d).2 ⟨r, (hm r).1 hr, k1, k2⟩
   rw [← h.one he2 he (k3.trans e1.symm)]; exact k4
 unfold Evd.say
 rw [e1, e2, (h.each _ he).1, (g.each _ hf).1]
def namedN (es : List Evd) : Nat := (es.map fun e => e.ids.length).sum
def shownN (xs : List Res) : Nat := (xs.filter fun r => (showR r).isSome).length
def namedL (es : List Evd) : List (Par × Idn) := es.flatMap fun e => e.ids.map fun d => (e.pr, d)
def shownL (xs : List Res) : List (Par × Idn) := xs.filterMap fun r => (showR r).map fun p => (p, r.idn)
theorem namedL_len (es : List Evd) : (namedL es).length = namedN es := by
 induction es with
 | nil => rfl
 | cons e es ih =>
  unfold namedL namedN at *
  simp only [List.flatMap_cons, List.length_append, List.length_map, List.map_cons, List.sum_cons, ih]
theorem shownL_len (xs : List Res) : (shownL xs).length = shownN xs := by
 induction xs with
 | nil => rfl
 | cons r xs ih =>
  unfold shownL shownN at *
  cases h : showR r <;> simp [List.filterMap_cons, List.filter_cons, h, ih]
theorem namedL_nodup {xs : List Res} {es : List Evd} (h : PairsOf xs es) : (namedL es).Nodup := by
 have key : ∀ {l : List Evd}, (l.Pairwise fun x y => parLt x.pr y.pr = true) → (∀ e ∈ l, e.ids.Pairwise fun x y => idnLt x y = true) → (namedL l).Nodup := by
  intro l
  induction l with
  | nil => intro _ _; exact .nil
  | cons x l ih =>
   intro hl hi
   obtain ⟨l1, l2⟩ := List.pairwise_cons.1 hl
   unfold namedL
   rw [List.flatMap_cons]
   refine List.nodup_append.2 ⟨?_, ih l2 fun e he => hi e (by simp [he]), fun a ha b hb e => ?_⟩
   ·refine List.pairwise_map.2 ((hi x (by simp)).imp fun {a b} hab e => ?_)
    injection e with _ e
    subst e
    rw [idnLt_irrefl] at hab
    cases hab
   ·subst e
    obtain ⟨d, _, rfl⟩ := List.mem_map.1 ha
    obtain ⟨f, hf, hb⟩ := List.mem_flatMap.1 hb
    obtain ⟨d2, _, e⟩ := List.mem_map.1 hb
    injection e with e _
    have := l1 f hf
    rw [e, parLt_irrefl] at this
    cases this
 exact key h.asc fun e he => (h.each e he).2.1
theorem shownL_nodup {xs : List Res} (h : xs.Pairwise fun r s => r.idn ≠ s.idn) : (shownL xs).Nodup := by
 induction xs with
 | nil => exact .nil
 | cons r xs ih =>
  obtain ⟨l1, l2⟩ := List.pairwise_cons.1 h
  unfold shownL
  rw [List.filterMap_cons]
  cases hs : showR r with
  | none => exact ih l2
  | some p =>
   refine List.nodup_cons.2 ⟨fun hm => ?_, ih l2⟩
   obtain ⟨s, hs1, hs2⟩ := List.mem_filterMap.1 hm
   cases hq : showR s with
   | none => rw [hq] at hs2; cases hs2
   | some q =>
    rw [hq] at hs2
    have e := Option.some.inj hs2
    injection e with _ e
    exact l1 s hs1 e.symm
theorem pairs_count {xs : List Res} {es : List Evd} (h : PairsOf xs es) (hn : xs.Pairwise fun r s => r.idn ≠ s.idn) : namedN es = shownN xs := by
 rw [← namedL_len, ← shownL_len]
 refine List.Perm.length_eq ((List.perm_ext_iff_of_nodup (namedL_nodup h) (shownL_nodup hn)).2 fun ⟨p, d⟩ => ?_)
 have e1 : (p, d) ∈ namedL es ↔ ∃ e ∈ es, e.pr = p ∧ d ∈ e.ids := by
  unfold namedL
  rw [List.mem_flatMap]
  constructor
  ·rintro ⟨e, he, h⟩
   obtain ⟨d2, hd, e2⟩ := List.mem_map.1 h
   injection e2 with e2 e3
   subst e3
   exact ⟨e, he, e2, hd⟩
  ·rintro ⟨e, he, h1, h2⟩
   exact ⟨e, he, List.mem_map.2 ⟨d, h2, by rw [h1]⟩⟩
 have e2 : (p, d) ∈ shownL xs ↔ ∃ r ∈ xs, showR r = some p ∧ r.idn = d := by
  unfold shownL
  rw [List.mem_filterMap]
  constructor
  ·rintro ⟨r, hr, h⟩
   cases hq : showR r with
   | none => rw [hq] at h; cases h
   | some q =>
    rw [hq] at h
    have e := Option.some.inj h
    injection e with e3 e4
    exact ⟨r, hr, by rw [hq, e3], e4⟩
  ·rintro ⟨r, hr, h1, h2⟩
   exact ⟨r, hr, by rw [h1, h2]; rfl⟩
 rw [e1, e2, h.mem]
theorem namedN_take {es : List Evd} {i : Nat} (h : i < es.length) : namedN (es.take (i + 1)) = namedN (es.take i) + (es.getD i default).ids.length := by
 unfold namedN
 rw [List.take_add_one, List.getElem?_eq_getElem h, List.getD_eq_getElem?_getD, List.getElem?_eq_getElem h, List.map_append, List.sum_append]
 simp only [Option.toList_some, Option.getD_some, List.map_cons, List.map_nil, List.sum_cons, List.sum_nil, Nat.add_zero]
theorem shownN_take {xs : List Res} {i : Nat} (h : i < xs.length) : shownN (xs.take (i + 1)) = shownN (xs.take i) + if (showR (xs.getD i default)).isSome then 1 else 0 := by
 unfold shownN
 rw [List.take_add_one, List.getElem?_eq_getElem h, List.getD_eq_getElem?_getD, List.getElem?_eq_getElem h]
 simp only [Option.toList_some, Option.getD_some, List.filter_append, List.length_append, List.filter_cons, List.filter_nil]
 split <;> rfl
theorem shownN_le (xs : List Res) : shownN xs ≤ xs.length := List.length_filter_le _ _
end Go.Proofs.Ytepbdjpcoleegaa
