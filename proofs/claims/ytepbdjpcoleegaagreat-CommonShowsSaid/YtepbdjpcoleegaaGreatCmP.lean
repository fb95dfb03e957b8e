import Derived.Test.YtepbdjpcoleegaaGreatCmL

/- Plain laws of pairs: they depend on the set of results alone, and each result that shows a pair is named once. -/
set_option linter.unusedSimpArgs false
set_option linter.unusedVariables false
namespace Go.Proofs.YtepbdjpcoleegaaGreat
open Go.Sort Eng
theorem sorted_ext {α : Type} {lt : α → α → Bool} (irr : ∀ a, lt a a = false) (asy : ∀ a b, lt a b = true → lt b a = true → False) :
  ∀ {l m : List α}, (l.Pairwise fun x y => lt x y = true) → (m.Pairwise fun x y => lt x y = true) → (∀ x, x ∈ l ↔ x ∈ m) → l = m
 | [], [], _, _, _ => rfl
 | [], b :: m, _, _, h => absurd ((h b).2 (by simp)) (by simp)
 | a :: l, [], _, _, h => absurd ((h a).1 (by simp)) (by simp)
 | a :: l, b :: m, hl, hm, h => by
  obtain ⟨l1, l2⟩ := List.pairwise_cons.1 hl
  obtain ⟨m1, m2⟩ := List.pairwise_cons.1 hm
  have hab : a = b := by
   rcases List.mem_cons.1 ((h a).1 (by simp)) with e | e
   ·exact e
   ·rcases List.mem_cons.1 ((h b).2 (by simp)) with e2 | e2
    ·exact e2.symm
    ·exact (asy _ _ (m1 a e) (l1 b e2)).elim
  subst hab
  rw [sorted_ext irr asy l2 m2 fun x => ⟨fun hx => ?_, fun hx => ?_⟩]
  ·rcases List.mem_cons.1 ((h x).1 (by simp [hx])) with e | e
   ·subst e; have := l1 x hx; rw [irr] at this; cases this
   ·exact e
  ·rcases List.mem_cons.1 ((h x).2 (by simp [hx])) with e | e
   ·subst e; have := m1 x hx; rw [irr] at this; cases this
   ·exact e
theorem idnLt_asymm (a b : Idn) (h : idnLt a b = true) (g : idnLt b a = true) : False := by
 have := idnLt_trans _ _ _ h g
 rw [idnLt_irrefl] at this
 cases this
theorem parLt_asymm (a b : Par) (h : parLt a b = true) (g : parLt b a = true) : False := by
 have := parLt_trans _ _ _ h g
 rw [parLt_irrefl] at this
 cases this
def Evd.say (e : Evd) : Int × Par × List Idn := (e.kind, e.pr, e.ids)
theorem PairsOf.prs {xs : List Res} {es : List Evd} (h : PairsOf xs es) (p : Par) : p ∈ es.map Evd.pr ↔ ∃ r ∈ xs, showR r = some p := by
 constructor
 ·intro hp
  obtain ⟨e, he, rfl⟩ := List.mem_map.1 hp
  have hne := (h.each e he).2.2.1
  match hi : e.ids, hne with
  | d :: l, _ =>
   obtain ⟨r, hr, h1, _⟩ := (h.mem e.pr d).1 ⟨e, he, rfl, by rw [hi]; simp⟩
   exact ⟨r, hr, h1⟩
 ·rintro ⟨r, hr, h1⟩
  obtain ⟨e, he, h2, _⟩ := (h.mem p r.idn).2 ⟨r, hr, h1, rfl⟩
  exact List.mem_map.2 ⟨e, he, h2⟩
theorem PairsOf.one {xs : List Res} {es : List Evd} (h : PairsOf xs es) {e f : Evd} (he : e ∈ es) (hf : f ∈ es) (hp : e.pr = f.pr) : e = f := by
 have key : ∀ {l : List Evd}, (l.Pairwise fun x y => parLt x.pr y.pr = true) → ∀ e ∈ l, ∀ f ∈ l, e.pr = f.pr → e = f := by
  intro l
  induction l with
  | nil => intro _ e he; cases he
  | cons x l ih =>
   intro hl e he f hf hp
   obtain ⟨l1, l2⟩ := List.pairwise_cons.1 hl
   rcases List.mem_cons.1 he with g1 | g1 <;> rcases List.mem_cons.1 hf with g2 | g2
   ·rw [g1, g2]
   ·have := l1 f g2; rw [← g1, hp, parLt_irrefl] at this; cases this
   ·have := l1 e g1; rw [← g2, hp, parLt_irrefl] at this; cases this
   ·exact ih l2 e g1 f g2 hp
 exact key h.asc e he f hf hp
theorem pairs_same {xs ys : List Res} {es fs : List Evd} (h : PairsOf xs es) (g : PairsOf ys fs) (hm : ∀ r, r ∈ ys ↔ r ∈ xs) : es.map Evd.say = fs.map Evd.say := by
 have hp : es.map Evd.pr = fs.map Evd.pr := by
  refine sorted_ext parLt_irrefl parLt_asymm (List.pairwise_map.2 h.asc) (List.pairwise_map.2 g.asc) fun p => ?_
  rw [h.prs, g.prs]
  exact ⟨fun ⟨r, hr, e⟩ => ⟨r, (hm r).2 hr, e⟩, fun ⟨r, hr, e⟩ => ⟨r, (hm r).1 hr, e⟩⟩
 have hlen : es.length = fs.length := by have := congrArg List.length hp; simpa using this
 refine List.ext_getElem (by simpa using hlen) fun i h1 h2 => ?_
 rw [List.length_map] at h1 h2
 rw [List.getElem_map, List.getElem_map]
 have he : es[i] ∈ es := List.getElem_mem h1
 have hf : fs[i] ∈ fs := List.getElem_mem h2
 have e1 : es[i].pr = fs[i].pr := by
  have := congrArg (fun l => l[i]?) hp
  simpa [h1, h2] using this
 have e2 : es[i].ids = fs[i].ids := by
  refine sorted_ext idnLt_irrefl idnLt_asymm (h.each _ he).2.1 (g.each _ hf).2.1 fun d => ?_
  constructor
  ·intro hd
   obtain ⟨r, hr, k1, k2⟩ := (h.mem es[i].pr d).1 ⟨_, he, rfl, hd⟩
   obtain ⟨e, he2, k3, k4⟩ := (g.mem es[i].pr d).2 ⟨r, (hm r).2 hr, k1, k2⟩
   rw [← g.one he2 hf (k3.trans e1)]; exact k4
  ·intro hd
   obtain ⟨r, hr, k1, k2⟩ := (g.mem fs[i].pr d).1 ⟨_, hf, rfl, hd⟩
   obtain ⟨e, he2, k3, k4⟩ := (h.mem fs[i].pr d).2 ⟨r, (hm r).1 hr, k1, k2⟩
   rw [← h.one he2 he (k3.trans e1.symm)]; exact k4
 unfold Evd.say
 rw [e1, e2, (h.each _ he).1, (g.each _ hf).1]
end Go.Proofs.YtepbdjpcoleegaaGreat
