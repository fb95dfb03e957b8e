import Derived.Test.YtepbdjpcoleegaaGreatCmA

/- Pairs that results show, with the identities of those that show them (no program in sight). -/
set_option linter.unusedSimpArgs false
set_option linter.unusedVariables false
namespace Go.Proofs.YtepbdjpcoleegaaGreat
open Eng
def Res.idn (r : Res) : Idn := ⟨r.vantage, r.run, r.number⟩
def grpAdd : List (Par × List Idn) → Par → Idn → List (Par × List Idn)
 | [], p, d => [(p, [d])]
 | g :: G, p, d => if g.1 = p then (g.1, g.2 ++ [d]) :: G else g :: grpAdd G p d
theorem grpAdd_miss {p : Par} {d : Idn} : ∀ {G : List (Par × List Idn)}, (∀ g ∈ G, g.1 ≠ p) → grpAdd G p d = G ++ [(p, [d])]
 | [], _ => rfl
 | g :: G, h => by
  unfold grpAdd
  rw [if_neg (h g (by simp)), grpAdd_miss fun x hx => h x (by simp [hx])]
  rfl
theorem grpAdd_hit {p : Par} {d : Idn} : ∀ {G : List (Par × List Idn)} {i : Nat} {l : List Idn}, (G.map (·.1)).Nodup → G[i]? = some (p, l) → grpAdd G p d = G.set i (p, l ++ [d])
 | [], _, _, _, h => by simp at h
 | g :: G, 0, l, _, h => by
  simp only [List.getElem?_cons_zero, Option.some.injEq] at h
  subst h
  unfold grpAdd
  rw [if_pos rfl]
  rfl
 | g :: G, i + 1, l, hn, h => by
  simp only [List.getElem?_cons_succ] at h
  simp only [List.map_cons, List.nodup_cons] at hn
  unfold grpAdd
  rw [if_neg, grpAdd_hit hn.2 h]
  ·rfl
  ·rintro rfl
   exact hn.1 (List.mem_map.2 ⟨_, List.mem_of_getElem? h, rfl⟩)
theorem grpAdd_mem {p q : Par} {d e : Idn} : ∀ {G : List (Par × List Idn)}, (G.map (·.1)).Nodup → ((∃ l, (q, l) ∈ grpAdd G p d ∧ e ∈ l) ↔ (∃ l, (q, l) ∈ G ∧ e ∈ l) ∨ (q = p ∧ e = d))
 | [], _ => by
  unfold grpAdd
  constructor
  ·rintro ⟨l, hl, he⟩
   simp only [List.mem_singleton, Prod.mk.injEq] at hl
   obtain ⟨rfl, rfl⟩ := hl
   exact .inr ⟨rfl, by simpa using he⟩
  ·rintro (⟨l, hl, _⟩ | ⟨rfl, rfl⟩)
   ·cases hl
   ·exact ⟨[e], by simp, by simp⟩
 | g :: G, hn => by
  simp only [List.map_cons, List.nodup_cons] at hn
  unfold grpAdd
  split
  ·rename_i hp
   subst hp
   constructor
   ·rintro ⟨l, hl, he⟩
    rcases List.mem_cons.1 hl with h | h
    ·simp only [Prod.mk.injEq] at h
     obtain ⟨rfl, rfl⟩ := h
     rcases List.mem_append.1 he with h | h
     ·exact .inl ⟨g.2, by simp, h⟩
     ·exact .inr ⟨rfl, by simpa using h⟩
    ·exact .inl ⟨l, by simp [h], he⟩
   ·rintro (⟨l, hl, he⟩ | ⟨rfl, rfl⟩)
    ·rcases List.mem_cons.1 hl with h | h
     ·rw [← h]; exact ⟨l ++ [d], by simp, by simp [he]⟩
     ·exact ⟨l, by simp [h], he⟩
    ·exact ⟨g.2 ++ [e], by simp, by simp⟩
  ·have ih := grpAdd_mem (p := p) (q := q) (d := d) (e := e) hn.2
   constructor
   ·rintro ⟨l, hl, he⟩
    rcases List.mem_cons.1 hl with h | h
    ·exact .inl ⟨l, by simp [h], he⟩
    ·rcases ih.1 ⟨l, h, he⟩ with ⟨l', h1, h2⟩ | h
     ·exact .inl ⟨l', by simp [h1], h2⟩
     ·exact .inr h
   ·rintro (⟨l, hl, he⟩ | h)
    ·rcases List.mem_cons.1 hl with h | h
     ·exact ⟨l, by simp [h], he⟩
     ·obtain ⟨l', h1, h2⟩ := ih.2 (.inl ⟨l, h, he⟩)
      exact ⟨l', by simp [h1], h2⟩
    ·obtain ⟨l', h1, h2⟩ := ih.2 (.inr h)
     exact ⟨l', by simp [h1], h2⟩
theorem grpAdd_keys {p : Par} {d : Idn} : ∀ {G : List (Par × List Idn)} (q : Par), q ∈ (grpAdd G p d).map (·.1) ↔ q ∈ G.map (·.1) ∨ q = p
 | [], q => by simp [grpAdd]
 | g :: G, q => by
  unfold grpAdd
  split
  ·rename_i hp; subst hp; simp only [List.map_cons, List.mem_cons]
   constructor
   ·rintro (h | h)
    ·exact .inl (.inl h)
    ·exact .inl (.inr h)
   ·rintro ((h | h) | h)
    ·exact .inl h
    ·exact .inr h
    ·exact .inl h
  ·simp only [List.map_cons, List.mem_cons, grpAdd_keys (G := G) q, or_assoc]
theorem grpAdd_nodup {p : Par} {d : Idn} : ∀ {G : List (Par × List Idn)}, (G.map (·.1)).Nodup → ((grpAdd G p d).map (·.1)).Nodup
 | [], _ => by simp [grpAdd]
 | g :: G, hn => by
  simp only [List.map_cons, List.nodup_cons] at hn
  unfold grpAdd
  split
  ·simp only [List.map_cons, List.nodup_cons]; exact hn
  ·rename_i hp
   simp only [List.map_cons, List.nodup_cons]
   refine ⟨fun h => ?_, grpAdd_nodup hn.2⟩
   rcases (grpAdd_keys _).1 h with h | h
   ·exact hn.1 h
   ·exact hp h
theorem grpAdd_ne {p : Par} {d : Idn} : ∀ {G : List (Par × List Idn)}, (∀ g ∈ G, g.2 ≠ []) → ∀ g ∈ grpAdd G p d, g.2 ≠ []
 | [], _, g, hg => by simp only [grpAdd, List.mem_singleton] at hg; subst hg; simp
 | x :: G, h, g, hg => by
  unfold grpAdd at hg
  split at hg
  ·rcases List.mem_cons.1 hg with rfl | hg
   ·simp
   ·exact h g (by simp [hg])
  ·rcases List.mem_cons.1 hg with rfl | hg
   ·exact h g (by simp)
   ·exact grpAdd_ne (fun y hy => h y (by simp [hy])) g hg
theorem grpAdd_len {p : Par} {d : Idn} : ∀ {G : List (Par × List Idn)}, (grpAdd G p d).length ≤ G.length + 1 ∧ ∀ n, (∀ g ∈ G, g.2.length ≤ n) → ∀ g ∈ grpAdd G p d, g.2.length ≤ n + 1
 | [] => ⟨by simp [grpAdd], fun n _ g hg => by simp only [grpAdd, List.mem_singleton] at hg; subst hg; simp⟩
 | x :: G => by
  have ih := grpAdd_len (p := p) (d := d) (G := G)
  unfold grpAdd
  split
  ·refine ⟨by simp, fun n h g hg => ?_⟩
   rcases List.mem_cons.1 hg with rfl | hg
   ·have := h x (by simp); simp only [List.length_append, List.length_singleton]; omega
   ·have := h g (by simp [hg]); omega
  ·refine ⟨by simp only [List.length_cons]; omega, fun n h g hg => ?_⟩
   rcases List.mem_cons.1 hg with rfl | hg
   ·have := h g (by simp); omega
   ·exact ih.2 n (fun y hy => h y (by simp [hy])) g hg
def grpStep (G : List (Par × List Idn)) (r : Res) : List (Par × List Idn) := match showR r with
 | some p => grpAdd G p r.idn
 | none => G
def grpOf (ys : List Res) : List (Par × List Idn) := ys.foldl grpStep []
theorem grpOf_take (ys : List Res) (i : Nat) (h : i < ys.length) : grpOf (ys.take (i + 1)) = grpStep (grpOf (ys.take i)) ys[i] := by
 unfold grpOf
 rw [List.take_succ_eq_append_getElem h, List.foldl_append]
 rfl
structure GrpOk (ys : List Res) (G : List (Par × List Idn)) : Prop where
 nodup : (G.map (·.1)).Nodup
 ne : ∀ g ∈ G, g.2 ≠ []
 mem : ∀ p d, (∃ l, (p, l) ∈ G ∧ d ∈ l) ↔ ∃ r ∈ ys, showR r = some p ∧ r.idn = d
 len : G.length ≤ ys.length
 lens : ∀ g ∈ G, g.2.length ≤ ys.length
theorem GrpOk.step {ys : List Res} {G : List (Par × List Idn)} (h : GrpOk ys G) (r : Res) : GrpOk (ys ++ [r]) (grpStep G r) := by
 unfold grpStep
 cases hs : showR r with
 | none =>
  refine ⟨h.nodup, h.ne, fun p d => (h.mem p d).trans ?_, by have := h.len; simp; omega, fun g hg => by have := h.lens g hg; simp; omega⟩
  constructor
  ·rintro ⟨x, hx, h1⟩; exact ⟨x, by simp [hx], h1⟩
  ·rintro ⟨x, hx, h1, h2⟩
   rcases List.mem_append.1 hx with hx | hx
   ·exact ⟨x, hx, h1, h2⟩
   ·rw [List.mem_singleton] at hx; subst hx; rw [hs] at h1; cases h1
 | some q =>
  refine ⟨grpAdd_nodup h.nodup, grpAdd_ne h.ne, fun p d => (grpAdd_mem h.nodup).trans ?_, by have := h.len; have := (grpAdd_len (p := q) (d := r.idn) (G := G)).1; simp; omega, fun g hg => by
   have := (grpAdd_len (p := q) (d := r.idn) (G := G)).2 ys.length h.lens g hg
   simp; omega⟩
  rw [h.mem p d]
  constructor
  ·rintro (⟨x, hx, h1⟩ | ⟨rfl, rfl⟩)
   ·exact ⟨x, by simp [hx], h1⟩
   ·exact ⟨r, by simp, hs, rfl⟩
  ·rintro ⟨x, hx, h1, h2⟩
   rcases List.mem_append.1 hx with hx | hx
   ·exact .inl ⟨x, hx, h1, h2⟩
   ·rw [List.mem_singleton] at hx; subst hx; rw [hs] at h1; cases h1; exact .inr ⟨rfl, h2.symm⟩
theorem grpOk_take (ys : List Res) : ∀ i, i ≤ ys.length → GrpOk (ys.take i) (grpOf (ys.take i))
 | 0, _ => by
  refine ⟨by simp [grpOf], by simp [grpOf], fun p d => ?_, by simp [grpOf], by simp [grpOf]⟩
  simp [grpOf]
 | i + 1, h => by
  have hi : i < ys.length := by omega
  have := (grpOk_take ys i (by omega)).step ys[i]
  rw [grpOf_take ys i hi, List.take_succ_eq_append_getElem hi]
  exact this
end Go.Proofs.YtepbdjpcoleegaaGreat
