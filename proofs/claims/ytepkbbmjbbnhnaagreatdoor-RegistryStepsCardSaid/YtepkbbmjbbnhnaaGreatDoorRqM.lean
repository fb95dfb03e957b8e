/- Registries (no program in sight): what the reference computes is the same: lists of times, what is removed. -/
import Derived.Test.YtepkbbmjbbnhnaaGreatDoorAddM
import Derived.Test.YtepkbbmjbbnhnaaGreatDoorHisM
set_option linter.unusedSimpArgs false
set_option linter.unusedVariables false
namespace Go.Proofs.YtepkbbmjbbnhnaaGreatDoor
open Eng
theorem asc_uniq : ∀ {l m : List Int}, l.Pairwise (· < ·) → m.Pairwise (· < ·) → (∀ x, x ∈ l ↔ x ∈ m) → l = m
  | [], [], _, _, _ => rfl
  | [], y :: m, _, _, h => absurd ((h y).2 List.mem_cons_self) (by simp)
  | x :: l, [], _, _, h => absurd ((h x).1 List.mem_cons_self) (by simp)
  | x :: l, y :: m, h1, h2, h => by
    rw [List.pairwise_cons] at h1 h2
    have hxy : x = y := by
      rcases List.mem_cons.1 ((h x).1 List.mem_cons_self) with h3 | h3
      · exact h3
      · rcases List.mem_cons.1 ((h y).2 List.mem_cons_self) with h4 | h4
        · exact h4.symm
        · have := h1.1 y h4; have := h2.1 x h3; omega
    subst hxy
    have := asc_uniq h1.2 h2.2 (fun z => ⟨fun hz => ?_, fun hz => ?_⟩)
    · rw [this]
    · rcases List.mem_cons.1 ((h z).1 (List.mem_cons_of_mem _ hz)) with h3 | h3
      · have := h1.1 z hz; omega
      · exact h3
    · rcases List.mem_cons.1 ((h z).2 (List.mem_cons_of_mem _ hz)) with h3 | h3
      · have := h2.1 z hz; omega
      · exact h3
def insN (l : List Int) (k : Nat) (x : Int) : List Int := l.take k ++ x :: l.drop k
def Srt (l zs : List Int) : Prop := zs.Pairwise (· < ·) ∧ ∀ x, x ∈ zs ↔ x ∈ l
theorem Srt.eq {l zs ys : List Int} (h : Srt l zs) (h' : Srt l ys) : zs = ys := asc_uniq h.1 h'.1 fun x => (h.2 x).trans (h'.2 x).symm
theorem insN_mem {l : List Int} {k : Nat} {x y : Int} : y ∈ insN l k x ↔ y ∈ l ∨ y = x := by
  unfold insN
  have h : y ∈ l ↔ y ∈ l.take k ∨ y ∈ l.drop k := by rw [← List.mem_append, List.take_append_drop]
  rw [List.mem_append, List.mem_cons, h]
  constructor
  · rintro (h | h | h)
    · exact .inl (.inl h)
    · exact .inr h
    · exact .inl (.inr h)
  · rintro ((h | h) | h)
    · exact .inl h
    · exact .inr (.inr h)
    · exact .inr (.inl h)
theorem insN_len {l : List Int} {k : Nat} {x : Int} (h : k ≤ l.length) : (insN l k x).length = l.length + 1 := by
  unfold insN
  rw [List.length_append, List.length_cons, List.length_take, List.length_drop]; omega
theorem insN_get {l : List Int} {k : Nat} {x : Int} (hk : k ≤ l.length) (i : Nat) : (insN l k x).getD i 0 = if i < k then l.getD i 0 else if i = k then x else l.getD (i - 1) 0 := by
  unfold insN
  simp only [List.getD, List.getElem?_append, List.length_take, Nat.min_eq_left hk, List.getElem?_take, List.getElem?_cons, List.getElem?_drop]
  by_cases h1 : i < k
  · simp only [h1, if_true]
  · by_cases h2 : i = k
    · subst h2; simp
    · simp only [h1, h2, if_false, show ¬ (i - k = 0) by omega, show k + (i - k - 1) = i - 1 by omega]
theorem insN_asc {l : List Int} {k : Nat} {x : Int} (h : l.Pairwise (· < ·)) (hk : k ≤ l.length) (h1 : ∀ j, j < k → l.getD j 0 < x) (h2 : k < l.length → x < l.getD k 0) : (insN l k x).Pairwise (· < ·) := by
  have hs : (l.take k ++ l.drop k).Pairwise (· < ·) := by rw [List.take_append_drop]; exact h
  obtain ⟨g1, g2, g3⟩ := List.pairwise_append.1 hs
  have hd : ∀ y ∈ l.drop k, x < y := fun y hy => by
    obtain ⟨j, hj, rfl⟩ := List.getElem_of_mem hy
    rw [List.length_drop] at hj
    rw [List.getElem_drop]
    have h3 := h2 (by omega)
    rcases Nat.eq_zero_or_pos j with rfl | h0
    · have : l.getD k 0 = l[k] := by simp [List.getD, show k < l.length by omega]
      rw [this] at h3
      exact h3
    · have h4 := asc_lt h (i := k) (j := k + j) (by omega) (by omega)
      have : l.getD (k + j) 0 = l[k + j] := by simp [List.getD, show k + j < l.length by omega]
      rw [this] at h4
      omega
  unfold insN
  rw [List.pairwise_append, List.pairwise_cons]
  refine ⟨g1, ⟨hd, g2⟩, fun a ha y hy => ?_⟩
  have hax : a < x := by
    obtain ⟨j, hj, rfl⟩ := List.getElem_of_mem ha
    rw [List.length_take] at hj
    have := h1 j (by omega)
    have e : l.getD j 0 = l[j] := by simp [List.getD, show j < l.length by omega]
    rw [e] at this
    rw [List.getElem_take]
    exact this
  rcases List.mem_cons.1 hy with rfl | hy
  · exact hax
  · have := hd y hy; omega
theorem Srt.nil : Srt [] [] := ⟨List.Pairwise.nil, fun x => Iff.rfl⟩
theorem Srt.have {l zs : List Int} {x : Int} (h : Srt l zs) (hx : x ∈ zs) : Srt (l ++ [x]) zs := ⟨h.1, fun y => by
  rw [List.mem_append, List.mem_singleton, ← h.2 y]
  exact ⟨.inl, fun h => h.elim id fun e => by rw [e]; exact hx⟩⟩
theorem Srt.put {l zs : List Int} {x : Int} {k : Nat} (h : Srt l zs) (hk : k ≤ zs.length) (h1 : ∀ j, j < k → zs.getD j 0 < x) (h2 : k < zs.length → x < zs.getD k 0) : Srt (l ++ [x]) (insN zs k x) := ⟨insN_asc h.1 hk h1 h2, fun y => by
  rw [insN_mem, List.mem_append, List.mem_singleton, h.2 y]⟩
theorem times_srt (a : Nat) (rs : List RgP) : Srt ([0, 1125899906842624] ++ ftsL a rs) (timesL a rs) := ⟨timesL_asc a rs, fun x => by
  rw [timesL_mem]; simp⟩
theorem Srt.one {a : Nat} {p : RgP} {zs : List Int} (h : Srt ([0, 1125899906842624] ++ ftL a p.es) zs) : zs = timesL a [p] := h.eq (by
  have := times_srt a [p]
  rwa [show ftsL a [p] = ftL a p.es by simp [ftsL]] at this)
theorem Srt.two {a : Nat} {p q : RgP} {zs : List Int} (h : Srt (timesL a [p] ++ ([0, 1125899906842624] ++ ftL a q.es)) zs) : zs = timesL a [p, q] := h.eq ⟨timesL_asc a _, fun x => by
  rw [timesL_mem, List.mem_append, timesL_mem]
  simp only [ftsL, List.flatMap_cons, List.flatMap_nil, List.append_nil, List.cons_append, List.nil_append, List.mem_append, List.mem_cons]
  constructor
  · rintro (h | h | h | h)
    · exact .inl (.inl h)
    · exact .inl (.inr (.inl h))
    · exact .inl (.inr (.inr h))
    · exact .inr (.inr (.inr h))
  · rintro ((h | h | h) | h | h | h)
    · exact .inl h
    · exact .inr (.inl h)
    · exact .inr (.inr (.inl h))
    · exact .inl h
    · exact .inr (.inl h)
    · exact .inr (.inr (.inr h))⟩
/-! ### What is removed -/
def atKey (es : List Ent) (q : Prf) (t : Int) (i : Nat) : Prop := (es.getD i default).pr = q ∧ (es.getD i default).from_ = t
instance (es : List Ent) (q : Prf) (t : Int) (i : Nat) : Decidable (atKey es q t i) := by unfold atKey; infer_instance
theorem atKey_fk {es : List Ent} {q : Prf} {t : Int} {i : Nat} (h : atKey es q t i) : (es.getD i default).fk = [(q.addr : Int), q.len, t] := by
  obtain ⟨h1, h2⟩ := h
  have e1 : (es.getD i default).addr = q.addr := by rw [← h1]; rfl
  have e2 : (es.getD i default).len = q.len := by rw [← h1]; rfl
  show [((es.getD i default).addr : Int), (es.getD i default).len, (es.getD i default).from_] = _
  rw [e1, e2, h2]
theorem fk_lt_at {es : List Ent} (h : RegOk es) {i j : Nat} (hij : i < j) (hj : j < es.length) : cmpL (es.getD i default).fk (es.getD j default).fk < 0 := by
  have := RegOk.lt h (j - i - 1) i (by omega)
  rw [show i + (j - i - 1) + 1 = j by omega] at this
  exact nb_fk this (h.2 i (by omega)).1.2.2.2.2.1
theorem atKey_plc {es : List Ent} (h : RegOk es) {q : Prf} {t : Int} {i : Nat} (hi : i < es.length) (hk : atKey es q t i) : plcN es [(q.addr : Int), q.len, t] = i := by
  have e := atKey_fk hk
  refine (Place.eq ⟨Nat.le_of_lt hi, fun j hj => ?_, fun j hj hl => ?_⟩).symm
  · rw [← e]; exact fk_lt_at h hj hi
  · rw [← e]
    rcases (show i = j ∨ i < j by omega) with rfl | h9
    · rw [cmpL_self]; exact Int.le_refl _
    · have h1 := fk_lt_at h h9 hl
      have h2 := cmpL_neg (es.getD i default).fk (es.getD j default).fk
      omega
theorem remV_hit {es : List Ent} (h : RegOk es) {q : Prf} {t : Int} {i : Nat} (hi : i < es.length) (hk : atKey es q t i) : remV es q t = (delE es i, 0) := by
  unfold remV
  rw [if_neg (fun h9 => h9 h), atKey_plc h hi hk, if_pos ⟨hi, hk.1, hk.2⟩]
theorem remV_miss {es : List Ent} (h : RegOk es) {q : Prf} {t : Int} (hk : ∀ i, i < es.length → ¬ atKey es q t i) : remV es q t = ([], 8) := by
  unfold remV
  rw [if_neg (fun h9 => h9 h), if_neg (fun h9 => hk _ h9.1 ⟨h9.2.1, h9.2.2⟩)]
theorem del_rd (es : List Ent) (i : Nat) (hi : i < es.length) : rdEq (es.length - 1) 5 (rdCat i (fun p j => entRd es p j) fun p j => entRd es (i + 1 + p) j) (entRd (delE es i)) := by
  intro p q hp hq
  rw [entRd_del es i p q hi]
  unfold rdCat
  split
  · rfl
  · show entRd es (i + 1 + (p - i)) q = _
    rw [show i + 1 + (p - i) = p + 1 by omega]
end Go.Proofs.YtepkbbmjbbnhnaaGreatDoor
