import Derived.Test.YtepbdjpcoleegaaCmF

/- What pairs hold (no program in sight). -/
set_option linter.unusedSimpArgs false
set_option linter.unusedVariables false
namespace Go.Proofs.Ytepbdjpcoleegaa
open Eng
def OneEach (xs : List Res) : Prop := ∀ r ∈ xs, ∀ s ∈ xs, r.idn = s.idn → r = s
theorem showR_pr {r : Res} {p : Par} (h : showR r = some p) : p.a ≠ 0 ∧ p.a < p.b := by
 have hv := showR_valid h
 unfold showR at h
 split at h
 ·rename_i hc
  cases h
  simp only [validR, Bool.and_eq_true, Bool.or_eq_true, Bool.not_eq_true', bne_iff_ne, ne_eq] at hv
  have h1 := hv.2.1
  have h2 : r.from_ ≠ 0 := by
   rcases hv.2.2 with h | h
   ·rw [hc.1] at h; cases h
   ·exact h
  have h3 := hc.2.2.1
  show min r.dst r.from_ ≠ 0 ∧ min r.dst r.from_ < max r.dst r.from_
  omega
 ·cases h
theorem findV_one {xs : List Res} (hu : OneEach xs) {r : Res} (hr : r ∈ xs) (hv : validR r = true) : findV xs r.idn = some r := by
 cases hf : findV xs r.idn with
 | none => exact absurd rfl ((findV_none hf).2 r hr hv)
 | some s =>
  rcases findV_some hf with ⟨h1, _, h3⟩ | h
  ·rw [hu s h1 r hr h3]
  ·cases h
theorem ev_shows {xs zs : List Res} {es : List Evd} (hu : OneEach xs) (hz : ∀ r ∈ zs, r ∈ xs) (h : PairsOf zs es) {e : Evd} (he : e ∈ es) {d : Idn} (hd : d ∈ e.ids) (f : Evd) (hf : f.pr = e.pr) : idShows xs f d = true := by
 obtain ⟨r, hr, h1, h2⟩ := (h.mem e.pr d).1 ⟨e, he, rfl, hd⟩
 have := findV_one hu (hz r hr) (showR_valid h1)
 unfold idShows
 rw [← h2, this]
 simp only
 rw [h1, hf]
 exact decide_eq_true rfl
theorem ev_pre {zs : List Res} {es : List Evd} (h : PairsOf zs es) {e : Evd} (he : e ∈ es) : (1 ≤ e.kind ∧ e.kind ≤ 3) ∧ e.a ≠ 0 ∧ e.a < e.b ∧ e.kind = 1 := by
 obtain ⟨h1, _, h3, _⟩ := h.each e he
 obtain ⟨d, hd⟩ := List.exists_mem_of_ne_nil _ h3
 obtain ⟨r, hr, h4, _⟩ := (h.mem e.pr d).1 ⟨e, he, rfl, hd⟩
 obtain ⟨g1, g2⟩ := showR_pr h4
 exact ⟨by omega, g1, g2, h1⟩
def Evd.cut (e : Evd) (n : Nat) : Evd := ⟨e.kind, e.a, e.b, e.ids.take n, e.ad, e.cap⟩
theorem cut_holds {xs zs : List Res} {es : List Evd} (hu : OneEach xs) (hz : ∀ r ∈ zs, r ∈ xs) (h : PairsOf zs es) {e : Evd} (he : e ∈ es) (n : Nat) : holdsV xs (e.cut n) = decide (0 < n) := by
 obtain ⟨h1, h2, h3, _⟩ := h.each e he
 obtain ⟨g1, g2, g3, g4⟩ := ev_pre h he
 by_cases hn : 0 < n
 ·rw [decide_eq_true hn]
  unfold holdsV validEv
  have a1 : evPre (e.cut n) = true := by
   unfold evPre
   refine decide_eq_true ⟨g1, g2, g3, ?_⟩
   show (e.ids.take n).length ≠ 0
   rw [List.length_take]
   have : e.ids.length ≠ 0 := fun h9 => h3 (List.length_eq_zero_iff.1 h9)
   omega
  have a2 : idsAsc (e.cut n).ids = true := idsAsc_iff.2 (h2.sublist (List.take_sublist n e.ids))
  have a3 : (e.cut n).ids.all (idShows xs (e.cut n)) = true := List.all_eq_true.2 fun d hd => ev_shows hu hz h he (List.mem_of_mem_take hd) _ rfl
  have a4 : decide ((e.cut n).kind = 1) = true := decide_eq_true g4
  rw [a1, a2, a3, a4]
  rfl
 ·have : n = 0 := by omega
  subst this
  have a1 : evPre (e.cut 0) = false := by
   unfold evPre
   exact decide_eq_false fun h9 => h9.2.2.2 (by show (e.ids.take 0).length = 0; simp)
  unfold holdsV validEv
  rw [a1]
  simp
theorem cut_all (e : Evd) : e.cut e.ids.length = e := by unfold Evd.cut; rw [List.take_length]
theorem pairs_holds {xs zs : List Res} {es : List Evd} (hu : OneEach xs) (hz : ∀ r ∈ zs, r ∈ xs) (h : PairsOf zs es) {e : Evd} (he : e ∈ es) : holdsV xs e = true := by
 have := cut_holds hu hz h he e.ids.length
 rw [cut_all] at this
 rw [this]
 have h3 := (h.each e he).2.2.1
 exact decide_eq_true (by
  rcases Nat.eq_zero_or_pos e.ids.length with h9 | h9
  ·exact absurd (List.length_eq_zero_iff.1 h9) h3
  ·exact h9)
end Go.Proofs.Ytepbdjpcoleegaa
