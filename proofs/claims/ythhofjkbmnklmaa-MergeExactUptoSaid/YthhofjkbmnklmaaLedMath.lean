/- Laws of ledgers (no program in sight). -/
import Derived.Test.YthhofjkbmnklmaaResOrd
namespace Go.Proofs.Ythhofjkbmnklmaa
open Go.Sort

theorem id_trans {a b c : Res} (h : resIdent a b < 0) (k : resIdent b c ≤ 0) : resIdent a c < 0 := by
  rcases Int.lt_or_eq_of_le k with k | k
  · exact cmpL_trans a.idk b.idk c.idk rfl rfl h k
  · have := resIdent_zero.1 k
    unfold resIdent at h ⊢
    rw [← this]; exact h
theorem id_trans2 {a b c : Res} (h : resIdent a b ≤ 0) (k : resIdent b c < 0) : resIdent a c < 0 := by
  rcases Int.lt_or_eq_of_le h with h | h
  · exact cmpL_trans a.idk b.idk c.idk rfl rfl h k
  · have := resIdent_zero.1 h
    unfold resIdent at k ⊢
    rw [this]; exact k
theorem resLt_le {a b : Res} (h : resLt a b = true) : resIdent a b ≤ 0 := by
  rcases resLt_ident h with h | h <;> omega

/-- the groups: each of one identity, in order -/
theorem grp_spec : ∀ c : List Res, c.Pairwise (fun a b => resLt a b = true) → (∀ g ∈ grp c, ∀ a ∈ g, ∀ b ∈ g, a.idk = b.idk) ∧ (grp c).Pairwise fun g h => ∀ a ∈ g, ∀ b ∈ h, resIdent a b < 0
  | [], _ => by simp [grp]
  | r :: t, hp => by
    have hp' := List.pairwise_cons.1 hp
    obtain ⟨ih1, ih2⟩ := grp_spec t hp'.2
    have hflat := grp_flat t
    have hne := grp_ne t
    unfold grp
    split
    · rename_i hg; simp
    · rename_i gs hg; exact absurd rfl (hne [] (by rw [hg]; simp))
    · rename_i x g gs hg
      rw [hg] at ih1 ih2 hflat
      have hpc := List.pairwise_cons.1 ih2
      have hin : ∀ h ∈ ((x :: g) :: gs), ∀ b ∈ h, b ∈ t := fun h hh b hb => by
        rw [← hflat]; exact List.mem_flatten.2 ⟨h, hh, hb⟩
      have hrx : resLt r x = true := hp'.1 x (hin (x :: g) (by simp) x (by simp))
      split
      · rename_i hs
        have hid : r.idk = x.idk := by simpa [sameId] using hs
        refine ⟨fun h hh a ha b hb => ?_, List.pairwise_cons.2 ⟨fun h hh a ha b hb => ?_, hpc.2⟩⟩
        · rcases List.mem_cons.1 hh with rfl | hh
          · have key : ∀ y ∈ r :: x :: g, y.idk = x.idk := fun y hy => by
              rcases List.mem_cons.1 hy with rfl | hy
              · exact hid
              · exact ih1 _ (by simp) y hy x (by simp)
            rw [key a ha, key b hb]
          · exact ih1 h (List.mem_cons_of_mem _ hh) a ha b hb
        · rcases List.mem_cons.1 ha with rfl | ha
          · have := hpc.1 h hh x (by simp) b hb
            exact id_trans2 (by rw [resIdent_zero.2 hid]; omega) this
          · exact hpc.1 h hh a ha b hb
      · rename_i hs
        have hid : ¬ r.idk = x.idk := by simpa [sameId] using hs
        have hlt : resIdent r x < 0 := by
          rcases resLt_ident hrx with h | h
          · exact h
          · exact absurd (resIdent_zero.1 h) hid
        refine ⟨fun h hh a ha b hb => ?_, List.pairwise_cons.2 ⟨fun h hh a ha b hb => ?_, ih2⟩⟩
        · rcases List.mem_cons.1 hh with rfl | hh
          · simp at ha hb; rw [ha, hb]
          · exact ih1 h hh a ha b hb
        · have ha' : a = r := by simpa using ha
          subst ha'
          rcases List.mem_cons.1 hh with rfl | hh
          · have := ih1 _ (by simp) x (by simp) b hb
            exact id_trans hlt (by rw [resIdent_zero.2 this]; omega)
          · exact id_trans hlt (Int.le_of_lt (hpc.1 h hh x (by simp) b hb))

theorem single_some {g : List Res} {r : Res} (h : single g = some r) : g = [r] := by
  cases g with
  | nil => exact absurd h (by simp [single])
  | cons x t =>
    cases t with
    | nil =>
      have h1 : some x = some r := h
      rw [Option.some.inj h1]
    | cons y t => exact absurd h (by simp [single])
theorem asc_fm : ∀ gs : List (List Res), gs.Pairwise (fun g h => ∀ a ∈ g, ∀ b ∈ h, resIdent a b < 0) → (gs.filterMap single).Pairwise fun a b => resIdent a b < 0
  | [], _ => List.Pairwise.nil
  | g :: gs, h => by
    have h' := List.pairwise_cons.1 h
    have ih := asc_fm gs h'.2
    cases hs : single g with
    | none => rw [List.filterMap_cons_none hs]; exact ih
    | some a =>
      rw [List.filterMap_cons_some hs]
      refine List.pairwise_cons.2 ⟨fun b hb => ?_, ih⟩
      obtain ⟨g2, hg2, hb2⟩ := List.mem_filterMap.1 hb
      have e1 := single_some hs
      have e2 := single_some hb2
      subst e1; subst e2
      exact h'.1 _ hg2 a (by simp) b (by simp)
theorem asc_rs {c : List Res} (hp : c.Pairwise (fun a b => resLt a b = true)) : (ledOf c).rs.Pairwise fun a b => resIdent a b < 0 := asc_fm _ (grp_spec c hp).2

/-- alone with its identity -/
def alone (c : List Res) (r : Res) : Prop := r ∈ c ∧ ∀ s ∈ c, s.idk = r.idk → s = r
theorem rs_mem {c : List Res} (hp : c.Pairwise (fun a b => resLt a b = true)) (r : Res) : r ∈ (ledOf c).rs ↔ alone c r := by
  obtain ⟨h1, h2⟩ := grp_spec c hp
  have hflat := grp_flat c
  unfold ledOf ledG
  simp only
  rw [List.mem_filterMap]
  constructor
  · rintro ⟨g, hg, hs⟩
    have e := single_some hs
    subst e
    refine ⟨by rw [← hflat]; exact List.mem_flatten.2 ⟨_, hg, by simp⟩, fun s hs' hid => ?_⟩
    rw [← hflat] at hs'
    obtain ⟨h, hh, hsh⟩ := List.mem_flatten.1 hs'
    by_cases e : h = [r]
    · subst e; simpa using hsh
    · have key : resIdent s r < 0 ∨ resIdent r s < 0 := by
        obtain ⟨i, hi, rfl⟩ := List.getElem_of_mem hh
        obtain ⟨j, hj, hje⟩ := List.getElem_of_mem hg
        rcases Nat.lt_trichotomy i j with hlt | heq | hgt
        · left
          have := List.pairwise_iff_getElem.1 h2 i j hi hj hlt s hsh r (by rw [hje]; simp)
          exact this
        · subst heq; exact absurd hje e
        · right
          have := List.pairwise_iff_getElem.1 h2 j i hj hi hgt r (by rw [hje]; simp) s hsh
          exact this
      have hz := resIdent_zero.2 hid
      have hz2 := resIdent_zero.2 hid.symm
      rcases key with h | h <;> omega
  · rintro ⟨hm, hall⟩
    rw [← hflat] at hm
    obtain ⟨g, hg, hrg⟩ := List.mem_flatten.1 hm
    refine ⟨g, hg, ?_⟩
    have hsub : ∀ s ∈ g, s = r := fun s hs => hall s (by rw [← hflat]; exact List.mem_flatten.2 ⟨g, hg, hs⟩) (h1 g hg s hs r hrg)
    have hpg : g.Pairwise fun a b => resLt a b = true := (hp.sublist (by rw [← hflat]; exact List.sublist_flatten_of_mem hg))
    match g, hrg, hsub, hpg with
    | [x], _, hsub, _ => have := hsub x (by simp); subst this; rfl
    | x :: y :: t, _, hsub, hpg =>
      have e1 := hsub x (by simp)
      have e2 := hsub y (by simp)
      have := (List.pairwise_cons.1 hpg).1 y (by simp)
      rw [e1, e2, resLt_irrefl] at this
      cases this

/-- no two of one identity -/
theorem ledOf_asc : ∀ {c : List Res}, c.Pairwise (fun a b => resIdent a b < 0) → ledOf c = ⟨c, []⟩ := by
  intro c
  suffices h : c.Pairwise (fun a b => resIdent a b < 0) → grp c = c.map fun r => [r] by
    intro hp
    unfold ledOf ledG
    rw [h hp]
    congr 1
    · rw [List.filterMap_map]
      exact List.filterMap_some
    · rw [List.filterMap_map]
      refine List.filterMap_eq_nil_iff.2 fun a _ => rfl
  induction c with
  | nil => intro _; rfl
  | cons r t ih =>
    intro hp
    have hp' := List.pairwise_cons.1 hp
    rw [grp, ih hp'.2]
    match t, hp' with
    | [], _ => rfl
    | x :: t, hp' =>
      have := hp'.1 x (by simp)
      have hs : sameId r x = false := by
        rw [sameId]
        exact decide_eq_false fun e => by have := resIdent_zero.2 e; omega
      simp [hs]
theorem lt_of_ident {a b : Res} (h : resIdent a b < 0) : resLt a b = true := by
  unfold resLt
  rw [resCompare_ident a b (fun e => by have := resIdent_zero.2 e; omega)]
  simpa using h

/-- as many as there are, if none is there twice -/
theorem canon_len {c xs : List Res} (h : Canon c xs) (hn : xs.Nodup) : c.length = xs.length := by
  have hc : c.Nodup := h.asc.imp fun hab e => by subst e; rw [resLt_irrefl] at hab; cases hab
  exact ((List.perm_ext_iff_of_nodup hc hn).2 h.mem).length_eq

/-! ### The greatest ledger -/
def gen (i : Nat) : Res := { (default : Res) with vantage := ((i / 4000 : Nat) : Int), run := ((i / 1000 % 4 : Nat) : Int), number := ((i % 1000 : Nat) : Int), proto := 17, ttl := 1 }
def genL (n : Nat) : List Res := (List.range n).map gen
theorem gen_lt {i j : Nat} (h : i < j) : resIdent (gen i) (gen j) < 0 := by
  unfold resIdent Res.idk gen
  simp only [cmpL_cons]
  have h1 : i / 4000 ≤ j / 4000 := by omega
  by_cases e1 : ((i / 4000 : Nat) : Int) = ((j / 4000 : Nat) : Int)
  · rw [if_pos e1]
    by_cases e2 : ((i / 1000 % 4 : Nat) : Int) = ((j / 1000 % 4 : Nat) : Int)
    · rw [if_pos e2]
      by_cases e3 : ((i % 1000 : Nat) : Int) = ((j % 1000 : Nat) : Int)
      · omega
      · rw [if_neg e3, ordI_lt]; omega
    · rw [if_neg e2, ordI_lt]; omega
  · rw [if_neg e1, ordI_lt]; omega
theorem genL_asc (n : Nat) : (genL n).Pairwise fun a b => resIdent a b < 0 := by
  unfold genL
  rw [List.pairwise_map]
  exact List.pairwise_lt_range.imp gen_lt
theorem genL_canon (n : Nat) {xs : List Res} (h : ∀ r, r ∈ genL n ↔ r ∈ xs) : Canon (genL n) xs := ⟨(genL_asc n).imp lt_of_ident, h⟩
theorem genL_succ (n : Nat) : genL (n + 1) = genL n ++ [gen n] := by simp [genL, List.range_succ]
theorem genL_len (n : Nat) : (genL n).length = n := by simp [genL]
theorem genL_nodup (n : Nat) : (genL n).Nodup := (genL_asc n).imp fun {a b} h e => by
  subst e
  have h0 : resIdent a a = 0 := resIdent_zero.2 rfl
  omega
end Go.Proofs.Ythhofjkbmnklmaa
