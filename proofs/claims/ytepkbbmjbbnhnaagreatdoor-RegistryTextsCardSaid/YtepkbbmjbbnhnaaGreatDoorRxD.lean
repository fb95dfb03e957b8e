/- address.ParsePrefix of any string. -/
import Derived.Test.YtepkbbmjbbnhnaaGreatDoorRxC
set_option linter.unusedSimpArgs false
set_option linter.unusedVariables false
namespace Go.Proofs.YtepkbbmjbbnhnaaGreatDoor
open Go.RowKit Eng
/-! ### Prefixes -/
def parPS (l : List UInt8) : SV := match parP l with
  | some p => tupL [prS p, .i .i64 0]
  | none => tupL [prS ⟨0, 0⟩, .i .i64 2]
theorem numB_free {s : List UInt8} {m n : Nat} (hm : m < 1000) (h : numB s m = some n) {c : UInt8} (hc : c.toNat < 48) : ∀ x ∈ s, x ≠ c := by
  obtain ⟨h1, h2⟩ := numB_some h
  subst h2
  exact dig_ne (by omega) hc
theorem dig_nil : ∀ n : Fin 1000, Lib.decDigits n.val ≠ [] := by decide +kernel
theorem numB_nil {m : Nat} (hm : m < 1000) : numB [] m = none := by
  cases h : numB [] m with
  | none => rfl
  | some n =>
    obtain ⟨h1, h2⟩ := numB_some h
    exact absurd h2 (dig_nil ⟨n, by omega⟩)
theorem cut_slash (F : Frm) (l : List UInt8) (hl : l.length < 4294967296) : ∃ first last more, (first.length ≤ l.length ∧ last.length ≤ l.length) ∧
    (parP l = match parB first, numB last 32 with | some a, some n => if vld ⟨a, n⟩ = true then some ⟨a, n⟩ else none | _, _ => none) ∧ Contract F Tryz.prog 57 [sB l, .v (.string ⟨#[47]⟩)] (fun r => r = tupL [sB first, sB last, .b more]) := by
  have h := Lib.indexByte_ge l 47
  rcases Int.lt_or_le (Lib.indexByte l 47) 0 with h1 | h1
  · have e : Lib.indexByte l 47 = -1 := by omega
    refine ⟨l, [], false, ⟨Nat.le_refl _, Nat.zero_le _⟩, ?_, cutNoL F 47 l e⟩
    have h2 : parP l = none := by unfold parP; rw [split_index_none e]
    rw [h2, numB_nil (by decide)]
    cases parB l <;> rfl
  · obtain ⟨n, e⟩ := Int.eq_ofNat_of_zero_le h1
    refine ⟨l.take n, l.drop (n + 1), true, ⟨by rw [List.length_take]; exact Nat.min_le_right _ _, by rw [List.length_drop]; exact Nat.sub_le _ _⟩, ?_, cutL F 47 l n e hl⟩
    unfold parP
    rw [split_index_some e]
    cases hn : numB (l.drop (n + 1)) 32 with
    | some k =>
      rw [splitB_none 47 _ (numB_free (by decide) hn (by decide))]
      simp only [hn]
      cases parB (l.take n) <;> rfl
    | none =>
      have e2 : ∀ x : Option Nat, (match x, (none : Option Nat) with | some a, some n => if vld ⟨a, n⟩ = true then some (Prf.mk a n) else none | _, _ => none) = none := fun x => by cases x <;> rfl
      rw [e2]
      split
      · rename_i p q hs
        injection hs with hs1 hs2
        have hq : q = l.drop (n + 1) := by
          have hne := Lib.indexByte_ge (l.drop (n + 1)) 47
          rcases Int.lt_or_le (Lib.indexByte (l.drop (n + 1)) 47) 0 with h3 | h3
          · rw [split_index_none (by omega)] at hs2
            injection hs2 with h4
            exact h4.symm
          · obtain ⟨j, h4⟩ := Int.eq_ofNat_of_zero_le h3
            rw [split_index_some h4] at hs2
            injection hs2 with h5 h6
            exact absurd h6 (splitB_ne _ _)
        rw [hq, hn]
        exact e2 _
      · rfl
set_option maxRecDepth 100000 in
theorem parsePrefixC (l : List UInt8) (hl : l.length < 4294967296) : Contract FrB Tryz.prog 82 [sB l] (fun r => r = parPS l) := by
  obtain ⟨first, last, more, ⟨hl1, hl2⟩, hP, hC⟩ := cut_slash FrB l hl
  have cP := parseC first (by omega)
  have cN := numberC2 last 32 (by decide) (by omega)
  refine contract_of Tryz.func82 rfl (by kernel_rfl) ?_
  simp only [Tryz.ntmps82, argEnv]
  (repeat refine Sat.seq ?_)
  (refine Sat.region_k fun k hk => ?_; simp -implicitDefEqProofs only [evr, id, reduceCtorEq, reduceIte, Nat.reduceMul, Nat.reduceAdd, Nat.reduceLT, Nat.reduceLeDiff, Nat.reduceEqDiff, Int.reduceLT, Int.reduceBEq, Int.reduceBNe, Nat.reduceBEq, Int.reduceNeg, evn])
  intro b1
  (refine hk _ ?_; clear hk k; try show Sat _ _ _ _ _)
  (repeat refine Sat.seq ?_)
  (refine Sat.region_k fun k hk => ?_; simp -implicitDefEqProofs only [evr, id, reduceCtorEq, reduceIte, Nat.reduceMul, Nat.reduceAdd, Nat.reduceLT, Nat.reduceLeDiff, Nat.reduceEqDiff, Int.reduceLT, Int.reduceBEq, Int.reduceBNe, Nat.reduceBEq, Int.reduceNeg, evn])
  refine wcall_slice hC rfl (by simp -implicitDefEqProofs only [evr, id, reduceCtorEq, reduceIte, Nat.reduceMul, Nat.reduceAdd, Nat.reduceLT, Nat.reduceLeDiff, Nat.reduceEqDiff, Int.reduceLT, Int.reduceBEq, Int.reduceBNe, Nat.reduceBEq, Int.reduceNeg, evn]; try rfl) ?_
  rintro r rfl
  simp -implicitDefEqProofs only [evr, id, reduceCtorEq, reduceIte, Nat.reduceMul, Nat.reduceAdd, Nat.reduceLT, Nat.reduceLeDiff, Nat.reduceEqDiff, Int.reduceLT, Int.reduceBEq, Int.reduceBNe, Nat.reduceBEq, Int.reduceNeg, evn]
  (refine hk _ ?_; clear hk k; try show Sat _ _ _ _ _)
  have hpa : ∃ (av : Nat) (er : Int), parS first = tupL [.i .u32 av, .i .i64 er] ∧ av < 2 ^ 32 ∧ ((∃ a, parB first = some a ∧ av = a ∧ er = 0) ∨ (parB first = none ∧ er = 2)) := by
    unfold parS
    cases h : parB first with
    | some a => exact ⟨a, 0, rfl, parB_lt h, .inl ⟨a, rfl, rfl, rfl⟩⟩
    | none => exact ⟨0, 2, rfl, by decide, .inr ⟨rfl, rfl⟩⟩
  obtain ⟨av, er, hps, hav, hcase⟩ := hpa
  rw [hps] at cP
  (repeat refine Sat.seq ?_)
  (refine Sat.region_k fun k hk => ?_; simp -implicitDefEqProofs only [evr, id, reduceCtorEq, reduceIte, Nat.reduceMul, Nat.reduceAdd, Nat.reduceLT, Nat.reduceLeDiff, Nat.reduceEqDiff, Int.reduceLT, Int.reduceBEq, Int.reduceBNe, Nat.reduceBEq, Int.reduceNeg, evn])
  refine wcall_slice cP rfl (by simp -implicitDefEqProofs only [evr, id, reduceCtorEq, reduceIte, Nat.reduceMul, Nat.reduceAdd, Nat.reduceLT, Nat.reduceLeDiff, Nat.reduceEqDiff, Int.reduceLT, Int.reduceBEq, Int.reduceBNe, Nat.reduceBEq, Int.reduceNeg, evn]; try rfl) ?_
  rintro r rfl
  simp -implicitDefEqProofs only [evr, id, reduceCtorEq, reduceIte, Nat.reduceMul, Nat.reduceAdd, Nat.reduceLT, Nat.reduceLeDiff, Nat.reduceEqDiff, Int.reduceLT, Int.reduceBEq, Int.reduceBNe, Nat.reduceBEq, Int.reduceNeg, evn]
  (refine hk _ ?_; clear hk k; try show Sat _ _ _ _ _)
  (repeat refine Sat.seq ?_)
  (refine Sat.region_k fun k hk => ?_; simp -implicitDefEqProofs only [evr, id, reduceCtorEq, reduceIte, Nat.reduceMul, Nat.reduceAdd, Nat.reduceLT, Nat.reduceLeDiff, Nat.reduceEqDiff, Int.reduceLT, Int.reduceBEq, Int.reduceBNe, Nat.reduceBEq, Int.reduceNeg, evn])
  refine wcall_slice cN rfl (by simp -implicitDefEqProofs only [evr, id, reduceCtorEq, reduceIte, Nat.reduceMul, Nat.reduceAdd, Nat.reduceLT, Nat.reduceLeDiff, Nat.reduceEqDiff, Int.reduceLT, Int.reduceBEq, Int.reduceBNe, Nat.reduceBEq, Int.reduceNeg, evn]; try rfl) ?_
  rintro r ⟨v, rfl, hv⟩
  simp -implicitDefEqProofs only [evr, id, reduceCtorEq, reduceIte, Nat.reduceMul, Nat.reduceAdd, Nat.reduceLT, Nat.reduceLeDiff, Nat.reduceEqDiff, Int.reduceLT, Int.reduceBEq, Int.reduceBNe, Nat.reduceBEq, Int.reduceNeg, evn]
  (refine hk _ ?_; clear hk k; try show Sat _ _ _ _ _)
  (repeat refine Sat.seq ?_)
  (refine Sat.region_k fun k hk => ?_; simp -implicitDefEqProofs only [evr, id, reduceCtorEq, reduceIte, Nat.reduceMul, Nat.reduceAdd, Nat.reduceLT, Nat.reduceLeDiff, Nat.reduceEqDiff, Int.reduceLT, Int.reduceBEq, Int.reduceBNe, Nat.reduceBEq, Int.reduceNeg, evn])
  intro b2
  (refine hk _ ?_; clear hk k; try show Sat _ _ _ _ _)
  (repeat refine Sat.seq ?_)
  refine Sat.region_at ⟨44, [(41, .b (parP l).isNone), (11, .op 1 b2 0), (2, .op 0 b1 0)], [.box b1 29 [.i .u32 0, .i .i64 0], .box b2 29 [.i .u32 av, .i .i64 v]]⟩ (fun k hk => ?_) ?_
  · rcases hcase with ⟨a, h1, rfl, rfl⟩ | ⟨h1, rfl⟩
    · cases hn : numB last 32 with
      | none =>
        have e : (parP l).isNone = true := by rw [hP, h1, hn]; rfl
        simp -implicitDefEqProofs only [evr, id, reduceCtorEq, reduceIte, Nat.reduceMul, Nat.reduceAdd, Nat.reduceLT, Nat.reduceLeDiff, Nat.reduceEqDiff, Int.reduceLT, Int.reduceBEq, Int.reduceBNe, Nat.reduceBEq, Int.reduceNeg, hn, Option.isSome_none, Bool.not_false, e, bne_self_eq_false, evn]
        refine hk _ ?_
        simp only [e]
        simp -implicitDefEqProofs only [evr, id, reduceCtorEq, reduceIte, Nat.reduceMul, Nat.reduceAdd, Nat.reduceLT, Nat.reduceLeDiff, Nat.reduceEqDiff, Int.reduceLT, Int.reduceBEq, Int.reduceBNe, Nat.reduceBEq, Int.reduceNeg, evl, evn]
      | some n =>
        obtain rfl := hv n hn
        simp -implicitDefEqProofs only [evr, id, reduceCtorEq, reduceIte, Nat.reduceMul, Nat.reduceAdd, Nat.reduceLT, Nat.reduceLeDiff, Nat.reduceEqDiff, Int.reduceLT, Int.reduceBEq, Int.reduceBNe, Nat.reduceBEq, Int.reduceNeg, hn, Option.isSome_some, Bool.not_true, bne_self_eq_false, evn]
        refine wcall_plain (validC FrB ⟨av, n⟩ hav) (by simp only [prS, prC, evr, id, reduceCtorEq, reduceIte, Nat.reduceMul, Nat.reduceAdd, Nat.reduceLT, Nat.reduceLeDiff, Nat.reduceEqDiff, Int.reduceLT, Int.reduceBEq, Int.reduceBNe, Nat.reduceBEq, List.append_nil, Int.toNat_zero, Nat.sub_self, Int.reduceNeg]; try rfl) (by rintro _ rfl; exact ok_plain rfl) ?_
        rintro r rfl
        simp -implicitDefEqProofs only [evr, id, reduceCtorEq, reduceIte, Nat.reduceMul, Nat.reduceAdd, Nat.reduceLT, Nat.reduceLeDiff, Nat.reduceEqDiff, Int.reduceLT, Int.reduceBEq, Int.reduceBNe, Nat.reduceBEq, Int.reduceNeg, evn]
        refine hk _ ?_
        have e : (parP l).isNone = !vld ⟨av, n⟩ := by
          rw [hP, h1, hn]
          cases hv : vld ⟨av, n⟩ <;> simp [hv]
        simp only [e]
        simp -implicitDefEqProofs only [evr, id, reduceCtorEq, reduceIte, Nat.reduceMul, Nat.reduceAdd, Nat.reduceLT, Nat.reduceLeDiff, Nat.reduceEqDiff, Int.reduceLT, Int.reduceBEq, Int.reduceBNe, Nat.reduceBEq, Int.reduceNeg, evl, evn]
    · have e : (parP l).isNone = true := by
        rw [hP, h1]; rfl
      have e2 : ((2 : Int) != 0) = true := by decide
      simp -implicitDefEqProofs only [evr, id, reduceCtorEq, reduceIte, Nat.reduceMul, Nat.reduceAdd, Nat.reduceLT, Nat.reduceLeDiff, Nat.reduceEqDiff, Int.reduceLT, Int.reduceBEq, Int.reduceBNe, Nat.reduceBEq, Int.reduceNeg, e2, evn]
      refine hk _ ?_
      simp only [e]
      simp -implicitDefEqProofs only [evr, id, reduceCtorEq, reduceIte, Nat.reduceMul, Nat.reduceAdd, Nat.reduceLT, Nat.reduceLeDiff, Nat.reduceEqDiff, Int.reduceLT, Int.reduceBEq, Int.reduceBNe, Nat.reduceBEq, Int.reduceNeg, evl, evn]
  try simp only [thenK]
  refine Sat.cond_b rfl (fun h => ?_) (fun h => ?_)
  · have hnone : parP l = none := by simpa using h
    (repeat refine Sat.seq ?_)
    (refine Sat.region_k fun k hk => ?_; simp -implicitDefEqProofs only [evr, id, reduceCtorEq, reduceIte, Nat.reduceMul, Nat.reduceAdd, Nat.reduceLT, Nat.reduceLeDiff, Nat.reduceEqDiff, Int.reduceLT, Int.reduceBEq, Int.reduceBNe, Nat.reduceBEq, Int.reduceNeg, evn]; refine hk _ ?_; clear hk k; try show Sat _ _ _ _ _)
    refine Sat.ret ?_
    simp only [Tryz.results82, evr, id, reduceCtorEq, reduceIte, Nat.reduceMul, Nat.reduceAdd, Nat.reduceLT, Nat.reduceLeDiff, Nat.reduceEqDiff, Int.reduceLT, Int.reduceBEq, Int.reduceBNe, Nat.reduceBEq, List.append_nil, Int.toNat_zero, Nat.sub_self, Int.reduceNeg]
    unfold parPS
    rw [hnone]
    rfl
  · obtain ⟨p, hp⟩ : ∃ p, parP l = some p := by
      cases hp : parP l with
      | none => rw [hp] at h; cases h
      | some p => exact ⟨p, rfl⟩
    have hpv : p = ⟨av, v⟩ := by
      rw [hP] at hp
      rcases hcase with ⟨a, h1, rfl, rfl⟩ | ⟨h1, rfl⟩
      · cases hn : numB last 32 with
        | none => rw [h1, hn] at hp; cases hp
        | some n =>
          obtain rfl := hv n hn
          rw [h1, hn] at hp
          simp only at hp
          split at hp
          · injection hp with hp; exact hp.symm
          · cases hp
      · rw [h1] at hp; cases hp
    refine Sat.skip ?_
    simp only [thenK]
    (repeat refine Sat.seq ?_)
    (refine Sat.region_k fun k hk => ?_; simp -implicitDefEqProofs only [evr, id, reduceCtorEq, reduceIte, Nat.reduceMul, Nat.reduceAdd, Nat.reduceLT, Nat.reduceLeDiff, Nat.reduceEqDiff, Int.reduceLT, Int.reduceBEq, Int.reduceBNe, Nat.reduceBEq, Int.reduceNeg, evn]; refine hk _ ?_; clear hk k; try show Sat _ _ _ _ _)
    refine Sat.ret ?_
    simp only [Tryz.results82, evr, id, reduceCtorEq, reduceIte, Nat.reduceMul, Nat.reduceAdd, Nat.reduceLT, Nat.reduceLeDiff, Nat.reduceEqDiff, Int.reduceLT, Int.reduceBEq, Int.reduceBNe, Nat.reduceBEq, List.append_nil, Int.toNat_zero, Nat.sub_self, Int.reduceNeg]
    unfold parPS
    rw [hp, hpv]
    rfl
end Go.Proofs.YtepkbbmjbbnhnaaGreatDoor
