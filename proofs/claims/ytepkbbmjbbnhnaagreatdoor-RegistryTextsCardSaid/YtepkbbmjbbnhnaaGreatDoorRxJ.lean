/- A line of a registry's text: registry.entry. -/
import Derived.Test.YtepkbbmjbbnhnaaGreatDoorRxI
set_option linter.unusedSimpArgs false
set_option linter.unusedVariables false
namespace Go.Proofs.YtepkbbmjbbnhnaaGreatDoor
open Go.RowKit Eng Go.Sort
def entR (l : List UInt8) : Option Ent := match splitB 32 l with
  | [a, b, c, d] => (match parP a, numR b, numR c, numR d with
    | some p, some x, some y, some z => some ⟨p.addr, p.len, x, y, z⟩
    | _, _, _, _ => none)
  | _ => none
theorem entR_len {l : List UInt8} (h : (splitB 32 l).length ≠ 4) : entR l = none := by
  unfold entR
  split
  · rename_i h1; rw [h1] at h; exact absurd rfl h
  · rfl
theorem len4 {A : Type} {l : List A} (h : l.length = 4) : ∃ a b c d, l = [a, b, c, d] := by
  match l, h with
  | [a, b, c, d], _ => exact ⟨a, b, c, d, rfl⟩
theorem entR_bad {l a b c d : List UInt8} (h : splitB 32 l = [a, b, c, d]) (hb : parP a = none ∨ numR b = none ∨ numR c = none ∨ numR d = none) : entR l = none := by
  unfold entR
  rw [h]
  simp only
  rcases hb with hb | hb | hb | hb <;> rw [hb]
  · split <;> simp_all
  · split <;> simp_all
  · split <;> simp_all
theorem entR_good {l a b c d : List UInt8} (h : splitB 32 l = [a, b, c, d]) {p : Prf} {x y z : Nat} (h0 : parP a = some p) (h1 : numR b = some x) (h2 : numR c = some y) (h3 : numR d = some z) : entR l = some ⟨p.addr, p.len, x, y, z⟩ := by
  unfold entR
  rw [h]
  simp only [h0, h1, h2, h3]
theorem parP_lt {a : List UInt8} {p : Prf} (h : parP a = some p) : p.addr < 2 ^ 32 := by
  unfold parP at h
  split at h
  · split at h
    · rename_i x y hx hy
      split at h
      · injection h with h
        subst h
        exact parB_lt hx
      · cases h
    · cases h
  · cases h
theorem entR_ok {l : List UInt8} {e : Ent} (h : entR l = some e) : eOk e := by
  unfold entR at h
  split at h
  · split at h
    · rename_i hp _ _ _
      injection h with h
      subst h
      exact parP_lt hp
    · cases h
  · cases h
theorem optE_none : optE none = default := rfl
theorem lkS_none : lkS none = tupL [.agg 5 fun j => [SV.i .u32 0, .i .i64 0, .i .i64 0, .i .i64 0, .i .i64 0].getD j default, .b false] := rfl
theorem numS_ok (l : List UInt8) (R : Nat → Prop) (w : World) : (numS l).ok R w := by unfold numS; exact tup2_ok1 trivial trivial
def nv (ws : List (List UInt8)) (i j : Nat) : Nat := if j < i then (numR (ws.getD j [])).getD 0 else 0
set_option maxRecDepth 100000 in
theorem regEntryC (l : List UInt8) (hl : l.length ≤ 100000) : Contract FrB Tryz.prog 58 [sB l] (fun r => r = lkS (entR l)) := by
  have hbad : entR l = none → ∀ r, r = tupL [.agg 5 fun j => [SV.i .u32 0, .i .i64 0, .i .i64 0, .i .i64 0, .i .i64 0].getD j default, .b false] → r = lkS (entR l) := fun h r hr => by rw [h, lkS_none]; exact hr
  refine contract_of Tryz.func58 rfl (by kernel_rfl) ?_
  simp only [Tryz.ntmps58, argEnv]
  (repeat refine Sat.seq ?_)
  (refine Sat.region_k fun k hk => ?_; simp -implicitDefEqProofs only [evr, id, reduceCtorEq, reduceIte, Nat.reduceMul, Nat.reduceAdd, Nat.reduceLT, Nat.reduceLeDiff, Nat.reduceEqDiff, Int.reduceLT, Int.reduceBEq, Int.reduceBNe, Nat.reduceBEq, Int.reduceNeg, mkB_size, byteAt_mk, mkB_extract, mkB_append, mkB_toList, strsRd_at, tupL, prS, prC, numS, Int.reduceToNat, evn])
  intro b2
  (refine hk _ ?_; clear hk k; try show Sat _ _ _ _ _)
  (repeat refine Sat.seq ?_)
  rcases (show Lib.indexByte l 32 = -1 ∨ ∃ n : Nat, Lib.indexByte l 32 = (n : Int) by
    have := Lib.indexByte_ge l 32
    rcases Int.lt_or_le (Lib.indexByte l 32) 0 with h | h
    · exact .inl (by omega)
    · exact .inr (Int.eq_ofNat_of_zero_le h)) with hn | ⟨n, hn⟩
  · have hno : entR l = none := entR_len (by rw [split_index_none hn]; simp)
    (refine Sat.region_k fun k hk => ?_; simp -implicitDefEqProofs only [evr, id, reduceCtorEq, reduceIte, Nat.reduceMul, Nat.reduceAdd, Nat.reduceLT, Nat.reduceLeDiff, Nat.reduceEqDiff, Int.reduceLT, Int.reduceBEq, Int.reduceBNe, Nat.reduceBEq, Int.reduceNeg, mkB_size, byteAt_mk, mkB_extract, mkB_append, mkB_toList, strsRd_at, tupL, prS, prC, numS, Int.reduceToNat, evn])
    refine wcall_slice (cutNoL FrB 32 l hn) rfl (by first | rfl | (simp -implicitDefEqProofs only [evr, id, reduceCtorEq, reduceIte, Nat.reduceMul, Nat.reduceAdd, Nat.reduceLT, Nat.reduceLeDiff, Nat.reduceEqDiff, Int.reduceLT, Int.reduceBEq, Int.reduceBNe, Nat.reduceBEq, Int.reduceNeg, mkB_size, byteAt_mk, mkB_extract, mkB_append, mkB_toList, strsRd_at, tupL, prS, prC, numS, Int.reduceToNat, evn])) ?_
    rintro r rfl
    simp -implicitDefEqProofs only [evr, id, reduceCtorEq, reduceIte, Nat.reduceMul, Nat.reduceAdd, Nat.reduceLT, Nat.reduceLeDiff, Nat.reduceEqDiff, Int.reduceLT, Int.reduceBEq, Int.reduceBNe, Nat.reduceBEq, Int.reduceNeg, mkB_size, byteAt_mk, mkB_extract, mkB_append, mkB_toList, strsRd_at, tupL, prS, prC, numS, Int.reduceToNat, evn]
    (refine hk _ ?_; clear hk k; try show Sat _ _ _ _ _)
    (repeat refine Sat.seq ?_)
    (refine Sat.region_k fun k hk => ?_; simp -implicitDefEqProofs only [evr, id, reduceCtorEq, reduceIte, Nat.reduceMul, Nat.reduceAdd, Nat.reduceLT, Nat.reduceLeDiff, Nat.reduceEqDiff, Int.reduceLT, Int.reduceBEq, Int.reduceBNe, Nat.reduceBEq, Int.reduceNeg, mkB_size, byteAt_mk, mkB_extract, mkB_append, mkB_toList, strsRd_at, tupL, prS, prC, numS, Int.reduceToNat, evn]; refine hk _ ?_; clear hk k; try show Sat _ _ _ _ _)
    (repeat refine Sat.seq ?_)
    refine Sat.cond_b rfl (fun h => ?_) (fun h => absurd h (by decide))
    (repeat refine Sat.seq ?_)
    (refine Sat.region_k fun k hk => ?_; simp -implicitDefEqProofs only [evr, id, reduceCtorEq, reduceIte, Nat.reduceMul, Nat.reduceAdd, Nat.reduceLT, Nat.reduceLeDiff, Nat.reduceEqDiff, Int.reduceLT, Int.reduceBEq, Int.reduceBNe, Nat.reduceBEq, Int.reduceNeg, mkB_size, byteAt_mk, mkB_extract, mkB_append, mkB_toList, strsRd_at, tupL, prS, prC, numS, Int.reduceToNat, evn]; refine hk _ ?_; clear hk k; try show Sat _ _ _ _ _)
    refine Sat.ret ?_
    simp only [Tryz.results58, evr, id, reduceCtorEq, reduceIte, Nat.reduceMul, Nat.reduceAdd, Nat.reduceLT, Nat.reduceLeDiff, Nat.reduceEqDiff, Int.reduceLT, Int.reduceBEq, Int.reduceBNe, Nat.reduceBEq, List.append_nil, Int.toNat_zero, Nat.sub_self, Int.reduceNeg, mkB_size, byteAt_mk, mkB_extract, mkB_append, mkB_toList, strsRd_at, tupL, prS, prC, numS, Int.reduceToNat]
    rw [hno]
    rfl
  have hsp := split_index_some hn
  (refine Sat.region_k fun k hk => ?_; simp -implicitDefEqProofs only [evr, id, reduceCtorEq, reduceIte, Nat.reduceMul, Nat.reduceAdd, Nat.reduceLT, Nat.reduceLeDiff, Nat.reduceEqDiff, Int.reduceLT, Int.reduceBEq, Int.reduceBNe, Nat.reduceBEq, Int.reduceNeg, mkB_size, byteAt_mk, mkB_extract, mkB_append, mkB_toList, strsRd_at, tupL, prS, prC, numS, Int.reduceToNat, evn])
  refine wcall_slice (cutL FrB 32 l n hn (by omega)) rfl (by first | rfl | (simp -implicitDefEqProofs only [evr, id, reduceCtorEq, reduceIte, Nat.reduceMul, Nat.reduceAdd, Nat.reduceLT, Nat.reduceLeDiff, Nat.reduceEqDiff, Int.reduceLT, Int.reduceBEq, Int.reduceBNe, Nat.reduceBEq, Int.reduceNeg, mkB_size, byteAt_mk, mkB_extract, mkB_append, mkB_toList, strsRd_at, tupL, prS, prC, numS, Int.reduceToNat, evn])) ?_
  rintro r rfl
  simp -implicitDefEqProofs only [evr, id, reduceCtorEq, reduceIte, Nat.reduceMul, Nat.reduceAdd, Nat.reduceLT, Nat.reduceLeDiff, Nat.reduceEqDiff, Int.reduceLT, Int.reduceBEq, Int.reduceBNe, Nat.reduceBEq, Int.reduceNeg, mkB_size, byteAt_mk, mkB_extract, mkB_append, mkB_toList, strsRd_at, tupL, prS, prC, numS, Int.reduceToNat, evn]
  (refine hk _ ?_; clear hk k; try show Sat _ _ _ _ _)
  have hl1 : (l.take n).length ≤ 100000 := by rw [List.length_take]; omega
  have hl2 : (l.drop (n + 1)).length ≤ 100000 := by rw [List.length_drop]; omega
  generalize l.take n = w0 at hsp hl1 ⊢
  generalize l.drop (n + 1) = rest at hsp hl2 ⊢
  (repeat refine Sat.seq ?_)
  (refine Sat.region_k fun k hk => ?_; simp -implicitDefEqProofs only [evr, id, reduceCtorEq, reduceIte, Nat.reduceMul, Nat.reduceAdd, Nat.reduceLT, Nat.reduceLeDiff, Nat.reduceEqDiff, Int.reduceLT, Int.reduceBEq, Int.reduceBNe, Nat.reduceBEq, Int.reduceNeg, mkB_size, byteAt_mk, mkB_extract, mkB_append, mkB_toList, strsRd_at, tupL, prS, prC, numS, Int.reduceToNat, evn]; refine hk _ ?_; clear hk k; try show Sat _ _ _ _ _)
  (repeat refine Sat.seq ?_)
  refine Sat.cond_b rfl (fun h => absurd h (by decide)) (fun _ => ?_)
  refine Sat.skip ?_
  simp only [thenK]
  (repeat refine Sat.seq ?_)
  (refine Sat.region_k fun k hk => ?_; simp -implicitDefEqProofs only [evr, id, reduceCtorEq, reduceIte, Nat.reduceMul, Nat.reduceAdd, Nat.reduceLT, Nat.reduceLeDiff, Nat.reduceEqDiff, Int.reduceLT, Int.reduceBEq, Int.reduceBNe, Nat.reduceBEq, Int.reduceNeg, mkB_size, byteAt_mk, mkB_extract, mkB_append, mkB_toList, strsRd_at, tupL, prS, prC, numS, Int.reduceToNat, evn])
  refine wcall_slice (parsePrefixC w0 (by omega)) rfl (by first | rfl | (simp -implicitDefEqProofs only [evr, id, reduceCtorEq, reduceIte, Nat.reduceMul, Nat.reduceAdd, Nat.reduceLT, Nat.reduceLeDiff, Nat.reduceEqDiff, Int.reduceLT, Int.reduceBEq, Int.reduceBNe, Nat.reduceBEq, Int.reduceNeg, mkB_size, byteAt_mk, mkB_extract, mkB_append, mkB_toList, strsRd_at, tupL, prS, prC, numS, Int.reduceToNat, evn])) ?_
  rintro r rfl
  have hps : ∃ p : Prf, ∃ er : Int, parPS w0 = tupL [prS p, .i .i64 er] ∧ (parP w0 = some p ∧ er = 0 ∨ parP w0 = none ∧ er = 2) := by
    unfold parPS
    cases h : parP w0 with
    | none => exact ⟨_, _, rfl, .inr ⟨rfl, rfl⟩⟩
    | some p => exact ⟨_, _, rfl, .inl ⟨rfl, rfl⟩⟩
  obtain ⟨p, er, e1, hpe⟩ := hps
  rw [e1]
  simp -implicitDefEqProofs only [evr, id, reduceCtorEq, reduceIte, Nat.reduceMul, Nat.reduceAdd, Nat.reduceLT, Nat.reduceLeDiff, Nat.reduceEqDiff, Int.reduceLT, Int.reduceBEq, Int.reduceBNe, Nat.reduceBEq, Int.reduceNeg, mkB_size, byteAt_mk, mkB_extract, mkB_append, mkB_toList, strsRd_at, tupL, prS, prC, numS, Int.reduceToNat, evn]
  intro b7
  (refine hk _ ?_; clear hk k; try show Sat _ _ _ _ _)
  (repeat refine Sat.seq ?_)
  (refine Sat.region_k fun k hk => ?_; simp -implicitDefEqProofs only [evr, id, reduceCtorEq, reduceIte, Nat.reduceMul, Nat.reduceAdd, Nat.reduceLT, Nat.reduceLeDiff, Nat.reduceEqDiff, Int.reduceLT, Int.reduceBEq, Int.reduceBNe, Nat.reduceBEq, Int.reduceNeg, mkB_size, byteAt_mk, mkB_extract, mkB_append, mkB_toList, strsRd_at, tupL, prS, prC, numS, Int.reduceToNat, evn]; refine hk _ ?_; clear hk k; try show Sat _ _ _ _ _)
  (repeat refine Sat.seq ?_)
  refine Sat.cond_b rfl (fun h => ?_) (fun h => ?_)
  · have hpn : parP w0 = none := by
      rcases hpe with ⟨_, rfl⟩ | ⟨h1, _⟩
      · exact absurd h (by decide)
      · exact h1
    have hno : entR l = none := by
      rcases Nat.decEq (splitB 32 l).length 4 with h4 | h4
      · exact entR_len h4
      · obtain ⟨a, b, c, d, h5⟩ := len4 h4
        have : w0 = a := by rw [h5] at hsp; injection hsp with h6; exact h6.symm
        exact entR_bad h5 (.inl (this ▸ hpn))
    (repeat refine Sat.seq ?_)
    (refine Sat.region_k fun k hk => ?_; simp -implicitDefEqProofs only [evr, id, reduceCtorEq, reduceIte, Nat.reduceMul, Nat.reduceAdd, Nat.reduceLT, Nat.reduceLeDiff, Nat.reduceEqDiff, Int.reduceLT, Int.reduceBEq, Int.reduceBNe, Nat.reduceBEq, Int.reduceNeg, mkB_size, byteAt_mk, mkB_extract, mkB_append, mkB_toList, strsRd_at, tupL, prS, prC, numS, Int.reduceToNat, evn]; refine hk _ ?_; clear hk k; try show Sat _ _ _ _ _)
    refine Sat.ret ?_
    simp only [Tryz.results58, evr, id, reduceCtorEq, reduceIte, Nat.reduceMul, Nat.reduceAdd, Nat.reduceLT, Nat.reduceLeDiff, Nat.reduceEqDiff, Int.reduceLT, Int.reduceBEq, Int.reduceBNe, Nat.reduceBEq, List.append_nil, Int.toNat_zero, Nat.sub_self, Int.reduceNeg, mkB_size, byteAt_mk, mkB_extract, mkB_append, mkB_toList, strsRd_at, tupL, prS, prC, numS, Int.reduceToNat]
    rw [hno]
    rfl
  have hp : parP w0 = some p := by
    rcases hpe with ⟨h1, _⟩ | ⟨_, rfl⟩
    · exact h1
    · exact absurd h (by decide)
  clear hpe h
  refine Sat.skip ?_
  simp only [thenK]
  (repeat refine Sat.seq ?_)
  (refine Sat.region_k fun k hk => ?_; simp -implicitDefEqProofs only [evr, id, reduceCtorEq, reduceIte, Nat.reduceMul, Nat.reduceAdd, Nat.reduceLT, Nat.reduceLeDiff, Nat.reduceEqDiff, Int.reduceLT, Int.reduceBEq, Int.reduceBNe, Nat.reduceBEq, Int.reduceNeg, mkB_size, byteAt_mk, mkB_extract, mkB_append, mkB_toList, strsRd_at, tupL, prS, prC, numS, Int.reduceToNat, evn])
  refine wcall_slice (splitC FrB 32 rest (by omega)) rfl (by first | rfl | (simp -implicitDefEqProofs only [evr, id, reduceCtorEq, reduceIte, Nat.reduceMul, Nat.reduceAdd, Nat.reduceLT, Nat.reduceLeDiff, Nat.reduceEqDiff, Int.reduceLT, Int.reduceBEq, Int.reduceBNe, Nat.reduceBEq, Int.reduceNeg, mkB_size, byteAt_mk, mkB_extract, mkB_append, mkB_toList, strsRd_at, tupL, prS, prC, numS, Int.reduceToNat, evn])) ?_
  rintro r ⟨a9, c9, rfl⟩
  simp -implicitDefEqProofs only [evr, id, reduceCtorEq, reduceIte, Nat.reduceMul, Nat.reduceAdd, Nat.reduceLT, Nat.reduceLeDiff, Nat.reduceEqDiff, Int.reduceLT, Int.reduceBEq, Int.reduceBNe, Nat.reduceBEq, Int.reduceNeg, mkB_size, byteAt_mk, mkB_extract, mkB_append, mkB_toList, strsRd_at, tupL, prS, prC, numS, Int.reduceToNat, evn]
  (refine hk _ ?_; clear hk k; try show Sat _ _ _ _ _)
  have hmem : ∀ w ∈ splitB 32 rest, w.length ≤ 100000 := fun w hw => Nat.le_trans (split_mem hw) hl2
  generalize splitB 32 rest = ws at hsp hmem ⊢
  (repeat refine Sat.seq ?_)
  (refine Sat.region_k fun k hk => ?_; simp -implicitDefEqProofs only [evr, id, reduceCtorEq, reduceIte, Nat.reduceMul, Nat.reduceAdd, Nat.reduceLT, Nat.reduceLeDiff, Nat.reduceEqDiff, Int.reduceLT, Int.reduceBEq, Int.reduceBNe, Nat.reduceBEq, Int.reduceNeg, mkB_size, byteAt_mk, mkB_extract, mkB_append, mkB_toList, strsRd_at, tupL, prS, prC, numS, Int.reduceToNat, evn]; refine hk _ ?_; clear hk k; try show Sat _ _ _ _ _)
  (repeat refine Sat.seq ?_)
  refine Sat.cond_b rfl (fun h => ?_) (fun h => ?_)
  · have hno : entR l = none := entR_len (by
      rw [hsp, List.length_cons]
      intro h3
      have : ws.length = 3 := by omega
      rw [this] at h
      exact absurd h (by decide))
    (repeat refine Sat.seq ?_)
    (refine Sat.region_k fun k hk => ?_; simp -implicitDefEqProofs only [evr, id, reduceCtorEq, reduceIte, Nat.reduceMul, Nat.reduceAdd, Nat.reduceLT, Nat.reduceLeDiff, Nat.reduceEqDiff, Int.reduceLT, Int.reduceBEq, Int.reduceBNe, Nat.reduceBEq, Int.reduceNeg, mkB_size, byteAt_mk, mkB_extract, mkB_append, mkB_toList, strsRd_at, tupL, prS, prC, numS, Int.reduceToNat, evn]; refine hk _ ?_; clear hk k; try show Sat _ _ _ _ _)
    refine Sat.ret ?_
    simp only [Tryz.results58, evr, id, reduceCtorEq, reduceIte, Nat.reduceMul, Nat.reduceAdd, Nat.reduceLT, Nat.reduceLeDiff, Nat.reduceEqDiff, Int.reduceLT, Int.reduceBEq, Int.reduceBNe, Nat.reduceBEq, List.append_nil, Int.toNat_zero, Nat.sub_self, Int.reduceNeg, mkB_size, byteAt_mk, mkB_extract, mkB_append, mkB_toList, strsRd_at, tupL, prS, prC, numS, Int.reduceToNat]
    rw [hno]
    rfl
  have hwl : ws.length = 3 := by
    simp only [bne_eq_false_iff_eq] at h
    omega
  clear h
  refine Sat.skip ?_
  simp only [thenK]
  (repeat refine Sat.seq ?_)
  (refine Sat.region_k fun k hk => ?_; simp -implicitDefEqProofs only [evr, id, reduceCtorEq, reduceIte, Nat.reduceMul, Nat.reduceAdd, Nat.reduceLT, Nat.reduceLeDiff, Nat.reduceEqDiff, Int.reduceLT, Int.reduceBEq, Int.reduceBNe, Nat.reduceBEq, Int.reduceNeg, mkB_size, byteAt_mk, mkB_extract, mkB_append, mkB_toList, strsRd_at, tupL, prS, prC, numS, Int.reduceToNat, evn])
  intro b10
  (refine hk _ ?_; clear hk k; try show Sat _ _ _ _ _)
  (repeat refine Sat.seq ?_)
  (refine Sat.region_k fun k hk => ?_; simp -implicitDefEqProofs only [evr, id, reduceCtorEq, reduceIte, Nat.reduceMul, Nat.reduceAdd, Nat.reduceLT, Nat.reduceLeDiff, Nat.reduceEqDiff, Int.reduceLT, Int.reduceBEq, Int.reduceBNe, Nat.reduceBEq, Int.reduceNeg, mkB_size, byteAt_mk, mkB_extract, mkB_append, mkB_toList, strsRd_at, tupL, prS, prC, numS, Int.reduceToNat, evn]; refine hk _ ?_; clear hk k; try show Sat _ _ _ _ _)
  (repeat refine Sat.seq ?_)
  refine Sat.block ?_
  refine Sat.loop (ι := Nat) (fun i => ⟨62, [(38, .i .i64 i), (36, .sl a9 ws.length c9 1 (strsRd ws)), (37, .i .i64 ws.length), (2, .op 0 b2 0), (7, .op 1 b7 0), (10, .op 2 b10 0)],
      [.box b2 31 [.i .u32 0, .i .i64 0, .i .i64 0, .i .i64 0, .i .i64 0], .box b7 29 [.i .u32 p.addr, .i .i64 p.len], .box b10 95 [.i .i64 (nv ws i 0 : Nat), .i .i64 (nv ws i 1 : Nat), .i .i64 (nv ws i 2 : Nat)]]⟩)
    (fun i => i ≤ 3 ∧ ∀ j, j < i → (numR (ws.getD j [])).isSome = true) (fun i => 3 - i) 0 ⟨Nat.zero_le _, fun j hj => absurd hj (Nat.not_lt_zero _)⟩ (by simp -implicitDefEqProofs only [evr, id, reduceCtorEq, reduceIte, Nat.reduceMul, Nat.reduceAdd, Nat.reduceLT, Nat.reduceLeDiff, Nat.reduceEqDiff, Int.reduceLT, Int.reduceBEq, Int.reduceBNe, Nat.reduceBEq, Int.reduceNeg, mkB_size, byteAt_mk, mkB_extract, mkB_append, mkB_toList, strsRd_at, tupL, prS, prC, numS, Int.reduceToNat, evl, evn]; exact ⟨rfl, rfl⟩) ?_
  rintro i ⟨hi, hsome⟩
  (repeat refine Sat.seq ?_)
  (refine Sat.region_k fun k hk => ?_; simp -implicitDefEqProofs only [evr, id, reduceCtorEq, reduceIte, Nat.reduceMul, Nat.reduceAdd, Nat.reduceLT, Nat.reduceLeDiff, Nat.reduceEqDiff, Int.reduceLT, Int.reduceBEq, Int.reduceBNe, Nat.reduceBEq, Int.reduceNeg, mkB_size, byteAt_mk, mkB_extract, mkB_append, mkB_toList, strsRd_at, tupL, prS, prC, numS, Int.reduceToNat, evn]; refine hk _ ?_; clear hk k; try show Sat _ _ _ _ _)
  (repeat refine Sat.seq ?_)
  refine Sat.cond_b rfl (fun h => ?_) (fun h => ?_)
  · have hlt : i < 3 := by simp only [decide_eq_true_eq] at h; omega
    have hwi : (ws.getD i []).length ≤ 100000 := by
      have : ws.getD i [] = ws[i]'(by omega) := by simp [List.getD, show i < ws.length by omega]
      rw [this]
      exact hmem _ (List.getElem_mem _)
    have e1 : IntKind.i64.wrap ((i : Int) + 1) = ((i + 1 : Nat) : Int) := by rw [w64 (by omega)]; omega
    have hnv : ∀ j, nv ws (i + 1) j = if j = i then (numR (ws.getD i [])).getD 0 else nv ws i j := fun j => by
      unfold nv
      by_cases hj : j = i
      · subst hj; rw [if_pos (by omega), if_pos rfl]
      · rw [if_neg hj]
        by_cases hj2 : j < i
        · rw [if_pos (by omega), if_pos hj2]
        · rw [if_neg (by omega), if_neg hj2]
    clear h
    refine Sat.skip ?_
    simp only [thenK]
    (repeat refine Sat.seq ?_)
    refine Sat.block ?_
    (repeat refine Sat.seq ?_)
    (refine Sat.region_k fun k hk => ?_; simp -implicitDefEqProofs only [evr, id, reduceCtorEq, reduceIte, Nat.reduceMul, Nat.reduceAdd, Nat.reduceLT, Nat.reduceLeDiff, Nat.reduceEqDiff, Int.reduceLT, Int.reduceBEq, Int.reduceBNe, Nat.reduceBEq, Int.reduceNeg, mkB_size, byteAt_mk, mkB_extract, mkB_append, mkB_toList, strsRd_at, tupL, prS, prC, numS, Int.reduceToNat, evn])
    refine ⟨by omega, ?_⟩
    (refine hk _ ?_; clear hk k; try show Sat _ _ _ _ _)
    (repeat refine Sat.seq ?_)
    (refine Sat.region_k fun k hk => ?_; simp -implicitDefEqProofs only [evr, id, reduceCtorEq, reduceIte, Nat.reduceMul, Nat.reduceAdd, Nat.reduceLT, Nat.reduceLeDiff, Nat.reduceEqDiff, Int.reduceLT, Int.reduceBEq, Int.reduceBNe, Nat.reduceBEq, Int.reduceNeg, mkB_size, byteAt_mk, mkB_extract, mkB_append, mkB_toList, strsRd_at, tupL, prS, prC, numS, Int.reduceToNat, evn])
    refine wcall_plain (regNumberC FrB (ws.getD i []) hwi) (by first | done | rfl) (by rintro _ rfl; exact numS_ok _) ?_
    rintro r rfl
    simp -implicitDefEqProofs only [evr, id, reduceCtorEq, reduceIte, Nat.reduceMul, Nat.reduceAdd, Nat.reduceLT, Nat.reduceLeDiff, Nat.reduceEqDiff, Int.reduceLT, Int.reduceBEq, Int.reduceBNe, Nat.reduceBEq, Int.reduceNeg, mkB_size, byteAt_mk, mkB_extract, mkB_append, mkB_toList, strsRd_at, tupL, prS, prC, numS, Int.reduceToNat, evn]
    refine ⟨by omega, by omega, ?_⟩
    (refine hk _ ?_; clear hk k; try show Sat _ _ _ _ _)
    (repeat refine Sat.seq ?_)
    (refine Sat.region_k fun k hk => ?_; simp -implicitDefEqProofs only [evr, id, reduceCtorEq, reduceIte, Nat.reduceMul, Nat.reduceAdd, Nat.reduceLT, Nat.reduceLeDiff, Nat.reduceEqDiff, Int.reduceLT, Int.reduceBEq, Int.reduceBNe, Nat.reduceBEq, Int.reduceNeg, mkB_size, byteAt_mk, mkB_extract, mkB_append, mkB_toList, strsRd_at, tupL, prS, prC, numS, Int.reduceToNat, evn]; refine hk _ ?_; clear hk k; try show Sat _ _ _ _ _)
    (repeat refine Sat.seq ?_)
    refine Sat.cond_b rfl (fun h => ?_) (fun h => ?_)
    · have hnn : numR (ws.getD i []) = none := by simpa using h
      have hno : entR l = none := by
        rcases Nat.decEq (splitB 32 l).length 4 with h4 | h4
        · exact entR_len h4
        · obtain ⟨a, b, c, d, h5⟩ := len4 h4
          have h6 := h5
          rw [hsp] at h6
          injection h6 with h7 h8
          subst h8
          refine entR_bad h5 (.inr ?_)
          rcases (show i = 0 ∨ i = 1 ∨ i = 2 by omega) with rfl | rfl | rfl
          · exact .inl hnn
          · exact .inr (.inl hnn)
          · exact .inr (.inr hnn)
      (repeat refine Sat.seq ?_)
      (refine Sat.region_k fun k hk => ?_; simp -implicitDefEqProofs only [evr, id, reduceCtorEq, reduceIte, Nat.reduceMul, Nat.reduceAdd, Nat.reduceLT, Nat.reduceLeDiff, Nat.reduceEqDiff, Int.reduceLT, Int.reduceBEq, Int.reduceBNe, Nat.reduceBEq, Int.reduceNeg, mkB_size, byteAt_mk, mkB_extract, mkB_append, mkB_toList, strsRd_at, tupL, prS, prC, numS, Int.reduceToNat, evn]; refine hk _ ?_; clear hk k; try show Sat _ _ _ _ _)
      refine Sat.ret ?_
      simp only [thenK, blockK, Tryz.results58, evr, id, reduceCtorEq, reduceIte, Nat.reduceMul, Nat.reduceAdd, Nat.reduceLT, Nat.reduceLeDiff, Nat.reduceEqDiff, Int.reduceLT, Int.reduceBEq, Int.reduceBNe, Nat.reduceBEq, List.append_nil, Int.toNat_zero, Nat.sub_self, Int.reduceNeg, mkB_size, byteAt_mk, mkB_extract, mkB_append, mkB_toList, strsRd_at, tupL, prS, prC, numS, Int.reduceToNat]
      rw [hno]
      rfl
    · have hsm : (numR (ws.getD i [])).isSome = true := by
        cases h9 : numR (ws.getD i []) with
        | none => rw [h9] at h; cases h
        | some x => rfl
      refine Sat.skip ?_
      simp only [thenK, blockK]
      refine Sat.region_k fun k hk => ?_
      simp -implicitDefEqProofs only [evr, id, reduceCtorEq, reduceIte, Nat.reduceMul, Nat.reduceAdd, Nat.reduceLT, Nat.reduceLeDiff, Nat.reduceEqDiff, Int.reduceLT, Int.reduceBEq, Int.reduceBNe, Nat.reduceBEq, Int.reduceNeg, mkB_size, byteAt_mk, mkB_extract, mkB_append, mkB_toList, strsRd_at, tupL, prS, prC, numS, Int.reduceToNat, e1, evn]
      refine hk _ ?_
      simp only [thenK, blockK]
      refine ⟨i + 1, ⟨by omega, fun j hj => ?_⟩, by omega, ?_⟩
      · rcases (show j = i ∨ j < i by omega) with rfl | h6
        · exact hsm
        · exact hsome j h6
      · have g0 := hnv 0
        have g1 := hnv 1
        have g2 := hnv 2
        rw [g0, g1, g2]
        rcases (show i = 0 ∨ i = 1 ∨ i = 2 by omega) with rfl | rfl | rfl
        all_goals
          simp -implicitDefEqProofs only [evr, id, reduceCtorEq, reduceIte, Nat.reduceMul, Nat.reduceAdd, Nat.reduceLT, Nat.reduceLeDiff, Nat.reduceEqDiff, Int.reduceLT, Int.reduceBEq, Int.reduceBNe, Nat.reduceBEq, Int.reduceNeg, mkB_size, byteAt_mk, mkB_extract, mkB_append, mkB_toList, strsRd_at, tupL, prS, prC, numS, Int.reduceToNat, evl, evn]
          try rfl
  · have h3 : i = 3 := by simp only [decide_eq_false_iff_not] at h; omega
    subst h3
    obtain ⟨a, b, c, rfl⟩ : ∃ a b c, ws = [a, b, c] := by
      match ws, hwl with
      | [a, b, c], _ => exact ⟨a, b, c, rfl⟩
    obtain ⟨x, hx⟩ := Option.isSome_iff_exists.1 (hsome 0 (by omega))
    obtain ⟨y, hy⟩ := Option.isSome_iff_exists.1 (hsome 1 (by omega))
    obtain ⟨v, hv⟩ := Option.isSome_iff_exists.1 (hsome 2 (by omega))
    have hyes := entR_good hsp hp hx hy hv
    have n0 : nv [a, b, c] 3 0 = x := by unfold nv; rw [if_pos (by omega), hx]; rfl
    have n1 : nv [a, b, c] 3 1 = y := by unfold nv; rw [if_pos (by omega), hy]; rfl
    have n2 : nv [a, b, c] 3 2 = v := by unfold nv; rw [if_pos (by omega), hv]; rfl
    rw [n0, n1, n2]
    refine Sat.exit ?_
    simp only [thenK, blockK, reduceIte]
    (repeat refine Sat.seq ?_)
    (refine Sat.region_k fun k hk => ?_; simp -implicitDefEqProofs only [evr, id, reduceCtorEq, reduceIte, Nat.reduceMul, Nat.reduceAdd, Nat.reduceLT, Nat.reduceLeDiff, Nat.reduceEqDiff, Int.reduceLT, Int.reduceBEq, Int.reduceBNe, Nat.reduceBEq, Int.reduceNeg, mkB_size, byteAt_mk, mkB_extract, mkB_append, mkB_toList, strsRd_at, tupL, prS, prC, numS, Int.reduceToNat, evn])
    refine ⟨by omega, by omega, by omega, ?_⟩
    (refine hk _ ?_; clear hk k; try show Sat _ _ _ _ _)
    refine Sat.ret ?_
    simp only [Tryz.results58, evr, id, reduceCtorEq, reduceIte, Nat.reduceMul, Nat.reduceAdd, Nat.reduceLT, Nat.reduceLeDiff, Nat.reduceEqDiff, Int.reduceLT, Int.reduceBEq, Int.reduceBNe, Nat.reduceBEq, List.append_nil, Int.toNat_zero, Nat.sub_self, Int.reduceNeg, mkB_size, byteAt_mk, mkB_extract, mkB_append, mkB_toList, strsRd_at, tupL, prS, prC, numS, Int.reduceToNat]
    rw [hyes]
    rfl
end Go.Proofs.YtepkbbmjbbnhnaaGreatDoor
