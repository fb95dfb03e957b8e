/- The reference's Cut of texts. -/
import Derived.Test.YtepkbbmjbbnhnaaGreatDoorRxD
set_option linter.unusedSimpArgs false
set_option linter.unusedVariables false
namespace Go.Proofs.YtepkbbmjbbnhnaaGreatDoor
open Go.RowKit Eng Go.Sort
def strsRd (P : List (List UInt8)) (i j : Nat) : SV := sB (P.getD i [])
theorem byteAt_mk (l : List UInt8) (i : Nat) : byteAt (mkB l) i = ((l.getD i 0).toNat : Int) := by
  unfold byteAt
  by_cases h : i < l.length
  · have h1 : (mkB l)[i]? = some ((mkB l)[i]'(by rw [mkB_size]; exact h)) := getElem?_pos _ _ _
    rw [h1, List.getD_eq_getElem?_getD, List.getElem?_eq_getElem h]
    rfl
  · have h1 : (mkB l)[i]? = none := getElem?_neg _ _ (by rw [mkB_size]; exact h)
    rw [h1, List.getD_eq_getElem?_getD, List.getElem?_eq_none (by omega)]
/-! ### Cut -/
structure CutInv (c : UInt8) (l : List UInt8) (i j : Nat) (ps : List (List UInt8)) : Prop where
  le : j ≤ i
  hi : i ≤ l.length
  eq : splitB c l = ps ++ splitB c (l.drop j)
  free : ∀ x ∈ (l.drop j).take (i - j), x ≠ c
theorem CutInv.hit {c : UInt8} {l : List UInt8} {i j : Nat} {ps : List (List UInt8)} (h : CutInv c l i j ps) (hlt : i < l.length) (hc : l.getD i 0 = c) : CutInv c l (i + 1) (i + 1) (ps ++ [(l.drop j).take (i - j)]) := by
  have hle := h.le
  have e : l.drop j = (l.drop j).take (i - j) ++ c :: l.drop (i + 1) := by
    have h1 : (l.drop j).drop (i - j) = l.drop i := by rw [List.drop_drop]; congr 1; omega
    have h2 := List.drop_eq_getElem_cons hlt
    have h3 : l[i] = c := by
      rw [List.getD_eq_getElem?_getD, List.getElem?_eq_getElem hlt] at hc
      exact hc
    rw [h3] at h2
    rw [← h2, ← h1, List.take_append_drop]
  refine ⟨Nat.le_refl _, hlt, ?_, fun x hx => by simp at hx⟩
  rw [h.eq, List.append_assoc]
  congr 1
  conv => lhs; rw [e]
  rw [splitB_app c _ _ h.free]
  rfl
theorem CutInv.miss {c : UInt8} {l : List UInt8} {i j : Nat} {ps : List (List UInt8)} (h : CutInv c l i j ps) (hlt : i < l.length) (hc : l.getD i 0 ≠ c) : CutInv c l (i + 1) j ps := by
  have hle := h.le
  refine ⟨by omega, hlt, h.eq, fun x hx => ?_⟩
  have e : (l.drop j).take (i + 1 - j) = (l.drop j).take (i - j) ++ [l[i]] := by
    rw [show i + 1 - j = (i - j) + 1 by omega, List.take_add_one]
    congr 1
    rw [List.getElem?_drop, show j + (i - j) = i by omega, List.getElem?_eq_getElem hlt]
    rfl
  rw [e] at hx
  rcases List.mem_append.1 hx with hx | hx
  · exact h.free x hx
  · rw [List.mem_singleton.1 hx]
    rw [List.getD_eq_getElem?_getD, List.getElem?_eq_getElem hlt] at hc
    exact hc
theorem CutInv.done {c : UInt8} {l : List UInt8} {j : Nat} {ps : List (List UInt8)} (h : CutInv c l l.length j ps) : splitB c l = ps ++ [l.drop j] := by
  have hf := h.free
  rw [List.take_of_length_le (by simp)] at hf
  rw [h.eq, splitB_none c _ hf]
theorem split_len (c : UInt8) : ∀ l : List UInt8, (splitB c l).length ≤ l.length + 1
  | [] => by simp [splitB]
  | x :: l => by
    have h := split_len c l
    unfold splitB
    split
    · simp; omega
    · split
      · rename_i p r hs
        rw [hs] at h
        simp at h ⊢
        omega
      · simp
theorem byte_eq (a b : UInt8) : (((a.toNat : Nat) : Int) == ((b.toNat : Nat) : Int)) = decide (a = b) := by
  apply Bool.eq_iff_iff.2
  simp only [beq_iff_eq, decide_eq_true_eq]
  constructor
  · intro h
    exact UInt8.toNat_inj.1 (by omega)
  · intro h; rw [h]
def PcsPost (P : List (List UInt8)) (r : SV) : Prop := ∃ a cap, r = .sl a P.length cap 1 (strsRd P)
set_option maxRecDepth 100000 in
theorem rfCutC (F : Frm) (c : UInt8) (l : List UInt8) (hl : l.length ≤ 100000) : Contract F Tryz.prog 88 [sB l, .i .u8 (c.toNat : Nat)] (PcsPost (splitB c l)) := by
  have hPl := split_len c l
  refine contract_of Tryz.func88 rfl (by kernel_rfl) ?_
  simp only [Tryz.ntmps88, argEnv]
  (repeat refine Sat.seq ?_)
  (refine Sat.region_k fun k hk => ?_; simp -implicitDefEqProofs only [evr, id, reduceCtorEq, reduceIte, Nat.reduceMul, Nat.reduceAdd, Nat.reduceLT, Nat.reduceLeDiff, Nat.reduceEqDiff, Int.reduceLT, Int.reduceBEq, Int.reduceBNe, Nat.reduceBEq, Int.reduceNeg, mkB_size, byteAt_mk, mkB_extract, mkB_append, mkB_toList, evn]; refine hk _ ?_; clear hk k; try show Sat _ _ _ _ _)
  (repeat refine Sat.seq ?_)
  (refine Sat.region_k fun k hk => ?_; simp -implicitDefEqProofs only [evr, id, reduceCtorEq, reduceIte, Nat.reduceMul, Nat.reduceAdd, Nat.reduceLT, Nat.reduceLeDiff, Nat.reduceEqDiff, Int.reduceLT, Int.reduceBEq, Int.reduceBNe, Nat.reduceBEq, Int.reduceNeg, mkB_size, byteAt_mk, mkB_extract, mkB_append, mkB_toList, evn]; refine hk _ ?_; clear hk k; try show Sat _ _ _ _ _)
  (repeat refine Sat.seq ?_)
  (refine Sat.region_k fun k hk => ?_; simp -implicitDefEqProofs only [evr, id, reduceCtorEq, reduceIte, Nat.reduceMul, Nat.reduceAdd, Nat.reduceLT, Nat.reduceLeDiff, Nat.reduceEqDiff, Int.reduceLT, Int.reduceBEq, Int.reduceBNe, Nat.reduceBEq, Int.reduceNeg, mkB_size, byteAt_mk, mkB_extract, mkB_append, mkB_toList, evn]; refine hk _ ?_; clear hk k; try show Sat _ _ _ _ _)
  (repeat refine Sat.seq ?_)
  (refine Sat.region_k fun k hk => ?_; simp -implicitDefEqProofs only [evr, id, reduceCtorEq, reduceIte, Nat.reduceMul, Nat.reduceAdd, Nat.reduceLT, Nat.reduceLeDiff, Nat.reduceEqDiff, Int.reduceLT, Int.reduceBEq, Int.reduceBNe, Nat.reduceBEq, Int.reduceNeg, mkB_size, byteAt_mk, mkB_extract, mkB_append, mkB_toList, evn]; refine hk _ ?_; clear hk k; try show Sat _ _ _ _ _)
  (repeat refine Sat.seq ?_)
  refine Sat.block ?_
  refine Sat.adopt 5 9 1 (strsRd (splitB c l)) rfl ?_
  refine Sat.loop (ι := (Nat × Nat) × List (List UInt8) × Option Addr × Nat) (fun x => ⟨34, [(7, .i .i64 x.1.1), (6, .i .i64 x.1.2), (5, .os 0 x.2.2.1 x.2.1.length x.2.2.2), (0, sB l), (1, .i .u8 (c.toNat : Nat))], [.row x.2.2.1 9 x.2.1.length x.2.2.2 1 (strsRd (splitB c l))]⟩)
    (fun x => CutInv c l x.1.1 x.1.2 x.2.1) (fun x => l.length - x.1.1) ((0, 0), [], none, 0) ⟨Nat.le_refl _, Nat.zero_le _, rfl, fun x hx => by cases hx⟩ (by simp -implicitDefEqProofs only [evr, id, reduceCtorEq, reduceIte, Nat.reduceMul, Nat.reduceAdd, Nat.reduceLT, Nat.reduceLeDiff, Nat.reduceEqDiff, Int.reduceLT, Int.reduceBEq, Int.reduceBNe, Nat.reduceBEq, Int.reduceNeg, mkB_size, byteAt_mk, mkB_extract, mkB_append, mkB_toList, evl, evn]; rfl) ?_
  rintro ⟨⟨i, j⟩, ps, ad, cap⟩ hI
  simp only at hI ⊢
  have hij := hI.le
  have hil := hI.hi
  have hpl : ps.length + 1 ≤ (splitB c l).length := by
    rw [hI.eq, List.length_append]
    have := List.length_pos_iff.2 (splitB_ne c (l.drop j))
    omega
  have e1 : IntKind.i64.wrap ((i : Int) + 1) = ((i + 1 : Nat) : Int) := by rw [w64 (by omega)]; omega
  (repeat refine Sat.seq ?_)
  (refine Sat.region_k fun k hk => ?_; simp -implicitDefEqProofs only [evr, id, reduceCtorEq, reduceIte, Nat.reduceMul, Nat.reduceAdd, Nat.reduceLT, Nat.reduceLeDiff, Nat.reduceEqDiff, Int.reduceLT, Int.reduceBEq, Int.reduceBNe, Nat.reduceBEq, Int.reduceNeg, mkB_size, byteAt_mk, mkB_extract, mkB_append, mkB_toList, evn]; refine hk _ ?_; clear hk k; try show Sat _ _ _ _ _)
  (repeat refine Sat.seq ?_)
  refine Sat.cond_b rfl (fun h => ?_) (fun h => ?_)
  · have hi : i < l.length := by simp only [decide_eq_true_eq] at h; omega
    clear h
    refine Sat.skip ?_
    simp only [thenK]
    (repeat refine Sat.seq ?_)
    refine Sat.block ?_
    (repeat refine Sat.seq ?_)
    (refine Sat.region_k fun k hk => ?_; simp -implicitDefEqProofs only [evr, id, reduceCtorEq, reduceIte, Nat.reduceMul, Nat.reduceAdd, Nat.reduceLT, Nat.reduceLeDiff, Nat.reduceEqDiff, Int.reduceLT, Int.reduceBEq, Int.reduceBNe, Nat.reduceBEq, Int.reduceNeg, mkB_size, byteAt_mk, mkB_extract, mkB_append, mkB_toList, evn])
    refine ⟨by omega, ?_⟩
    simp only [byte_eq]
    (refine hk _ ?_; clear hk k; try show Sat _ _ _ _ _)
    (repeat refine Sat.seq ?_)
    refine Sat.atF (fun y : (Nat × List (List UInt8)) × Option Addr × Nat => ⟨34, [(7, .i .i64 i), (6, .i .i64 y.1.1), (5, .os 0 y.2.1 y.1.2.length y.2.2), (0, sB l), (1, .i .u8 (c.toNat : Nat))], [.row y.2.1 9 y.1.2.length y.2.2 1 (strsRd (splitB c l))]⟩) (fun y => CutInv c l (i + 1) y.1.1 y.1.2) ?_ ?_
    · refine Sat.cond_b rfl (fun h => ?_) (fun h => ?_)
      · simp only [decide_eq_true_eq] at h
        have hN := hI.hit hi h
        have hat : (splitB c l).getD ps.length [] = (l.drop j).take (i - j) := by
          rw [hN.eq, List.append_assoc, List.getD_eq_getElem?_getD]
          simp
        (repeat refine Sat.seq ?_)
        (refine Sat.region_k fun k hk => ?_; simp -implicitDefEqProofs only [evr, id, reduceCtorEq, reduceIte, Nat.reduceMul, Nat.reduceAdd, Nat.reduceLT, Nat.reduceLeDiff, Nat.reduceEqDiff, Int.reduceLT, Int.reduceBEq, Int.reduceBNe, Nat.reduceBEq, Int.reduceNeg, mkB_size, byteAt_mk, mkB_extract, mkB_append, mkB_toList, evn])
        refine ⟨by omega, fun blk => ?_⟩
        refine ⟨⟨by unfold maxLen; omega, by omega⟩, fun a2 cap2 => ?_⟩
        (refine hk _ ?_; clear hk k; try show Sat _ _ _ _ _)
        try (repeat refine Sat.seq ?_)
        refine Sat.region_k fun k hk => ?_
        simp -implicitDefEqProofs only [evr, id, reduceCtorEq, reduceIte, Nat.reduceMul, Nat.reduceAdd, Nat.reduceLT, Nat.reduceLeDiff, Nat.reduceEqDiff, Int.reduceLT, Int.reduceBEq, Int.reduceBNe, Nat.reduceBEq, Int.reduceNeg, mkB_size, byteAt_mk, mkB_extract, mkB_append, mkB_toList, e1, evn]
        refine hk _ ?_
        try simp only [thenK]
        refine ⟨((i + 1, ps ++ [(l.drop j).take (i - j)]), a2, cap2), hN, ?_⟩
        simp only [List.length_append, List.length_singleton]
        simp -implicitDefEqProofs only [evr, id, reduceCtorEq, reduceIte, Nat.reduceMul, Nat.reduceAdd, Nat.reduceLT, Nat.reduceLeDiff, Nat.reduceEqDiff, Int.reduceLT, Int.reduceBEq, Int.reduceBNe, Nat.reduceBEq, Int.reduceNeg, mkB_size, byteAt_mk, mkB_extract, mkB_append, mkB_toList, evl, evn]
        refine rdEq_one (rdEq_refl _ _ _) ?_
        unfold strsRd
        rw [hat]
      · simp only [decide_eq_false_iff_not] at h
        have hN := hI.miss hi h
        refine Sat.skip ?_
        simp only [thenK]
        exact ⟨((j, ps), ad, cap), hN, by simp -implicitDefEqProofs only [evr, id, reduceCtorEq, reduceIte, Nat.reduceMul, Nat.reduceAdd, Nat.reduceLT, Nat.reduceLeDiff, Nat.reduceEqDiff, Int.reduceLT, Int.reduceBEq, Int.reduceBNe, Nat.reduceBEq, Int.reduceNeg, mkB_size, byteAt_mk, mkB_extract, mkB_append, mkB_toList, evl, evn]⟩
    · rintro ⟨⟨j2, ps2⟩, ad2, cap2⟩ hN
      simp only at hN
      simp only [thenK, blockK]
      refine Sat.region_k fun k hk => ?_
      simp -implicitDefEqProofs only [evr, id, reduceCtorEq, reduceIte, Nat.reduceMul, Nat.reduceAdd, Nat.reduceLT, Nat.reduceLeDiff, Nat.reduceEqDiff, Int.reduceLT, Int.reduceBEq, Int.reduceBNe, Nat.reduceBEq, Int.reduceNeg, mkB_size, byteAt_mk, mkB_extract, mkB_append, mkB_toList, e1, evn]
      refine hk _ ?_
      simp only [thenK, blockK]
      refine ⟨((i + 1, j2), ps2, ad2, cap2), hN, by show l.length - (i + 1) < l.length - i; omega, ?_⟩
      simp -implicitDefEqProofs only [evr, id, reduceCtorEq, reduceIte, Nat.reduceMul, Nat.reduceAdd, Nat.reduceLT, Nat.reduceLeDiff, Nat.reduceEqDiff, Int.reduceLT, Int.reduceBEq, Int.reduceBNe, Nat.reduceBEq, Int.reduceNeg, mkB_size, byteAt_mk, mkB_extract, mkB_append, mkB_toList, evl, evn]
  · have hi : i = l.length := by simp only [decide_eq_false_iff_not] at h; omega
    subst hi
    have hD := hI.done
    have hat : (splitB c l).getD ps.length [] = l.drop j := by
      rw [hD, List.getD_eq_getElem?_getD]
      simp
    have hlen : (splitB c l).length = ps.length + 1 := by rw [hD]; simp
    refine Sat.exit ?_
    simp only [thenK, blockK, reduceIte]
    (repeat refine Sat.seq ?_)
    (refine Sat.region_k fun k hk => ?_; simp -implicitDefEqProofs only [evr, id, reduceCtorEq, reduceIte, Nat.reduceMul, Nat.reduceAdd, Nat.reduceLT, Nat.reduceLeDiff, Nat.reduceEqDiff, Int.reduceLT, Int.reduceBEq, Int.reduceBNe, Nat.reduceBEq, Int.reduceNeg, mkB_size, byteAt_mk, mkB_extract, mkB_append, mkB_toList, evn])
    refine ⟨by omega, fun blk => ?_⟩
    refine ⟨⟨by unfold maxLen; omega, by omega⟩, fun a2 cap2 => ?_⟩
    refine hk _ ?_
    clear hk
    refine Sat.le (st' := ⟨34, [(4, .os 0 a2 (splitB c l).length cap2)], [.row a2 9 (splitB c l).length cap2 1 (strsRd (splitB c l))]⟩) ?_ (by
      rw [hlen]
      simp -implicitDefEqProofs only [evr, id, reduceCtorEq, reduceIte, Nat.reduceMul, Nat.reduceAdd, Nat.reduceLT, Nat.reduceLeDiff, Nat.reduceEqDiff, Int.reduceLT, Int.reduceBEq, Int.reduceBNe, Nat.reduceBEq, Int.reduceNeg, mkB_size, byteAt_mk, mkB_extract, mkB_append, mkB_toList, evl, evn]
      refine rdEq_one (rdEq_refl _ _ _) ?_
      unfold strsRd
      rw [hat]
      first | rfl | (congr 2; rw [List.take_of_length_le (by simp)]))
    refine Sat.ret ?_
    simp only [Tryz.results88, evr, id, reduceCtorEq, reduceIte, Nat.reduceMul, Nat.reduceAdd, Nat.reduceLT, Nat.reduceLeDiff, Nat.reduceEqDiff, Int.reduceLT, Int.reduceBEq, Int.reduceBNe, Nat.reduceBEq, List.append_nil, Int.toNat_zero, Nat.sub_self, Int.reduceNeg, mkB_size, byteAt_mk, mkB_extract, mkB_append, mkB_toList]
    exact ⟨_, _, rfl⟩
end Go.Proofs.YtepkbbmjbbnhnaaGreatDoor
