/- AddressCover: the shortest list of prefixes of any range: it contains exactly its addresses, and no two neighbours are the halves of a prefix. For every input. -/
import Derived.Test.YtceacooambpkdaaDoorCovR
import Derived.Test.YtceacooambpkdaaDoorParE
import Derived.Test.YtceacooambpkdaaDoorShAddressCover
set_option linter.unusedSimpArgs false
set_option linter.unusedVariables false
namespace Go.Proofs.YtceacooambpkdaaDoor
open Go.Sort Eng

theorem prRd_0 (ps : List Prf) (i : Nat) : prRd ps i 0 = .i .u32 (ps.getD i default).addr := rfl
theorem prRd_1 (ps : List Prf) (i : Nat) : prRd ps i 1 = .i .i64 (ps.getD i default).len := rfl
theorem prRd_same (ps : List Prf) (i : Nat) : aggEq Tryd.prog 25 2 (fun j => prRd ps i j) 2 (fun j => prRd ps i j) = some true := by
  have h : ∀ a b : Int, aggEq Tryd.prog 25 2 (fun j => [SV.i .u32 a, SV.i .i64 b].getD j default) 2 (fun j => [SV.i .u32 a, SV.i .i64 b].getD j default) = some ([a == a, b == b].all id) := fun a b => by kernel_rfl
  have h2 := h (ps.getD i default).addr (ps.getD i default).len
  simp only [beq_self_eq_true, List.all_cons, List.all_nil, id, Bool.and_self] at h2
  exact h2
theorem prS_ok (p : Prf) : ∀ R w, (prS p).ok R w := by
  intro R w j hj
  match j, hj with
  | 0, _ => trivial
  | 1, _ => trivial
set_option maxHeartbeats 4000000 in
set_option maxRecDepth 100000 in
theorem coverLawC (low high a : Nat) (hl : low < 2 ^ 32) (hh : high < 2 ^ 32) (ha : a < 2 ^ 32) :
    Contract FrZ Tryd.prog 5 [.i .u32 low, .i .u32 high, .i .u32 a] (fun r => r = .b true) := by
  have hb : low + (high + 1 - low) ≤ 2 ^ 32 := by omega
  have hlen : (covX low high).length ≤ 62 := cov_len hb
  have hval : ∀ i, i < (covX low high).length → vld ((covX low high).getD i default) = true := fun i hi => covL_vld _ _ _ (getD_mem hi)
  have hadr : ∀ i, i < (covX low high).length → ((covX low high).getD i default).addr < 2 ^ 32 := fun i hi => covL_lt _ hb _ (getD_mem hi)
  have hnext : ∀ i, i + 1 < (covX low high).length → ((covX low high).getD (i + 1) default).len = ((covX low high).getD i default).len → 0 < ((covX low high).getD (i + 1) default).len →
      (comP ((covX low high).getD i default).addr ((covX low high).getD (i + 1) default).addr).len ≠ ((covX low high).getD (i + 1) default).len - 1 := fun i hi h1 h2 => by
    have hi' : i < (covX low high).length := by omega
    have at_ : ∀ j, j < (covX low high).length → (covX low high)[j]? = some ((covX low high).getD j default) := fun j hj => by
      rw [List.getD_eq_getElem?_getD, List.getElem?_eq_getElem hj]; rfl
    exact cov_next _ _ hb i _ _ (at_ i hi') (at_ (i + 1) hi) h1 h2
  have hcnt : cntC a (covX low high) = if low ≤ a ∧ a ≤ high then 1 else 0 := by
    have := cov_cnt a (high + 1 - low) low
    unfold covX
    rw [this]
    by_cases h1 : low ≤ a ∧ a ≤ high
    · rw [if_pos (by omega), if_pos h1]
    · rw [if_neg (by omega), if_neg h1]
  have hP1 := coverC low high hl hh
  have hP2 := rfCoverC FrZ low high hl hh
  unfold CovPost at hP1 hP2
  generalize covX low high = XS at *
  refine contract_of Tryd.func5 rfl (by kernel_rfl) ?_
  simp only [Tryd.ntmps5, argEnv]
  (repeat refine Sat.seq ?_)
  (refine Sat.region_k fun k hk => ?_; simp -implicitDefEqProofs only [evr, id, reduceCtorEq, reduceIte, Nat.reduceMul, Nat.reduceAdd, Nat.reduceLT, Nat.reduceLeDiff, Nat.reduceEqDiff, Int.reduceLT, Int.reduceBEq, Int.reduceBNe, Nat.reduceBEq, List.append_nil, Int.toNat_zero, Nat.sub_self, Int.reduceNeg, prRd_0, prRd_1, prRd_same]; refine hk _ ?_; clear hk k; try show Sat _ _ _ _ _)
  (repeat refine Sat.seq ?_)
  (refine Sat.region_k fun k hk => ?_; simp -implicitDefEqProofs only [evr, id, reduceCtorEq, reduceIte, Nat.reduceMul, Nat.reduceAdd, Nat.reduceLT, Nat.reduceLeDiff, Nat.reduceEqDiff, Int.reduceLT, Int.reduceBEq, Int.reduceBNe, Nat.reduceBEq, List.append_nil, Int.toNat_zero, Nat.sub_self, Int.reduceNeg, prRd_0, prRd_1, prRd_same])
  refine wcall_plain (awakeC FrZ) rfl (by rintro _ rfl; exact ok_plain rfl) ?_
  rintro r rfl
  simp -implicitDefEqProofs only [evr, id, reduceCtorEq, reduceIte, Nat.reduceMul, Nat.reduceAdd, Nat.reduceLT, Nat.reduceLeDiff, Nat.reduceEqDiff, Int.reduceLT, Int.reduceBEq, Int.reduceBNe, Nat.reduceBEq, List.append_nil, Int.toNat_zero, Nat.sub_self, Int.reduceNeg, prRd_0, prRd_1, prRd_same]
  (refine hk _ ?_; clear hk k; try show Sat _ _ _ _ _)
  (repeat refine Sat.seq ?_)
  refine Sat.cond_b rfl (fun h => absurd h (by decide)) (fun _ => ?_)
  refine Sat.skip ?_
  simp only [thenK]
  (repeat refine Sat.seq ?_)
  (refine Sat.region_k fun k hk => ?_; simp -implicitDefEqProofs only [evr, id, reduceCtorEq, reduceIte, Nat.reduceMul, Nat.reduceAdd, Nat.reduceLT, Nat.reduceLeDiff, Nat.reduceEqDiff, Int.reduceLT, Int.reduceBEq, Int.reduceBNe, Nat.reduceBEq, List.append_nil, Int.toNat_zero, Nat.sub_self, Int.reduceNeg, prRd_0, prRd_1, prRd_same])
  refine wcall_slice hP1 rfl (by simp -implicitDefEqProofs only [evr, id, reduceCtorEq, reduceIte, Nat.reduceMul, Nat.reduceAdd, Nat.reduceLT, Nat.reduceLeDiff, Nat.reduceEqDiff, Int.reduceLT, Int.reduceBEq, Int.reduceBNe, Nat.reduceBEq, List.append_nil, Int.toNat_zero, Nat.sub_self, Int.reduceNeg, prRd_0, prRd_1, prRd_same]; try rfl) ?_
  rintro r ⟨a1, c1, rfl⟩
  simp -implicitDefEqProofs only [evr, id, reduceCtorEq, reduceIte, Nat.reduceMul, Nat.reduceAdd, Nat.reduceLT, Nat.reduceLeDiff, Nat.reduceEqDiff, Int.reduceLT, Int.reduceBEq, Int.reduceBNe, Nat.reduceBEq, List.append_nil, Int.toNat_zero, Nat.sub_self, Int.reduceNeg, prRd_0, prRd_1, prRd_same]
  (refine hk _ ?_; clear hk k; try show Sat _ _ _ _ _)
  (repeat refine Sat.seq ?_)
  (refine Sat.region_k fun k hk => ?_; simp -implicitDefEqProofs only [evr, id, reduceCtorEq, reduceIte, Nat.reduceMul, Nat.reduceAdd, Nat.reduceLT, Nat.reduceLeDiff, Nat.reduceEqDiff, Int.reduceLT, Int.reduceBEq, Int.reduceBNe, Nat.reduceBEq, List.append_nil, Int.toNat_zero, Nat.sub_self, Int.reduceNeg, prRd_0, prRd_1, prRd_same])
  refine wcall_slice hP2 rfl (by simp -implicitDefEqProofs only [evr, id, reduceCtorEq, reduceIte, Nat.reduceMul, Nat.reduceAdd, Nat.reduceLT, Nat.reduceLeDiff, Nat.reduceEqDiff, Int.reduceLT, Int.reduceBEq, Int.reduceBNe, Nat.reduceBEq, List.append_nil, Int.toNat_zero, Nat.sub_self, Int.reduceNeg, prRd_0, prRd_1, prRd_same]; try rfl) ?_
  rintro r ⟨a2, c2, rfl⟩
  simp -implicitDefEqProofs only [evr, id, reduceCtorEq, reduceIte, Nat.reduceMul, Nat.reduceAdd, Nat.reduceLT, Nat.reduceLeDiff, Nat.reduceEqDiff, Int.reduceLT, Int.reduceBEq, Int.reduceBNe, Nat.reduceBEq, List.append_nil, Int.toNat_zero, Nat.sub_self, Int.reduceNeg, prRd_0, prRd_1, prRd_same]
  (refine hk _ ?_; clear hk k; try show Sat _ _ _ _ _)
  have e62 : decide (62 < (XS.length : Int)) = false := decide_eq_false (by omega)
  (repeat refine Sat.seq ?_)
  refine Sat.region_k fun k hk => ?_
  simp -implicitDefEqProofs only [evr, id, reduceCtorEq, reduceIte, Nat.reduceMul, Nat.reduceAdd, Nat.reduceLT, Nat.reduceLeDiff, Nat.reduceEqDiff, Int.reduceLT, Int.reduceBEq, Int.reduceBNe, Nat.reduceBEq, List.append_nil, Int.toNat_zero, Nat.sub_self, Int.reduceNeg, prRd_0, prRd_1, prRd_same, bne_self_eq_false, e62]
  (refine hk _ ?_; clear hk k; try show Sat _ _ _ _ _)
  (repeat refine Sat.seq ?_)
  refine Sat.cond_b rfl (fun h => by cases h) (fun _ => ?_)
  refine Sat.skip ?_
  simp only [thenK]
  (repeat refine Sat.seq ?_)
  (refine Sat.region_k fun k hk => ?_; simp -implicitDefEqProofs only [evr, id, reduceCtorEq, reduceIte, Nat.reduceMul, Nat.reduceAdd, Nat.reduceLT, Nat.reduceLeDiff, Nat.reduceEqDiff, Int.reduceLT, Int.reduceBEq, Int.reduceBNe, Nat.reduceBEq, List.append_nil, Int.toNat_zero, Nat.sub_self, Int.reduceNeg, prRd_0, prRd_1, prRd_same]; refine hk _ ?_; clear hk k; try show Sat _ _ _ _ _)
  (repeat refine Sat.seq ?_)
  (refine Sat.region_k fun k hk => ?_; simp -implicitDefEqProofs only [evr, id, reduceCtorEq, reduceIte, Nat.reduceMul, Nat.reduceAdd, Nat.reduceLT, Nat.reduceLeDiff, Nat.reduceEqDiff, Int.reduceLT, Int.reduceBEq, Int.reduceBNe, Nat.reduceBEq, List.append_nil, Int.toNat_zero, Nat.sub_self, Int.reduceNeg, prRd_0, prRd_1, prRd_same]; refine hk _ ?_; clear hk k; try show Sat _ _ _ _ _)
  refine Sat.block ?_
  refine Sat.loop (ι := Nat) (fun i => ⟨123, [(10, .i .i64 i), (9, .i .i64 (cntC a (XS.take i) : Nat)), (7, .sl a1 XS.length c1 2 (prRd XS)), (8, .sl a2 XS.length c2 2 (prRd XS)), (0, .i .u32 low), (1, .i .u32 high), (2, .i .u32 a)], []⟩)
    (fun i => i ≤ XS.length) (fun i => XS.length - i) 0 (Nat.zero_le _) (by simp -implicitDefEqProofs only [evr, id, reduceCtorEq, reduceIte, Nat.reduceMul, Nat.reduceAdd, Nat.reduceLT, Nat.reduceLeDiff, Nat.reduceEqDiff, Int.reduceLT, Int.reduceBEq, Int.reduceBNe, Nat.reduceBEq, List.append_nil, Int.toNat_zero, Nat.sub_self, Int.reduceNeg, prRd_0, prRd_1, prRd_same, evl]; exact ⟨rfl, rfl⟩) ?_
  intro i hi
  (repeat refine Sat.seq ?_)
  (refine Sat.region_k fun k hk => ?_; simp -implicitDefEqProofs only [evr, id, reduceCtorEq, reduceIte, Nat.reduceMul, Nat.reduceAdd, Nat.reduceLT, Nat.reduceLeDiff, Nat.reduceEqDiff, Int.reduceLT, Int.reduceBEq, Int.reduceBNe, Nat.reduceBEq, List.append_nil, Int.toNat_zero, Nat.sub_self, Int.reduceNeg, prRd_0, prRd_1, prRd_same]; refine hk _ ?_; clear hk k; try show Sat _ _ _ _ _)
  (repeat refine Sat.seq ?_)
  refine Sat.cond_b rfl (fun h => ?_) (fun h => ?_)
  · have hi6 : i < XS.length := by simp only [decide_eq_true_eq] at h; omega
    clear h
    have e1 : IntKind.i64.wrap ((i : Int) + 1) = ((i + 1 : Nat) : Int) := by rw [w64 (by omega)]; omega
    have hv := hval i hi6
    have had := hadr i hi6
    have cV := validC Frm.nil (XS.getD i default) had
    have cC := containsC FrZ (XS.getD i default) had a ha
    rw [hv] at cV
    have htk : XS.take (i + 1) = XS.take i ++ [XS.getD i default] := by
      rw [List.take_add_one, List.getElem?_eq_getElem hi6, List.getD_eq_getElem?_getD, List.getElem?_eq_getElem hi6]
      rfl
    refine Sat.skip ?_
    simp only [thenK]
    (repeat refine Sat.seq ?_)
    refine Sat.block ?_
    (repeat refine Sat.seq ?_)
    (refine Sat.region_qk (by kernel_rfl) (by kernel_rfl) fun k hk => ?_; simp -implicitDefEqProofs only [evr, id, reduceCtorEq, reduceIte, Nat.reduceMul, Nat.reduceAdd, Nat.reduceLT, Nat.reduceLeDiff, Nat.reduceEqDiff, Int.reduceLT, Int.reduceBEq, Int.reduceBNe, Nat.reduceBEq, List.append_nil, Int.toNat_zero, Nat.sub_self, Int.reduceNeg, prRd_0, prRd_1, prRd_same])
    refine ⟨by omega, by omega, by omega, ?_⟩
    refine qcall cV (by simp -implicitDefEqProofs only [evr, id, reduceCtorEq, reduceIte, Nat.reduceMul, Nat.reduceAdd, Nat.reduceLT, Nat.reduceLeDiff, Nat.reduceEqDiff, Int.reduceLT, Int.reduceBEq, Int.reduceBNe, Nat.reduceBEq, List.append_nil, Int.toNat_zero, Nat.sub_self, Int.reduceNeg, prRd_0, prRd_1, prRd_same]; try rfl) (ok_plain rfl) ?_
    simp -implicitDefEqProofs only [evr, id, reduceCtorEq, reduceIte, Nat.reduceMul, Nat.reduceAdd, Nat.reduceLT, Nat.reduceLeDiff, Nat.reduceEqDiff, Int.reduceLT, Int.reduceBEq, Int.reduceBNe, Nat.reduceBEq, List.append_nil, Int.toNat_zero, Nat.sub_self, Int.reduceNeg, prRd_0, prRd_1, prRd_same]
    (refine hk _ ?_; clear hk k; try show Sat _ _ _ _ _)
    refine Sat.cond_b rfl (fun h => by cases h) (fun _ => ?_)
    refine Sat.skip ?_
    simp only [thenK]
    (repeat refine Sat.seq ?_)
    (refine Sat.region_k fun k hk => ?_; simp -implicitDefEqProofs only [evr, id, reduceCtorEq, reduceIte, Nat.reduceMul, Nat.reduceAdd, Nat.reduceLT, Nat.reduceLeDiff, Nat.reduceEqDiff, Int.reduceLT, Int.reduceBEq, Int.reduceBNe, Nat.reduceBEq, List.append_nil, Int.toNat_zero, Nat.sub_self, Int.reduceNeg, prRd_0, prRd_1, prRd_same])
    refine ⟨by omega, ?_⟩
    refine wcall_plain cC (by simp -implicitDefEqProofs only [evr, id, reduceCtorEq, reduceIte, Nat.reduceMul, Nat.reduceAdd, Nat.reduceLT, Nat.reduceLeDiff, Nat.reduceEqDiff, Int.reduceLT, Int.reduceBEq, Int.reduceBNe, Nat.reduceBEq, List.append_nil, Int.toNat_zero, Nat.sub_self, Int.reduceNeg, prRd_0, prRd_1, prRd_same]; try rfl) (by rintro _ rfl; exact ok_plain rfl) ?_
    rintro r rfl
    simp -implicitDefEqProofs only [evr, id, reduceCtorEq, reduceIte, Nat.reduceMul, Nat.reduceAdd, Nat.reduceLT, Nat.reduceLeDiff, Nat.reduceEqDiff, Int.reduceLT, Int.reduceBEq, Int.reduceBNe, Nat.reduceBEq, List.append_nil, Int.toNat_zero, Nat.sub_self, Int.reduceNeg, prRd_0, prRd_1, prRd_same]
    (refine hk _ ?_; clear hk k; try show Sat _ _ _ _ _)
    (repeat refine Sat.seq ?_)
    refine Sat.at ⟨123, [(10, .i .i64 i), (9, .i .i64 (cntC a (XS.take (i + 1)) : Nat)), (7, .sl a1 XS.length c1 2 (prRd XS)), (8, .sl a2 XS.length c2 2 (prRd XS)), (0, .i .u32 low), (1, .i .u32 high), (2, .i .u32 a)], []⟩ ?_ ?_
    · have hle : cntC a (XS.take i) ≤ XS.length := by
        unfold cntC
        exact Nat.le_trans (List.length_filter_le _ _) (by rw [List.length_take]; exact Nat.min_le_right _ _)
      refine Sat.cond_b rfl (fun h => ?_) (fun h => ?_)
      · have e2 : IntKind.i64.wrap ((cntC a (XS.take i) : Nat) + 1 : Int) = ((cntC a (XS.take (i + 1)) : Nat) : Int) := by
          rw [htk, cntC_snoc, if_pos h, w64 (by omega)]; rfl
        refine Sat.region_k fun k hk => ?_
        simp -implicitDefEqProofs only [evr, id, reduceCtorEq, reduceIte, Nat.reduceMul, Nat.reduceAdd, Nat.reduceLT, Nat.reduceLeDiff, Nat.reduceEqDiff, Int.reduceLT, Int.reduceBEq, Int.reduceBNe, Nat.reduceBEq, List.append_nil, Int.toNat_zero, Nat.sub_self, Int.reduceNeg, prRd_0, prRd_1, prRd_same, e2]
        refine hk _ ?_
        try simp only [thenK]
        simp -implicitDefEqProofs only [evr, id, reduceCtorEq, reduceIte, Nat.reduceMul, Nat.reduceAdd, Nat.reduceLT, Nat.reduceLeDiff, Nat.reduceEqDiff, Int.reduceLT, Int.reduceBEq, Int.reduceBNe, Nat.reduceBEq, List.append_nil, Int.toNat_zero, Nat.sub_self, Int.reduceNeg, prRd_0, prRd_1, prRd_same, evl]
      · have e2 : cntC a (XS.take (i + 1)) = cntC a (XS.take i) := by
          rw [htk, cntC_snoc, if_neg (by rw [h]; decide), Nat.add_zero]
        rw [e2]
        refine Sat.skip ?_
        try simp only [thenK]
        simp -implicitDefEqProofs only [evr, id, reduceCtorEq, reduceIte, Nat.reduceMul, Nat.reduceAdd, Nat.reduceLT, Nat.reduceLeDiff, Nat.reduceEqDiff, Int.reduceLT, Int.reduceBEq, Int.reduceBNe, Nat.reduceBEq, List.append_nil, Int.toNat_zero, Nat.sub_self, Int.reduceNeg, prRd_0, prRd_1, prRd_same, evl]
    try simp only [thenK]
    (repeat refine Sat.seq ?_)
    refine Sat.region_qat (by kernel_rfl) (by kernel_rfl) ⟨123, [(107, .b false), (10, .i .i64 i), (9, .i .i64 (cntC a (XS.take (i + 1)) : Nat)), (7, .sl a1 XS.length c1 2 (prRd XS)), (8, .sl a2 XS.length c2 2 (prRd XS)), (0, .i .u32 low), (1, .i .u32 high), (2, .i .u32 a)], []⟩ (fun k hk => ?_) ?_
    · simp -implicitDefEqProofs only [evr, id, reduceCtorEq, reduceIte, Nat.reduceMul, Nat.reduceAdd, Nat.reduceLT, Nat.reduceLeDiff, Nat.reduceEqDiff, Int.reduceLT, Int.reduceBEq, Int.reduceBNe, Nat.reduceBEq, List.append_nil, Int.toNat_zero, Nat.sub_self, Int.reduceNeg, prRd_0, prRd_1, prRd_same]
      refine ⟨fun h => ?_, fun h => ?_⟩
      · obtain ⟨j, rfl⟩ : ∃ j, i = j + 1 := ⟨i - 1, by omega⟩
        have ew : IntKind.i64.wrap (((j + 1 : Nat) : Int) - 1) = (j : Int) := by rw [w64 (by omega)]; omega
        have hn := hnext j hi6
        have had2 := hadr j (by omega)
        have cM := commonC Frm.nil _ _ had2 had
        simp only [ew, Int.toNat_natCast]
        refine ⟨by omega, by omega, fun h1 => ?_, fun h1 => ?_⟩
        · refine ⟨by omega, fun h2 => ?_, fun h2 => ?_⟩
          · refine ⟨by omega, by omega, ?_⟩
            try simp only [ew, Int.toNat_natCast]
            refine qcall cM (by simp -implicitDefEqProofs only [evr, id, reduceCtorEq, reduceIte, Nat.reduceMul, Nat.reduceAdd, Nat.reduceLT, Nat.reduceLeDiff, Nat.reduceEqDiff, Int.reduceLT, Int.reduceBEq, Int.reduceBNe, Nat.reduceBEq, List.append_nil, Int.toNat_zero, Nat.sub_self, Int.reduceNeg, prRd_0, prRd_1, prRd_same]; try rfl) (prS_ok _) ?_
            simp only [prS, prC, evr, id, reduceCtorEq, reduceIte, Nat.reduceMul, Nat.reduceAdd, Nat.reduceLT, Nat.reduceLeDiff, Nat.reduceEqDiff, Int.reduceLT, Int.reduceBEq, Int.reduceBNe, Nat.reduceBEq, List.append_nil, Int.toNat_zero, Nat.sub_self, Int.reduceNeg, prRd_0, prRd_1, prRd_same]
            refine ⟨by omega, ?_⟩
            have hl1 : (XS.getD (j + 1) default).len = (XS.getD j default).len := by simpa using h1
            have hlb := vld_iff.1 hv
            have ew2 : IntKind.i64.wrap ((XS.getD (j + 1) default).len - 1) = (XS.getD (j + 1) default).len - 1 := w64 (by omega)
            have hf : ((comP (XS.getD j default).addr (XS.getD (j + 1) default).addr).len == (XS.getD (j + 1) default).len - 1) = false := beq_eq_false_iff_ne.2 (hn hl1 h2)
            simp only [ew2, hf]
            refine hk _ ?_
            simp -implicitDefEqProofs only [evr, id, reduceCtorEq, reduceIte, Nat.reduceMul, Nat.reduceAdd, Nat.reduceLT, Nat.reduceLeDiff, Nat.reduceEqDiff, Int.reduceLT, Int.reduceBEq, Int.reduceBNe, Nat.reduceBEq, List.append_nil, Int.toNat_zero, Nat.sub_self, Int.reduceNeg, prRd_0, prRd_1, prRd_same, evl]
          · refine hk _ ?_
            simp -implicitDefEqProofs only [evr, id, reduceCtorEq, reduceIte, Nat.reduceMul, Nat.reduceAdd, Nat.reduceLT, Nat.reduceLeDiff, Nat.reduceEqDiff, Int.reduceLT, Int.reduceBEq, Int.reduceBNe, Nat.reduceBEq, List.append_nil, Int.toNat_zero, Nat.sub_self, Int.reduceNeg, prRd_0, prRd_1, prRd_same, evl]
        · refine hk _ ?_
          simp -implicitDefEqProofs only [evr, id, reduceCtorEq, reduceIte, Nat.reduceMul, Nat.reduceAdd, Nat.reduceLT, Nat.reduceLeDiff, Nat.reduceEqDiff, Int.reduceLT, Int.reduceBEq, Int.reduceBNe, Nat.reduceBEq, List.append_nil, Int.toNat_zero, Nat.sub_self, Int.reduceNeg, prRd_0, prRd_1, prRd_same, evl]
      · refine hk _ ?_
        simp -implicitDefEqProofs only [evr, id, reduceCtorEq, reduceIte, Nat.reduceMul, Nat.reduceAdd, Nat.reduceLT, Nat.reduceLeDiff, Nat.reduceEqDiff, Int.reduceLT, Int.reduceBEq, Int.reduceBNe, Nat.reduceBEq, List.append_nil, Int.toNat_zero, Nat.sub_self, Int.reduceNeg, prRd_0, prRd_1, prRd_same, evl]
    try simp only [thenK]
    refine Sat.cond_b rfl (fun h => by cases h) (fun _ => ?_)
    refine Sat.skip ?_
    simp only [thenK, blockK, reduceIte]
    refine Sat.region_k fun kk hkk => ?_
    simp -implicitDefEqProofs only [evr, id, reduceCtorEq, reduceIte, Nat.reduceMul, Nat.reduceAdd, Nat.reduceLT, Nat.reduceLeDiff, Nat.reduceEqDiff, Int.reduceLT, Int.reduceBEq, Int.reduceBNe, Nat.reduceBEq, List.append_nil, Int.toNat_zero, Nat.sub_self, Int.reduceNeg, prRd_0, prRd_1, prRd_same, e1]
    refine hkk _ ?_
    simp only [thenK, blockK]
    refine ⟨i + 1, hi6, by omega, ?_⟩
    simp -implicitDefEqProofs only [evr, id, reduceCtorEq, reduceIte, Nat.reduceMul, Nat.reduceAdd, Nat.reduceLT, Nat.reduceLeDiff, Nat.reduceEqDiff, Int.reduceLT, Int.reduceBEq, Int.reduceBNe, Nat.reduceBEq, List.append_nil, Int.toNat_zero, Nat.sub_self, Int.reduceNeg, prRd_0, prRd_1, prRd_same, evl]
  · have hiN : i = XS.length := by simp only [decide_eq_false_iff_not] at h; omega
    subst hiN
    rw [List.take_length]
    refine Sat.exit ?_
    simp only [thenK, blockK, reduceIte]
    (repeat refine Sat.seq ?_)
    by_cases g1 : low ≤ a
    · have d1 : ((low : Int) ≤ (a : Int)) = True := eq_true (by omega)
      by_cases g2 : a ≤ high
      · have hcI : ((cntC a XS : Nat) : Int) = 1 := by rw [hcnt, if_pos ⟨g1, g2⟩]; rfl
        have d2 : decide ((a : Int) ≤ (high : Int)) = true := decide_eq_true (by omega)
        refine Sat.region_k fun k hk => ?_
        simp -implicitDefEqProofs only [evr, id, reduceCtorEq, reduceIte, Nat.reduceMul, Nat.reduceAdd, Nat.reduceLT, Nat.reduceLeDiff, Nat.reduceEqDiff, Int.reduceLT, Int.reduceBEq, Int.reduceBNe, Nat.reduceBEq, List.append_nil, Int.toNat_zero, Nat.sub_self, Int.reduceNeg, prRd_0, prRd_1, prRd_same, hcI, d1, d2, not_true_eq_false, forall_const, decide_true, beq_self_eq_true, Int.reduceLE]
        (refine hk _ ?_; clear hk k; try show Sat _ _ _ _ _)
        refine Sat.ret ?_
        simp only [Tryd.results5, evr, id, reduceCtorEq, reduceIte, Nat.reduceMul, Nat.reduceAdd, Nat.reduceLT, Nat.reduceLeDiff, Nat.reduceEqDiff, Int.reduceLT, Int.reduceBEq, Int.reduceBNe, Nat.reduceBEq, List.append_nil, Int.toNat_zero, Nat.sub_self, Int.reduceNeg, prRd_0, prRd_1, prRd_same]
      · have hcI : ((cntC a XS : Nat) : Int) = 0 := by rw [hcnt, if_neg (fun h => g2 h.2)]; rfl
        have d2 : decide ((a : Int) ≤ (high : Int)) = false := decide_eq_false (by omega)
        refine Sat.region_k fun k hk => ?_
        simp -implicitDefEqProofs only [evr, id, reduceCtorEq, reduceIte, Nat.reduceMul, Nat.reduceAdd, Nat.reduceLT, Nat.reduceLeDiff, Nat.reduceEqDiff, Int.reduceLT, Int.reduceBEq, Int.reduceBNe, Nat.reduceBEq, List.append_nil, Int.toNat_zero, Nat.sub_self, Int.reduceNeg, prRd_0, prRd_1, prRd_same, hcI, d1, d2, not_true_eq_false, forall_const, decide_true, beq_self_eq_true, Int.reduceLE]
        (refine hk _ ?_; clear hk k; try show Sat _ _ _ _ _)
        refine Sat.ret ?_
        simp only [Tryd.results5, evr, id, reduceCtorEq, reduceIte, Nat.reduceMul, Nat.reduceAdd, Nat.reduceLT, Nat.reduceLeDiff, Nat.reduceEqDiff, Int.reduceLT, Int.reduceBEq, Int.reduceBNe, Nat.reduceBEq, List.append_nil, Int.toNat_zero, Nat.sub_self, Int.reduceNeg, prRd_0, prRd_1, prRd_same]
    · have d1 : ((low : Int) ≤ (a : Int)) = False := eq_false (by omega)
      have hcI : ((cntC a XS : Nat) : Int) = 0 := by rw [hcnt, if_neg (fun h => g1 h.1)]; rfl
      refine Sat.region_k fun k hk => ?_
      simp -implicitDefEqProofs only [evr, id, reduceCtorEq, reduceIte, Nat.reduceMul, Nat.reduceAdd, Nat.reduceLT, Nat.reduceLeDiff, Nat.reduceEqDiff, Int.reduceLT, Int.reduceBEq, Int.reduceBNe, Nat.reduceBEq, List.append_nil, Int.toNat_zero, Nat.sub_self, Int.reduceNeg, prRd_0, prRd_1, prRd_same, hcI, d1, not_false_eq_true, forall_const, decide_false, beq_self_eq_true, Int.reduceLE, decide_true]
      (refine hk _ ?_; clear hk k; try show Sat _ _ _ _ _)
      refine Sat.ret ?_
      simp only [Tryd.results5, evr, id, reduceCtorEq, reduceIte, Nat.reduceMul, Nat.reduceAdd, Nat.reduceLT, Nat.reduceLeDiff, Nat.reduceEqDiff, Int.reduceLT, Int.reduceBEq, Int.reduceBNe, Nat.reduceBEq, List.append_nil, Int.toNat_zero, Nat.sub_self, Int.reduceNeg, prRd_0, prRd_1, prRd_same]
end Go.Proofs.YtceacooambpkdaaDoor
