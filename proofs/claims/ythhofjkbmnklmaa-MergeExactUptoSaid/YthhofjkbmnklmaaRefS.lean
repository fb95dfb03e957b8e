/- The reference of merge, by the evaluator: sorted, sort. -/
import Derived.Test.YthhofjkbmnklmaaRefR
import Derived.Test.YthhofjkbmnklmaaRefM
set_option linter.unusedSimpArgs false
set_option linter.unusedVariables false
namespace Go.Proofs.Ythhofjkbmnklmaa
open Go.Sort Eng

theorem drop_one {l : List Res} (h : 0 < l.length) : l = l[0]! :: l.drop 1 := by
  match l, h with
  | x :: t, _ => rfl
set_option maxRecDepth 100000 in
theorem sortedC (F : Frm) (xa ya : Option Addr) (xc yc : Nat) (xs ys : List Res) (hl : xs.length + ys.length ≤ 1000000000) (hx : ∀ x ∈ xs, wfR x) (hy : ∀ x ∈ ys, wfR x) :
    ContractN F Try.prog 62 [.sl xa xs.length xc 17 (resRd xs.toArray), .sl ya ys.length yc 17 (resRd ys.toArray)] (fun o => ∃ a cap, o = resRow a (mrg xs ys).length cap (mrg xs ys).toArray) := by
  refine contractN_of Try.func62 rfl (by kernel_rfl) ?_
  simp only [Try.ntmps62, argEnv]
  (repeat refine Sat.seq ?_)
  (refine Sat.region_k fun k hk => ?_; simp -implicitDefEqProofs only [evr, id, reduceCtorEq, reduceIte, Nat.reduceMul, Nat.reduceAdd, Nat.reduceLT, Nat.reduceLeDiff, Nat.reduceEqDiff, Int.reduceLT, Int.reduceBEq, Int.reduceBNe, Nat.reduceBEq, res_one, res_ro, List.append_nil, Int.toNat_zero, Nat.sub_self, resRow]; refine hk _ ?_; clear hk k; try show Sat _ _ _ _ _)
  (repeat refine Sat.seq ?_)
  (refine Sat.region_k fun k hk => ?_; simp -implicitDefEqProofs only [evr, id, reduceCtorEq, reduceIte, Nat.reduceMul, Nat.reduceAdd, Nat.reduceLT, Nat.reduceLeDiff, Nat.reduceEqDiff, Int.reduceLT, Int.reduceBEq, Int.reduceBNe, Nat.reduceBEq, res_one, res_ro, List.append_nil, Int.toNat_zero, Nat.sub_self, resRow]; refine hk _ ?_; clear hk k; try show Sat _ _ _ _ _)
  refine Sat.adopt 5 39 17 (resRd #[]) rfl ?_
  simp -implicitDefEqProofs only [evr, id, reduceCtorEq, reduceIte, Nat.reduceMul, Nat.reduceAdd, Nat.reduceLT, Nat.reduceLeDiff, Nat.reduceEqDiff, Int.reduceLT, Int.reduceBEq, Int.reduceBNe, Nat.reduceBEq, res_one, res_ro, List.append_nil, Int.toNat_zero, Nat.sub_self, resRow]
  (repeat refine Sat.seq ?_)
  refine Sat.block ?_
  refine Sat.loop (ι := (Option Addr × Nat × List Res) × (Option Addr × Nat × List Res) × Option Addr × Nat × List Res) (fun x => ⟨49, [(0, .sl x.1.1 x.1.2.2.length x.1.2.1 17 (resRd x.1.2.2.toArray)), (1, .sl x.2.1.1 x.2.1.2.2.length x.2.1.2.1 17 (resRd x.2.1.2.2.toArray)), (5, .os 0 x.2.2.1 x.2.2.2.2.length x.2.2.2.1)], [.row x.2.2.1 39 x.2.2.2.2.length x.2.2.2.1 17 (resRd x.2.2.2.2.toArray)]⟩)
    (fun x => x.2.2.2.2 ++ mrg x.1.2.2 x.2.1.2.2 = mrg xs ys ∧ x.2.2.2.2.length + x.1.2.2.length + x.2.1.2.2.length = xs.length + ys.length ∧ (∀ z ∈ x.1.2.2, wfR z) ∧ ∀ z ∈ x.2.1.2.2, wfR z) (fun x => x.1.2.2.length + x.2.1.2.2.length) ((xa, xc, xs), (ya, yc, ys), none, 0, []) ⟨rfl, by simp, hx, hy⟩ (by simp -implicitDefEqProofs only [evr, id, reduceCtorEq, reduceIte, Nat.reduceMul, Nat.reduceAdd, Nat.reduceLT, Nat.reduceLeDiff, Nat.reduceEqDiff, Int.reduceLT, Int.reduceBEq, Int.reduceBNe, Nat.reduceBEq, res_one, res_ro, List.append_nil, Int.toNat_zero, Nat.sub_self, resRow, evl]) ?_
  rintro ⟨⟨xa, xc, rx⟩, ⟨ya, yc, ry⟩, za, zc, zs⟩ ⟨hI, hlen, hwx, hwy⟩
  simp only at hI hlen hwx hwy ⊢
  have et : ∀ (l : List Res) q, l.toArray[q]! = l[q]! := fun l q => by rw [List.getElem!_toArray]
  (repeat refine Sat.seq ?_)
  refine Sat.region_at ⟨49, [(13, .b (decide (0 < rx.length) || decide (0 < ry.length))), (0, .sl xa rx.length xc 17 (resRd rx.toArray)), (1, .sl ya ry.length yc 17 (resRd ry.toArray)), (5, .os 0 za zs.length zc)], [.row za 39 zs.length zc 17 (resRd zs.toArray)]⟩ (fun k hk => ?_) ?_
  · simp -implicitDefEqProofs only [evr, id, reduceCtorEq, reduceIte, Nat.reduceMul, Nat.reduceAdd, Nat.reduceLT, Nat.reduceLeDiff, Nat.reduceEqDiff, Int.reduceLT, Int.reduceBEq, Int.reduceBNe, Nat.reduceBEq, res_one, res_ro, List.append_nil, Int.toNat_zero, Nat.sub_self, resRow]
    refine ⟨fun h => hk _ ?_, fun h => hk _ ?_⟩
    · have e : (decide (0 < rx.length) || decide (0 < ry.length)) = true := by simp [show 0 < rx.length by omega]
      simp only [e]
      simp -implicitDefEqProofs only [evr, id, reduceCtorEq, reduceIte, Nat.reduceMul, Nat.reduceAdd, Nat.reduceLT, Nat.reduceLeDiff, Nat.reduceEqDiff, Int.reduceLT, Int.reduceBEq, Int.reduceBNe, Nat.reduceBEq, res_one, res_ro, List.append_nil, Int.toNat_zero, Nat.sub_self, resRow, evl]
    · have e : (decide (0 < rx.length) || decide (0 < ry.length)) = decide ((0 : Int) < (ry.length : Int)) := by
        simp [show ¬ 0 < rx.length by omega]
      simp only [e]
      simp -implicitDefEqProofs only [evr, id, reduceCtorEq, reduceIte, Nat.reduceMul, Nat.reduceAdd, Nat.reduceLT, Nat.reduceLeDiff, Nat.reduceEqDiff, Int.reduceLT, Int.reduceBEq, Int.reduceBNe, Nat.reduceBEq, res_one, res_ro, List.append_nil, Int.toNat_zero, Nat.sub_self, resRow, evl]
  (repeat refine Sat.seq ?_)
  refine Sat.cond_b rfl (fun h => ?_) (fun h => ?_)
  · have h1 : 0 < rx.length ∨ 0 < ry.length := by simpa using h
    refine Sat.skip ?_
    simp only [thenK]
    (repeat refine Sat.seq ?_)
    refine Sat.block ?_
    (repeat refine Sat.seq ?_)
    refine Sat.region_qat (by kernel_rfl) (by kernel_rfl) ⟨49, [(31, .b (decide (ry.length = 0) || (decide (0 < rx.length) && decide (resCompare rx[0]! ry[0]! ≤ 0)))), (0, .sl xa rx.length xc 17 (resRd rx.toArray)), (1, .sl ya ry.length yc 17 (resRd ry.toArray)), (5, .os 0 za zs.length zc)], [.row za 39 zs.length zc 17 (resRd zs.toArray)]⟩ (fun k hk => ?_) ?_
    · simp -implicitDefEqProofs only [evr, id, reduceCtorEq, reduceIte, Nat.reduceMul, Nat.reduceAdd, Nat.reduceLT, Nat.reduceLeDiff, Nat.reduceEqDiff, Int.reduceLT, Int.reduceBEq, Int.reduceBNe, Nat.reduceBEq, res_one, res_ro, List.append_nil, Int.toNat_zero, Nat.sub_self, resRow]
      refine ⟨fun h2 => hk _ ?_, fun h2 => ⟨fun h3 => ⟨⟨by omega, by omega⟩, ?_, ?_⟩, fun h3 => hk _ ?_⟩⟩
      · have e : (decide (ry.length = 0) || (decide (0 < rx.length) && decide (resCompare rx[0]! ry[0]! ≤ 0))) = true := by
          have : ry.length = 0 := by simp only [beq_iff_eq] at h2; omega
          simp [this]
        simp only [e]
        simp -implicitDefEqProofs only [evr, id, reduceCtorEq, reduceIte, Nat.reduceMul, Nat.reduceAdd, Nat.reduceLT, Nat.reduceLeDiff, Nat.reduceEqDiff, Int.reduceLT, Int.reduceBEq, Int.reduceBNe, Nat.reduceBEq, res_one, res_ro, List.append_nil, Int.toNat_zero, Nat.sub_self, resRow, evl]
      · simp only [beq_eq_false_iff_ne] at h2
        exact ⟨by omega, by omega⟩
      · simp only [beq_eq_false_iff_ne] at h2
        have h4 : ¬ ry.length = 0 := by omega
        have h5 : 0 < rx.length := by omega
        have w1 : wfR rx.toArray[0]! := hwx _ (by rw [et, getElem!_pos rx 0 h5]; exact List.getElem_mem h5)
        have w2 : wfR ry.toArray[0]! := hwy _ (by rw [et, getElem!_pos ry 0 (by omega)]; exact List.getElem_mem _)
        refine qcall (compareG Frm.nil rx.toArray[0]! ry.toArray[0]! w1 w2) rfl (ok_plain rfl) ?_
        simp -implicitDefEqProofs only [evr, id, reduceCtorEq, reduceIte, Nat.reduceMul, Nat.reduceAdd, Nat.reduceLT, Nat.reduceLeDiff, Nat.reduceEqDiff, Int.reduceLT, Int.reduceBEq, Int.reduceBNe, Nat.reduceBEq, res_one, res_ro, List.append_nil, Int.toNat_zero, Nat.sub_self, resRow]
        refine hk _ ?_
        have e : (decide (ry.length = 0) || (decide (0 < rx.length) && decide (resCompare rx[0]! ry[0]! ≤ 0))) = decide (resCompare rx[0]! ry[0]! ≤ 0) := by simp only [h4, h5, decide_false, decide_true, Bool.false_or, Bool.true_and]
        simp only [e, et]
        simp -implicitDefEqProofs only [evr, id, reduceCtorEq, reduceIte, Nat.reduceMul, Nat.reduceAdd, Nat.reduceLT, Nat.reduceLeDiff, Nat.reduceEqDiff, Int.reduceLT, Int.reduceBEq, Int.reduceBNe, Nat.reduceBEq, res_one, res_ro, List.append_nil, Int.toNat_zero, Nat.sub_self, resRow, evl]
      · simp only [beq_eq_false_iff_ne] at h2
        have h4 : ¬ ry.length = 0 := by omega
        have h5 : ¬ 0 < rx.length := by omega
        have e : (decide (ry.length = 0) || (decide (0 < rx.length) && decide (resCompare rx[0]! ry[0]! ≤ 0))) = false := by simp only [h4, h5, decide_false, Bool.false_and, Bool.or_false]
        simp only [e]
        simp -implicitDefEqProofs only [evr, id, reduceCtorEq, reduceIte, Nat.reduceMul, Nat.reduceAdd, Nat.reduceLT, Nat.reduceLeDiff, Nat.reduceEqDiff, Int.reduceLT, Int.reduceBEq, Int.reduceBNe, Nat.reduceBEq, res_one, res_ro, List.append_nil, Int.toNat_zero, Nat.sub_self, resRow, evl]
    simp only [thenK]
    refine Sat.cond_b rfl (fun h => ?_) (fun h => ?_)
    · have h2 : 0 < rx.length ∧ mrg rx ry = rx[0]! :: mrg (rx.drop 1) ry := by
        simp only [Bool.or_eq_true, Bool.and_eq_true, decide_eq_true_eq] at h
        by_cases h3 : ry.length = 0
        · have h4 : 0 < rx.length := by omega
          refine ⟨h4, ?_⟩
          rw [List.eq_nil_of_length_eq_zero h3, mrg_nil2, mrg_nil2]
          exact drop_one h4
        · obtain ⟨h4, h5⟩ := h.resolve_left h3
          refine ⟨h4, ?_⟩
          have e1 := drop_one h4
          have e2 := drop_one (show 0 < ry.length by omega)
          generalize rx[0]! = u at *
          generalize ry[0]! = v at *
          rw [e1, e2, mrg_left h5]
          simp
      obtain ⟨h2, h3⟩ := h2
      (repeat refine Sat.seq ?_)
      (refine Sat.region_k fun k hk => ?_; simp -implicitDefEqProofs only [evr, id, reduceCtorEq, reduceIte, Nat.reduceMul, Nat.reduceAdd, Nat.reduceLT, Nat.reduceLeDiff, Nat.reduceEqDiff, Int.reduceLT, Int.reduceBEq, Int.reduceBNe, Nat.reduceBEq, res_one, res_ro, List.append_nil, Int.toNat_zero, Nat.sub_self, resRow])
      refine ⟨⟨by omega, by omega⟩, ?_⟩
      intro blk
      refine ⟨⟨by unfold maxLen; omega, by omega⟩, fun a2 cap2 => ?_⟩
      (refine hk _ ?_; clear hk k; try show Sat _ _ _ _ _)
      (repeat refine Sat.seq ?_)
      (refine Sat.region_k fun k hk => ?_; simp -implicitDefEqProofs only [evr, id, reduceCtorEq, reduceIte, Nat.reduceMul, Nat.reduceAdd, Nat.reduceLT, Nat.reduceLeDiff, Nat.reduceEqDiff, Int.reduceLT, Int.reduceBEq, Int.reduceBNe, Nat.reduceBEq, res_one, res_ro, List.append_nil, Int.toNat_zero, Nat.sub_self, resRow])
      refine ⟨by omega, ?_⟩
      refine hk _ ?_
      simp only [thenK, blockK, res_drop]
      have hd1 : (rx.drop 1).length = rx.length - 1 := by simp
      refine ⟨((if xc = 1 then xa else xa.map (·.add 17), xc - 1, rx.drop 1), (ya, yc, ry), a2, cap2, zs ++ [rx[0]!]), ⟨by simpa [h3] using hI, by simp only [List.length_append, List.length_cons, List.length_nil, hd1]; omega, fun z hz => hwx z (List.mem_of_mem_drop hz), hwy⟩, by simp only [hd1]; omega, ?_⟩
      have ea := res_app1 (xs := zs) (d := rx.toArray) (q := 0) (l17 := (List.range 17).map (resRd rx.toArray 0)) rfl
      rw [et] at ea
      simp only [hd1, List.length_append]
      simp -implicitDefEqProofs only [evr, id, reduceCtorEq, reduceIte, Nat.reduceMul, Nat.reduceAdd, Nat.reduceLT, Nat.reduceLeDiff, Nat.reduceEqDiff, Int.reduceLT, Int.reduceBEq, Int.reduceBNe, Nat.reduceBEq, res_one, res_ro, List.append_nil, Int.toNat_zero, Nat.sub_self, resRow, evl]
      exact ⟨rfl, ea⟩
    · have h2 : 0 < ry.length ∧ mrg rx ry = ry[0]! :: mrg rx (ry.drop 1) := by
        simp only [Bool.or_eq_false_iff, Bool.and_eq_false_iff, decide_eq_false_iff_not] at h
        have h4 : 0 < ry.length := by omega
        refine ⟨h4, ?_⟩
        have e2 := drop_one h4
        by_cases h3 : rx.length = 0
        · rw [List.eq_nil_of_length_eq_zero h3, mrg_nil, mrg_nil]
          exact e2
        · have e1 := drop_one (show 0 < rx.length by omega)
          have h5 := h.2.resolve_left (by omega)
          generalize rx[0]! = u at *
          generalize ry[0]! = v at *
          rw [e1, e2, mrg_right h5]
          simp
      obtain ⟨h2, h3⟩ := h2
      (repeat refine Sat.seq ?_)
      (refine Sat.region_k fun k hk => ?_; simp -implicitDefEqProofs only [evr, id, reduceCtorEq, reduceIte, Nat.reduceMul, Nat.reduceAdd, Nat.reduceLT, Nat.reduceLeDiff, Nat.reduceEqDiff, Int.reduceLT, Int.reduceBEq, Int.reduceBNe, Nat.reduceBEq, res_one, res_ro, List.append_nil, Int.toNat_zero, Nat.sub_self, resRow])
      refine ⟨⟨by omega, by omega⟩, ?_⟩
      intro blk
      refine ⟨⟨by unfold maxLen; omega, by omega⟩, fun a2 cap2 => ?_⟩
      (refine hk _ ?_; clear hk k; try show Sat _ _ _ _ _)
      (repeat refine Sat.seq ?_)
      (refine Sat.region_k fun k hk => ?_; simp -implicitDefEqProofs only [evr, id, reduceCtorEq, reduceIte, Nat.reduceMul, Nat.reduceAdd, Nat.reduceLT, Nat.reduceLeDiff, Nat.reduceEqDiff, Int.reduceLT, Int.reduceBEq, Int.reduceBNe, Nat.reduceBEq, res_one, res_ro, List.append_nil, Int.toNat_zero, Nat.sub_self, resRow])
      refine ⟨by omega, ?_⟩
      refine hk _ ?_
      simp only [thenK, blockK, res_drop]
      have hd1 : (ry.drop 1).length = ry.length - 1 := by simp
      refine ⟨((xa, xc, rx), (if yc = 1 then ya else ya.map (·.add 17), yc - 1, ry.drop 1), a2, cap2, zs ++ [ry[0]!]), ⟨by simpa [h3] using hI, by simp only [List.length_append, List.length_cons, List.length_nil, hd1]; omega, hwx, fun z hz => hwy z (List.mem_of_mem_drop hz)⟩, by simp only [hd1]; omega, ?_⟩
      have ea := res_app1 (xs := zs) (d := ry.toArray) (q := 0) (l17 := (List.range 17).map (resRd ry.toArray 0)) rfl
      rw [et] at ea
      simp only [hd1, List.length_append]
      simp -implicitDefEqProofs only [evr, id, reduceCtorEq, reduceIte, Nat.reduceMul, Nat.reduceAdd, Nat.reduceLT, Nat.reduceLeDiff, Nat.reduceEqDiff, Int.reduceLT, Int.reduceBEq, Int.reduceBNe, Nat.reduceBEq, res_one, res_ro, List.append_nil, Int.toNat_zero, Nat.sub_self, resRow, evl]
      exact ⟨rfl, ea⟩
  · have h1 : rx = [] ∧ ry = [] := by
      simp only [Bool.or_eq_false_iff, decide_eq_false_iff_not] at h
      exact ⟨List.eq_nil_of_length_eq_zero (by omega), List.eq_nil_of_length_eq_zero (by omega)⟩
    obtain ⟨rfl, rfl⟩ := h1
    rw [mrg_nil, List.append_nil] at hI
    subst hI
    refine Sat.exit ?_
    simp only [thenK, blockK, reduceIte]
    (repeat refine Sat.seq ?_)
    (refine Sat.region_k fun k hk => ?_; simp -implicitDefEqProofs only [evr, id, reduceCtorEq, reduceIte, Nat.reduceMul, Nat.reduceAdd, Nat.reduceLT, Nat.reduceLeDiff, Nat.reduceEqDiff, Int.reduceLT, Int.reduceBEq, Int.reduceBNe, Nat.reduceBEq, res_one, res_ro, List.append_nil, Int.toNat_zero, Nat.sub_self, resRow]; refine hk _ ?_; clear hk k; try show Sat _ _ _ _ _)
    refine Sat.ret ?_
    simp only [Try.results62, evr, id, reduceCtorEq, reduceIte, Nat.reduceMul, Nat.reduceAdd, Nat.reduceLT, Nat.reduceLeDiff, Nat.reduceEqDiff, Int.reduceLT, Int.reduceBEq, Int.reduceBNe, Nat.reduceBEq, res_one, res_ro, List.append_nil, Int.toNat_zero, Nat.sub_self, resRow, retN, retNK, newRow]
    exact ⟨⟨rfl, rfl, rfl⟩, za, zc, rfl⟩

theorem upR_short {xs : List Res} (h : xs.length < 2) : upR xs := by
  unfold upR
  cases xs with
  | nil => exact List.Pairwise.nil
  | cons x t =>
    cases t with
    | nil => exact List.pairwise_cons.2 ⟨fun a h => (by cases h), List.Pairwise.nil⟩
    | cons y t => simp only [List.length_cons] at h; omega
theorem sortedS (F : Frm) (xa ya : Option Addr) (xc yc : Nat) (xs ys : List Res) (hl : xs.length + ys.length ≤ 1000000000) (hx : ∀ x ∈ xs, wfR x) (hy : ∀ x ∈ ys, wfR x) :
    Contract F Try.prog 62 [.sl xa xs.length xc 17 (resRd xs.toArray), .sl ya ys.length yc 17 (resRd ys.toArray)] (fun r => ∃ a cap, r = .sl a (mrg xs ys).length cap 17 (resRd (mrg xs ys).toArray)) := by
  refine (sortedC F xa ya xc yc xs ys hl hx hy).toC.mono ?_
  rintro r ⟨a', ty, len, cap', sz, rd, rfl, ⟨a2, cap2, e⟩⟩
  simp only [resRow, Own.row.injEq] at e
  obtain ⟨rfl, rfl, rfl, rfl, rfl, rfl⟩ := e
  exact ⟨_, _, rfl⟩
/-- what sort gives back of the results xs -/
def srtR (xs : List Res) (r : SV) : Prop := ∃ (a : Option Addr) (cap : Nat) (zs : List Res), zs.Perm xs ∧ upR zs ∧ r = .sl a zs.length cap 17 (resRd zs.toArray)
set_option maxRecDepth 100000 in
theorem sortC (F : Frm) : ∀ (n : Nat) (a : Option Addr) (cap : Nat) (xs : List Res), xs.length ≤ n → xs.length ≤ 1000000000 → (∀ x ∈ xs, wfR x) →
    Contract F Try.prog 45 [.sl a xs.length cap 17 (resRd xs.toArray)] (srtR xs)
  | 0, a, cap, xs, hn, hl, hw => by
    have e : xs = [] := List.eq_nil_of_length_eq_zero (by omega)
    subst e
    refine contract_of Try.func45 rfl (by kernel_rfl) ?_
    simp only [Try.ntmps45, argEnv]
    (repeat refine Sat.seq ?_)
    (refine Sat.region_k fun k hk => ?_; simp -implicitDefEqProofs only [evr, id, reduceCtorEq, reduceIte, Nat.reduceMul, Nat.reduceAdd, Nat.reduceLT, Nat.reduceLeDiff, Nat.reduceEqDiff, Int.reduceLT, Int.reduceBEq, Int.reduceBNe, Nat.reduceBEq, res_one, res_ro, List.append_nil, Int.toNat_zero, Nat.sub_self, resRow]; refine hk _ ?_; clear hk k; try show Sat _ _ _ _ _)
    (repeat refine Sat.seq ?_)
    (refine Sat.region_k fun k hk => ?_; simp -implicitDefEqProofs only [evr, id, reduceCtorEq, reduceIte, Nat.reduceMul, Nat.reduceAdd, Nat.reduceLT, Nat.reduceLeDiff, Nat.reduceEqDiff, Int.reduceLT, Int.reduceBEq, Int.reduceBNe, Nat.reduceBEq, res_one, res_ro, List.append_nil, Int.toNat_zero, Nat.sub_self, resRow]; refine hk _ ?_; clear hk k; try show Sat _ _ _ _ _)
    (repeat refine Sat.seq ?_)
    refine Sat.cond_b rfl (fun h => ?_) (fun h => absurd h (by decide))
    (repeat refine Sat.seq ?_)
    (refine Sat.region_k fun k hk => ?_; simp -implicitDefEqProofs only [evr, id, reduceCtorEq, reduceIte, Nat.reduceMul, Nat.reduceAdd, Nat.reduceLT, Nat.reduceLeDiff, Nat.reduceEqDiff, Int.reduceLT, Int.reduceBEq, Int.reduceBNe, Nat.reduceBEq, res_one, res_ro, List.append_nil, Int.toNat_zero, Nat.sub_self, resRow]; refine hk _ ?_; clear hk k; try show Sat _ _ _ _ _)
    refine Sat.ret ?_
    simp only [Try.results45, evr, id, reduceCtorEq, reduceIte, Nat.reduceMul, Nat.reduceAdd, Nat.reduceLT, Nat.reduceLeDiff, Nat.reduceEqDiff, Int.reduceLT, Int.reduceBEq, Int.reduceBNe, Nat.reduceBEq, res_one, res_ro, List.append_nil, Int.toNat_zero, Nat.sub_self, resRow]
    exact ⟨a, cap, [], List.Perm.refl _, List.Pairwise.nil, rfl⟩
  | n + 1, a, cap, xs, hn, hl, hw => by
    refine contract_of Try.func45 rfl (by kernel_rfl) ?_
    simp only [Try.ntmps45, argEnv]
    (repeat refine Sat.seq ?_)
    (refine Sat.region_k fun k hk => ?_; simp -implicitDefEqProofs only [evr, id, reduceCtorEq, reduceIte, Nat.reduceMul, Nat.reduceAdd, Nat.reduceLT, Nat.reduceLeDiff, Nat.reduceEqDiff, Int.reduceLT, Int.reduceBEq, Int.reduceBNe, Nat.reduceBEq, res_one, res_ro, List.append_nil, Int.toNat_zero, Nat.sub_self, resRow]; refine hk _ ?_; clear hk k; try show Sat _ _ _ _ _)
    (repeat refine Sat.seq ?_)
    (refine Sat.region_k fun k hk => ?_; simp -implicitDefEqProofs only [evr, id, reduceCtorEq, reduceIte, Nat.reduceMul, Nat.reduceAdd, Nat.reduceLT, Nat.reduceLeDiff, Nat.reduceEqDiff, Int.reduceLT, Int.reduceBEq, Int.reduceBNe, Nat.reduceBEq, res_one, res_ro, List.append_nil, Int.toNat_zero, Nat.sub_self, resRow]; refine hk _ ?_; clear hk k; try show Sat _ _ _ _ _)
    (repeat refine Sat.seq ?_)
    refine Sat.cond_b rfl (fun h => ?_) (fun h => ?_)
    · have h1 : xs.length < 2 := by simp only [decide_eq_true_eq] at h; omega
      (repeat refine Sat.seq ?_)
      (refine Sat.region_k fun k hk => ?_; simp -implicitDefEqProofs only [evr, id, reduceCtorEq, reduceIte, Nat.reduceMul, Nat.reduceAdd, Nat.reduceLT, Nat.reduceLeDiff, Nat.reduceEqDiff, Int.reduceLT, Int.reduceBEq, Int.reduceBNe, Nat.reduceBEq, res_one, res_ro, List.append_nil, Int.toNat_zero, Nat.sub_self, resRow]; refine hk _ ?_; clear hk k; try show Sat _ _ _ _ _)
      refine Sat.ret ?_
      simp only [Try.results45, evr, id, reduceCtorEq, reduceIte, Nat.reduceMul, Nat.reduceAdd, Nat.reduceLT, Nat.reduceLeDiff, Nat.reduceEqDiff, Int.reduceLT, Int.reduceBEq, Int.reduceBNe, Nat.reduceBEq, res_one, res_ro, List.append_nil, Int.toNat_zero, Nat.sub_self, resRow]
      exact ⟨a, cap, xs, List.Perm.refl _, upR_short h1, rfl⟩
    · have h1 : 2 ≤ xs.length := by simp only [decide_eq_false_iff_not] at h; omega
      refine Sat.skip ?_
      simp only [thenK]
      (repeat refine Sat.seq ?_)
      have ed : IntKind.i64.wrap ((xs.length : Int).tdiv 2) = ((xs.length / 2 : Nat) : Int) := by
        rw [Int.tdiv_eq_ediv_of_nonneg (by omega), w64 (by omega)]; omega
      have t1 : ∀ a' cap', Contract F Try.prog 45 [.sl a' (xs.length / 2) cap' 17 (fun i j => resRd xs.toArray i j)] (srtR (xs.take (xs.length / 2))) := fun a' cap' => by
        have hlen : (xs.take (xs.length / 2)).length = xs.length / 2 := by rw [List.length_take]; omega
        have h := sortC F n a' cap' (xs.take (xs.length / 2)) (by omega) (by omega) fun x hx => hw x (List.mem_of_mem_take hx)
        rw [hlen] at h
        exact Contract.of_sim h ⟨sim_sl (res_take xs _), trivial⟩
      have t2 : ∀ a' cap', Contract F Try.prog 45 [.sl a' (xs.length - xs.length / 2) cap' 17 (fun i j => resRd xs.toArray (xs.length / 2 + i) j)] (srtR (xs.drop (xs.length / 2))) := fun a' cap' => by
        have hlen : (xs.drop (xs.length / 2)).length = xs.length - xs.length / 2 := List.length_drop
        have h := sortC F n a' cap' (xs.drop (xs.length / 2)) (by omega) (by omega) fun x hx => hw x (List.mem_of_mem_drop hx)
        rw [hlen, ← res_drop] at h
        exact h
      have t3 : ∀ a1 a2 c1 c2 z1 z2, z1.Perm (xs.take (xs.length / 2)) → z2.Perm (xs.drop (xs.length / 2)) → Contract F Try.prog 62 [.sl a1 z1.length c1 17 (resRd z1.toArray), .sl a2 z2.length c2 17 (resRd z2.toArray)] (fun r => ∃ a cap, r = .sl a (mrg z1 z2).length cap 17 (resRd (mrg z1 z2).toArray)) := fun a1 a2 c1 c2 z1 z2 p1 p2 => by
        have l1 := p1.length_eq
        have l2 := p2.length_eq
        rw [List.length_take] at l1
        rw [List.length_drop] at l2
        exact sortedS F a1 a2 c1 c2 z1 z2 (by omega) (fun x hx => hw x (List.mem_of_mem_take (p1.mem_iff.1 hx))) (fun x hx => hw x (List.mem_of_mem_drop (p2.mem_iff.1 hx)))
      have t4 : ∀ (a3 : Option Addr) (c3 : Nat) z1 z2, z1.Perm (xs.take (xs.length / 2)) → z2.Perm (xs.drop (xs.length / 2)) → upR z1 → upR z2 → srtR xs (.sl a3 (mrg z1 z2).length c3 17 (resRd (mrg z1 z2).toArray)) := fun a3 c3 z1 z2 p1 p2 u1 u2 => by
        refine ⟨a3, c3, _, ?_, mrg_up u1 u2, rfl⟩
        have := (mrg_perm z1 z2).trans (List.Perm.append p1 p2)
        rwa [List.take_append_drop] at this
      (refine Sat.region_tree (.keep [0, 1, 6, 7, 2, 3, 8, 9] [4, 5, 10] (.alt 4 (.alt 5 (.one 10 (.one 11 (.one 12 (.one 13 .done)))) (.alt 10 (.one 5 (.one 11 (.one 12 (.one 13 .done)))) .none)) (.alt 10 (.one 4 (.one 5 (.one 11 (.one 12 (.one 13 .done))))) .none))) (by kernel_rfl) (by kernel_rfl) (fun _ _ h => h) fun k hk => ?_; simp only [WOT, List.map_cons, List.map_nil, List.getD_cons_zero, List.getD_cons_succ]; simp -implicitDefEqProofs only [evr, id, reduceCtorEq, reduceIte, Nat.reduceMul, Nat.reduceAdd, Nat.reduceLT, Nat.reduceLeDiff, Nat.reduceEqDiff, Int.reduceLT, Int.reduceBEq, Int.reduceBNe, Nat.reduceBEq, res_one, res_ro, List.append_nil, Int.toNat_zero, Nat.sub_self, resRow, WOT])
      simp only [ed, Int.toNat_natCast, Nat.sub_zero]
      repeat' (first
        | omega
        | (refine wcall_slice (t1 _ _) rfl rfl ?_; rintro r ⟨a1, c1, z1, p1, u1, rfl⟩; simp -implicitDefEqProofs only [evr, id, reduceCtorEq, reduceIte, Nat.reduceMul, Nat.reduceAdd, Nat.reduceLT, Nat.reduceLeDiff, Nat.reduceEqDiff, Int.reduceLT, Int.reduceBEq, Int.reduceBNe, Nat.reduceBEq, res_one, res_ro, List.append_nil, Int.toNat_zero, Nat.sub_self, resRow, ed, Nat.sub_zero])
        | (refine wcall_slice (t2 _ _) rfl rfl ?_; rintro r ⟨a2, c2, z2, p2, u2, rfl⟩; simp -implicitDefEqProofs only [evr, id, reduceCtorEq, reduceIte, Nat.reduceMul, Nat.reduceAdd, Nat.reduceLT, Nat.reduceLeDiff, Nat.reduceEqDiff, Int.reduceLT, Int.reduceBEq, Int.reduceBNe, Nat.reduceBEq, res_one, res_ro, List.append_nil, Int.toNat_zero, Nat.sub_self, resRow, ed, Nat.sub_zero])
        | (refine wcall_slice (t3 a1 a2 c1 c2 z1 z2 p1 p2) rfl rfl ?_; rintro r ⟨a3, c3, rfl⟩; simp -implicitDefEqProofs only [evr, id, reduceCtorEq, reduceIte, Nat.reduceMul, Nat.reduceAdd, Nat.reduceLT, Nat.reduceLeDiff, Nat.reduceEqDiff, Int.reduceLT, Int.reduceBEq, Int.reduceBNe, Nat.reduceBEq, res_one, res_ro, List.append_nil, Int.toNat_zero, Nat.sub_self, resRow]; refine hk _ ?_; simp only [thenK]; refine Sat.ret ?_; simp only [Try.results45, evr, id, reduceCtorEq, reduceIte, Nat.reduceMul, Nat.reduceAdd, Nat.reduceLT, Nat.reduceLeDiff, Nat.reduceEqDiff, Int.reduceLT, Int.reduceBEq, Int.reduceBNe, Nat.reduceBEq, res_one, res_ro, List.append_nil, Int.toNat_zero, Nat.sub_self, resRow]; exact t4 a3 c3 z1 z2 p1 p2 u1 u2)
        | (refine And.intro ?_ ?_))
end Go.Proofs.Ythhofjkbmnklmaa
