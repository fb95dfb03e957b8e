import Derived.Test.YtepbdjpcoleegaaGreatR24E

/- The reference's order of results, by the evaluator: routescoperef24.Order. -/
set_option linter.unusedSimpArgs false
set_option linter.unusedVariables false
namespace Go.Proofs.YtepbdjpcoleegaaGreat
open Go.Sort Eng
set_option maxRecDepth 100000 in
theorem orderG (F : Frm) (ad : Option Addr) (cap : Nat) (xs : List Res) (hl : xs.length ≤ 1000000000) (hin : ∀ r ∈ xs, RgR r) :
  ContractN F Tryz.prog 72 [.sl ad xs.length cap 17 (resRd xs.toArray)] (fun o => ∃ a cap ys, OrdOf xs ys ∧ ys.length ≤ xs.length ∧ o = resRow a ys.length cap ys.toArray) := by
 refine contractN_of Tryz.func72 rfl (by kernel_rfl) ?_
 simp only [Tryz.ntmps72, argEnv]
 (repeat refine Sat.seq ?_)
 (refine Sat.region_k fun k hk => ?_; simp -implicitDefEqProofs only [evr, id, seval, res_one, resRow, res_ro, evn]; refine hk _ ?_; clear hk k; try show Sat _ _ _ _ _)
 (repeat refine Sat.seq ?_)
 (refine Sat.region_k fun k hk => ?_; simp -implicitDefEqProofs only [evr, id, seval, res_one, resRow, res_ro, evn]; refine hk _ ?_; clear hk k; try show Sat _ _ _ _ _)
 (repeat refine Sat.seq ?_)
 (refine Sat.region_k fun k hk => ?_; simp -implicitDefEqProofs only [evr, id, seval, res_one, resRow, res_ro, evn]; refine hk _ ?_; clear hk k; try show Sat _ _ _ _ _)
 refine Sat.adopt 3 51 17 (resRd #[]) rfl ?_
 (repeat refine Sat.seq ?_)
 refine Sat.block ?_
 refine Sat.loop (ι := Nat × Option Addr × Nat × List Res) (fun z => ⟨75, [(4, .i .i64 z.1), (0, .sl ad xs.length cap 17 (resRd xs.toArray)), (3, .os 0 z.2.1 z.2.2.2.length z.2.2.1)], [resRow z.2.1 z.2.2.2.length z.2.2.1 z.2.2.2.toArray]⟩)
  (fun z => z.1 ≤ xs.length ∧ OrdOf (xs.take z.1) z.2.2.2 ∧ z.2.2.2.length ≤ z.1) (fun z => xs.length - z.1) (0, none, 0, []) ⟨Nat.zero_le _, ⟨List.Pairwise.nil, fun r => by simp⟩, Nat.le_refl _⟩ (by simp -implicitDefEqProofs only [evr, id, seval, res_one, resRow, res_ro, evl, evn]; first | rfl | trace_state) ?_
 rintro ⟨i, a, c, ys⟩ ⟨hi, ho, hyl⟩
 simp only [resRow] at hi ho hyl ⊢
 (repeat refine Sat.seq ?_)
 (refine Sat.region_k fun k hk => ?_; simp -implicitDefEqProofs only [evr, id, seval, res_one, resRow, res_ro, evn]; refine hk _ ?_; clear hk k; try show Sat _ _ _ _ _)
 (repeat refine Sat.seq ?_)
 refine Sat.cond_b rfl (fun h => ?_) (fun h => ?_)
 ·have h1 : i < xs.length := by simp only [decide_eq_true_eq] at h; omega
  have e2 : IntKind.i64.wrap ((i : Int) + 1) = ((i + 1 : Nat) : Int) := by rw [w64 (by omega)]; omega
  obtain ⟨r, hr⟩ : ∃ r, xs.toArray[i]! = r := ⟨_, rfl⟩
  have hr' : xs[i] = r := by rw [← hr, getB h1]
  have hrg : RgR r := hin r (by rw [← hr']; exact List.getElem_mem h1)
  have hyin : ∀ q, q < ys.length → RgR ys.toArray[q]! := fun q hq => by
   rw [getB hq]
   exact hin _ (List.mem_of_mem_take ((ho.2 _).1 (List.getElem_mem hq)).1)
  refine Sat.skip ?_
  simp only [thenK]
  (repeat refine Sat.seq ?_)
  refine Sat.block ?_
  (repeat refine Sat.seq ?_)
  (refine Sat.region_k fun k hk => ?_; simp -implicitDefEqProofs only [evr, id, seval, res_one, resRow, res_ro, evn])
  refine ⟨by omega, ?_⟩
  refine wcall_plain (validG F xs.toArray[i]!) rfl (by rintro _ rfl; exact ok_plain rfl) ?_
  rintro r0 rfl
  simp -implicitDefEqProofs only [evr, id, seval, res_one, resRow, res_ro, evn]
  (refine hk _ ?_; clear hk k; try show Sat _ _ _ _ _)
  (repeat refine Sat.seq ?_)
  refine Sat.cond_b rfl (fun h2 => ?_) (fun h2 => ?_)
  ·refine Sat.exit ?_
   simp only [blockK, thenK, reduceIte]
   refine Sat.region_k fun k hk => ?_
   simp -implicitDefEqProofs only [evr, id, seval, res_one, resRow, res_ro, e2, evn]
   refine hk _ ?_
   simp only [thenK, blockK]
   refine ⟨(i + 1, a, c, ys), ⟨by simp only; omega, ord_skip ho h1 hr' (fun hv => ?_), by simp only; omega⟩, by simp only; omega, ?_⟩
   ·rw [hr, hv] at h2; cases h2
   ·simp -implicitDefEqProofs only [evr, id, seval, res_one, resRow, res_ro, evl, evn]
  have hv : validR r = true := by rw [hr] at h2; simpa using h2
  refine Sat.skip ?_
  simp only [thenK]
  (repeat refine Sat.seq ?_)
  (refine Sat.region_k fun k hk => ?_; simp -implicitDefEqProofs only [evr, id, seval, res_one, resRow, res_ro, evn]; refine hk _ ?_; clear hk k; try show Sat _ _ _ _ _)
  (repeat refine Sat.seq ?_)
  refine Sat.block ?_
  refine Sat.loop (ι := Nat) (fun k => ⟨75, [(5, .i .i64 k), (4, .i .i64 i), (0, .sl ad xs.length cap 17 (resRd xs.toArray)), (3, .os 0 a ys.length c)], [resRow a ys.length c ys.toArray]⟩)
   (fun k => k ≤ ys.length ∧ ∀ q, k ≤ q → q < ys.length → pthLt r ys.toArray[q]! = true) (fun k => k) ys.length ⟨Nat.le_refl _, fun q h3 h4 => by omega⟩ (by simp -implicitDefEqProofs only [evr, id, seval, res_one, resRow, res_ro, evl, evn]; try exact ⟨rfl, rfl⟩) ?_
  rintro k0 ⟨hk0, hgt⟩
  simp only [resRow]
  have e4 : IntKind.i64.wrap ((k0 : Int) - 1) = (k0 : Int) - 1 := w64 (by omega)
  have e5 : ((k0 : Int) - 1).toNat = k0 - 1 := by omega
  (repeat refine Sat.seq ?_)
  refine Sat.at ⟨75, [(34, .b (decide (0 < k0) && decide (0 < wCompare ys.toArray[k0 - 1]! r))), (5, .i .i64 k0), (4, .i .i64 i), (0, .sl ad xs.length cap 17 (resRd xs.toArray)), (3, .os 0 a ys.length c)], [resRow a ys.length c ys.toArray]⟩ ?_ ?_
  ·(refine Sat.region_qk (by kernel_rfl) (by kernel_rfl) fun k hk => ?_; simp -implicitDefEqProofs only [evr, id, seval, res_one, resRow, res_ro, evn])
   simp only [e4, e5]
   refine ⟨fun h3 => ⟨by omega, by omega, by omega, ?_⟩, fun h3 => hk _ ?_⟩
   ·refine qcall (compareG Frm.nil ys.toArray[k0 - 1]! xs.toArray[i]!) rfl (ok_plain rfl) ?_
    simp -implicitDefEqProofs only [evr, id, seval, res_one, resRow, res_ro, evn]
    refine hk _ ?_
    have e : decide (0 < k0) = true := decide_eq_true (by omega)
    simp only [thenK, e, Bool.true_and, hr, resRow]
    simp -implicitDefEqProofs only [evr, id, seval, res_one, resRow, res_ro, evl, evn]
   ·have e : decide (0 < k0) = false := decide_eq_false (by omega)
    simp only [thenK, e, Bool.false_and, resRow]
    simp -implicitDefEqProofs only [evr, id, seval, res_one, resRow, res_ro, evl, evn]
  simp only [thenK, resRow]
  refine Sat.cond_b rfl (fun h3 => ?_) (fun h3 => ?_)
  ·simp only [Bool.and_eq_true, decide_eq_true_eq] at h3
   have hk1 : k0 - 1 < ys.length := by omega
   refine Sat.skip ?_
   simp only [thenK]
   (repeat refine Sat.seq ?_)
   refine Sat.block ?_
   refine Sat.region_k fun k hk => ?_
   simp -implicitDefEqProofs only [evr, id, seval, res_one, resRow, res_ro, e4, evn]
   refine hk _ ?_
   simp only [thenK, blockK]
   refine ⟨k0 - 1, ⟨by omega, fun q g1 g2 => ?_⟩, by omega, ?_⟩
   ·have hpos : pthLt r ys.toArray[k0 - 1]! = true := by
     have := h3.2
     rw [wCompare_in (hyin _ hk1) hrg] at this
     exact pthCompare_pos.1 this
    rcases (show q = k0 - 1 ∨ k0 ≤ q by omega) with rfl | g3
    ·exact hpos
    ·exact hgt q g3 g2
   ·simp -implicitDefEqProofs only [evr, id, seval, res_one, resRow, res_ro, evl, evn]
    omega
  have hstop : ¬ (0 < k0 ∧ 0 < wCompare ys.toArray[k0 - 1]! r) := fun hh => by
   rw [decide_eq_true hh.1, decide_eq_true hh.2] at h3; cases h3
  refine Sat.exit ?_
  simp only [thenK, blockK, reduceIte]
  (repeat refine Sat.seq ?_)
  refine Sat.at ⟨75, [(51, .b (decide (0 < k0) && decide (wCompare ys.toArray[k0 - 1]! r = 0))), (5, .i .i64 k0), (4, .i .i64 i), (0, .sl ad xs.length cap 17 (resRd xs.toArray)), (3, .os 0 a ys.length c)], [resRow a ys.length c ys.toArray]⟩ ?_ ?_
  ·(refine Sat.region_qk (by kernel_rfl) (by kernel_rfl) fun k hk => ?_; simp -implicitDefEqProofs only [evr, id, seval, res_one, resRow, res_ro, evn])
   simp only [e4, e5]
   refine ⟨fun h3 => ⟨by omega, by omega, by omega, ?_⟩, fun h3 => hk _ ?_⟩
   ·refine qcall (compareG Frm.nil ys.toArray[k0 - 1]! xs.toArray[i]!) rfl (ok_plain rfl) ?_
    simp -implicitDefEqProofs only [evr, id, seval, res_one, resRow, res_ro, evn]
    refine hk _ ?_
    have e : decide (0 < k0) = true := decide_eq_true (by omega)
    simp only [thenK, e, Bool.true_and, hr, resRow]
    simp -implicitDefEqProofs only [evr, id, seval, res_one, resRow, res_ro, evl, evn]
    exact .inl (Bool.eq_iff_iff.2 (by simp))
   ·have e : decide (0 < k0) = false := decide_eq_false (by omega)
    simp only [thenK, e, Bool.false_and, resRow]
    simp -implicitDefEqProofs only [evr, id, seval, res_one, resRow, res_ro, evl, evn]
  simp only [thenK, resRow]
  refine Sat.cond_b rfl (fun h3 => ?_) (fun h3 => ?_)
  ·simp only [Bool.and_eq_true, decide_eq_true_eq] at h3
   have hk1 : k0 - 1 < ys.length := by omega
   refine Sat.exit ?_
   simp only [blockK, thenK, reduceIte]
   refine Sat.region_k fun k hk => ?_
   simp -implicitDefEqProofs only [evr, id, seval, res_one, resRow, res_ro, e2, evn]
   refine hk _ ?_
   simp only [thenK, blockK]
   refine ⟨(i + 1, a, c, ys), ⟨by simp only; omega, ord_skip ho h1 hr' (fun _ => ?_), by simp only; omega⟩, by simp only; omega, ?_⟩
   ·have h4 := h3.2
    rw [wCompare_in (hyin _ hk1) hrg, pthCompare_zero] at h4
    rw [← h4, getB hk1]
    exact List.getElem_mem hk1
   ·simp -implicitDefEqProofs only [evr, id, seval, res_one, resRow, res_ro, evl, evn]
  have hne : ¬ (0 < k0 ∧ wCompare ys.toArray[k0 - 1]! r = 0) := fun hh => by
   rw [decide_eq_true hh.1, decide_eq_true hh.2] at h3; cases h3
  have hlt : ∀ q, q < k0 → pthLt ys.toArray[q]! r = true := by
   intro q hq
   have hk1 : k0 - 1 < ys.length := by omega
   have h5 : pthLt ys.toArray[k0 - 1]! r = true := by
    have g1 : ¬ 0 < wCompare ys.toArray[k0 - 1]! r := fun hh => hstop ⟨by omega, hh⟩
    have g2 : wCompare ys.toArray[k0 - 1]! r ≠ 0 := fun hh => hne ⟨by omega, hh⟩
    rw [wCompare_in (hyin _ hk1) hrg] at g1 g2
    unfold pthLt
    exact decide_eq_true (by omega)
   rcases (show q = k0 - 1 ∨ q < k0 - 1 by omega) with rfl | g3
   ·exact h5
   ·exact pthLt_trans _ _ _ (asc_lt ho.1 g3 hk1) h5
  refine Sat.skip ?_
  simp only [thenK]
  (repeat refine Sat.seq ?_)
  (refine Sat.region_k fun k hk => ?_; simp -implicitDefEqProofs only [evr, id, seval, res_one, resRow, res_ro, evn])
  refine ⟨by omega, fun b3 => ⟨⟨by unfold maxLen; omega, by omega⟩, fun a2 cap2 => ?_⟩⟩
  (refine hk _ ?_; clear hk k; try show Sat _ _ _ _ _)
  refine Sat.know_row 0 rfl fun hcap => ?_
  have e6 : IntKind.i64.wrap ((k0 : Int) + 1) = ((k0 + 1 : Nat) : Int) := by rw [w64 (by omega)]; omega
  (repeat refine Sat.seq ?_)
  refine Sat.at ⟨75, [(5, .i .i64 k0), (4, .i .i64 i), (0, .sl ad xs.length cap 17 (resRd xs.toArray)), (3, .os 0 a2 (ys.length + 1) cap2)],
   [.row a2 51 (ys.length + 1) cap2 17 (rdMove (k0 + 1) k0 (ys.length - k0) (rdCat ys.length (resRd ys.toArray) (rdL (Res.cs r) 17)))]⟩ ?_ ?_
  ·(refine Sat.region_tree (.keep [0, 1, 2, 4, 5] [] (.alt 3 (.one 6 (.one 7 .done)) (.alt 6 (.one 3 (.one 7 .done)) .none))) (by kernel_rfl) (by kernel_rfl) (fun _ _ h => h) fun k hk => ?_; simp only [WOT, List.map_cons, List.map_nil, List.getD_cons_zero, List.getD_cons_succ]; simp -implicitDefEqProofs only [evr, id, seval, res_one, resRow, res_ro, WOT, evn])
   simp -implicitDefEqProofs only [evr, id, reduceCtorEq, reduceIte, Nat.reduceMul, Nat.reduceAdd, Nat.reduceLT, Nat.reduceLeDiff, Nat.reduceEqDiff, Int.reduceLT, Int.reduceBEq, Int.reduceBNe, Nat.reduceBEq, res_one, Int.reduceToNat, resRow, res_ro, e6, evn]
   repeat' (with_reducible refine And.intro ?_ ?_)
   all_goals first | omega | skip
   all_goals
    refine hk _ ?_
    simp only [thenK, show min (ys.length + 1 - k0) (ys.length + 1 - (k0 + 1)) = ys.length - k0 by omega, ← hr]
    simp -implicitDefEqProofs only [evr, id, reduceCtorEq, reduceIte, Nat.reduceMul, Nat.reduceAdd, Nat.reduceLT, Nat.reduceLeDiff, Nat.reduceEqDiff, Int.reduceLT, Int.reduceBEq, Int.reduceBNe, Nat.reduceBEq, res_one, Int.reduceToNat, resRow, res_ro, evl, evn]
    exact fun _ _ _ _ => rfl
  simp only [thenK]
  (refine Sat.region_k fun k hk => ?_; simp -implicitDefEqProofs only [evr, id, seval, res_one, resRow, res_ro, evn])
  refine ⟨by omega, by omega, by omega, ?_⟩
  (refine hk _ ?_; clear hk k; try show Sat _ _ _ _ _)
  refine Sat.region_k fun k hk => ?_
  simp -implicitDefEqProofs only [evr, id, seval, res_one, resRow, res_ro, e2, evn]
  refine hk _ ?_
  simp only [thenK, blockK]
  have hil := insL_len (ys := ys) (r := r) hk0
  refine ⟨(i + 1, a2, cap2, insL ys k0 r), ⟨by simp only; omega, ord_ins ho h1 hr' hv hk0 hlt hgt, by simp only; omega⟩, by simp only; omega, ?_⟩
  simp only [hil]
  simp -implicitDefEqProofs only [evr, id, seval, res_one, resRow, res_ro, evl, evn]
  subst hr
  exact ins_rd Res.cs 17 (fun _ => rfl) hk0 rfl
 ·have h1 : i = xs.length := by simp only [decide_eq_false_iff_not] at h; omega
  subst h1
  refine Sat.exit ?_
  simp only [thenK, blockK, reduceIte]
  (repeat refine Sat.seq ?_)
  (refine Sat.region_k fun k hk => ?_; simp -implicitDefEqProofs only [evr, id, seval, res_one, resRow, res_ro, evn]; refine hk _ ?_; clear hk k; try show Sat _ _ _ _ _)
  refine Sat.ret ?_
  simp only [Tryz.results72, evr, id, reduceCtorEq, reduceIte, Nat.reduceMul, Nat.reduceAdd, Nat.reduceLT, Nat.reduceLeDiff, Nat.reduceEqDiff, Int.reduceLT, Int.reduceBEq, Int.reduceBNe, Nat.reduceBEq, res_one, List.append_nil, Int.toNat_zero, Nat.sub_self, Int.reduceToNat, resRow, res_ro, retN, retNK, newRow]
  rw [List.take_length] at ho
  exact ⟨⟨rfl, rfl, rfl⟩, a, c, ys, ho, hyl, rfl⟩
end Go.Proofs.YtepbdjpcoleegaaGreat
