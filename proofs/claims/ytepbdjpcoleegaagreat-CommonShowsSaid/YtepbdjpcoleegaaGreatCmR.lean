import Derived.Test.YtepbdjpcoleegaaGreatCmD

/- The reference's order of identities and of evidence, by the evaluator: CompareID, Compare, SameEvidence. -/
set_option linter.unusedSimpArgs false
set_option linter.unusedVariables false
namespace Go.Proofs.YtepbdjpcoleegaaGreat
open Go.Sort Eng
set_option maxHeartbeats 1000000 in
set_option maxRecDepth 100000 in
theorem refCompareIdC (F : Frm) (x y : Idn) : Contract F Tryz.prog 9 [idnAg x, idnAg y] (fun r => r = .i .i64 (idnCmpI x y)) := by
 refine contract_of Tryz.func9 rfl (by kernel_rfl) ?_
 simp only [Tryz.ntmps9, argEnv, idnAg, Idn.cs]
 (repeat refine Sat.seq ?_)
 (refine Sat.region_k fun k hk => ?_; simp -implicitDefEqProofs only [evr, id, seval, res_one, par_one, idn_one, idn_0, idn_1, idn_2, resRow, res_ro, rExtract_tup, evn])
 intro b2 b3
 (refine hk _ ?_; clear hk k; try show Sat _ _ _ _ _)
 (repeat refine Sat.seq ?_)
 (refine Sat.region_k fun k hk => ?_; simp -implicitDefEqProofs only [evr, id, seval, res_one, par_one, idn_one, idn_0, idn_1, idn_2, resRow, res_ro, rExtract_tup, evn])
 (refine hk _ ?_; clear hk k; try show Sat _ _ _ _ _)
 (repeat refine Sat.seq ?_)
 refine Sat.block ?_
 obtain ⟨L, hL⟩ : ∃ L, L = [SV.i .i64 x.van, .i .i64 y.van, .i .i64 x.run, .i .i64 y.run, .i .i64 x.num, .i .i64 y.num] := ⟨_, rfl⟩
 refine Sat.loop (ι := Nat) (fun i => ⟨37, [(23, .i .i64 i), (22, .agg 6 fun j => L.getD j default)], []⟩)
  (fun i => i ≤ 3 ∧ orL ([ordI x.van y.van, ordI x.run y.run, ordI x.num y.num].drop i) = idnCmpI x y) (fun i => 3 - i) 0 ⟨by omega, rfl⟩ (by subst hL; simp -implicitDefEqProofs only [evr, id, seval, res_one, par_one, idn_one, idn_0, idn_1, idn_2, resRow, res_ro, rExtract_tup, evl, evn]; try rfl) ?_
 rintro i ⟨hi, hq⟩
 (repeat refine Sat.seq ?_)
 (refine Sat.region_k fun k hk => ?_; simp -implicitDefEqProofs only [evr, id, seval, res_one, par_one, idn_one, idn_0, idn_1, idn_2, resRow, res_ro, rExtract_tup, evn]; refine hk _ ?_; clear hk k; try show Sat _ _ _ _ _)
 (repeat refine Sat.seq ?_)
 refine Sat.cond_b rfl (fun h => ?_) (fun h => ?_)
 ·have h1 : i < 3 := by simp only [decide_eq_true_eq] at h; omega
  have e1 : IntKind.i64.wrap ((i : Int) + 1) = ((i + 1 : Nat) : Int) := by rw [w64 (by omega)]; omega
  obtain ⟨p, q, hp0, hp1, hst⟩ : ∃ p q, L.getD (i * 2) default = .i .i64 p ∧ L.getD (i * 2 + 1) default = .i .i64 q ∧
    orL ([ordI x.van y.van, ordI x.run y.run, ordI x.num y.num].drop i) = if ordI p q ≠ 0 then ordI p q else orL ([ordI x.van y.van, ordI x.run y.run, ordI x.num y.num].drop (i + 1)) := by
   subst hL
   rcases (show i = 0 ∨ i = 1 ∨ i = 2 by omega) with rfl | rfl | rfl <;> exact ⟨_, _, rfl, rfl, rfl⟩
  clear hL
  rw [hq] at hst
  refine Sat.skip ?_
  simp only [thenK]
  (repeat refine Sat.seq ?_)
  refine Sat.block ?_
  (repeat refine Sat.seq ?_)
  (refine Sat.region_k fun k hk => ?_; simp -implicitDefEqProofs only [evr, id, seval, res_one, par_one, idn_one, idn_0, idn_1, idn_2, resRow, res_ro, rExtract_tup, evn])
  refine ⟨by omega, by omega, fun blk => ?_⟩
  simp only [hp0, hp1, evr, id, seval, res_one, par_one, idn_one, idn_0, idn_1, idn_2, List.append_nil, Int.toNat_zero, Nat.sub_self, Int.reduceToNat, resRow, res_ro, rExtract_tup]
  (refine hk _ ?_; clear hk k; try show Sat _ _ _ _ _)
  (repeat refine Sat.seq ?_)
  (refine Sat.region_k fun k hk => ?_; simp -implicitDefEqProofs only [evr, id, seval, res_one, par_one, idn_one, idn_0, idn_1, idn_2, resRow, res_ro, rExtract_tup, evn])
  (refine hk _ ?_; clear hk k; try show Sat _ _ _ _ _)
  refine Sat.cond_b rfl (fun h2 => ?_) (fun h2 => ?_)
  ·have h3 : p < q := by simpa using h2
   have h4 : ordI p q = -1 := by unfold ordI; rw [if_pos h3]
   rw [h4, if_pos (by decide)] at hst
   (repeat refine Sat.seq ?_)
   (refine Sat.region_k fun k hk => ?_; simp -implicitDefEqProofs only [evr, id, seval, res_one, par_one, idn_one, idn_0, idn_1, idn_2, resRow, res_ro, rExtract_tup, evn]; refine hk _ ?_; clear hk k; try show Sat _ _ _ _ _)
   refine Sat.ret ?_
   simp only [blockK, Tryz.results9, evr, id, seval, res_one, par_one, idn_one, idn_0, idn_1, idn_2, List.append_nil, Int.toNat_zero, Nat.sub_self, Int.reduceToNat, resRow, res_ro, rExtract_tup]
   rw [hst]
  have h3 : ¬ p < q := by simpa using h2
  refine Sat.skip ?_
  simp only [thenK]
  (repeat refine Sat.seq ?_)
  (refine Sat.region_k fun k hk => ?_; simp -implicitDefEqProofs only [evr, id, seval, res_one, par_one, idn_one, idn_0, idn_1, idn_2, resRow, res_ro, rExtract_tup, evn])
  (refine hk _ ?_; clear hk k; try show Sat _ _ _ _ _)
  refine Sat.cond_b rfl (fun h4 => ?_) (fun h4 => ?_)
  ·have h5 : q < p := by simpa using h4
   have h6 : ordI p q = 1 := by unfold ordI; rw [if_neg h3, if_pos h5]
   rw [h6, if_pos (by decide)] at hst
   (repeat refine Sat.seq ?_)
   (refine Sat.region_k fun k hk => ?_; simp -implicitDefEqProofs only [evr, id, seval, res_one, par_one, idn_one, idn_0, idn_1, idn_2, resRow, res_ro, rExtract_tup, evn]; refine hk _ ?_; clear hk k; try show Sat _ _ _ _ _)
   refine Sat.ret ?_
   simp only [blockK, Tryz.results9, evr, id, seval, res_one, par_one, idn_one, idn_0, idn_1, idn_2, List.append_nil, Int.toNat_zero, Nat.sub_self, Int.reduceToNat, resRow, res_ro, rExtract_tup]
   rw [hst]
  have h5 : ¬ q < p := by simpa using h4
  have h6 : ordI p q = 0 := by unfold ordI; rw [if_neg h3, if_neg h5]
  rw [h6, if_neg (by decide)] at hst
  refine Sat.skip ?_
  simp only [thenK, blockK, reduceIte]
  refine Sat.region_k fun k hk => ?_
  simp -implicitDefEqProofs only [evr, id, seval, res_one, par_one, idn_one, idn_0, idn_1, idn_2, resRow, res_ro, rExtract_tup, e1, evn]
  refine hk _ ?_
  simp only [thenK, blockK]
  refine ⟨i + 1, ⟨by omega, hst.symm⟩, by omega, ?_⟩
  simp -implicitDefEqProofs only [evr, id, seval, res_one, par_one, idn_one, idn_0, idn_1, idn_2, resRow, res_ro, rExtract_tup, evl, evn]
 have h1 : i = 3 := by simp only [decide_eq_false_iff_not] at h; omega
 subst h1
 refine Sat.exit ?_
 simp only [thenK, blockK, reduceIte]
 (repeat refine Sat.seq ?_)
 (refine Sat.region_k fun k hk => ?_; simp -implicitDefEqProofs only [evr, id, seval, res_one, par_one, idn_one, idn_0, idn_1, idn_2, resRow, res_ro, rExtract_tup, evn]; refine hk _ ?_; clear hk k; try show Sat _ _ _ _ _)
 refine Sat.ret ?_
 simp only [Tryz.results9, evr, id, seval, res_one, par_one, idn_one, idn_0, idn_1, idn_2, List.append_nil, Int.toNat_zero, Nat.sub_self, Int.reduceToNat, resRow, res_ro, rExtract_tup]
 rw [← hq]
 rfl
set_option maxHeartbeats 1000000 in
set_option maxRecDepth 100000 in
theorem refCompareEvC (F : Frm) (e f : Evd) (he : e.ids.length ≤ 1000000000) (hf : f.ids.length ≤ 1000000000) (wa : IntKind.i64.wrap e.a = e.a) (wb : IntKind.i64.wrap e.b = e.b) (wc : IntKind.i64.wrap f.a = f.a) (wd : IntKind.i64.wrap f.b = f.b) :
  Contract F Tryz.prog 24 [evAg e, evAg f] (fun r => r = .i .i64 (evCmp e f)) := by
 refine contract_of Tryz.func24 rfl (by kernel_rfl) ?_
 simp only [Tryz.ntmps24, argEnv, evAg, Evd.cs]
 (repeat refine Sat.seq ?_)
 (refine Sat.region_k fun k hk => ?_; simp -implicitDefEqProofs only [evr, id, seval, res_one, par_one, idn_one, idn_0, idn_1, idn_2, resRow, res_ro, rExtract_tup, evn])
 intro b2 b3
 (refine hk _ ?_; clear hk k; try show Sat _ _ _ _ _)
 (repeat refine Sat.seq ?_)
 (refine Sat.region_k fun k hk => ?_; simp -implicitDefEqProofs only [evr, id, seval, res_one, par_one, idn_one, idn_0, idn_1, idn_2, resRow, res_ro, rExtract_tup, evn])
 simp only [wa, wb, wc, wd]
 (refine hk _ ?_; clear hk k; try show Sat _ _ _ _ _)
 (repeat refine Sat.seq ?_)
 refine Sat.block ?_
 obtain ⟨L, hL⟩ : ∃ L, L = [SV.i .i64 e.kind, .i .i64 f.kind, .i .i64 e.a, .i .i64 f.a, .i .i64 e.b, .i .i64 f.b] := ⟨_, rfl⟩
 have hev : evCmp e f = orL [ordI e.kind f.kind, ordI e.a f.a, ordI e.b f.b, cmpIds e.ids f.ids] := rfl
 refine Sat.loop (ι := Nat) (fun i => ⟨87, [(29, .i .i64 i), (28, .agg 6 fun j => L.getD j default), (2, .op 0 b2 0), (3, .op 1 b3 0)], [.box b2 28 (Evd.cs e), .box b3 28 (Evd.cs f)]⟩)
  (fun i => i ≤ 3 ∧ orL ([ordI e.kind f.kind, ordI e.a f.a, ordI e.b f.b, cmpIds e.ids f.ids].drop i) = evCmp e f) (fun i => 3 - i) 0 ⟨by omega, rfl⟩ (by subst hL; simp only [Evd.cs]; simp -implicitDefEqProofs only [evr, id, seval, res_one, par_one, idn_one, idn_0, idn_1, idn_2, resRow, res_ro, rExtract_tup, evl, evn]; try rfl) ?_
 rintro i ⟨hi, hq⟩
 simp only [Evd.cs]
 (repeat refine Sat.seq ?_)
 (refine Sat.region_k fun k hk => ?_; simp -implicitDefEqProofs only [evr, id, seval, res_one, par_one, idn_one, idn_0, idn_1, idn_2, resRow, res_ro, rExtract_tup, evn]; refine hk _ ?_; clear hk k; try show Sat _ _ _ _ _)
 (repeat refine Sat.seq ?_)
 refine Sat.cond_b rfl (fun h => ?_) (fun h => ?_)
 ·have h1 : i < 3 := by simp only [decide_eq_true_eq] at h; omega
  have e1 : IntKind.i64.wrap ((i : Int) + 1) = ((i + 1 : Nat) : Int) := by rw [w64 (by omega)]; omega
  obtain ⟨p, q, hp0, hp1, hst⟩ : ∃ p q, L.getD (i * 2) default = .i .i64 p ∧ L.getD (i * 2 + 1) default = .i .i64 q ∧
    orL ([ordI e.kind f.kind, ordI e.a f.a, ordI e.b f.b, cmpIds e.ids f.ids].drop i) = if ordI p q ≠ 0 then ordI p q else orL ([ordI e.kind f.kind, ordI e.a f.a, ordI e.b f.b, cmpIds e.ids f.ids].drop (i + 1)) := by
   subst hL
   rcases (show i = 0 ∨ i = 1 ∨ i = 2 by omega) with rfl | rfl | rfl <;> exact ⟨_, _, rfl, rfl, rfl⟩
  clear hL
  rw [hq] at hst
  refine Sat.skip ?_
  simp only [thenK]
  (repeat refine Sat.seq ?_)
  refine Sat.block ?_
  (repeat refine Sat.seq ?_)
  (refine Sat.region_k fun k hk => ?_; simp -implicitDefEqProofs only [evr, id, seval, res_one, par_one, idn_one, idn_0, idn_1, idn_2, resRow, res_ro, rExtract_tup, evn])
  refine ⟨by omega, by omega, fun blk => ?_⟩
  simp only [hp0, hp1, evr, id, seval, res_one, par_one, idn_one, idn_0, idn_1, idn_2, List.append_nil, Int.toNat_zero, Nat.sub_self, Int.reduceToNat, resRow, res_ro, rExtract_tup]
  (refine hk _ ?_; clear hk k; try show Sat _ _ _ _ _)
  (repeat refine Sat.seq ?_)
  (refine Sat.region_k fun k hk => ?_; simp -implicitDefEqProofs only [evr, id, seval, res_one, par_one, idn_one, idn_0, idn_1, idn_2, resRow, res_ro, rExtract_tup, evn])
  (refine hk _ ?_; clear hk k; try show Sat _ _ _ _ _)
  refine Sat.cond_b rfl (fun h2 => ?_) (fun h2 => ?_)
  ·have h3 : p < q := by simpa using h2
   have h4 : ordI p q = -1 := by unfold ordI; rw [if_pos h3]
   rw [h4, if_pos (by decide)] at hst
   (repeat refine Sat.seq ?_)
   (refine Sat.region_k fun k hk => ?_; simp -implicitDefEqProofs only [evr, id, seval, res_one, par_one, idn_one, idn_0, idn_1, idn_2, resRow, res_ro, rExtract_tup, evn]; refine hk _ ?_; clear hk k; try show Sat _ _ _ _ _)
   refine Sat.ret ?_
   simp only [blockK, Tryz.results24, evr, id, seval, res_one, par_one, idn_one, idn_0, idn_1, idn_2, List.append_nil, Int.toNat_zero, Nat.sub_self, Int.reduceToNat, resRow, res_ro, rExtract_tup]
   rw [hst]
  have h3 : ¬ p < q := by simpa using h2
  refine Sat.skip ?_
  simp only [thenK]
  (repeat refine Sat.seq ?_)
  (refine Sat.region_k fun k hk => ?_; simp -implicitDefEqProofs only [evr, id, seval, res_one, par_one, idn_one, idn_0, idn_1, idn_2, resRow, res_ro, rExtract_tup, evn])
  (refine hk _ ?_; clear hk k; try show Sat _ _ _ _ _)
  refine Sat.cond_b rfl (fun h4 => ?_) (fun h4 => ?_)
  ·have h5 : q < p := by simpa using h4
   have h6 : ordI p q = 1 := by unfold ordI; rw [if_neg h3, if_pos h5]
   rw [h6, if_pos (by decide)] at hst
   (repeat refine Sat.seq ?_)
   (refine Sat.region_k fun k hk => ?_; simp -implicitDefEqProofs only [evr, id, seval, res_one, par_one, idn_one, idn_0, idn_1, idn_2, resRow, res_ro, rExtract_tup, evn]; refine hk _ ?_; clear hk k; try show Sat _ _ _ _ _)
   refine Sat.ret ?_
   simp only [blockK, Tryz.results24, evr, id, seval, res_one, par_one, idn_one, idn_0, idn_1, idn_2, List.append_nil, Int.toNat_zero, Nat.sub_self, Int.reduceToNat, resRow, res_ro, rExtract_tup]
   rw [hst]
  have h5 : ¬ q < p := by simpa using h4
  have h6 : ordI p q = 0 := by unfold ordI; rw [if_neg h3, if_neg h5]
  rw [h6, if_neg (by decide)] at hst
  refine Sat.skip ?_
  simp only [thenK, blockK, reduceIte]
  refine Sat.region_k fun k hk => ?_
  simp -implicitDefEqProofs only [evr, id, seval, res_one, par_one, idn_one, idn_0, idn_1, idn_2, resRow, res_ro, rExtract_tup, e1, evn]
  refine hk _ ?_
  simp only [thenK, blockK]
  refine ⟨i + 1, ⟨by omega, hst.symm⟩, by omega, ?_⟩
  try simp only [Evd.cs]
  simp -implicitDefEqProofs only [evr, id, seval, res_one, par_one, idn_one, idn_0, idn_1, idn_2, resRow, res_ro, rExtract_tup, evl, evn]
 have h1 : i = 3 := by simp only [decide_eq_false_iff_not] at h; omega
 subst h1
 have hq2 : cmpIds e.ids f.ids = evCmp e f := by
  rw [← hq]
  show _ = orL [cmpIds e.ids f.ids]
  unfold orL orL
  split <;> omega
 clear hq hL
 refine Sat.exit ?_
 simp only [thenK, blockK, reduceIte]
 (repeat refine Sat.seq ?_)
 (refine Sat.region_k fun k hk => ?_; simp -implicitDefEqProofs only [evr, id, seval, res_one, par_one, idn_one, idn_0, idn_1, idn_2, resRow, res_ro, rExtract_tup, evn]; refine hk _ ?_; clear hk k; try show Sat _ _ _ _ _)
 (repeat refine Sat.seq ?_)
 refine Sat.block ?_
 refine Sat.loop (ι := Nat) (fun i => ⟨87, [(7, .i .i64 i), (2, .op 0 b2 0), (3, .op 1 b3 0)], [.box b2 28 (Evd.cs e), .box b3 28 (Evd.cs f)]⟩)
  (fun i => i ≤ e.ids.length ∧ i ≤ f.ids.length ∧ cmpIds (e.ids.drop i) (f.ids.drop i) = evCmp e f) (fun i => e.ids.length - i) 0 ⟨Nat.zero_le _, Nat.zero_le _, hq2⟩ (by (try simp only [Evd.cs]); simp -implicitDefEqProofs only [evr, id, seval, res_one, par_one, idn_one, idn_0, idn_1, idn_2, resRow, res_ro, rExtract_tup, evl, evn]; try rfl) ?_
 rintro i ⟨hi1, hi2, hc⟩
 simp only [Evd.cs]
 (repeat refine Sat.seq ?_)
 refine Sat.at ⟨87, [(54, .b (decide (i < e.ids.length ∧ i < f.ids.length))), (7, .i .i64 i), (2, .op 0 b2 0), (3, .op 1 b3 0)], [.box b2 28 (Evd.cs e), .box b3 28 (Evd.cs f)]⟩ ?_ ?_
 ·(refine Sat.region_k fun k hk => ?_; simp -implicitDefEqProofs only [evr, id, seval, res_one, par_one, idn_one, idn_0, idn_1, idn_2, resRow, res_ro, rExtract_tup, evn])
  refine ⟨fun g1 => ?_, fun g1 => ?_⟩
  ·refine hk _ ?_
   simp only [thenK, Evd.cs]
   have e5 : decide (i < e.ids.length ∧ i < f.ids.length) = decide ((i : Int) < (f.ids.length : Int)) := Bool.eq_iff_iff.2 (by simp only [decide_eq_true_eq] at g1 ⊢; omega)
   rw [e5]
   simp -implicitDefEqProofs only [evr, id, seval, res_one, par_one, idn_one, idn_0, idn_1, idn_2, resRow, res_ro, rExtract_tup, evl, evn]
  ·refine hk _ ?_
   simp only [thenK, Evd.cs]
   have e5 : decide (i < e.ids.length ∧ i < f.ids.length) = false := decide_eq_false (by omega)
   rw [e5]
   simp -implicitDefEqProofs only [evr, id, seval, res_one, par_one, idn_one, idn_0, idn_1, idn_2, resRow, res_ro, rExtract_tup, evl, evn]
 simp only [thenK, Evd.cs]
 (repeat refine Sat.seq ?_)
 refine Sat.cond_b rfl (fun h => ?_) (fun h => ?_)
 ·obtain ⟨h1, h2⟩ := of_decide_eq_true h
  have e1 : IntKind.i64.wrap ((i : Int) + 1) = ((i + 1 : Nat) : Int) := by rw [w64 (by omega)]; omega
  have hst := cmpIds_step h1 h2
  rw [hc] at hst
  refine Sat.skip ?_
  simp only [thenK]
  (repeat refine Sat.seq ?_)
  refine Sat.block ?_
  (repeat refine Sat.seq ?_)
  (refine Sat.region_qk (by kernel_rfl) (by kernel_rfl) fun k hk => ?_; simp -implicitDefEqProofs only [evr, id, seval, res_one, par_one, idn_one, idn_0, idn_1, idn_2, resRow, res_ro, rExtract_tup, evn])
  refine ⟨by omega, by omega, ?_⟩
  refine qcall (refCompareIdC Frm.nil e.ids.toArray[i]! f.ids.toArray[i]!) rfl (ok_plain rfl) ?_
  rw [idnGet h1, idnGet h2]
  simp -implicitDefEqProofs only [evr, id, seval, res_one, par_one, idn_one, idn_0, idn_1, idn_2, resRow, res_ro, rExtract_tup, evn]
  refine hk _ ?_
  simp only [thenK]
  (repeat refine Sat.seq ?_)
  (refine Sat.region_k fun k hk => ?_; simp -implicitDefEqProofs only [evr, id, seval, res_one, par_one, idn_one, idn_0, idn_1, idn_2, resRow, res_ro, rExtract_tup, evn]; refine hk _ ?_; clear hk k; try show Sat _ _ _ _ _)
  (repeat refine Sat.seq ?_)
  refine Sat.cond_b rfl (fun h4 => ?_) (fun h4 => ?_)
  ·have hne : idnCmpI e.ids[i] f.ids[i] ≠ 0 := by simpa using h4
   rw [if_pos hne] at hst
   (repeat refine Sat.seq ?_)
   (refine Sat.region_k fun k hk => ?_; simp -implicitDefEqProofs only [evr, id, seval, res_one, par_one, idn_one, idn_0, idn_1, idn_2, resRow, res_ro, rExtract_tup, evn]; refine hk _ ?_; clear hk k; try show Sat _ _ _ _ _)
   refine Sat.ret ?_
   simp only [blockK, Tryz.results24, evr, id, seval, res_one, par_one, idn_one, idn_0, idn_1, idn_2, List.append_nil, Int.toNat_zero, Nat.sub_self, Int.reduceToNat, resRow, res_ro, rExtract_tup]
   rw [hst]
  have hz : idnCmpI e.ids[i] f.ids[i] = 0 := by simpa using h4
  rw [if_neg (by simpa using hz)] at hst
  refine Sat.skip ?_
  simp only [thenK, blockK, reduceIte]
  refine Sat.region_k fun k hk => ?_
  simp -implicitDefEqProofs only [evr, id, seval, res_one, par_one, idn_one, idn_0, idn_1, idn_2, resRow, res_ro, rExtract_tup, e1, evn]
  refine hk _ ?_
  simp only [thenK, blockK]
  refine ⟨i + 1, ⟨h1, h2, hst.symm⟩, by omega, ?_⟩
  try simp only [Evd.cs]
  simp -implicitDefEqProofs only [evr, id, seval, res_one, par_one, idn_one, idn_0, idn_1, idn_2, resRow, res_ro, rExtract_tup, evl, evn]
 have h9 : ¬ (i < e.ids.length ∧ i < f.ids.length) := of_decide_eq_false h
 refine Sat.exit ?_
 simp only [thenK, blockK, reduceIte]
 (repeat refine Sat.seq ?_)
 refine Sat.block ?_
 (repeat refine Sat.seq ?_)
 (refine Sat.region_k fun k hk => ?_; simp -implicitDefEqProofs only [evr, id, seval, res_one, par_one, idn_one, idn_0, idn_1, idn_2, resRow, res_ro, rExtract_tup, evn])
 (refine hk _ ?_; clear hk k; try show Sat _ _ _ _ _)
 (repeat refine Sat.seq ?_)
 refine Sat.cond_b rfl (fun h2 => ?_) (fun h2 => ?_)
 ·have h3 : e.ids.length < f.ids.length := by simpa using h2
  have hie : i = e.ids.length := by omega
  subst hie
  (repeat refine Sat.seq ?_)
  (refine Sat.region_k fun k hk => ?_; simp -implicitDefEqProofs only [evr, id, seval, res_one, par_one, idn_one, idn_0, idn_1, idn_2, resRow, res_ro, rExtract_tup, evn]; refine hk _ ?_; clear hk k; try show Sat _ _ _ _ _)
  refine Sat.ret ?_
  simp only [blockK, Tryz.results24, evr, id, seval, res_one, par_one, idn_one, idn_0, idn_1, idn_2, List.append_nil, Int.toNat_zero, Nat.sub_self, Int.reduceToNat, resRow, res_ro, rExtract_tup]
  rw [← hc, List.drop_length, List.drop_eq_getElem_cons h3, cmpIds]
 have h3 : ¬ e.ids.length < f.ids.length := by simpa using h2
 (repeat refine Sat.seq ?_)
 (refine Sat.region_k fun k hk => ?_; simp -implicitDefEqProofs only [evr, id, seval, res_one, par_one, idn_one, idn_0, idn_1, idn_2, resRow, res_ro, rExtract_tup, evn])
 (refine hk _ ?_; clear hk k; try show Sat _ _ _ _ _)
 (repeat refine Sat.seq ?_)
 refine Sat.cond_b rfl (fun h4 => ?_) (fun h4 => ?_)
 ·have h5 : f.ids.length < e.ids.length := by simpa using h4
  have hie : i = f.ids.length := by omega
  subst hie
  (repeat refine Sat.seq ?_)
  (refine Sat.region_k fun k hk => ?_; simp -implicitDefEqProofs only [evr, id, seval, res_one, par_one, idn_one, idn_0, idn_1, idn_2, resRow, res_ro, rExtract_tup, evn]; refine hk _ ?_; clear hk k; try show Sat _ _ _ _ _)
  refine Sat.ret ?_
  simp only [blockK, Tryz.results24, evr, id, seval, res_one, par_one, idn_one, idn_0, idn_1, idn_2, List.append_nil, Int.toNat_zero, Nat.sub_self, Int.reduceToNat, resRow, res_ro, rExtract_tup]
  rw [← hc, List.drop_length, List.drop_eq_getElem_cons h5, cmpIds]
 have h5 : ¬ f.ids.length < e.ids.length := by simpa using h4
 have hie : i = e.ids.length := by omega
 have hif : i = f.ids.length := by omega
 refine Sat.skip ?_
 simp only [thenK, blockK]
 (repeat refine Sat.seq ?_)
 (refine Sat.region_k fun k hk => ?_; simp -implicitDefEqProofs only [evr, id, seval, res_one, par_one, idn_one, idn_0, idn_1, idn_2, resRow, res_ro, rExtract_tup, evn]; refine hk _ ?_; clear hk k; try show Sat _ _ _ _ _)
 refine Sat.ret ?_
 simp only [Tryz.results24, evr, id, seval, res_one, par_one, idn_one, idn_0, idn_1, idn_2, List.append_nil, Int.toNat_zero, Nat.sub_self, Int.reduceToNat, resRow, res_ro, rExtract_tup]
 rw [← hc, List.drop_eq_nil_of_le (by omega), List.drop_eq_nil_of_le (by omega), cmpIds]
end Go.Proofs.YtepbdjpcoleegaaGreat
