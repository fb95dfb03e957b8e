import Derived.Test.YtfeiiadligkamaaGreatCmC

/- Evidence, by the evaluator: common.Compare, ValidEvidence, paths.Find, common.Holds. -/
set_option linter.unusedSimpArgs false
set_option linter.unusedVariables false
namespace Go.Proofs.YtfeiiadligkamaaGreat
open Go.Sort Eng
theorem idn_0 (d : Array Idn) (i : Nat) : idnRd d i 0 = .i .i64 d[i]!.van := rfl
theorem idn_1 (d : Array Idn) (i : Nat) : idnRd d i 1 = .i .i64 d[i]!.run := rfl
theorem idn_2 (d : Array Idn) (i : Nat) : idnRd d i 2 = .i .i64 d[i]!.num := rfl
def cmpIds : List Idn → List Idn → Int
 | [], [] => 0
 | [], _ :: _ => -1
 | _ :: _, [] => 1
 | x :: xs, y :: ys => if idnCmpI x y ≠ 0 then idnCmpI x y else cmpIds xs ys
theorem cmpIds_step {xs ys : List Idn} {i : Nat} (h1 : i < xs.length) (h2 : i < ys.length) : cmpIds (xs.drop i) (ys.drop i) = if idnCmpI xs[i] ys[i] ≠ 0 then idnCmpI xs[i] ys[i] else cmpIds (xs.drop (i + 1)) (ys.drop (i + 1)) := by
 rw [List.drop_eq_getElem_cons h1, List.drop_eq_getElem_cons h2, cmpIds]
theorem idnGet {xs : List Idn} {i : Nat} (h : i < xs.length) : xs.toArray[i]! = xs[i] := by simp [getElem!_def, h]
set_option maxRecDepth 100000 in
theorem cmpFuncC (F : Frm) (a b : Option Addr) (cap cap2 : Nat) (xs ys : List Idn) (cc : Nat → SV) (hx : xs.length ≤ 1000000000) (hy : ys.length ≤ 1000000000) :
  Contract F Tryz.prog 103 [.sl a xs.length cap 3 (idnRd xs.toArray), .sl b ys.length cap2 3 (idnRd ys.toArray), .fn 48 0 cc] (fun r => r = .i .i64 (cmpIds xs ys)) := by
 refine contract_of Tryz.func103 rfl (by kernel_rfl) ?_
 simp only [Tryz.ntmps103, argEnv]
 (repeat refine Sat.seq ?_)
 (refine Sat.region_k fun k hk => ?_; simp -implicitDefEqProofs only [evr, id, seval, res_one, par_one, idn_one, idn_0, idn_1, idn_2, resRow, res_ro, rExtract_tup, evn]; refine hk _ ?_; clear hk k; try show Sat _ _ _ _ _)
 (repeat refine Sat.seq ?_)
 (refine Sat.region_k fun k hk => ?_; simp -implicitDefEqProofs only [evr, id, seval, res_one, par_one, idn_one, idn_0, idn_1, idn_2, resRow, res_ro, rExtract_tup, evn]; refine hk _ ?_; clear hk k; try show Sat _ _ _ _ _)
 (repeat refine Sat.seq ?_)
 refine Sat.block ?_
 refine Sat.loop (ι := Nat) (fun i => ⟨39, [(13, .i .i64 i), (12, .i .i64 xs.length), (11, .sl a xs.length cap 3 (idnRd xs.toArray)), (0, .sl a xs.length cap 3 (idnRd xs.toArray)), (1, .sl b ys.length cap2 3 (idnRd ys.toArray)), (2, .fn 48 0 cc)], []⟩)
  (fun i => i ≤ xs.length ∧ i ≤ ys.length ∧ cmpIds (xs.drop i) (ys.drop i) = cmpIds xs ys) (fun i => xs.length - i) 0 ⟨Nat.zero_le _, Nat.zero_le _, rfl⟩ (by simp -implicitDefEqProofs only [evr, id, seval, res_one, par_one, idn_one, idn_0, idn_1, idn_2, resRow, res_ro, rExtract_tup, evl, evn]; try rfl) ?_
 rintro i ⟨hi, hi2, hc⟩
 (repeat refine Sat.seq ?_)
 (refine Sat.region_k fun k hk => ?_; simp -implicitDefEqProofs only [evr, id, seval, res_one, par_one, idn_one, idn_0, idn_1, idn_2, resRow, res_ro, rExtract_tup, evn]; refine hk _ ?_; clear hk k; try show Sat _ _ _ _ _)
 (repeat refine Sat.seq ?_)
 refine Sat.cond_b rfl (fun h => ?_) (fun h => ?_)
 ·have h1 : i < xs.length := by simp only [decide_eq_true_eq] at h; omega
  have e1 : IntKind.i64.wrap ((i : Int) + 1) = ((i + 1 : Nat) : Int) := by rw [w64 (by omega)]; omega
  refine Sat.skip ?_
  simp only [thenK]
  (repeat refine Sat.seq ?_)
  refine Sat.block ?_
  (repeat refine Sat.seq ?_)
  (refine Sat.region_k fun k hk => ?_; simp -implicitDefEqProofs only [evr, id, seval, res_one, par_one, idn_one, idn_0, idn_1, idn_2, resRow, res_ro, rExtract_tup, evn])
  refine ⟨by omega, fun b8 => ?_⟩
  (refine hk _ ?_; clear hk k; try show Sat _ _ _ _ _)
  (repeat refine Sat.seq ?_)
  (refine Sat.region_k fun k hk => ?_; simp -implicitDefEqProofs only [evr, id, seval, res_one, par_one, idn_one, idn_0, idn_1, idn_2, resRow, res_ro, rExtract_tup, evn]; refine hk _ ?_; clear hk k; try show Sat _ _ _ _ _)
  (repeat refine Sat.seq ?_)
  refine Sat.cond_b rfl (fun h2 => ?_) (fun h2 => ?_)
  ·have hle : ys.length ≤ i := by simp only [decide_eq_true_eq] at h2; omega
   (repeat refine Sat.seq ?_)
   (refine Sat.region_k fun k hk => ?_; simp -implicitDefEqProofs only [evr, id, seval, res_one, par_one, idn_one, idn_0, idn_1, idn_2, resRow, res_ro, rExtract_tup, evn]; refine hk _ ?_; clear hk k; try show Sat _ _ _ _ _)
   refine Sat.ret ?_
   simp only [blockK, Tryz.results103, evr, id, seval, res_one, par_one, idn_one, idn_0, idn_1, idn_2, List.append_nil, Int.toNat_zero, Nat.sub_self, Int.reduceToNat, resRow, res_ro, rExtract_tup]
   rw [← hc, List.drop_eq_getElem_cons h1, List.drop_eq_nil_of_le hle, cmpIds]
  have h3 : i < ys.length := by simp only [decide_eq_false_iff_not] at h2; omega
  have hst := cmpIds_step h1 h3
  rw [hc] at hst
  refine Sat.skip ?_
  simp only [thenK]
  (repeat refine Sat.seq ?_)
  (refine Sat.region_k fun k hk => ?_; simp -implicitDefEqProofs only [evr, id, seval, res_one, par_one, idn_one, idn_0, idn_1, idn_2, resRow, res_ro, rExtract_tup, evn])
  refine ⟨by omega, fun b9 => ?_⟩
  (refine hk _ ?_; clear hk k; try show Sat _ _ _ _ _)
  (repeat refine Sat.seq ?_)
  (refine Sat.region_k fun k hk => ?_; simp -implicitDefEqProofs only [evr, id, seval, res_one, par_one, idn_one, idn_0, idn_1, idn_2, resRow, res_ro, rExtract_tup, evn])
  refine wcall_plain (compareIdC F xs.toArray[i]! ys.toArray[i]!) rfl (by rintro _ rfl; exact ok_plain rfl) ?_
  rintro _ rfl
  rw [idnGet h1, idnGet h3]
  simp -implicitDefEqProofs only [evr, id, seval, res_one, par_one, idn_one, idn_0, idn_1, idn_2, resRow, res_ro, rExtract_tup, evn]
  (refine hk _ ?_; clear hk k; try show Sat _ _ _ _ _)
  (repeat refine Sat.seq ?_)
  (refine Sat.region_k fun k hk => ?_; simp -implicitDefEqProofs only [evr, id, seval, res_one, par_one, idn_one, idn_0, idn_1, idn_2, resRow, res_ro, rExtract_tup, evn]; refine hk _ ?_; clear hk k; try show Sat _ _ _ _ _)
  (repeat refine Sat.seq ?_)
  refine Sat.cond_b rfl (fun h4 => ?_) (fun h4 => ?_)
  ·have hne : idnCmpI xs[i] ys[i] ≠ 0 := by simpa using h4
   rw [if_pos hne] at hst
   (repeat refine Sat.seq ?_)
   (refine Sat.region_k fun k hk => ?_; simp -implicitDefEqProofs only [evr, id, seval, res_one, par_one, idn_one, idn_0, idn_1, idn_2, resRow, res_ro, rExtract_tup, evn]; refine hk _ ?_; clear hk k; try show Sat _ _ _ _ _)
   refine Sat.ret ?_
   simp only [blockK, Tryz.results103, evr, id, seval, res_one, par_one, idn_one, idn_0, idn_1, idn_2, List.append_nil, Int.toNat_zero, Nat.sub_self, Int.reduceToNat, resRow, res_ro, rExtract_tup]
   rw [hst]
  have hz : idnCmpI xs[i] ys[i] = 0 := by simpa using h4
  rw [if_neg (by simpa using hz)] at hst
  refine Sat.skip ?_
  simp only [thenK, blockK]
  refine Sat.region_k fun k hk => ?_
  simp -implicitDefEqProofs only [evr, id, seval, res_one, par_one, idn_one, idn_0, idn_1, idn_2, resRow, res_ro, rExtract_tup, e1, evn]
  refine hk _ ?_
  simp only [thenK, blockK]
  refine ⟨i + 1, ⟨h1, h3, hst.symm⟩, by omega, ?_⟩
  simp -implicitDefEqProofs only [evr, id, seval, res_one, par_one, idn_one, idn_0, idn_1, idn_2, resRow, res_ro, rExtract_tup, evl, evn]
 have h1 : i = xs.length := by simp only [decide_eq_false_iff_not] at h; omega
 subst h1
 rw [List.drop_length] at hc
 refine Sat.exit ?_
 simp only [thenK, blockK, reduceIte]
 (repeat refine Sat.seq ?_)
 (refine Sat.region_k fun k hk => ?_; simp -implicitDefEqProofs only [evr, id, seval, res_one, par_one, idn_one, idn_0, idn_1, idn_2, resRow, res_ro, rExtract_tup, evn]; refine hk _ ?_; clear hk k; try show Sat _ _ _ _ _)
 (repeat refine Sat.seq ?_)
 refine Sat.cond_b rfl (fun h2 => ?_) (fun h2 => ?_)
 ·have hlt : xs.length < ys.length := by simp only [decide_eq_true_eq] at h2; omega
  (repeat refine Sat.seq ?_)
  (refine Sat.region_k fun k hk => ?_; simp -implicitDefEqProofs only [evr, id, seval, res_one, par_one, idn_one, idn_0, idn_1, idn_2, resRow, res_ro, rExtract_tup, evn]; refine hk _ ?_; clear hk k; try show Sat _ _ _ _ _)
  refine Sat.ret ?_
  simp only [Tryz.results103, evr, id, seval, res_one, par_one, idn_one, idn_0, idn_1, idn_2, List.append_nil, Int.toNat_zero, Nat.sub_self, Int.reduceToNat, resRow, res_ro, rExtract_tup]
  rw [← hc, List.drop_eq_getElem_cons hlt, cmpIds]
 have hle : ys.length ≤ xs.length := by simp only [decide_eq_false_iff_not] at h2; omega
 refine Sat.skip ?_
 simp only [thenK]
 (repeat refine Sat.seq ?_)
 (refine Sat.region_k fun k hk => ?_; simp -implicitDefEqProofs only [evr, id, seval, res_one, par_one, idn_one, idn_0, idn_1, idn_2, resRow, res_ro, rExtract_tup, evn]; refine hk _ ?_; clear hk k; try show Sat _ _ _ _ _)
 refine Sat.ret ?_
 simp only [Tryz.results103, evr, id, seval, res_one, par_one, idn_one, idn_0, idn_1, idn_2, List.append_nil, Int.toNat_zero, Nat.sub_self, Int.reduceToNat, resRow, res_ro, rExtract_tup]
 rw [← hc, List.drop_eq_nil_of_le hle, cmpIds]
def evAg (e : Evd) : SV := .agg 4 fun j => (Evd.cs e).getD j default
def evCmp (e f : Evd) : Int := orL [ordI e.kind f.kind, ordI e.a f.a, ordI e.b f.b, cmpIds e.ids f.ids]
set_option maxHeartbeats 1000000 in
set_option maxRecDepth 100000 in
theorem compareEvC (F : Frm) (e f : Evd) (he : e.ids.length ≤ 1000000000) (hf : f.ids.length ≤ 1000000000) : Contract F Tryz.prog 61 [evAg e, evAg f] (fun r => r = .i .i64 (evCmp e f)) := by
 refine contract_of Tryz.func61 rfl (by kernel_rfl) ?_
 simp only [Tryz.ntmps61, argEnv, evAg, Evd.cs]
 (repeat refine Sat.seq ?_)
 (refine Sat.region_k fun k hk => ?_; simp -implicitDefEqProofs only [evr, id, seval, res_one, par_one, idn_one, idn_0, idn_1, idn_2, resRow, res_ro, rExtract_tup, evn])
 intro blk1 blk2
 (refine hk _ ?_; clear hk k; try show Sat _ _ _ _ _)
 (repeat refine Sat.seq ?_)
 (refine Sat.region_tree (OT.keep [0, 2, 5, 7, 10, 12, 15, 17, 1, 3, 6, 8, 11, 13, 16, 18] [4, 9, 14] (BT.one 4 (BT.one 9 (BT.one 14 (BT.one 19 (BT.one 20 (BT.one 21 (BT.one 22 BT.done)))))))) (by kernel_rfl) (by kernel_rfl) (fun _ _ h => h) fun k hk => ?_; simp only [WOT, List.map_cons, List.map_nil, List.getD_cons_zero, List.getD_cons_succ]; simp -implicitDefEqProofs only [evr, id, seval, res_one, par_one, idn_one, idn_0, idn_1, idn_2, resRow, res_ro, rExtract_tup, WOT, evn])
 refine wcall_plain (cmpC F e.kind f.kind) rfl (by rintro _ rfl; exact ok_plain rfl) ?_
 rintro r rfl
 simp -implicitDefEqProofs only [evr, id, seval, res_one, par_one, idn_one, idn_0, idn_1, idn_2, resRow, res_ro, rExtract_tup, evn]
 refine wcall_plain (cmpAC F e.a f.a) rfl (by rintro _ rfl; exact ok_plain rfl) ?_
 rintro r rfl
 simp -implicitDefEqProofs only [evr, id, seval, res_one, par_one, idn_one, idn_0, idn_1, idn_2, resRow, res_ro, rExtract_tup, evn]
 refine wcall_plain (cmpAC F e.b f.b) rfl (by rintro _ rfl; exact ok_plain rfl) ?_
 rintro r rfl
 simp -implicitDefEqProofs only [evr, id, seval, res_one, par_one, idn_one, idn_0, idn_1, idn_2, resRow, res_ro, rExtract_tup, evn]
 refine wcall_plain (cmpFuncC F e.ad f.ad e.cap f.cap e.ids f.ids _ he hf) (by simp -implicitDefEqProofs only [evr, id, seval, res_one, par_one, idn_one, idn_0, idn_1, idn_2, resRow, res_ro, rExtract_tup, evn]; try rfl) (by rintro _ rfl; exact ok_plain rfl) ?_
 rintro r rfl
 simp -implicitDefEqProofs only [evr, id, seval, res_one, par_one, idn_one, idn_0, idn_1, idn_2, resRow, res_ro, rExtract_tup, evn]
 intro blk3
 refine wcall_plain (orC F (some ⟨blk3, 0, none⟩) 4 [ordI e.kind f.kind, ordI e.a f.a, ordI e.b f.b, cmpIds e.ids f.ids] (by simp)) (by simp -implicitDefEqProofs only [evr, id, seval, res_one, par_one, idn_one, idn_0, idn_1, idn_2, resRow, res_ro, rExtract_tup, intsRd, evn]) (by rintro _ rfl; exact ok_plain rfl) ?_
 rintro r rfl
 simp -implicitDefEqProofs only [evr, id, seval, res_one, par_one, idn_one, idn_0, idn_1, idn_2, resRow, res_ro, rExtract_tup, evn]
 (refine hk _ ?_; clear hk k; try show Sat _ _ _ _ _)
 refine Sat.ret ?_
 simp only [Tryz.results61, evr, id, seval, res_one, par_one, idn_one, idn_0, idn_1, idn_2, List.append_nil, Int.toNat_zero, Nat.sub_self, Int.reduceToNat, resRow, res_ro, rExtract_tup]
 rfl
end Go.Proofs.YtfeiiadligkamaaGreat
