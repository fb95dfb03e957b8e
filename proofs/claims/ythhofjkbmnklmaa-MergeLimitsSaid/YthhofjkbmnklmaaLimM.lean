/- MergeLimits: the walk. -/
import Derived.Test.YthhofjkbmnklmaaLedK
set_option linter.unusedSimpArgs false
set_option linter.unusedVariables false
namespace Go.Proofs.Ythhofjkbmnklmaa
open Go.Sort Eng

theorem ans_eqs (a b c d e f a' b' c' d' e' f' : Int) : aggEq Try.prog 37 6 (fun j => [SV.i .u32 a, SV.i .i64 b, SV.i .i64 c, SV.i .i64 d, SV.i .i64 e, SV.i .i64 f].getD j default) 6 (fun j => [SV.i .u32 a', SV.i .i64 b', SV.i .i64 c', SV.i .i64 d', SV.i .i64 e', SV.i .i64 f'].getD j default) =
    some ([a == a', b == b', c == c', d == d', e == e', f == f'].all id) := by kernel_rfl

/-- a result with only a time to live -/
def ttlR (t : Int) : Res := { (default : Res) with proto := 17, ttl := t }
set_option maxRecDepth 100000 in
theorem ref20IdC (F : Frm) : Contract F Try.prog 42 [.i .i64 0, .i .i64 0] (fun r => r = .b true) := by
  refine contract_of Try.func42 rfl (by kernel_rfl) ?_
  simp only [Try.ntmps42, argEnv]
  (repeat refine Sat.seq ?_)
  (refine Sat.region_k fun k hk => ?_; simp -implicitDefEqProofs only [evr, ty, rPick, rIbin, rBin, wideB, eqB, strB, rUn, rConv, rFieldAddr, rIndexAddr, rLoad, rField, rLen, rCap, rMax, rMin, rSlice, isRow, WCut, WZer, rBuild, toB, asRead, asAny, bound, flatOk, flat, lay, fillS, placesOf, id, reduceCtorEq, reduceIte, Nat.reduceMul, Nat.reduceAdd, Nat.reduceLT, Nat.reduceLeDiff, Nat.reduceEqDiff, Int.reduceLT, thenK, blockK, retK, resHolds, resVR, VR.holds, roArg, roPtr, roArgS, roSl, Int.reduceBEq, Int.reduceBNe, frz, frzOne, rNilCheck, rIndex, retM, retMK, argM, WClr, WBT, keepW, Nat.reduceBEq, res_one, res_ro, List.append_nil, Int.toNat_zero, Nat.sub_self, resRow, Int.reduceLE, Int.reduceLT, decide_true, decide_false, Int.reduceAdd, ans_eqs, List.all_cons, List.all_nil, id_eq]; refine hk _ ?_; clear hk k; try show Sat _ _ _ _ _)
  (repeat refine Sat.seq ?_)
  (refine Sat.region_k fun k hk => ?_; simp -implicitDefEqProofs only [evr, ty, rPick, rIbin, rBin, wideB, eqB, strB, rUn, rConv, rFieldAddr, rIndexAddr, rLoad, rField, rLen, rCap, rMax, rMin, rSlice, isRow, WCut, WZer, rBuild, toB, asRead, asAny, bound, flatOk, flat, lay, fillS, placesOf, id, reduceCtorEq, reduceIte, Nat.reduceMul, Nat.reduceAdd, Nat.reduceLT, Nat.reduceLeDiff, Nat.reduceEqDiff, Int.reduceLT, thenK, blockK, retK, resHolds, resVR, VR.holds, roArg, roPtr, roArgS, roSl, Int.reduceBEq, Int.reduceBNe, frz, frzOne, rNilCheck, rIndex, retM, retMK, argM, WClr, WBT, keepW, Nat.reduceBEq, res_one, res_ro, List.append_nil, Int.toNat_zero, Nat.sub_self, resRow, Int.reduceLE, Int.reduceLT, decide_true, decide_false, Int.reduceAdd, ans_eqs, List.all_cons, List.all_nil, id_eq]; refine hk _ ?_; clear hk k; try show Sat _ _ _ _ _)
  refine Sat.ret ?_
  simp only [Try.results42, evr, ty, rPick, rIbin, rBin, wideB, eqB, strB, rUn, rConv, rFieldAddr, rIndexAddr, rLoad, rField, rLen, rCap, rMax, rMin, rSlice, isRow, WCut, WZer, rBuild, toB, asRead, asAny, bound, flatOk, flat, lay, fillS, placesOf, id, reduceCtorEq, reduceIte, Nat.reduceMul, Nat.reduceAdd, Nat.reduceLT, Nat.reduceLeDiff, Nat.reduceEqDiff, Int.reduceLT, thenK, blockK, retK, resHolds, resVR, VR.holds, roArg, roPtr, roArgS, roSl, Int.reduceBEq, Int.reduceBNe, frz, frzOne, rNilCheck, rIndex, retM, retMK, argM, WClr, WBT, keepW, Nat.reduceBEq, res_one, res_ro, List.append_nil, Int.toNat_zero, Nat.sub_self, resRow, Int.reduceLE, Int.reduceLT, decide_true, decide_false, Int.reduceAdd, ans_eqs, List.all_cons, List.all_nil, id_eq]
set_option maxRecDepth 100000 in
theorem check0C (F : Frm) (t : Int) (h1 : 1 ≤ t) (h2 : t ≤ 255) : Contract F Try.prog 15 [resAg (ttlR t)] (fun r => r = .i .i64 0) := by
  have e1 : decide (t < 1) = false := decide_eq_false (by omega)
  have e2 : decide (255 < t) = false := decide_eq_false (by omega)
  refine contract_of Try.func15 rfl (by kernel_rfl) ?_
  simp only [Try.ntmps15, argEnv, resAg, Res.cs]
  (repeat refine Sat.seq ?_)
  (refine Sat.region_k fun k hk => ?_; simp -implicitDefEqProofs only [evr, ty, rPick, rIbin, rBin, wideB, eqB, strB, rUn, rConv, rFieldAddr, rIndexAddr, rLoad, rField, rLen, rCap, rMax, rMin, rSlice, isRow, WCut, WZer, rBuild, toB, asRead, asAny, bound, flatOk, flat, lay, fillS, placesOf, id, reduceCtorEq, reduceIte, Nat.reduceMul, Nat.reduceAdd, Nat.reduceLT, Nat.reduceLeDiff, Nat.reduceEqDiff, Int.reduceLT, thenK, blockK, retK, resHolds, resVR, VR.holds, roArg, roPtr, roArgS, roSl, Int.reduceBEq, Int.reduceBNe, frz, frzOne, rNilCheck, rIndex, retM, retMK, argM, WClr, WBT, keepW, Nat.reduceBEq, res_one, res_ro, List.append_nil, Int.toNat_zero, Nat.sub_self, resRow, Int.reduceLE, Int.reduceLT, decide_true, decide_false, Int.reduceAdd, ans_eqs, List.all_cons, List.all_nil, id_eq])
  intro blk1
  (refine hk _ ?_; clear hk k; try show Sat _ _ _ _ _)
  simp only [ttlR, show (default : Res) = ⟨0, 0, 0, 0, 0, 0, 0, 0, false, false, 0, 0, 0, 0, 0, 0, 0⟩ from rfl]
  (repeat refine Sat.seq ?_)
  (refine Sat.region_k fun k hk => ?_; simp -implicitDefEqProofs only [evr, ty, rPick, rIbin, rBin, wideB, eqB, strB, rUn, rConv, rFieldAddr, rIndexAddr, rLoad, rField, rLen, rCap, rMax, rMin, rSlice, isRow, WCut, WZer, rBuild, toB, asRead, asAny, bound, flatOk, flat, lay, fillS, placesOf, id, reduceCtorEq, reduceIte, Nat.reduceMul, Nat.reduceAdd, Nat.reduceLT, Nat.reduceLeDiff, Nat.reduceEqDiff, Int.reduceLT, thenK, blockK, retK, resHolds, resVR, VR.holds, roArg, roPtr, roArgS, roSl, Int.reduceBEq, Int.reduceBNe, frz, frzOne, rNilCheck, rIndex, retM, retMK, argM, WClr, WBT, keepW, Nat.reduceBEq, res_one, res_ro, List.append_nil, Int.toNat_zero, Nat.sub_self, resRow, Int.reduceLE, Int.reduceLT, decide_true, decide_false, Int.reduceAdd, ans_eqs, List.all_cons, List.all_nil, id_eq])
  refine wcall_plain (ref20IdC F) rfl (by rintro _ rfl; exact ok_plain rfl) ?_
  rintro r rfl
  simp -implicitDefEqProofs only [evr, ty, rPick, rIbin, rBin, wideB, eqB, strB, rUn, rConv, rFieldAddr, rIndexAddr, rLoad, rField, rLen, rCap, rMax, rMin, rSlice, isRow, WCut, WZer, rBuild, toB, asRead, asAny, bound, flatOk, flat, lay, fillS, placesOf, id, reduceCtorEq, reduceIte, Nat.reduceMul, Nat.reduceAdd, Nat.reduceLT, Nat.reduceLeDiff, Nat.reduceEqDiff, Int.reduceLT, thenK, blockK, retK, resHolds, resVR, VR.holds, roArg, roPtr, roArgS, roSl, Int.reduceBEq, Int.reduceBNe, frz, frzOne, rNilCheck, rIndex, retM, retMK, argM, WClr, WBT, keepW, Nat.reduceBEq, res_one, res_ro, List.append_nil, Int.toNat_zero, Nat.sub_self, resRow, Int.reduceLE, Int.reduceLT, decide_true, decide_false, Int.reduceAdd, ans_eqs, List.all_cons, List.all_nil, id_eq, e1, e2]
  (refine hk _ ?_; clear hk k; try show Sat _ _ _ _ _)
  refine Sat.cond_b rfl (fun h => absurd h (by decide)) (fun _ => ?_)
  refine Sat.skip ?_
  simp only [thenK]
  (repeat refine Sat.seq ?_)
  (refine Sat.region_k fun k hk => ?_; simp -implicitDefEqProofs only [evr, ty, rPick, rIbin, rBin, wideB, eqB, strB, rUn, rConv, rFieldAddr, rIndexAddr, rLoad, rField, rLen, rCap, rMax, rMin, rSlice, isRow, WCut, WZer, rBuild, toB, asRead, asAny, bound, flatOk, flat, lay, fillS, placesOf, id, reduceCtorEq, reduceIte, Nat.reduceMul, Nat.reduceAdd, Nat.reduceLT, Nat.reduceLeDiff, Nat.reduceEqDiff, Int.reduceLT, thenK, blockK, retK, resHolds, resVR, VR.holds, roArg, roPtr, roArgS, roSl, Int.reduceBEq, Int.reduceBNe, frz, frzOne, rNilCheck, rIndex, retM, retMK, argM, WClr, WBT, keepW, Nat.reduceBEq, res_one, res_ro, List.append_nil, Int.toNat_zero, Nat.sub_self, resRow, Int.reduceLE, Int.reduceLT, decide_true, decide_false, Int.reduceAdd, ans_eqs, List.all_cons, List.all_nil, id_eq]; refine hk _ ?_; clear hk k; try show Sat _ _ _ _ _)
  (repeat refine Sat.seq ?_)
  refine Sat.cond_b rfl (fun h => absurd h (by decide)) (fun _ => ?_)
  refine Sat.skip ?_
  simp only [thenK]
  (repeat refine Sat.seq ?_)
  (refine Sat.region_k fun k hk => ?_; simp -implicitDefEqProofs only [evr, ty, rPick, rIbin, rBin, wideB, eqB, strB, rUn, rConv, rFieldAddr, rIndexAddr, rLoad, rField, rLen, rCap, rMax, rMin, rSlice, isRow, WCut, WZer, rBuild, toB, asRead, asAny, bound, flatOk, flat, lay, fillS, placesOf, id, reduceCtorEq, reduceIte, Nat.reduceMul, Nat.reduceAdd, Nat.reduceLT, Nat.reduceLeDiff, Nat.reduceEqDiff, Int.reduceLT, thenK, blockK, retK, resHolds, resVR, VR.holds, roArg, roPtr, roArgS, roSl, Int.reduceBEq, Int.reduceBNe, frz, frzOne, rNilCheck, rIndex, retM, retMK, argM, WClr, WBT, keepW, Nat.reduceBEq, res_one, res_ro, List.append_nil, Int.toNat_zero, Nat.sub_self, resRow, Int.reduceLE, Int.reduceLT, decide_true, decide_false, Int.reduceAdd, ans_eqs, List.all_cons, List.all_nil, id_eq])
  intro blk2
  (refine hk _ ?_; clear hk k; try show Sat _ _ _ _ _)
  (repeat refine Sat.seq ?_)
  (refine Sat.region_k fun k hk => ?_; simp -implicitDefEqProofs only [evr, ty, rPick, rIbin, rBin, wideB, eqB, strB, rUn, rConv, rFieldAddr, rIndexAddr, rLoad, rField, rLen, rCap, rMax, rMin, rSlice, isRow, WCut, WZer, rBuild, toB, asRead, asAny, bound, flatOk, flat, lay, fillS, placesOf, id, reduceCtorEq, reduceIte, Nat.reduceMul, Nat.reduceAdd, Nat.reduceLT, Nat.reduceLeDiff, Nat.reduceEqDiff, Int.reduceLT, thenK, blockK, retK, resHolds, resVR, VR.holds, roArg, roPtr, roArgS, roSl, Int.reduceBEq, Int.reduceBNe, frz, frzOne, rNilCheck, rIndex, retM, retMK, argM, WClr, WBT, keepW, Nat.reduceBEq, res_one, res_ro, List.append_nil, Int.toNat_zero, Nat.sub_self, resRow, Int.reduceLE, Int.reduceLT, decide_true, decide_false, Int.reduceAdd, ans_eqs, List.all_cons, List.all_nil, id_eq]; refine hk _ ?_; clear hk k; try show Sat _ _ _ _ _)
  (repeat refine Sat.seq ?_)
  refine Sat.cond_b rfl (fun h => absurd h (by decide)) (fun _ => ?_)
  refine Sat.skip ?_
  simp only [thenK]
  (repeat refine Sat.seq ?_)
  (refine Sat.region_k fun k hk => ?_; simp -implicitDefEqProofs only [evr, ty, rPick, rIbin, rBin, wideB, eqB, strB, rUn, rConv, rFieldAddr, rIndexAddr, rLoad, rField, rLen, rCap, rMax, rMin, rSlice, isRow, WCut, WZer, rBuild, toB, asRead, asAny, bound, flatOk, flat, lay, fillS, placesOf, id, reduceCtorEq, reduceIte, Nat.reduceMul, Nat.reduceAdd, Nat.reduceLT, Nat.reduceLeDiff, Nat.reduceEqDiff, Int.reduceLT, thenK, blockK, retK, resHolds, resVR, VR.holds, roArg, roPtr, roArgS, roSl, Int.reduceBEq, Int.reduceBNe, frz, frzOne, rNilCheck, rIndex, retM, retMK, argM, WClr, WBT, keepW, Nat.reduceBEq, res_one, res_ro, List.append_nil, Int.toNat_zero, Nat.sub_self, resRow, Int.reduceLE, Int.reduceLT, decide_true, decide_false, Int.reduceAdd, ans_eqs, List.all_cons, List.all_nil, id_eq]; refine hk _ ?_; clear hk k; try show Sat _ _ _ _ _)
  (repeat refine Sat.seq ?_)
  refine Sat.cond_ff rfl ?_
  refine Sat.skip ?_
  simp only [thenK]
  (repeat refine Sat.seq ?_)
  (refine Sat.region_k fun k hk => ?_; simp -implicitDefEqProofs only [evr, ty, rPick, rIbin, rBin, wideB, eqB, strB, rUn, rConv, rFieldAddr, rIndexAddr, rLoad, rField, rLen, rCap, rMax, rMin, rSlice, isRow, WCut, WZer, rBuild, toB, asRead, asAny, bound, flatOk, flat, lay, fillS, placesOf, id, reduceCtorEq, reduceIte, Nat.reduceMul, Nat.reduceAdd, Nat.reduceLT, Nat.reduceLeDiff, Nat.reduceEqDiff, Int.reduceLT, thenK, blockK, retK, resHolds, resVR, VR.holds, roArg, roPtr, roArgS, roSl, Int.reduceBEq, Int.reduceBNe, frz, frzOne, rNilCheck, rIndex, retM, retMK, argM, WClr, WBT, keepW, Nat.reduceBEq, res_one, res_ro, List.append_nil, Int.toNat_zero, Nat.sub_self, resRow, Int.reduceLE, Int.reduceLT, decide_true, decide_false, Int.reduceAdd, ans_eqs, List.all_cons, List.all_nil, id_eq]; refine hk _ ?_; clear hk k; try show Sat _ _ _ _ _)
  refine Sat.ret ?_
  simp only [Try.results15, evr, ty, rPick, rIbin, rBin, wideB, eqB, strB, rUn, rConv, rFieldAddr, rIndexAddr, rLoad, rField, rLen, rCap, rMax, rMin, rSlice, isRow, WCut, WZer, rBuild, toB, asRead, asAny, bound, flatOk, flat, lay, fillS, placesOf, id, reduceCtorEq, reduceIte, Nat.reduceMul, Nat.reduceAdd, Nat.reduceLT, Nat.reduceLeDiff, Nat.reduceEqDiff, Int.reduceLT, thenK, blockK, retK, resHolds, resVR, VR.holds, roArg, roPtr, roArgS, roSl, Int.reduceBEq, Int.reduceBNe, frz, frzOne, rNilCheck, rIndex, retM, retMK, argM, WClr, WBT, keepW, Nat.reduceBEq, res_one, res_ro, List.append_nil, Int.toNat_zero, Nat.sub_self, resRow, Int.reduceLE, Int.reduceLT, decide_true, decide_false, Int.reduceAdd, ans_eqs, List.all_cons, List.all_nil, id_eq]

theorem res_app (xs : List Res) (x : Res) : rdEq (xs.length + 1) 17 (rdCat xs.length (resRd xs.toArray) (rdL (Res.cs x) 17)) (resRd (xs ++ [x]).toArray) := by
  intro i j hi hj
  unfold rdCat
  by_cases h : i < xs.length
  · rw [if_pos h]
    unfold resRd
    simp [getElem!_def, List.getElem?_append, h]
  · rw [if_neg h]
    have e : i = xs.length := by omega
    subst e
    unfold rdL resRd
    simp [getElem!_def]
theorem addTC (F : Frm) (p : LedP) (hcl : p.cs.length ≤ 1000000000000) (a : Option Addr) (cap : Nat) (xs : List Res) (m : Nat) (hm : m ≤ xs.length) (hl : p.led.size + xs.length ≤ 1000000000) :
    Contract F Try.prog 12 [ledS p, .sl a m cap 17 (fun i j => resRd xs.toArray i j)] (limR (p.led.all ++ xs.take m)) := by
  have hlen : (xs.take m).length = m := by rw [List.length_take]; omega
  have h := addC F p hcl a cap (xs.take m) (by omega)
  rw [hlen] at h
  exact Contract.of_sim (args := [_, .sl a m cap 17 (fun i j => resRd xs.toArray i j)]) h ⟨sim_refl _, sim_sl (res_take xs m), trivial⟩

set_option maxRecDepth 100000 in
theorem mergeLimitsC (F : Frm) (m : Nat) (hm : m < 256) : Contract F Try.prog 4 [.i .u8 m] (fun r => r = .b true) := by
  refine contract_of Try.func4 rfl (by kernel_rfl) ?_
  simp only [Try.ntmps4, argEnv]
  have em : IntKind.i64.wrap (m : Int) = (m : Int) := w64 (by omega)
  (repeat refine Sat.seq ?_)
  (refine Sat.region_k fun k hk => ?_; simp -implicitDefEqProofs only [evr, ty, rPick, rIbin, rBin, wideB, eqB, strB, rUn, rConv, rFieldAddr, rIndexAddr, rLoad, rField, rLen, rCap, rMax, rMin, rSlice, isRow, WCut, WZer, rBuild, toB, asRead, asAny, bound, flatOk, flat, lay, fillS, placesOf, id, reduceCtorEq, reduceIte, Nat.reduceMul, Nat.reduceAdd, Nat.reduceLT, Nat.reduceLeDiff, Nat.reduceEqDiff, Int.reduceLT, thenK, blockK, retK, resHolds, resVR, VR.holds, roArg, roPtr, roArgS, roSl, Int.reduceBEq, Int.reduceBNe, frz, frzOne, rNilCheck, rIndex, retM, retMK, argM, WClr, WBT, keepW, Nat.reduceBEq, res_one, res_ro, List.append_nil, Int.toNat_zero, Nat.sub_self, resRow, Int.reduceLE, Int.reduceLT, decide_true, decide_false, Int.reduceAdd, ans_eqs, List.all_cons, List.all_nil, id_eq]; refine hk _ ?_; clear hk k; try show Sat _ _ _ _ _)
  (repeat refine Sat.seq ?_)
  (refine Sat.region_k fun k hk => ?_; simp -implicitDefEqProofs only [evr, ty, rPick, rIbin, rBin, wideB, eqB, strB, rUn, rConv, rFieldAddr, rIndexAddr, rLoad, rField, rLen, rCap, rMax, rMin, rSlice, isRow, WCut, WZer, rBuild, toB, asRead, asAny, bound, flatOk, flat, lay, fillS, placesOf, id, reduceCtorEq, reduceIte, Nat.reduceMul, Nat.reduceAdd, Nat.reduceLT, Nat.reduceLeDiff, Nat.reduceEqDiff, Int.reduceLT, thenK, blockK, retK, resHolds, resVR, VR.holds, roArg, roPtr, roArgS, roSl, Int.reduceBEq, Int.reduceBNe, frz, frzOne, rNilCheck, rIndex, retM, retMK, argM, WClr, WBT, keepW, Nat.reduceBEq, res_one, res_ro, List.append_nil, Int.toNat_zero, Nat.sub_self, resRow, Int.reduceLE, Int.reduceLT, decide_true, decide_false, Int.reduceAdd, ans_eqs, List.all_cons, List.all_nil, id_eq])
  refine wcall_plain (awakeC F) rfl (by rintro _ rfl; exact ok_plain rfl) ?_
  rintro r rfl
  simp -implicitDefEqProofs only [evr, ty, rPick, rIbin, rBin, wideB, eqB, strB, rUn, rConv, rFieldAddr, rIndexAddr, rLoad, rField, rLen, rCap, rMax, rMin, rSlice, isRow, WCut, WZer, rBuild, toB, asRead, asAny, bound, flatOk, flat, lay, fillS, placesOf, id, reduceCtorEq, reduceIte, Nat.reduceMul, Nat.reduceAdd, Nat.reduceLT, Nat.reduceLeDiff, Nat.reduceEqDiff, Int.reduceLT, thenK, blockK, retK, resHolds, resVR, VR.holds, roArg, roPtr, roArgS, roSl, Int.reduceBEq, Int.reduceBNe, frz, frzOne, rNilCheck, rIndex, retM, retMK, argM, WClr, WBT, keepW, Nat.reduceBEq, res_one, res_ro, List.append_nil, Int.toNat_zero, Nat.sub_self, resRow, Int.reduceLE, Int.reduceLT, decide_true, decide_false, Int.reduceAdd, ans_eqs, List.all_cons, List.all_nil, id_eq]
  (refine hk _ ?_; clear hk k; try show Sat _ _ _ _ _)
  (repeat refine Sat.seq ?_)
  refine Sat.cond_b rfl (fun h => absurd h (by decide)) (fun _ => ?_)
  refine Sat.skip ?_
  simp only [thenK]
  (repeat refine Sat.seq ?_)
  (refine Sat.region_k fun k hk => ?_; simp -implicitDefEqProofs only [evr, ty, rPick, rIbin, rBin, wideB, eqB, strB, rUn, rConv, rFieldAddr, rIndexAddr, rLoad, rField, rLen, rCap, rMax, rMin, rSlice, isRow, WCut, WZer, rBuild, toB, asRead, asAny, bound, flatOk, flat, lay, fillS, placesOf, id, reduceCtorEq, reduceIte, Nat.reduceMul, Nat.reduceAdd, Nat.reduceLT, Nat.reduceLeDiff, Nat.reduceEqDiff, Int.reduceLT, thenK, blockK, retK, resHolds, resVR, VR.holds, roArg, roPtr, roArgS, roSl, Int.reduceBEq, Int.reduceBNe, frz, frzOne, rNilCheck, rIndex, retM, retMK, argM, WClr, WBT, keepW, Nat.reduceBEq, res_one, res_ro, List.append_nil, Int.toNat_zero, Nat.sub_self, resRow, Int.reduceLE, Int.reduceLT, decide_true, decide_false, Int.reduceAdd, ans_eqs, List.all_cons, List.all_nil, id_eq]; refine hk _ ?_; clear hk k; try show Sat _ _ _ _ _)
  refine Sat.adopt 3 39 17 (resRd #[]) rfl ?_
  simp -implicitDefEqProofs only [evr, ty, rPick, rIbin, rBin, wideB, eqB, strB, rUn, rConv, rFieldAddr, rIndexAddr, rLoad, rField, rLen, rCap, rMax, rMin, rSlice, isRow, WCut, WZer, rBuild, toB, asRead, asAny, bound, flatOk, flat, lay, fillS, placesOf, id, reduceCtorEq, reduceIte, Nat.reduceMul, Nat.reduceAdd, Nat.reduceLT, Nat.reduceLeDiff, Nat.reduceEqDiff, Int.reduceLT, thenK, blockK, retK, resHolds, resVR, VR.holds, roArg, roPtr, roArgS, roSl, Int.reduceBEq, Int.reduceBNe, frz, frzOne, rNilCheck, rIndex, retM, retMK, argM, WClr, WBT, keepW, Nat.reduceBEq, res_one, res_ro, List.append_nil, Int.toNat_zero, Nat.sub_self, resRow, Int.reduceLE, Int.reduceLT, decide_true, decide_false, Int.reduceAdd, ans_eqs, List.all_cons, List.all_nil, id_eq]
  (repeat refine Sat.seq ?_)
  (refine Sat.region_k fun k hk => ?_; simp -implicitDefEqProofs only [evr, ty, rPick, rIbin, rBin, wideB, eqB, strB, rUn, rConv, rFieldAddr, rIndexAddr, rLoad, rField, rLen, rCap, rMax, rMin, rSlice, isRow, WCut, WZer, rBuild, toB, asRead, asAny, bound, flatOk, flat, lay, fillS, placesOf, id, reduceCtorEq, reduceIte, Nat.reduceMul, Nat.reduceAdd, Nat.reduceLT, Nat.reduceLeDiff, Nat.reduceEqDiff, Int.reduceLT, thenK, blockK, retK, resHolds, resVR, VR.holds, roArg, roPtr, roArgS, roSl, Int.reduceBEq, Int.reduceBNe, frz, frzOne, rNilCheck, rIndex, retM, retMK, argM, WClr, WBT, keepW, Nat.reduceBEq, res_one, res_ro, List.append_nil, Int.toNat_zero, Nat.sub_self, resRow, Int.reduceLE, Int.reduceLT, decide_true, decide_false, Int.reduceAdd, ans_eqs, List.all_cons, List.all_nil, id_eq]; refine hk _ ?_; clear hk k; try show Sat _ _ _ _ _)
  (repeat refine Sat.seq ?_)
  refine Sat.block ?_
  refine Sat.loop (ι := Nat × Option Addr × Nat) (fun x => ⟨85, [(3, .os 0 x.2.1 (genL x.1).length x.2.2), (4, .i .i64 x.1), (0, .i .u8 m)], [resRow x.2.1 (genL x.1).length x.2.2 (genL x.1).toArray]⟩)
    (fun x => x.1 ≤ 16384) (fun x => 16384 - x.1) (0, none, 0) (Nat.zero_le _) (by simp -implicitDefEqProofs only [evr, ty, rPick, rIbin, rBin, wideB, eqB, strB, rUn, rConv, rFieldAddr, rIndexAddr, rLoad, rField, rLen, rCap, rMax, rMin, rSlice, isRow, WCut, WZer, rBuild, toB, asRead, asAny, bound, flatOk, flat, lay, fillS, placesOf, id, reduceCtorEq, reduceIte, Nat.reduceMul, Nat.reduceAdd, Nat.reduceLT, Nat.reduceLeDiff, Nat.reduceEqDiff, Int.reduceLT, thenK, blockK, retK, resHolds, resVR, VR.holds, roArg, roPtr, roArgS, roSl, Int.reduceBEq, Int.reduceBNe, frz, frzOne, rNilCheck, rIndex, retM, retMK, argM, WClr, WBT, keepW, Nat.reduceBEq, res_one, res_ro, List.append_nil, Int.toNat_zero, Nat.sub_self, resRow, Int.reduceLE, Int.reduceLT, decide_true, decide_false, Int.reduceAdd, ans_eqs, List.all_cons, List.all_nil, id_eq, Le, envLe, ownLe, Own.le, Option.some.injEq, eq_self, true_or, false_or, or_false, exists_eq_left', exists_eq_left, exists_eq, exists_eq', SV.i.injEq, SV.b.injEq, rdEq_same, exists_false, and_false, false_and]; exact ⟨⟨rfl, rfl⟩, rfl, fun p q hp => absurd hp (Nat.not_lt_zero _)⟩) ?_
  rintro ⟨i, xa, xc⟩ hi
  have hlen := genL_len i
  simp only at hi ⊢
  (repeat refine Sat.seq ?_)
  (refine Sat.region_k fun k hk => ?_; simp -implicitDefEqProofs only [evr, ty, rPick, rIbin, rBin, wideB, eqB, strB, rUn, rConv, rFieldAddr, rIndexAddr, rLoad, rField, rLen, rCap, rMax, rMin, rSlice, isRow, WCut, WZer, rBuild, toB, asRead, asAny, bound, flatOk, flat, lay, fillS, placesOf, id, reduceCtorEq, reduceIte, Nat.reduceMul, Nat.reduceAdd, Nat.reduceLT, Nat.reduceLeDiff, Nat.reduceEqDiff, Int.reduceLT, thenK, blockK, retK, resHolds, resVR, VR.holds, roArg, roPtr, roArgS, roSl, Int.reduceBEq, Int.reduceBNe, frz, frzOne, rNilCheck, rIndex, retM, retMK, argM, WClr, WBT, keepW, Nat.reduceBEq, res_one, res_ro, List.append_nil, Int.toNat_zero, Nat.sub_self, resRow, Int.reduceLE, Int.reduceLT, decide_true, decide_false, Int.reduceAdd, ans_eqs, List.all_cons, List.all_nil, id_eq]; refine hk _ ?_; clear hk k; try show Sat _ _ _ _ _)
  (repeat refine Sat.seq ?_)
  refine Sat.cond_b rfl (fun h => ?_) (fun h => ?_)
  · have h1 : i < 16384 := by simp only [decide_eq_true_eq] at h; omega
    have e1 : IntKind.i64.wrap ((i : Int).tdiv 4000) = ((i / 4000 : Nat) : Int) := by rw [Int.tdiv_eq_ediv_of_nonneg (by omega), w64 (by omega)]; omega
    have e2 : IntKind.i64.wrap ((i : Int).tdiv 1000) = ((i / 1000 : Nat) : Int) := by rw [Int.tdiv_eq_ediv_of_nonneg (by omega), w64 (by omega)]; omega
    have e3 : ((i / 1000 : Nat) : Int).tmod 4 = ((i / 1000 % 4 : Nat) : Int) := by rw [Int.tmod_eq_emod_of_nonneg (by omega)]; omega
    have e4 : (i : Int).tmod 1000 = ((i % 1000 : Nat) : Int) := by rw [Int.tmod_eq_emod_of_nonneg (by omega)]; omega
    have e5 : IntKind.i64.wrap ((i : Int) + 1) = ((i + 1 : Nat) : Int) := by rw [w64 (by omega)]; omega
    refine Sat.skip ?_
    simp only [thenK]
    (repeat refine Sat.seq ?_)
    refine Sat.block ?_
    refine Sat.region_k fun k hk => ?_
    simp -implicitDefEqProofs only [evr, ty, rPick, rIbin, rBin, wideB, eqB, strB, rUn, rConv, rFieldAddr, rIndexAddr, rLoad, rField, rLen, rCap, rMax, rMin, rSlice, isRow, WCut, WZer, rBuild, toB, asRead, asAny, bound, flatOk, flat, lay, fillS, placesOf, id, reduceCtorEq, reduceIte, Nat.reduceMul, Nat.reduceAdd, Nat.reduceLT, Nat.reduceLeDiff, Nat.reduceEqDiff, Int.reduceLT, thenK, blockK, retK, resHolds, resVR, VR.holds, roArg, roPtr, roArgS, roSl, Int.reduceBEq, Int.reduceBNe, frz, frzOne, rNilCheck, rIndex, retM, retMK, argM, WClr, WBT, keepW, Nat.reduceBEq, res_one, res_ro, List.append_nil, Int.toNat_zero, Nat.sub_self, resRow, Int.reduceLE, Int.reduceLT, decide_true, decide_false, Int.reduceAdd, ans_eqs, List.all_cons, List.all_nil, id_eq, e1, e2, e3, e4]
    refine ⟨by decide, by decide, by decide, by decide, fun blk => ⟨⟨by unfold maxLen; omega, by omega⟩, fun a2 cap2 => ?_⟩⟩
    refine hk _ ?_
    simp only [thenK, blockK]
    (repeat refine Sat.seq ?_)
    refine Sat.region_k fun k hk => ?_
    simp -implicitDefEqProofs only [evr, ty, rPick, rIbin, rBin, wideB, eqB, strB, rUn, rConv, rFieldAddr, rIndexAddr, rLoad, rField, rLen, rCap, rMax, rMin, rSlice, isRow, WCut, WZer, rBuild, toB, asRead, asAny, bound, flatOk, flat, lay, fillS, placesOf, id, reduceCtorEq, reduceIte, Nat.reduceMul, Nat.reduceAdd, Nat.reduceLT, Nat.reduceLeDiff, Nat.reduceEqDiff, Int.reduceLT, thenK, blockK, retK, resHolds, resVR, VR.holds, roArg, roPtr, roArgS, roSl, Int.reduceBEq, Int.reduceBNe, frz, frzOne, rNilCheck, rIndex, retM, retMK, argM, WClr, WBT, keepW, Nat.reduceBEq, res_one, res_ro, List.append_nil, Int.toNat_zero, Nat.sub_self, resRow, Int.reduceLE, Int.reduceLT, decide_true, decide_false, Int.reduceAdd, ans_eqs, List.all_cons, List.all_nil, id_eq, e5]
    refine hk _ ?_
    simp only [thenK, blockK]
    have ea := res_app (genL i) (gen i)
    refine ⟨(i + 1, a2, cap2), h1, by show 16384 - (i + 1) < 16384 - i; omega, ?_⟩
    simp only [genL_succ, List.length_append]
    simp -implicitDefEqProofs only [evr, ty, rPick, rIbin, rBin, wideB, eqB, strB, rUn, rConv, rFieldAddr, rIndexAddr, rLoad, rField, rLen, rCap, rMax, rMin, rSlice, isRow, WCut, WZer, rBuild, toB, asRead, asAny, bound, flatOk, flat, lay, fillS, placesOf, id, reduceCtorEq, reduceIte, Nat.reduceMul, Nat.reduceAdd, Nat.reduceLT, Nat.reduceLeDiff, Nat.reduceEqDiff, Int.reduceLT, thenK, blockK, retK, resHolds, resVR, VR.holds, roArg, roPtr, roArgS, roSl, Int.reduceBEq, Int.reduceBNe, frz, frzOne, rNilCheck, rIndex, retM, retMK, argM, WClr, WBT, keepW, Nat.reduceBEq, res_one, res_ro, List.append_nil, Int.toNat_zero, Nat.sub_self, resRow, Int.reduceLE, Int.reduceLT, decide_true, decide_false, Int.reduceAdd, ans_eqs, List.all_cons, List.all_nil, id_eq, Le, envLe, ownLe, Own.le, Option.some.injEq, eq_self, true_or, false_or, or_false, exists_eq_left', exists_eq_left, exists_eq, exists_eq', SV.i.injEq, SV.b.injEq, rdEq_same, exists_false, and_false, false_and]
    exact ea
  · have h1 : i = 16384 := by simp only [decide_eq_false_iff_not] at h; omega
    subst h1
    have hcan : ∀ xs, (∀ r, r ∈ genL 16384 ↔ r ∈ xs) → Canon (genL 16384) xs := fun xs => genL_canon 16384
    have hasc := genL_asc 16384
    have hnd := genL_nodup 16384
    have h0 : (genL 16384)[0]? = some (gen 0) := by unfold genL; rw [List.getElem?_map, List.getElem?_range (by omega)]; rfl
    have hids : ∀ r ∈ genL 16384, r.ttl = 1 := fun r hr => by
      unfold genL at hr
      obtain ⟨q, _, rfl⟩ := List.mem_map.1 hr
      rfl
    generalize genL 16384 = L at hlen hcan hasc hnd h0 hids ⊢
    refine Sat.exit ?_
    simp only [thenK, blockK, reduceIte]
    refine Sat.settle2 3 rfl rfl ?_
    simp -implicitDefEqProofs only [evr, ty, rPick, rIbin, rBin, wideB, eqB, strB, rUn, rConv, rFieldAddr, rIndexAddr, rLoad, rField, rLen, rCap, rMax, rMin, rSlice, isRow, WCut, WZer, rBuild, toB, asRead, asAny, bound, flatOk, flat, lay, fillS, placesOf, id, reduceCtorEq, reduceIte, Nat.reduceMul, Nat.reduceAdd, Nat.reduceLT, Nat.reduceLeDiff, Nat.reduceEqDiff, Int.reduceLT, thenK, blockK, retK, resHolds, resVR, VR.holds, roArg, roPtr, roArgS, roSl, Int.reduceBEq, Int.reduceBNe, frz, frzOne, rNilCheck, rIndex, retM, retMK, argM, WClr, WBT, keepW, Nat.reduceBEq, res_one, res_ro, List.append_nil, Int.toNat_zero, Nat.sub_self, resRow, Int.reduceLE, Int.reduceLT, decide_true, decide_false, Int.reduceAdd, ans_eqs, List.all_cons, List.all_nil, id_eq]
    (repeat refine Sat.seq ?_)
    (refine Sat.region_k fun k hk => ?_; simp -implicitDefEqProofs only [evr, ty, rPick, rIbin, rBin, wideB, eqB, strB, rUn, rConv, rFieldAddr, rIndexAddr, rLoad, rField, rLen, rCap, rMax, rMin, rSlice, isRow, WCut, WZer, rBuild, toB, asRead, asAny, bound, flatOk, flat, lay, fillS, placesOf, id, reduceCtorEq, reduceIte, Nat.reduceMul, Nat.reduceAdd, Nat.reduceLT, Nat.reduceLeDiff, Nat.reduceEqDiff, Int.reduceLT, thenK, blockK, retK, resHolds, resVR, VR.holds, roArg, roPtr, roArgS, roSl, Int.reduceBEq, Int.reduceBNe, frz, frzOne, rNilCheck, rIndex, retM, retMK, argM, WClr, WBT, keepW, Nat.reduceBEq, res_one, res_ro, List.append_nil, Int.toNat_zero, Nat.sub_self, resRow, Int.reduceLE, Int.reduceLT, decide_true, decide_false, Int.reduceAdd, ans_eqs, List.all_cons, List.all_nil, id_eq])
    refine wcall_slice (Contract.of_sim (args := [_, _]) (addC F led0 (Nat.zero_le _) xa xc L (by rw [hlen]; decide)) ⟨led0_sim _ _, sim_refl _, trivial⟩) rfl (by simp -implicitDefEqProofs only [evr, ty, rPick, rIbin, rBin, wideB, eqB, strB, rUn, rConv, rFieldAddr, rIndexAddr, rLoad, rField, rLen, rCap, rMax, rMin, rSlice, isRow, WCut, WZer, rBuild, toB, asRead, asAny, bound, flatOk, flat, lay, fillS, placesOf, id, reduceCtorEq, reduceIte, Nat.reduceMul, Nat.reduceAdd, Nat.reduceLT, Nat.reduceLeDiff, Nat.reduceEqDiff, Int.reduceLT, thenK, blockK, retK, resHolds, resVR, VR.holds, roArg, roPtr, roArgS, roSl, Int.reduceBEq, Int.reduceBNe, frz, frzOne, rNilCheck, rIndex, retM, retMK, argM, WClr, WBT, keepW, Nat.reduceBEq, res_one, res_ro, List.append_nil, Int.toNat_zero, Nat.sub_self, resRow, Int.reduceLE, Int.reduceLT, decide_true, decide_false, Int.reduceAdd, ans_eqs, List.all_cons, List.all_nil, id_eq]; rfl) ?_
    rintro r ⟨p, c, e, g1, g2, g3, g4, rfl⟩
    have hc : c = L := g1.unique (hcan L fun r => Iff.rfl) fun r => Iff.rfl
    subst hc
    obtain ⟨_, rfl, hled⟩ : c.length ≤ 16384 ∧ e = 0 ∧ p.led = ledOf c := by
      rcases g3 with h3 | h3
      · exact h3
      · exact absurd h3.1 (by omega)
    have hsz : p.led.size = 16384 := by rw [hled, ledOf_size, hlen]
    rw [ledOf_asc hasc] at hled
    have hall : p.led.all = c := by rw [hled]; simp [Led.all]
    simp -implicitDefEqProofs only [evr, ty, rPick, rIbin, rBin, wideB, eqB, strB, rUn, rConv, rFieldAddr, rIndexAddr, rLoad, rField, rLen, rCap, rMax, rMin, rSlice, isRow, WCut, WZer, rBuild, toB, asRead, asAny, bound, flatOk, flat, lay, fillS, placesOf, id, reduceCtorEq, reduceIte, Nat.reduceMul, Nat.reduceAdd, Nat.reduceLT, Nat.reduceLeDiff, Nat.reduceEqDiff, Int.reduceLT, thenK, blockK, retK, resHolds, resVR, VR.holds, roArg, roPtr, roArgS, roSl, Int.reduceBEq, Int.reduceBNe, frz, frzOne, rNilCheck, rIndex, retM, retMK, argM, WClr, WBT, keepW, Nat.reduceBEq, res_one, res_ro, List.append_nil, Int.toNat_zero, Nat.sub_self, resRow, Int.reduceLE, Int.reduceLT, decide_true, decide_false, Int.reduceAdd, ans_eqs, List.all_cons, List.all_nil, id_eq, ledS]
    intro blk5
    (refine hk _ ?_; clear hk k; try show Sat _ _ _ _ _)
    (repeat refine Sat.seq ?_)
    have hmore : ∀ (F : Frm) (ya : Option Addr) (yc : Nat), Contract F Try.prog 12 [ledS p, .sl ya m yc 17 (fun i j => resRd c.toArray i j)] (fun r => ∃ q : LedP, q.led = ⟨c, []⟩ ∧ r = tupL [ledS q, .i .i64 0]) := fun F ya yc => by
      refine (addTC F p (by omega) ya yc c m (by omega) (by omega)).mono ?_
      rintro r ⟨q, c2, e, k1, k2, k3, k4, rfl⟩
      have hc2 : c2 = c := k1.unique (hcan c fun r => Iff.rfl) fun r => by
        rw [hall, List.mem_append]
        exact ⟨fun h => h.elim id (fun h => List.mem_of_mem_take h), .inl⟩
      subst hc2
      rcases k3 with k3 | k3
      · obtain ⟨_, rfl, k3⟩ := k3
        exact ⟨q, by rw [k3, ledOf_asc hasc], rfl⟩
      · exact absurd k3.1 (by omega)
    refine Sat.region_treeR (.keep [1, 2, 3, 0] [4, 9] (.alt 9 (.one 4 (.one 5 (.one 6 (.free 7 (.free 8 (.one 10 (.one 11 .done))))))) (.alt 4 (.alt 9 (.one 5 (.one 6 (.free 7 (.free 8 (.one 10 (.one 11 .done)))))) (.alt 5 (.free 6 (.free 7 (.free 8 (.one 9 (.one 10 (.one 11 .done)))))) .none)) .none))) (by kernel_rfl) (by kernel_rfl) (fun _ _ h => h)
      (fun x : {x : LedP × Nat // x.1.led = ⟨c, []⟩} => ⟨85, [(8, .i .i64 0), (7, .op 2 x.1.2 0), (6, .i .i64 0), (5, .op 1 blk5 0), (3, .sl xa c.length xc 17 (resRd c.toArray)), (0, .i .u8 m)],
        [.gone, .box blk5 30 [.sl p.a0 p.rs.length p.c0 17 (resRd p.rs.toArray), .sl p.a1 p.cs.length p.c1 4 (cftRd p.cs)], .box x.1.2 30 [.sl x.1.1.a0 x.1.1.rs.length x.1.1.c0 17 (resRd x.1.1.rs.toArray), .sl x.1.1.a1 x.1.1.cs.length x.1.1.c1 4 (cftRd x.1.1.cs)]]⟩) (fun k hk => ?_) ?_
    · simp only [WOT, List.map_cons, List.map_nil, List.getD_cons_zero, List.getD_cons_succ]
      simp -implicitDefEqProofs only [evr, ty, rPick, rIbin, rBin, wideB, eqB, strB, rUn, rConv, rFieldAddr, rIndexAddr, rLoad, rField, rLen, rCap, rMax, rMin, rSlice, isRow, WCut, WZer, rBuild, toB, asRead, asAny, bound, flatOk, flat, lay, fillS, placesOf, id, reduceCtorEq, reduceIte, Nat.reduceMul, Nat.reduceAdd, Nat.reduceLT, Nat.reduceLeDiff, Nat.reduceEqDiff, Int.reduceLT, thenK, blockK, retK, resHolds, resVR, VR.holds, roArg, roPtr, roArgS, roSl, Int.reduceBEq, Int.reduceBNe, frz, frzOne, rNilCheck, rIndex, retM, retMK, argM, WClr, WBT, keepW, Nat.reduceBEq, res_one, res_ro, List.append_nil, Int.toNat_zero, Nat.sub_self, resRow, Int.reduceLE, Int.reduceLT, decide_true, decide_false, Int.reduceAdd, ans_eqs, List.all_cons, List.all_nil, id_eq, WOT, em, Nat.sub_zero]
      refine ⟨fun blk => ⟨by omega, ?_⟩, by omega, fun blk => ?_, ?_⟩
      · refine wcall_slice (hmore F _ _) rfl rfl ?_
        rintro r ⟨q, hq, rfl⟩
        simp -implicitDefEqProofs only [evr, ty, rPick, rIbin, rBin, wideB, eqB, strB, rUn, rConv, rFieldAddr, rIndexAddr, rLoad, rField, rLen, rCap, rMax, rMin, rSlice, isRow, WCut, WZer, rBuild, toB, asRead, asAny, bound, flatOk, flat, lay, fillS, placesOf, id, reduceCtorEq, reduceIte, Nat.reduceMul, Nat.reduceAdd, Nat.reduceLT, Nat.reduceLeDiff, Nat.reduceEqDiff, Int.reduceLT, thenK, blockK, retK, resHolds, resVR, VR.holds, roArg, roPtr, roArgS, roSl, Int.reduceBEq, Int.reduceBNe, frz, frzOne, rNilCheck, rIndex, retM, retMK, argM, WClr, WBT, keepW, Nat.reduceBEq, res_one, res_ro, List.append_nil, Int.toNat_zero, Nat.sub_self, resRow, Int.reduceLE, Int.reduceLT, decide_true, decide_false, Int.reduceAdd, ans_eqs, List.all_cons, List.all_nil, id_eq, ledS]
        refine hk _ ⟨(q, blk), hq⟩ [0, 1, 2] ⟨rfl, ?_, by decide, ?_⟩
        all_goals simp -implicitDefEqProofs only [evr, ty, rPick, rIbin, rBin, wideB, eqB, strB, rUn, rConv, rFieldAddr, rIndexAddr, rLoad, rField, rLen, rCap, rMax, rMin, rSlice, isRow, WCut, WZer, rBuild, toB, asRead, asAny, bound, flatOk, flat, lay, fillS, placesOf, id, reduceCtorEq, reduceIte, Nat.reduceMul, Nat.reduceAdd, Nat.reduceLT, Nat.reduceLeDiff, Nat.reduceEqDiff, Int.reduceLT, thenK, blockK, retK, resHolds, resVR, VR.holds, roArg, roPtr, roArgS, roSl, Int.reduceBEq, Int.reduceBNe, frz, frzOne, rNilCheck, rIndex, retM, retMK, argM, WClr, WBT, keepW, Nat.reduceBEq, res_one, res_ro, List.append_nil, Int.toNat_zero, Nat.sub_self, resRow, Int.reduceLE, Int.reduceLT, decide_true, decide_false, Int.reduceAdd, ans_eqs, List.all_cons, List.all_nil, id_eq, Res.cs, envSim, idSim, ownLe, Own.le, Option.some.injEq, eq_self, true_or, false_or, or_false, exists_eq_left', exists_eq_left, exists_eq, exists_eq', SV.op.injEq, SV.os.injEq, SV.i.injEq, exists_false, and_false, false_and]
      · refine wcall_slice (hmore F _ _) rfl rfl ?_
        rintro r ⟨q, hq, rfl⟩
        simp -implicitDefEqProofs only [evr, ty, rPick, rIbin, rBin, wideB, eqB, strB, rUn, rConv, rFieldAddr, rIndexAddr, rLoad, rField, rLen, rCap, rMax, rMin, rSlice, isRow, WCut, WZer, rBuild, toB, asRead, asAny, bound, flatOk, flat, lay, fillS, placesOf, id, reduceCtorEq, reduceIte, Nat.reduceMul, Nat.reduceAdd, Nat.reduceLT, Nat.reduceLeDiff, Nat.reduceEqDiff, Int.reduceLT, thenK, blockK, retK, resHolds, resVR, VR.holds, roArg, roPtr, roArgS, roSl, Int.reduceBEq, Int.reduceBNe, frz, frzOne, rNilCheck, rIndex, retM, retMK, argM, WClr, WBT, keepW, Nat.reduceBEq, res_one, res_ro, List.append_nil, Int.toNat_zero, Nat.sub_self, resRow, Int.reduceLE, Int.reduceLT, decide_true, decide_false, Int.reduceAdd, ans_eqs, List.all_cons, List.all_nil, id_eq, ledS]
        refine hk _ ⟨(q, blk), hq⟩ [0, 1, 2] ⟨rfl, ?_, by decide, ?_⟩
        all_goals simp -implicitDefEqProofs only [evr, ty, rPick, rIbin, rBin, wideB, eqB, strB, rUn, rConv, rFieldAddr, rIndexAddr, rLoad, rField, rLen, rCap, rMax, rMin, rSlice, isRow, WCut, WZer, rBuild, toB, asRead, asAny, bound, flatOk, flat, lay, fillS, placesOf, id, reduceCtorEq, reduceIte, Nat.reduceMul, Nat.reduceAdd, Nat.reduceLT, Nat.reduceLeDiff, Nat.reduceEqDiff, Int.reduceLT, thenK, blockK, retK, resHolds, resVR, VR.holds, roArg, roPtr, roArgS, roSl, Int.reduceBEq, Int.reduceBNe, frz, frzOne, rNilCheck, rIndex, retM, retMK, argM, WClr, WBT, keepW, Nat.reduceBEq, res_one, res_ro, List.append_nil, Int.toNat_zero, Nat.sub_self, resRow, Int.reduceLE, Int.reduceLT, decide_true, decide_false, Int.reduceAdd, ans_eqs, List.all_cons, List.all_nil, id_eq, Res.cs, envSim, idSim, ownLe, Own.le, Option.some.injEq, eq_self, true_or, false_or, or_false, exists_eq_left', exists_eq_left, exists_eq, exists_eq', SV.op.injEq, SV.os.injEq, SV.i.injEq, exists_false, and_false, false_and]
      · refine wcall_slice (hmore F _ _) rfl rfl ?_
        rintro r ⟨q, hq, rfl⟩
        simp -implicitDefEqProofs only [evr, ty, rPick, rIbin, rBin, wideB, eqB, strB, rUn, rConv, rFieldAddr, rIndexAddr, rLoad, rField, rLen, rCap, rMax, rMin, rSlice, isRow, WCut, WZer, rBuild, toB, asRead, asAny, bound, flatOk, flat, lay, fillS, placesOf, id, reduceCtorEq, reduceIte, Nat.reduceMul, Nat.reduceAdd, Nat.reduceLT, Nat.reduceLeDiff, Nat.reduceEqDiff, Int.reduceLT, thenK, blockK, retK, resHolds, resVR, VR.holds, roArg, roPtr, roArgS, roSl, Int.reduceBEq, Int.reduceBNe, frz, frzOne, rNilCheck, rIndex, retM, retMK, argM, WClr, WBT, keepW, Nat.reduceBEq, res_one, res_ro, List.append_nil, Int.toNat_zero, Nat.sub_self, resRow, Int.reduceLE, Int.reduceLT, decide_true, decide_false, Int.reduceAdd, ans_eqs, List.all_cons, List.all_nil, id_eq, ledS]
        intro blk
        refine hk _ ⟨(q, blk), hq⟩ [0, 1, 2] ⟨rfl, ?_, by decide, ?_⟩
        all_goals simp -implicitDefEqProofs only [evr, ty, rPick, rIbin, rBin, wideB, eqB, strB, rUn, rConv, rFieldAddr, rIndexAddr, rLoad, rField, rLen, rCap, rMax, rMin, rSlice, isRow, WCut, WZer, rBuild, toB, asRead, asAny, bound, flatOk, flat, lay, fillS, placesOf, id, reduceCtorEq, reduceIte, Nat.reduceMul, Nat.reduceAdd, Nat.reduceLT, Nat.reduceLeDiff, Nat.reduceEqDiff, Int.reduceLT, thenK, blockK, retK, resHolds, resVR, VR.holds, roArg, roPtr, roArgS, roSl, Int.reduceBEq, Int.reduceBNe, frz, frzOne, rNilCheck, rIndex, retM, retMK, argM, WClr, WBT, keepW, Nat.reduceBEq, res_one, res_ro, List.append_nil, Int.toNat_zero, Nat.sub_self, resRow, Int.reduceLE, Int.reduceLT, decide_true, decide_false, Int.reduceAdd, ans_eqs, List.all_cons, List.all_nil, id_eq, Res.cs, envSim, idSim, ownLe, Own.le, Option.some.injEq, eq_self, true_or, false_or, or_false, exists_eq_left', exists_eq_left, exists_eq, exists_eq', SV.op.injEq, SV.os.injEq, SV.i.injEq, exists_false, and_false, false_and]
    rintro ⟨⟨q, blk7⟩, hq⟩
    simp only at hq ⊢
    simp only [thenK]
    (repeat refine Sat.seq ?_)
    (refine Sat.region_k fun k hk => ?_; simp -implicitDefEqProofs only [evr, ty, rPick, rIbin, rBin, wideB, eqB, strB, rUn, rConv, rFieldAddr, rIndexAddr, rLoad, rField, rLen, rCap, rMax, rMin, rSlice, isRow, WCut, WZer, rBuild, toB, asRead, asAny, bound, flatOk, flat, lay, fillS, placesOf, id, reduceCtorEq, reduceIte, Nat.reduceMul, Nat.reduceAdd, Nat.reduceLT, Nat.reduceLeDiff, Nat.reduceEqDiff, Int.reduceLT, thenK, blockK, retK, resHolds, resVR, VR.holds, roArg, roPtr, roArgS, roSl, Int.reduceBEq, Int.reduceBNe, frz, frzOne, rNilCheck, rIndex, retM, retMK, argM, WClr, WBT, keepW, Nat.reduceBEq, res_one, res_ro, List.append_nil, Int.toNat_zero, Nat.sub_self, resRow, Int.reduceLE, Int.reduceLT, decide_true, decide_false, Int.reduceAdd, ans_eqs, List.all_cons, List.all_nil, id_eq])
    refine ⟨by omega, fun blk9 => ?_⟩
    (refine hk _ ?_; clear hk k; try show Sat _ _ _ _ _)
    have er : ∀ j, resRd c.toArray 0 j = (Res.cs ⟨0, 0, 0, 0, 0, 17, 0, 1, false, false, 0, 0, 0, 0, 0, 0, 0⟩).getD j default := fun j => by
      unfold resRd
      rw [List.getElem!_toArray]
      have : c[0]! = gen 0 := by
        rw [getElem!_def, h0]
      rw [this]
      rfl
    simp only [er, Res.cs, List.getD_cons_zero, List.getD_cons_succ]
    have e6 : (m : Int).tmod 200 = ((m % 200 : Nat) : Int) := by rw [Int.tmod_eq_emod_of_nonneg (by omega)]; omega
    have e7 : IntKind.i64.wrap (2 + ((m % 200 : Nat) : Int)) = ((2 + m % 200 : Nat) : Int) := by rw [w64 (by omega)]; omega
    (repeat refine Sat.seq ?_)
    refine Sat.region_k fun k hk => ?_
    simp -implicitDefEqProofs only [evr, ty, rPick, rIbin, rBin, wideB, eqB, strB, rUn, rConv, rFieldAddr, rIndexAddr, rLoad, rField, rLen, rCap, rMax, rMin, rSlice, isRow, WCut, WZer, rBuild, toB, asRead, asAny, bound, flatOk, flat, lay, fillS, placesOf, id, reduceCtorEq, reduceIte, Nat.reduceMul, Nat.reduceAdd, Nat.reduceLT, Nat.reduceLeDiff, Nat.reduceEqDiff, Int.reduceLT, thenK, blockK, retK, resHolds, resVR, VR.holds, roArg, roPtr, roArgS, roSl, Int.reduceBEq, Int.reduceBNe, frz, frzOne, rNilCheck, rIndex, retM, retMK, argM, WClr, WBT, keepW, Nat.reduceBEq, res_one, res_ro, List.append_nil, Int.toNat_zero, Nat.sub_self, resRow, Int.reduceLE, Int.reduceLT, decide_true, decide_false, Int.reduceAdd, ans_eqs, List.all_cons, List.all_nil, id_eq, em, e6, e7]
    refine ⟨by decide, hk _ ?_⟩
    simp only [thenK]
    (repeat refine Sat.seq ?_)
    (refine Sat.region_k fun k hk => ?_; simp -implicitDefEqProofs only [evr, ty, rPick, rIbin, rBin, wideB, eqB, strB, rUn, rConv, rFieldAddr, rIndexAddr, rLoad, rField, rLen, rCap, rMax, rMin, rSlice, isRow, WCut, WZer, rBuild, toB, asRead, asAny, bound, flatOk, flat, lay, fillS, placesOf, id, reduceCtorEq, reduceIte, Nat.reduceMul, Nat.reduceAdd, Nat.reduceLT, Nat.reduceLeDiff, Nat.reduceEqDiff, Int.reduceLT, thenK, blockK, retK, resHolds, resVR, VR.holds, roArg, roPtr, roArgS, roSl, Int.reduceBEq, Int.reduceBNe, frz, frzOne, rNilCheck, rIndex, retM, retMK, argM, WClr, WBT, keepW, Nat.reduceBEq, res_one, res_ro, List.append_nil, Int.toNat_zero, Nat.sub_self, resRow, Int.reduceLE, Int.reduceLT, decide_true, decide_false, Int.reduceAdd, ans_eqs, List.all_cons, List.all_nil, id_eq])
    intro blk12
    have hn1 : ttlR ((2 + m % 200 : Nat) : Int) ∉ c := fun h => by
      have := hids _ h
      simp only [ttlR] at this
      omega
    have hone : ∀ (F : Frm), Contract F Try.prog 12 [ledS p, .sl (some ⟨blk12, 0, none⟩) 1 1 17 (rdL ([ttlR ((2 + m % 200 : Nat) : Int)].map Res.cs).flatten 17)] (fun r => ∃ q : LedP, q.led = ⟨[], []⟩ ∧ r = tupL [ledS q, .i .i64 5]) := fun F => by
      refine (Contract.of_sim (args := [_, _]) (addC F p (by omega) (some ⟨blk12, 0, none⟩) 1 [ttlR ((2 + m % 200 : Nat) : Int)] (by simp; omega)) ⟨sim_refl _, sim_sl (rdL_res [ttlR ((2 + m % 200 : Nat) : Int)]), trivial⟩).mono ?_
      rintro r ⟨q, c2, e, k1, k2, k3, k4, rfl⟩
      have hlen2 : c2.length = 16385 := by
        rw [canon_len k1 ?_, hall, List.length_append, hlen]
        · rfl
        · rw [hall, List.nodup_append]
          refine ⟨hnd, by simp, fun a ha b hb => ?_⟩
          have : b = ttlR ((2 + m % 200 : Nat) : Int) := by simpa using hb
          subst this
          intro e
          subst e
          exact hn1 ha
      rcases k3 with k3 | k3
      · exact absurd k3.1 (by omega)
      · obtain ⟨_, rfl, k3⟩ := k3
        exact ⟨q, k3, rfl⟩
    refine wcall_slice (hone F) rfl (by simp -implicitDefEqProofs only [evr, ty, rPick, rIbin, rBin, wideB, eqB, strB, rUn, rConv, rFieldAddr, rIndexAddr, rLoad, rField, rLen, rCap, rMax, rMin, rSlice, isRow, WCut, WZer, rBuild, toB, asRead, asAny, bound, flatOk, flat, lay, fillS, placesOf, id, reduceCtorEq, reduceIte, Nat.reduceMul, Nat.reduceAdd, Nat.reduceLT, Nat.reduceLeDiff, Nat.reduceEqDiff, Int.reduceLT, thenK, blockK, retK, resHolds, resVR, VR.holds, roArg, roPtr, roArgS, roSl, Int.reduceBEq, Int.reduceBNe, frz, frzOne, rNilCheck, rIndex, retM, retMK, argM, WClr, WBT, keepW, Nat.reduceBEq, res_one, res_ro, List.append_nil, Int.toNat_zero, Nat.sub_self, resRow, Int.reduceLE, Int.reduceLT, decide_true, decide_false, Int.reduceAdd, ans_eqs, List.all_cons, List.all_nil, id_eq]; rfl) ?_
    rintro r ⟨q3, hq3, rfl⟩
    simp -implicitDefEqProofs only [evr, ty, rPick, rIbin, rBin, wideB, eqB, strB, rUn, rConv, rFieldAddr, rIndexAddr, rLoad, rField, rLen, rCap, rMax, rMin, rSlice, isRow, WCut, WZer, rBuild, toB, asRead, asAny, bound, flatOk, flat, lay, fillS, placesOf, id, reduceCtorEq, reduceIte, Nat.reduceMul, Nat.reduceAdd, Nat.reduceLT, Nat.reduceLeDiff, Nat.reduceEqDiff, Int.reduceLT, thenK, blockK, retK, resHolds, resVR, VR.holds, roArg, roPtr, roArgS, roSl, Int.reduceBEq, Int.reduceBNe, frz, frzOne, rNilCheck, rIndex, retM, retMK, argM, WClr, WBT, keepW, Nat.reduceBEq, res_one, res_ro, List.append_nil, Int.toNat_zero, Nat.sub_self, resRow, Int.reduceLE, Int.reduceLT, decide_true, decide_false, Int.reduceAdd, ans_eqs, List.all_cons, List.all_nil, id_eq, ledS]
    intro blk10
    (refine hk _ ?_; clear hk k; try show Sat _ _ _ _ _)
    have hq3r : q3.rs.length = 0 := by
      have := congrArg (fun l => l.rs.length) hq3
      simpa [LedP.led] using this
    have hsame : decide (p.led = q.led) = true := decide_eq_true (by rw [hled, hq])
    have hqsz : q.led.size = 16384 := by rw [hq]; simp [Led.size, Led.all, hlen]
    have hqcs : q.cs.length = 0 := by
      have := congrArg (fun l => l.cs.length) hq
      simpa [LedP.led] using this
    (repeat refine Sat.seq ?_)
    (refine Sat.region_k fun k hk => ?_; simp -implicitDefEqProofs only [evr, ty, rPick, rIbin, rBin, wideB, eqB, strB, rUn, rConv, rFieldAddr, rIndexAddr, rLoad, rField, rLen, rCap, rMax, rMin, rSlice, isRow, WCut, WZer, rBuild, toB, asRead, asAny, bound, flatOk, flat, lay, fillS, placesOf, id, reduceCtorEq, reduceIte, Nat.reduceMul, Nat.reduceAdd, Nat.reduceLT, Nat.reduceLeDiff, Nat.reduceEqDiff, Int.reduceLT, thenK, blockK, retK, resHolds, resVR, VR.holds, roArg, roPtr, roArgS, roSl, Int.reduceBEq, Int.reduceBNe, frz, frzOne, rNilCheck, rIndex, retM, retMK, argM, WClr, WBT, keepW, Nat.reduceBEq, res_one, res_ro, List.append_nil, Int.toNat_zero, Nat.sub_self, resRow, Int.reduceLE, Int.reduceLT, decide_true, decide_false, Int.reduceAdd, ans_eqs, List.all_cons, List.all_nil, id_eq])
    refine wcall_plain (check0C F ((2 + m % 200 : Nat) : Int) (by omega) (by omega)) rfl (by rintro _ rfl; exact ok_plain rfl) ?_
    rintro r rfl
    simp -implicitDefEqProofs only [evr, ty, rPick, rIbin, rBin, wideB, eqB, strB, rUn, rConv, rFieldAddr, rIndexAddr, rLoad, rField, rLen, rCap, rMax, rMin, rSlice, isRow, WCut, WZer, rBuild, toB, asRead, asAny, bound, flatOk, flat, lay, fillS, placesOf, id, reduceCtorEq, reduceIte, Nat.reduceMul, Nat.reduceAdd, Nat.reduceLT, Nat.reduceLeDiff, Nat.reduceEqDiff, Int.reduceLT, thenK, blockK, retK, resHolds, resVR, VR.holds, roArg, roPtr, roArgS, roSl, Int.reduceBEq, Int.reduceBNe, frz, frzOne, rNilCheck, rIndex, retM, retMK, argM, WClr, WBT, keepW, Nat.reduceBEq, res_one, res_ro, List.append_nil, Int.toNat_zero, Nat.sub_self, resRow, Int.reduceLE, Int.reduceLT, decide_true, decide_false, Int.reduceAdd, ans_eqs, List.all_cons, List.all_nil, id_eq]
    refine wcall_plain (sameC F p q (by omega) (by omega) (by omega) (by omega)) rfl (by rintro _ rfl; exact ok_plain rfl) ?_
    rintro r rfl
    simp only [hsame]
    simp -implicitDefEqProofs only [evr, ty, rPick, rIbin, rBin, wideB, eqB, strB, rUn, rConv, rFieldAddr, rIndexAddr, rLoad, rField, rLen, rCap, rMax, rMin, rSlice, isRow, WCut, WZer, rBuild, toB, asRead, asAny, bound, flatOk, flat, lay, fillS, placesOf, id, reduceCtorEq, reduceIte, Nat.reduceMul, Nat.reduceAdd, Nat.reduceLT, Nat.reduceLeDiff, Nat.reduceEqDiff, Int.reduceLT, thenK, blockK, retK, resHolds, resVR, VR.holds, roArg, roPtr, roArgS, roSl, Int.reduceBEq, Int.reduceBNe, frz, frzOne, rNilCheck, rIndex, retM, retMK, argM, WClr, WBT, keepW, Nat.reduceBEq, res_one, res_ro, List.append_nil, Int.toNat_zero, Nat.sub_self, resRow, Int.reduceLE, Int.reduceLT, decide_true, decide_false, Int.reduceAdd, ans_eqs, List.all_cons, List.all_nil, id_eq, hq3r]
    (refine hk _ ?_; clear hk k; try show Sat _ _ _ _ _)
    refine Sat.ret ?_
    simp only [Try.results4, evr, ty, rPick, rIbin, rBin, wideB, eqB, strB, rUn, rConv, rFieldAddr, rIndexAddr, rLoad, rField, rLen, rCap, rMax, rMin, rSlice, isRow, WCut, WZer, rBuild, toB, asRead, asAny, bound, flatOk, flat, lay, fillS, placesOf, id, reduceCtorEq, reduceIte, Nat.reduceMul, Nat.reduceAdd, Nat.reduceLT, Nat.reduceLeDiff, Nat.reduceEqDiff, Int.reduceLT, thenK, blockK, retK, resHolds, resVR, VR.holds, roArg, roPtr, roArgS, roSl, Int.reduceBEq, Int.reduceBNe, frz, frzOne, rNilCheck, rIndex, retM, retMK, argM, WClr, WBT, keepW, Nat.reduceBEq, res_one, res_ro, List.append_nil, Int.toNat_zero, Nat.sub_self, resRow, Int.reduceLE, Int.reduceLT, decide_true, decide_false, Int.reduceAdd, ans_eqs, List.all_cons, List.all_nil, id_eq]
    try rfl
end Go.Proofs.Ythhofjkbmnklmaa
