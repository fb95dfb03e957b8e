/- Samples drawn, by the evaluator. -/
import Derived.Test.YtchpegjadoodnaaDiceE
import Derived.Test.YtchpegjadoodnaaSmpE
set_option linter.unusedSimpArgs false
set_option linter.unusedVariables false
namespace Go.Proofs.Ytchpegjadoodnaa
open Eng

theorem getD_append_lt {l : List Smp} {x : Smp} {i : Nat} (h : i < l.length) : (l ++ [x]).getD i default = l.getD i default := by simp [List.getD, List.getElem?_append_left h]
theorem getD_append_eq {l : List Smp} {x : Smp} : (l ++ [x]).getD l.length default = x := by simp [List.getD]

/-- what Samples gives back: a valid list of at most most samples -/
def SmpPost (most : Nat) (r : SV) : Prop := ∃ (a : Option Addr) (cap : Nat) (l : List Smp), r = slS a cap l ∧ l.length ≤ most ∧ validL l = true

set_option maxRecDepth 100000 in
theorem samplesC (cb most : Nat) (hm : most ≤ 100) : Contract (Frm.codes cb) Try.prog 10 [ptr cb, .i .i64 most] (SmpPost most) := by
  refine contract_of Try.func10 rfl (by kernel_rfl) ?_
  simp only [Try.ntmps10, argEnv, ptr]
  (repeat refine Sat.seq ?_)
  (refine Sat.region_k fun k hk => ?_; simp -implicitDefEqProofs only [evr, ty, rPick, rIbin, rBin, wideB, eqB, strB, rUn, rConv, rFieldAddr, rIndexAddr, rLoad, rField, rLen, rCap, rMax, rMin, rSlice, isRow, WCut, WZer, rBuild, toB, asRead, asAny, bound, flatOk, flat, lay, fillS, placesOf, id, ne_eq, reduceCtorEq, if_true, if_false, reduceIte, forall_const, decide_true, decide_eq_true_eq, decide_eq_false_iff_not, Nat.reduceMul, Nat.reduceAdd, Nat.reduceLT, Nat.reduceLeDiff, Nat.reduceEqDiff, Int.reduceLT, thenK, blockK, retK, resHolds, resVR, VR.holds, ro, roArg, roPtr, roArgS, roSl, beq_self_eq_true, eq_self, implies_true, Int.reduceBEq, Int.reduceBNe, frz, frzOne, bne_self_eq_false, rNilCheck, rIndex, retM, retMK, argM, ptr, Smp.cs, slS]; refine hk _ ?_; clear hk k; try show Sat _ _ _ _ _)
  (repeat refine Sat.seq ?_)
  (refine Sat.region_k fun k hk => ?_; simp -implicitDefEqProofs only [evr, ty, rPick, rIbin, rBin, wideB, eqB, strB, rUn, rConv, rFieldAddr, rIndexAddr, rLoad, rField, rLen, rCap, rMax, rMin, rSlice, isRow, WCut, WZer, rBuild, toB, asRead, asAny, bound, flatOk, flat, lay, fillS, placesOf, id, ne_eq, reduceCtorEq, if_true, if_false, reduceIte, forall_const, decide_true, decide_eq_true_eq, decide_eq_false_iff_not, Nat.reduceMul, Nat.reduceAdd, Nat.reduceLT, Nat.reduceLeDiff, Nat.reduceEqDiff, Int.reduceLT, thenK, blockK, retK, resHolds, resVR, VR.holds, ro, roArg, roPtr, roArgS, roSl, beq_self_eq_true, eq_self, implies_true, Int.reduceBEq, Int.reduceBNe, frz, frzOne, bne_self_eq_false, rNilCheck, rIndex, retM, retMK, argM, ptr, Smp.cs, slS]; refine hk _ ?_; clear hk k; try show Sat _ _ _ _ _)
  (repeat refine Sat.seq ?_)
  (refine Sat.region_k fun k hk => ?_; simp -implicitDefEqProofs only [evr, ty, rPick, rIbin, rBin, wideB, eqB, strB, rUn, rConv, rFieldAddr, rIndexAddr, rLoad, rField, rLen, rCap, rMax, rMin, rSlice, isRow, WCut, WZer, rBuild, toB, asRead, asAny, bound, flatOk, flat, lay, fillS, placesOf, id, ne_eq, reduceCtorEq, if_true, if_false, reduceIte, forall_const, decide_true, decide_eq_true_eq, decide_eq_false_iff_not, Nat.reduceMul, Nat.reduceAdd, Nat.reduceLT, Nat.reduceLeDiff, Nat.reduceEqDiff, Int.reduceLT, thenK, blockK, retK, resHolds, resVR, VR.holds, ro, roArg, roPtr, roArgS, roSl, beq_self_eq_true, eq_self, implies_true, Int.reduceBEq, Int.reduceBNe, frz, frzOne, bne_self_eq_false, rNilCheck, rIndex, retM, retMK, argM, ptr, Smp.cs, slS])
  refine wcall_plain (nextC cb 100 (by omega) (by omega)) rfl (by rintro _ ⟨x, rfl, _⟩; exact ok_plain rfl) ?_
  rintro r ⟨at0, rfl, ha0, ha1⟩
  simp -implicitDefEqProofs only [evr, ty, rPick, rIbin, rBin, wideB, eqB, strB, rUn, rConv, rFieldAddr, rIndexAddr, rLoad, rField, rLen, rCap, rMax, rMin, rSlice, isRow, WCut, WZer, rBuild, toB, asRead, asAny, bound, flatOk, flat, lay, fillS, placesOf, id, ne_eq, reduceCtorEq, if_true, if_false, reduceIte, forall_const, decide_true, decide_eq_true_eq, decide_eq_false_iff_not, Nat.reduceMul, Nat.reduceAdd, Nat.reduceLT, Nat.reduceLeDiff, Nat.reduceEqDiff, Int.reduceLT, thenK, blockK, retK, resHolds, resVR, VR.holds, ro, roArg, roPtr, roArgS, roSl, beq_self_eq_true, eq_self, implies_true, Int.reduceBEq, Int.reduceBNe, frz, frzOne, bne_self_eq_false, rNilCheck, rIndex, retM, retMK, argM, ptr, Smp.cs, slS]
  refine wcall_plain (nextC cb 65536 (by omega) (by omega)) rfl (by rintro _ ⟨x, rfl, _⟩; exact ok_plain rfl) ?_
  rintro r ⟨id0, rfl, hi0, hi1⟩
  simp -implicitDefEqProofs only [evr, ty, rPick, rIbin, rBin, wideB, eqB, strB, rUn, rConv, rFieldAddr, rIndexAddr, rLoad, rField, rLen, rCap, rMax, rMin, rSlice, isRow, WCut, WZer, rBuild, toB, asRead, asAny, bound, flatOk, flat, lay, fillS, placesOf, id, ne_eq, reduceCtorEq, if_true, if_false, reduceIte, forall_const, decide_true, decide_eq_true_eq, decide_eq_false_iff_not, Nat.reduceMul, Nat.reduceAdd, Nat.reduceLT, Nat.reduceLeDiff, Nat.reduceEqDiff, Int.reduceLT, thenK, blockK, retK, resHolds, resVR, VR.holds, ro, roArg, roPtr, roArgS, roSl, beq_self_eq_true, eq_self, implies_true, Int.reduceBEq, Int.reduceBNe, frz, frzOne, bne_self_eq_false, rNilCheck, rIndex, retM, retMK, argM, ptr, Smp.cs, slS]
  (refine hk _ ?_; clear hk k; try show Sat _ _ _ _ _)
  (repeat refine Sat.seq ?_)
  have ew : IntKind.i64.wrap ((most : Int) + 1) = (most : Int) + 1 := w64 (by omega)
  refine Sat.region_k fun k hk => ?_
  simp -implicitDefEqProofs only [evr, ty, rPick, rIbin, rBin, wideB, eqB, strB, rUn, rConv, rFieldAddr, rIndexAddr, rLoad, rField, rLen, rCap, rMax, rMin, rSlice, isRow, WCut, WZer, rBuild, toB, asRead, asAny, bound, flatOk, flat, lay, fillS, placesOf, id, ne_eq, reduceCtorEq, if_true, if_false, reduceIte, forall_const, decide_true, decide_eq_true_eq, decide_eq_false_iff_not, Nat.reduceMul, Nat.reduceAdd, Nat.reduceLT, Nat.reduceLeDiff, Nat.reduceEqDiff, Int.reduceLT, thenK, blockK, retK, resHolds, resVR, VR.holds, ro, roArg, roPtr, roArgS, roSl, beq_self_eq_true, eq_self, implies_true, Int.reduceBEq, Int.reduceBNe, frz, frzOne, bne_self_eq_false, rNilCheck, rIndex, retM, retMK, argM, ptr, Smp.cs, slS, ew]
  refine wcall_plain (nextC cb ((most : Int) + 1) (by omega) (by omega)) rfl (by rintro _ ⟨x, rfl, _⟩; exact ok_plain rfl) ?_
  rintro r ⟨n0, rfl, hn0, hn1⟩
  obtain ⟨n0, rfl⟩ := Int.eq_ofNat_of_zero_le hn0
  have hn2 : n0 ≤ most := by omega
  simp -implicitDefEqProofs only [evr, ty, rPick, rIbin, rBin, wideB, eqB, strB, rUn, rConv, rFieldAddr, rIndexAddr, rLoad, rField, rLen, rCap, rMax, rMin, rSlice, isRow, WCut, WZer, rBuild, toB, asRead, asAny, bound, flatOk, flat, lay, fillS, placesOf, id, ne_eq, reduceCtorEq, if_true, if_false, reduceIte, forall_const, decide_true, decide_eq_true_eq, decide_eq_false_iff_not, Nat.reduceMul, Nat.reduceAdd, Nat.reduceLT, Nat.reduceLeDiff, Nat.reduceEqDiff, Int.reduceLT, thenK, blockK, retK, resHolds, resVR, VR.holds, ro, roArg, roPtr, roArgS, roSl, beq_self_eq_true, eq_self, implies_true, Int.reduceBEq, Int.reduceBNe, frz, frzOne, bne_self_eq_false, rNilCheck, rIndex, retM, retMK, argM, ptr, Smp.cs, slS]
  (refine hk _ ?_; clear hk k; try show Sat _ _ _ _ _)
  refine Sat.block ?_
  refine Sat.adopt 5 39 4 (fun i j => (([] : List Smp).getD i default).cs.getD j default) rfl ?_
  refine Sat.loop (ι := Nat × List Smp × Int × Int × Option Addr × Nat) (fun x => ⟨62, [(8, .i .i64 x.1), (6, .i .i64 x.2.2.1), (7, .i .i64 x.2.2.2.1), (5, .os 0 x.2.2.2.2.1 x.2.1.length x.2.2.2.2.2), (0, ptr cb)], [.row x.2.2.2.2.1 39 x.2.1.length x.2.2.2.2.2 4 (fun i j => (x.2.1.getD i default).cs.getD j default)]⟩)
    (fun x => x.1 + x.2.1.length ≤ most ∧ validL x.2.1 = true ∧ 0 ≤ x.2.2.1 ∧ x.2.2.1 ≤ 100 + 880000 * (x.2.1.length : Int) ∧ (0 < x.2.1.length → (x.2.1.getD (x.2.1.length - 1) default).back ≤ x.2.2.1) ∧ 0 ≤ x.2.2.2.1 ∧ x.2.2.2.1 ≤ 65536 + 4000 * (x.2.1.length : Int))
    (fun x => x.1) (n0, [], at0, id0, none, 0) ⟨by simpa using hn2, (by decide : validL [] = true), ha0, by simp; omega, fun h => absurd h (by simp), hi0, by simp; omega⟩ (by simp -implicitDefEqProofs only [evr, ty, rPick, rIbin, rBin, wideB, eqB, strB, rUn, rConv, rFieldAddr, rIndexAddr, rLoad, rField, rLen, rCap, rMax, rMin, rSlice, isRow, WCut, WZer, rBuild, toB, asRead, asAny, bound, flatOk, flat, lay, fillS, placesOf, id, ne_eq, reduceCtorEq, if_true, if_false, reduceIte, forall_const, decide_true, decide_eq_true_eq, decide_eq_false_iff_not, Nat.reduceMul, Nat.reduceAdd, Nat.reduceLT, Nat.reduceLeDiff, Nat.reduceEqDiff, Int.reduceLT, thenK, blockK, retK, resHolds, resVR, VR.holds, ro, roArg, roPtr, roArgS, roSl, beq_self_eq_true, eq_self, implies_true, Int.reduceBEq, Int.reduceBNe, frz, frzOne, bne_self_eq_false, rNilCheck, rIndex, retM, retMK, argM, ptr, Smp.cs, slS, Le, envLe, ownLe, Own.le, Option.some.injEq, eq_self, true_or, false_or, or_false, exists_eq_left', exists_eq_left, exists_eq, exists_eq', SV.i.injEq, SV.b.injEq, rdEq_same, exists_false, and_false, false_and]) ?_
  rintro ⟨m, l, at1, id1, a, c⟩ ⟨hml, hv, hat0, hat1, hback, hid0, hid1⟩
  simp only at hml hv hat0 hat1 hback hid0 hid1 ⊢
  (repeat refine Sat.seq ?_)
  (refine Sat.region_k fun k hk => ?_; simp -implicitDefEqProofs only [evr, ty, rPick, rIbin, rBin, wideB, eqB, strB, rUn, rConv, rFieldAddr, rIndexAddr, rLoad, rField, rLen, rCap, rMax, rMin, rSlice, isRow, WCut, WZer, rBuild, toB, asRead, asAny, bound, flatOk, flat, lay, fillS, placesOf, id, ne_eq, reduceCtorEq, if_true, if_false, reduceIte, forall_const, decide_true, decide_eq_true_eq, decide_eq_false_iff_not, Nat.reduceMul, Nat.reduceAdd, Nat.reduceLT, Nat.reduceLeDiff, Nat.reduceEqDiff, Int.reduceLT, thenK, blockK, retK, resHolds, resVR, VR.holds, ro, roArg, roPtr, roArgS, roSl, beq_self_eq_true, eq_self, implies_true, Int.reduceBEq, Int.reduceBNe, frz, frzOne, bne_self_eq_false, rNilCheck, rIndex, retM, retMK, argM, ptr, Smp.cs, slS]; refine hk _ ?_; clear hk k; try show Sat _ _ _ _ _)
  refine Sat.cond_b rfl (fun h => ?_) (fun h => ?_)
  · simp only [decide_eq_true_eq] at h
    refine Sat.skip ?_
    simp only [thenK]
    (repeat refine Sat.seq ?_)
    refine Sat.block ?_
    (repeat refine Sat.seq ?_)
    (refine Sat.region_k fun k hk => ?_; simp -implicitDefEqProofs only [evr, ty, rPick, rIbin, rBin, wideB, eqB, strB, rUn, rConv, rFieldAddr, rIndexAddr, rLoad, rField, rLen, rCap, rMax, rMin, rSlice, isRow, WCut, WZer, rBuild, toB, asRead, asAny, bound, flatOk, flat, lay, fillS, placesOf, id, ne_eq, reduceCtorEq, if_true, if_false, reduceIte, forall_const, decide_true, decide_eq_true_eq, decide_eq_false_iff_not, Nat.reduceMul, Nat.reduceAdd, Nat.reduceLT, Nat.reduceLeDiff, Nat.reduceEqDiff, Int.reduceLT, thenK, blockK, retK, resHolds, resVR, VR.holds, ro, roArg, roPtr, roArgS, roSl, beq_self_eq_true, eq_self, implies_true, Int.reduceBEq, Int.reduceBNe, frz, frzOne, bne_self_eq_false, rNilCheck, rIndex, retM, retMK, argM, ptr, Smp.cs, slS])
    intro blk1
    refine wcall_plain (pickI cb blk1 [1, 10, 1000, 30000] (fun x => 0 ≤ x ∧ x ≤ 30000) (by decide) (by decide) (by simp)) (by simp -implicitDefEqProofs only [evr, ty, rPick, rIbin, rBin, wideB, eqB, strB, rUn, rConv, rFieldAddr, rIndexAddr, rLoad, rField, rLen, rCap, rMax, rMin, rSlice, isRow, WCut, WZer, rBuild, toB, asRead, asAny, bound, flatOk, flat, lay, fillS, placesOf, id, ne_eq, reduceCtorEq, if_true, if_false, reduceIte, forall_const, decide_true, decide_eq_true_eq, decide_eq_false_iff_not, Nat.reduceMul, Nat.reduceAdd, Nat.reduceLT, Nat.reduceLeDiff, Nat.reduceEqDiff, Int.reduceLT, thenK, blockK, retK, resHolds, resVR, VR.holds, ro, roArg, roPtr, roArgS, roSl, beq_self_eq_true, eq_self, implies_true, Int.reduceBEq, Int.reduceBNe, frz, frzOne, bne_self_eq_false, rNilCheck, rIndex, retM, retMK, argM, ptr, Smp.cs, slS]) plain_pick ?_
    rintro r ⟨p, rfl, hp0, hp1⟩
    simp -implicitDefEqProofs only [evr, ty, rPick, rIbin, rBin, wideB, eqB, strB, rUn, rConv, rFieldAddr, rIndexAddr, rLoad, rField, rLen, rCap, rMax, rMin, rSlice, isRow, WCut, WZer, rBuild, toB, asRead, asAny, bound, flatOk, flat, lay, fillS, placesOf, id, ne_eq, reduceCtorEq, if_true, if_false, reduceIte, forall_const, decide_true, decide_eq_true_eq, decide_eq_false_iff_not, Nat.reduceMul, Nat.reduceAdd, Nat.reduceLT, Nat.reduceLeDiff, Nat.reduceEqDiff, Int.reduceLT, thenK, blockK, retK, resHolds, resVR, VR.holds, ro, roArg, roPtr, roArgS, roSl, beq_self_eq_true, eq_self, implies_true, Int.reduceBEq, Int.reduceBNe, frz, frzOne, bne_self_eq_false, rNilCheck, rIndex, retM, retMK, argM, ptr, Smp.cs, slS]
    refine wcall_plain (nextC cb 30 (by omega) (by omega)) rfl (by rintro _ ⟨x, rfl, _⟩; exact ok_plain rfl) ?_
    rintro r ⟨q, rfl, hq0, hq1⟩
    have hpq0 : 0 ≤ p * q := Int.mul_nonneg hp0 hq0
    have hpq1 : p * q ≤ 30000 * 29 := Int.le_trans (Int.mul_le_mul_of_nonneg_right hp1 hq0) (Int.mul_le_mul_of_nonneg_left (by omega) (by omega))
    have e1 : IntKind.i64.wrap (p * q) = p * q := w64 (by omega)
    have e2 : IntKind.i64.wrap (1 + p * q) = 1 + p * q := w64 (by omega)
    have e3 : IntKind.i64.wrap (at1 + (1 + p * q)) = at1 + (1 + p * q) := w64 (by omega)
    simp -implicitDefEqProofs only [evr, ty, rPick, rIbin, rBin, wideB, eqB, strB, rUn, rConv, rFieldAddr, rIndexAddr, rLoad, rField, rLen, rCap, rMax, rMin, rSlice, isRow, WCut, WZer, rBuild, toB, asRead, asAny, bound, flatOk, flat, lay, fillS, placesOf, id, ne_eq, reduceCtorEq, if_true, if_false, reduceIte, forall_const, decide_true, decide_eq_true_eq, decide_eq_false_iff_not, Nat.reduceMul, Nat.reduceAdd, Nat.reduceLT, Nat.reduceLeDiff, Nat.reduceEqDiff, Int.reduceLT, thenK, blockK, retK, resHolds, resVR, VR.holds, ro, roArg, roPtr, roArgS, roSl, beq_self_eq_true, eq_self, implies_true, Int.reduceBEq, Int.reduceBNe, frz, frzOne, bne_self_eq_false, rNilCheck, rIndex, retM, retMK, argM, ptr, Smp.cs, slS, e1, e2, e3]
    (refine hk _ ?_; clear hk k; try show Sat _ _ _ _ _)
    generalize hat2 : at1 + (1 + p * q) = at2
    have h2a : at1 < at2 ∧ at2 ≤ at1 + 870001 := by omega
    clear e1 e2 e3 hpq0 hpq1 hat2
    (repeat refine Sat.seq ?_)
    (refine Sat.region_k fun k hk => ?_; simp -implicitDefEqProofs only [evr, ty, rPick, rIbin, rBin, wideB, eqB, strB, rUn, rConv, rFieldAddr, rIndexAddr, rLoad, rField, rLen, rCap, rMax, rMin, rSlice, isRow, WCut, WZer, rBuild, toB, asRead, asAny, bound, flatOk, flat, lay, fillS, placesOf, id, ne_eq, reduceCtorEq, if_true, if_false, reduceIte, forall_const, decide_true, decide_eq_true_eq, decide_eq_false_iff_not, Nat.reduceMul, Nat.reduceAdd, Nat.reduceLT, Nat.reduceLeDiff, Nat.reduceEqDiff, Int.reduceLT, thenK, blockK, retK, resHolds, resVR, VR.holds, ro, roArg, roPtr, roArgS, roSl, beq_self_eq_true, eq_self, implies_true, Int.reduceBEq, Int.reduceBNe, frz, frzOne, bne_self_eq_false, rNilCheck, rIndex, retM, retMK, argM, ptr, Smp.cs, slS])
    refine wcall_plain (nextC cb 60 (by omega) (by omega)) rfl (by rintro _ ⟨x, rfl, _⟩; exact ok_plain rfl) ?_
    rintro r ⟨d, rfl, hd0, hd1⟩
    have e1 : IntKind.i64.wrap (at2 + d) = at2 + d := w64 (by omega)
    simp -implicitDefEqProofs only [evr, ty, rPick, rIbin, rBin, wideB, eqB, strB, rUn, rConv, rFieldAddr, rIndexAddr, rLoad, rField, rLen, rCap, rMax, rMin, rSlice, isRow, WCut, WZer, rBuild, toB, asRead, asAny, bound, flatOk, flat, lay, fillS, placesOf, id, ne_eq, reduceCtorEq, if_true, if_false, reduceIte, forall_const, decide_true, decide_eq_true_eq, decide_eq_false_iff_not, Nat.reduceMul, Nat.reduceAdd, Nat.reduceLT, Nat.reduceLeDiff, Nat.reduceEqDiff, Int.reduceLT, thenK, blockK, retK, resHolds, resVR, VR.holds, ro, roArg, roPtr, roArgS, roSl, beq_self_eq_true, eq_self, implies_true, Int.reduceBEq, Int.reduceBNe, frz, frzOne, bne_self_eq_false, rNilCheck, rIndex, retM, retMK, argM, ptr, Smp.cs, slS, e1]
    refine wcall_plain (addressC cb) rfl plain_addr ?_
    rintro r ⟨ad, rfl⟩
    simp -implicitDefEqProofs only [evr, ty, rPick, rIbin, rBin, wideB, eqB, strB, rUn, rConv, rFieldAddr, rIndexAddr, rLoad, rField, rLen, rCap, rMax, rMin, rSlice, isRow, WCut, WZer, rBuild, toB, asRead, asAny, bound, flatOk, flat, lay, fillS, placesOf, id, ne_eq, reduceCtorEq, if_true, if_false, reduceIte, forall_const, decide_true, decide_eq_true_eq, decide_eq_false_iff_not, Nat.reduceMul, Nat.reduceAdd, Nat.reduceLT, Nat.reduceLeDiff, Nat.reduceEqDiff, Int.reduceLT, thenK, blockK, retK, resHolds, resVR, VR.holds, ro, roArg, roPtr, roArgS, roSl, beq_self_eq_true, eq_self, implies_true, Int.reduceBEq, Int.reduceBNe, frz, frzOne, bne_self_eq_false, rNilCheck, rIndex, retM, retMK, argM, ptr, Smp.cs, slS]
    intro blk2
    (refine hk _ ?_; clear hk k; try show Sat _ _ _ _ _)
    (repeat refine Sat.seq ?_)
    (refine Sat.region_k fun k hk => ?_; simp -implicitDefEqProofs only [evr, ty, rPick, rIbin, rBin, wideB, eqB, strB, rUn, rConv, rFieldAddr, rIndexAddr, rLoad, rField, rLen, rCap, rMax, rMin, rSlice, isRow, WCut, WZer, rBuild, toB, asRead, asAny, bound, flatOk, flat, lay, fillS, placesOf, id, ne_eq, reduceCtorEq, if_true, if_false, reduceIte, forall_const, decide_true, decide_eq_true_eq, decide_eq_false_iff_not, Nat.reduceMul, Nat.reduceAdd, Nat.reduceLT, Nat.reduceLeDiff, Nat.reduceEqDiff, Int.reduceLT, thenK, blockK, retK, resHolds, resVR, VR.holds, ro, roArg, roPtr, roArgS, roSl, beq_self_eq_true, eq_self, implies_true, Int.reduceBEq, Int.reduceBNe, frz, frzOne, bne_self_eq_false, rNilCheck, rIndex, retM, retMK, argM, ptr, Smp.cs, slS]; refine hk _ ?_; clear hk k; try show Sat _ _ _ _ _)
    (repeat refine Sat.seq ?_)
    (refine Sat.region_k fun k hk => ?_; simp -implicitDefEqProofs only [evr, ty, rPick, rIbin, rBin, wideB, eqB, strB, rUn, rConv, rFieldAddr, rIndexAddr, rLoad, rField, rLen, rCap, rMax, rMin, rSlice, isRow, WCut, WZer, rBuild, toB, asRead, asAny, bound, flatOk, flat, lay, fillS, placesOf, id, ne_eq, reduceCtorEq, if_true, if_false, reduceIte, forall_const, decide_true, decide_eq_true_eq, decide_eq_false_iff_not, Nat.reduceMul, Nat.reduceAdd, Nat.reduceLT, Nat.reduceLeDiff, Nat.reduceEqDiff, Int.reduceLT, thenK, blockK, retK, resHolds, resVR, VR.holds, ro, roArg, roPtr, roArgS, roSl, beq_self_eq_true, eq_self, implies_true, Int.reduceBEq, Int.reduceBNe, frz, frzOne, bne_self_eq_false, rNilCheck, rIndex, retM, retMK, argM, ptr, Smp.cs, slS])
    intro blk3
    refine wcall_plain (pickI cb blk3 [0, 1, 5, 200] (fun x => 0 ≤ x ∧ x ≤ 200) (by decide) (by decide) (by simp)) (by simp -implicitDefEqProofs only [evr, ty, rPick, rIbin, rBin, wideB, eqB, strB, rUn, rConv, rFieldAddr, rIndexAddr, rLoad, rField, rLen, rCap, rMax, rMin, rSlice, isRow, WCut, WZer, rBuild, toB, asRead, asAny, bound, flatOk, flat, lay, fillS, placesOf, id, ne_eq, reduceCtorEq, if_true, if_false, reduceIte, forall_const, decide_true, decide_eq_true_eq, decide_eq_false_iff_not, Nat.reduceMul, Nat.reduceAdd, Nat.reduceLT, Nat.reduceLeDiff, Nat.reduceEqDiff, Int.reduceLT, thenK, blockK, retK, resHolds, resVR, VR.holds, ro, roArg, roPtr, roArgS, roSl, beq_self_eq_true, eq_self, implies_true, Int.reduceBEq, Int.reduceBNe, frz, frzOne, bne_self_eq_false, rNilCheck, rIndex, retM, retMK, argM, ptr, Smp.cs, slS]) plain_pick ?_
    rintro r ⟨p2, rfl, hp20, hp21⟩
    simp -implicitDefEqProofs only [evr, ty, rPick, rIbin, rBin, wideB, eqB, strB, rUn, rConv, rFieldAddr, rIndexAddr, rLoad, rField, rLen, rCap, rMax, rMin, rSlice, isRow, WCut, WZer, rBuild, toB, asRead, asAny, bound, flatOk, flat, lay, fillS, placesOf, id, ne_eq, reduceCtorEq, if_true, if_false, reduceIte, forall_const, decide_true, decide_eq_true_eq, decide_eq_false_iff_not, Nat.reduceMul, Nat.reduceAdd, Nat.reduceLT, Nat.reduceLeDiff, Nat.reduceEqDiff, Int.reduceLT, thenK, blockK, retK, resHolds, resVR, VR.holds, ro, roArg, roPtr, roArgS, roSl, beq_self_eq_true, eq_self, implies_true, Int.reduceBEq, Int.reduceBNe, frz, frzOne, bne_self_eq_false, rNilCheck, rIndex, retM, retMK, argM, ptr, Smp.cs, slS]
    refine wcall_plain (nextC cb 20 (by omega) (by omega)) rfl (by rintro _ ⟨x, rfl, _⟩; exact ok_plain rfl) ?_
    rintro r ⟨q2, rfl, hq20, hq21⟩
    have hpq0 : 0 ≤ p2 * q2 := Int.mul_nonneg hp20 hq20
    have hpq1 : p2 * q2 ≤ 200 * 19 := Int.le_trans (Int.mul_le_mul_of_nonneg_right hp21 hq20) (Int.mul_le_mul_of_nonneg_left (by omega) (by omega))
    have e2 : IntKind.i64.wrap (p2 * q2) = p2 * q2 := w64 (by omega)
    have e3 : IntKind.i64.wrap (1 + p2 * q2) = 1 + p2 * q2 := w64 (by omega)
    have e4 : IntKind.i64.wrap (id1 + (1 + p2 * q2)) = id1 + (1 + p2 * q2) := w64 (by omega)
    simp -implicitDefEqProofs only [evr, ty, rPick, rIbin, rBin, wideB, eqB, strB, rUn, rConv, rFieldAddr, rIndexAddr, rLoad, rField, rLen, rCap, rMax, rMin, rSlice, isRow, WCut, WZer, rBuild, toB, asRead, asAny, bound, flatOk, flat, lay, fillS, placesOf, id, ne_eq, reduceCtorEq, if_true, if_false, reduceIte, forall_const, decide_true, decide_eq_true_eq, decide_eq_false_iff_not, Nat.reduceMul, Nat.reduceAdd, Nat.reduceLT, Nat.reduceLeDiff, Nat.reduceEqDiff, Int.reduceLT, thenK, blockK, retK, resHolds, resVR, VR.holds, ro, roArg, roPtr, roArgS, roSl, beq_self_eq_true, eq_self, implies_true, Int.reduceBEq, Int.reduceBNe, frz, frzOne, bne_self_eq_false, rNilCheck, rIndex, retM, retMK, argM, ptr, Smp.cs, slS, e2, e3, e4]
    (refine hk _ ?_; clear hk k; try show Sat _ _ _ _ _)
    generalize hid2 : id1 + (1 + p2 * q2) = id2
    have h2i : id1 ≤ id2 ∧ id2 ≤ id1 + 3801 := by omega
    clear e1 e2 e3 e4 hpq0 hpq1 hid2
    (repeat refine Sat.seq ?_)
    (refine Sat.region_k fun k hk => ?_; simp -implicitDefEqProofs only [evr, ty, rPick, rIbin, rBin, wideB, eqB, strB, rUn, rConv, rFieldAddr, rIndexAddr, rLoad, rField, rLen, rCap, rMax, rMin, rSlice, isRow, WCut, WZer, rBuild, toB, asRead, asAny, bound, flatOk, flat, lay, fillS, placesOf, id, ne_eq, reduceCtorEq, if_true, if_false, reduceIte, forall_const, decide_true, decide_eq_true_eq, decide_eq_false_iff_not, Nat.reduceMul, Nat.reduceAdd, Nat.reduceLT, Nat.reduceLeDiff, Nat.reduceEqDiff, Int.reduceLT, thenK, blockK, retK, resHolds, resVR, VR.holds, ro, roArg, roPtr, roArgS, roSl, beq_self_eq_true, eq_self, implies_true, Int.reduceBEq, Int.reduceBNe, frz, frzOne, bne_self_eq_false, rNilCheck, rIndex, retM, retMK, argM, ptr, Smp.cs, slS])
    refine wcall_plain (boolC cb 12 (by omega) (by omega)) rfl plain_bool ?_
    rintro r ⟨b, rfl⟩
    simp -implicitDefEqProofs only [evr, ty, rPick, rIbin, rBin, wideB, eqB, strB, rUn, rConv, rFieldAddr, rIndexAddr, rLoad, rField, rLen, rCap, rMax, rMin, rSlice, isRow, WCut, WZer, rBuild, toB, asRead, asAny, bound, flatOk, flat, lay, fillS, placesOf, id, ne_eq, reduceCtorEq, if_true, if_false, reduceIte, forall_const, decide_true, decide_eq_true_eq, decide_eq_false_iff_not, Nat.reduceMul, Nat.reduceAdd, Nat.reduceLT, Nat.reduceLeDiff, Nat.reduceEqDiff, Int.reduceLT, thenK, blockK, retK, resHolds, resVR, VR.holds, ro, roArg, roPtr, roArgS, roSl, beq_self_eq_true, eq_self, implies_true, Int.reduceBEq, Int.reduceBNe, frz, frzOne, bne_self_eq_false, rNilCheck, rIndex, retM, retMK, argM, ptr, Smp.cs, slS]
    (refine hk _ ?_; clear hk k; try show Sat _ _ _ _ _)
    refine Sat.atF (ι := Int) (fun id3 => ⟨62, [(8, .i .i64 m), (6, .i .i64 (at2 + d)), (7, .i .i64 id3), (9, .op 2 blk2 0), (5, .os 0 a l.length c), (0, ptr cb)],
      [.row a 39 l.length c 4 (fun i j => (l.getD i default).cs.getD j default), .gone, .box blk2 39 [.i .i64 at2, .i .i64 (at2 + d), .i .i64 0, .i .u32 ad]]⟩)
      (fun id3 => 0 ≤ id3 ∧ id3 ≤ 65536 + 4000 * (l.length : Int) + 3801) ?_ ?_
    · refine Sat.cond_b rfl (fun hb => ?_) (fun hb => ?_)
      · (repeat refine Sat.seq ?_)
        (refine Sat.region_k fun k hk => ?_; simp -implicitDefEqProofs only [evr, ty, rPick, rIbin, rBin, wideB, eqB, strB, rUn, rConv, rFieldAddr, rIndexAddr, rLoad, rField, rLen, rCap, rMax, rMin, rSlice, isRow, WCut, WZer, rBuild, toB, asRead, asAny, bound, flatOk, flat, lay, fillS, placesOf, id, ne_eq, reduceCtorEq, if_true, if_false, reduceIte, forall_const, decide_true, decide_eq_true_eq, decide_eq_false_iff_not, Nat.reduceMul, Nat.reduceAdd, Nat.reduceLT, Nat.reduceLeDiff, Nat.reduceEqDiff, Int.reduceLT, thenK, blockK, retK, resHolds, resVR, VR.holds, ro, roArg, roPtr, roArgS, roSl, beq_self_eq_true, eq_self, implies_true, Int.reduceBEq, Int.reduceBNe, frz, frzOne, bne_self_eq_false, rNilCheck, rIndex, retM, retMK, argM, ptr, Smp.cs, slS])
        refine wcall_plain (nextC cb 65536 (by omega) (by omega)) rfl (by rintro _ ⟨x, rfl, _⟩; exact ok_plain rfl) ?_
        rintro r ⟨id3, rfl, hi30, hi31⟩
        simp -implicitDefEqProofs only [evr, ty, rPick, rIbin, rBin, wideB, eqB, strB, rUn, rConv, rFieldAddr, rIndexAddr, rLoad, rField, rLen, rCap, rMax, rMin, rSlice, isRow, WCut, WZer, rBuild, toB, asRead, asAny, bound, flatOk, flat, lay, fillS, placesOf, id, ne_eq, reduceCtorEq, if_true, if_false, reduceIte, forall_const, decide_true, decide_eq_true_eq, decide_eq_false_iff_not, Nat.reduceMul, Nat.reduceAdd, Nat.reduceLT, Nat.reduceLeDiff, Nat.reduceEqDiff, Int.reduceLT, thenK, blockK, retK, resHolds, resVR, VR.holds, ro, roArg, roPtr, roArgS, roSl, beq_self_eq_true, eq_self, implies_true, Int.reduceBEq, Int.reduceBNe, frz, frzOne, bne_self_eq_false, rNilCheck, rIndex, retM, retMK, argM, ptr, Smp.cs, slS]
        refine hk _ ?_
        simp only [thenK]
        refine ⟨id3, ⟨hi30, by omega⟩, ?_⟩
        simp -implicitDefEqProofs only [evr, ty, rPick, rIbin, rBin, wideB, eqB, strB, rUn, rConv, rFieldAddr, rIndexAddr, rLoad, rField, rLen, rCap, rMax, rMin, rSlice, isRow, WCut, WZer, rBuild, toB, asRead, asAny, bound, flatOk, flat, lay, fillS, placesOf, id, ne_eq, reduceCtorEq, if_true, if_false, reduceIte, forall_const, decide_true, decide_eq_true_eq, decide_eq_false_iff_not, Nat.reduceMul, Nat.reduceAdd, Nat.reduceLT, Nat.reduceLeDiff, Nat.reduceEqDiff, Int.reduceLT, thenK, blockK, retK, resHolds, resVR, VR.holds, ro, roArg, roPtr, roArgS, roSl, beq_self_eq_true, eq_self, implies_true, Int.reduceBEq, Int.reduceBNe, frz, frzOne, bne_self_eq_false, rNilCheck, rIndex, retM, retMK, argM, ptr, Smp.cs, slS, Le, envLe, ownLe, Own.le, Option.some.injEq, eq_self, true_or, false_or, or_false, exists_eq_left', exists_eq_left, exists_eq, exists_eq', SV.i.injEq, SV.b.injEq, rdEq_same, exists_false, and_false, false_and]
      · refine Sat.skip ?_
        simp only [thenK]
        refine ⟨id2, ⟨by omega, by omega⟩, ?_⟩
        simp -implicitDefEqProofs only [evr, ty, rPick, rIbin, rBin, wideB, eqB, strB, rUn, rConv, rFieldAddr, rIndexAddr, rLoad, rField, rLen, rCap, rMax, rMin, rSlice, isRow, WCut, WZer, rBuild, toB, asRead, asAny, bound, flatOk, flat, lay, fillS, placesOf, id, ne_eq, reduceCtorEq, if_true, if_false, reduceIte, forall_const, decide_true, decide_eq_true_eq, decide_eq_false_iff_not, Nat.reduceMul, Nat.reduceAdd, Nat.reduceLT, Nat.reduceLeDiff, Nat.reduceEqDiff, Int.reduceLT, thenK, blockK, retK, resHolds, resVR, VR.holds, ro, roArg, roPtr, roArgS, roSl, beq_self_eq_true, eq_self, implies_true, Int.reduceBEq, Int.reduceBNe, frz, frzOne, bne_self_eq_false, rNilCheck, rIndex, retM, retMK, argM, ptr, Smp.cs, slS, Le, envLe, ownLe, Own.le, Option.some.injEq, eq_self, true_or, false_or, or_false, exists_eq_left', exists_eq_left, exists_eq, exists_eq', SV.i.injEq, SV.b.injEq, rdEq_same, exists_false, and_false, false_and]
    · rintro id3 ⟨hid30, hid31⟩
      simp only [thenK]
      (repeat refine Sat.seq ?_)
      have em : id3.tmod 65536 = id3 % 65536 := Int.tmod_eq_emod_of_nonneg hid30
      refine Sat.region_k fun k hk => ?_
      simp -implicitDefEqProofs only [evr, ty, rPick, rIbin, rBin, wideB, eqB, strB, rUn, rConv, rFieldAddr, rIndexAddr, rLoad, rField, rLen, rCap, rMax, rMin, rSlice, isRow, WCut, WZer, rBuild, toB, asRead, asAny, bound, flatOk, flat, lay, fillS, placesOf, id, ne_eq, reduceCtorEq, if_true, if_false, reduceIte, forall_const, decide_true, decide_eq_true_eq, decide_eq_false_iff_not, Nat.reduceMul, Nat.reduceAdd, Nat.reduceLT, Nat.reduceLeDiff, Nat.reduceEqDiff, Int.reduceLT, thenK, blockK, retK, resHolds, resVR, VR.holds, ro, roArg, roPtr, roArgS, roSl, beq_self_eq_true, eq_self, implies_true, Int.reduceBEq, Int.reduceBNe, frz, frzOne, bne_self_eq_false, rNilCheck, rIndex, retM, retMK, argM, ptr, Smp.cs, slS, em]
      refine ⟨by decide, ?_⟩
      (refine hk _ ?_; clear hk k; try show Sat _ _ _ _ _)
      (repeat refine Sat.seq ?_)
      (refine Sat.region_k fun k hk => ?_; simp -implicitDefEqProofs only [evr, ty, rPick, rIbin, rBin, wideB, eqB, strB, rUn, rConv, rFieldAddr, rIndexAddr, rLoad, rField, rLen, rCap, rMax, rMin, rSlice, isRow, WCut, WZer, rBuild, toB, asRead, asAny, bound, flatOk, flat, lay, fillS, placesOf, id, ne_eq, reduceCtorEq, if_true, if_false, reduceIte, forall_const, decide_true, decide_eq_true_eq, decide_eq_false_iff_not, Nat.reduceMul, Nat.reduceAdd, Nat.reduceLT, Nat.reduceLeDiff, Nat.reduceEqDiff, Int.reduceLT, thenK, blockK, retK, resHolds, resVR, VR.holds, ro, roArg, roPtr, roArgS, roSl, beq_self_eq_true, eq_self, implies_true, Int.reduceBEq, Int.reduceBNe, frz, frzOne, bne_self_eq_false, rNilCheck, rIndex, retM, retMK, argM, ptr, Smp.cs, slS])
      intro blk4
      refine ⟨⟨by unfold maxLen; omega, by omega⟩, fun a2 cap2 => ?_⟩
      refine hk _ ?_
      simp only [thenK, blockK]
      (repeat refine Sat.seq ?_)
      (refine Sat.region_k fun k hk => ?_; simp -implicitDefEqProofs only [evr, ty, rPick, rIbin, rBin, wideB, eqB, strB, rUn, rConv, rFieldAddr, rIndexAddr, rLoad, rField, rLen, rCap, rMax, rMin, rSlice, isRow, WCut, WZer, rBuild, toB, asRead, asAny, bound, flatOk, flat, lay, fillS, placesOf, id, ne_eq, reduceCtorEq, if_true, if_false, reduceIte, forall_const, decide_true, decide_eq_true_eq, decide_eq_false_iff_not, Nat.reduceMul, Nat.reduceAdd, Nat.reduceLT, Nat.reduceLeDiff, Nat.reduceEqDiff, Int.reduceLT, thenK, blockK, retK, resHolds, resVR, VR.holds, ro, roArg, roPtr, roArgS, roSl, beq_self_eq_true, eq_self, implies_true, Int.reduceBEq, Int.reduceBNe, frz, frzOne, bne_self_eq_false, rNilCheck, rIndex, retM, retMK, argM, ptr, Smp.cs, slS])
      refine hk _ ?_
      simp only [thenK, blockK]
      have hlen : (l ++ [(⟨at2, at2 + d, id3 % 65536, ad⟩ : Smp)]).length = l.length + 1 := by simp
      refine ⟨(m - 1, l ++ [⟨at2, at2 + d, id3 % 65536, ad⟩], at2 + d, id3, a2, cap2), ⟨?_, ?_, ?_, ?_, ?_, hid30, ?_⟩, ?_, ?_⟩
      · show m - 1 + (l ++ _).length ≤ most; rw [hlen]; omega
      · show validL (l ++ _) = true
        rw [validL_iff] at hv ⊢
        intro i hi
        rw [hlen] at hi
        by_cases e : i < l.length
        · have := hv i e
          unfold okAt at this ⊢
          rwa [getD_append_lt e, getD_append_lt (show i - 1 < l.length by omega)]
        · obtain rfl : i = l.length := by omega
          unfold okAt Smp.Ok
          rw [getD_append_eq]
          refine ⟨⟨by show 0 ≤ at2; omega, by show at2 ≤ at2 + d; omega, by show at2 + d ≤ _; omega, by show 0 ≤ id3 % 65536; omega, by show id3 % 65536 ≤ _; omega⟩, fun h0 => ?_⟩
          rw [getD_append_lt (show l.length - 1 < l.length by omega)]
          have := hback h0
          show _ < at2
          omega
      · show 0 ≤ at2 + d; omega
      · show at2 + d ≤ 100 + 880000 * ((l ++ _).length : Int); rw [hlen]; omega
      · intro _
        show ((l ++ _).getD ((l ++ _).length - 1) default).back ≤ at2 + d
        rw [hlen, Nat.add_sub_cancel, getD_append_eq]
        exact Int.le_refl _
      · show id3 ≤ 65536 + 4000 * ((l ++ _).length : Int); rw [hlen]; omega
      · show m - 1 < m; omega
      · simp only [hlen]
        simp -implicitDefEqProofs only [evr, ty, rPick, rIbin, rBin, wideB, eqB, strB, rUn, rConv, rFieldAddr, rIndexAddr, rLoad, rField, rLen, rCap, rMax, rMin, rSlice, isRow, WCut, WZer, rBuild, toB, asRead, asAny, bound, flatOk, flat, lay, fillS, placesOf, id, ne_eq, reduceCtorEq, if_true, if_false, reduceIte, forall_const, decide_true, decide_eq_true_eq, decide_eq_false_iff_not, Nat.reduceMul, Nat.reduceAdd, Nat.reduceLT, Nat.reduceLeDiff, Nat.reduceEqDiff, Int.reduceLT, thenK, blockK, retK, resHolds, resVR, VR.holds, ro, roArg, roPtr, roArgS, roSl, beq_self_eq_true, eq_self, implies_true, Int.reduceBEq, Int.reduceBNe, frz, frzOne, bne_self_eq_false, rNilCheck, rIndex, retM, retMK, argM, ptr, Smp.cs, slS, Le, envLe, ownLe, Own.le, Option.some.injEq, eq_self, true_or, false_or, or_false, exists_eq_left', exists_eq_left, exists_eq, exists_eq', SV.i.injEq, SV.b.injEq, rdEq_same, exists_false, and_false, false_and]
        refine ⟨by rw [w64 (by omega)]; omega, rdEq_snoc (fun i j hi hj => ?_) (fun j hj => ?_)⟩
        · simp only [getD_append_lt hi]
        · simp only [getD_append_eq]
  · simp only [decide_eq_false_iff_not] at h
    refine Sat.exit ?_
    simp only [thenK, blockK, reduceIte]
    (repeat refine Sat.seq ?_)
    (refine Sat.region_k fun k hk => ?_; simp -implicitDefEqProofs only [evr, ty, rPick, rIbin, rBin, wideB, eqB, strB, rUn, rConv, rFieldAddr, rIndexAddr, rLoad, rField, rLen, rCap, rMax, rMin, rSlice, isRow, WCut, WZer, rBuild, toB, asRead, asAny, bound, flatOk, flat, lay, fillS, placesOf, id, ne_eq, reduceCtorEq, if_true, if_false, reduceIte, forall_const, decide_true, decide_eq_true_eq, decide_eq_false_iff_not, Nat.reduceMul, Nat.reduceAdd, Nat.reduceLT, Nat.reduceLeDiff, Nat.reduceEqDiff, Int.reduceLT, thenK, blockK, retK, resHolds, resVR, VR.holds, ro, roArg, roPtr, roArgS, roSl, beq_self_eq_true, eq_self, implies_true, Int.reduceBEq, Int.reduceBNe, frz, frzOne, bne_self_eq_false, rNilCheck, rIndex, retM, retMK, argM, ptr, Smp.cs, slS]; refine hk _ ?_; clear hk k; try show Sat _ _ _ _ _)
    refine Sat.ret ?_
    simp only [Try.results10, evr, ty, rPick, rIbin, rBin, wideB, eqB, strB, rUn, rConv, rFieldAddr, rIndexAddr, rLoad, rField, rLen, rCap, rMax, rMin, rSlice, isRow, WCut, WZer, rBuild, toB, asRead, asAny, bound, flatOk, flat, lay, fillS, placesOf, id, ne_eq, reduceCtorEq, if_true, if_false, reduceIte, forall_const, decide_true, decide_eq_true_eq, decide_eq_false_iff_not, Nat.reduceMul, Nat.reduceAdd, Nat.reduceLT, Nat.reduceLeDiff, Nat.reduceEqDiff, Int.reduceLT, thenK, blockK, retK, resHolds, resVR, VR.holds, ro, roArg, roPtr, roArgS, roSl, beq_self_eq_true, eq_self, implies_true, Int.reduceBEq, Int.reduceBNe, frz, frzOne, bne_self_eq_false, rNilCheck, rIndex, retM, retMK, argM, ptr, Smp.cs, slS]
    exact ⟨a, c, l, rfl, by omega, hv⟩
end Go.Proofs.Ytchpegjadoodnaa
