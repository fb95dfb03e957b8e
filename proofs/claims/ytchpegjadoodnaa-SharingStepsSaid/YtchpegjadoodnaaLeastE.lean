/- Least, by the evaluator. -/
import Derived.Test.YtchpegjadoodnaaSearchE
set_option linter.unusedSimpArgs false
set_option linter.unusedVariables false
namespace Go.Proofs.Ytchpegjadoodnaa
open Eng

set_option maxRecDepth 100000 in
theorem leastFnC (F : Frm) (ad : Option Addr) (cap : Nat) (l : List Smp) (hl : l.length ≤ 1000000) (blk : Nat) (i : Nat) (hi : i < 1073741824) (rd : Nat → SV) (hrd : rd 0 = slS ad cap l) :
    Contract F Try.prog 36 [.i .i64 i, .el ⟨blk, 0, none⟩ 1 rd] (fun r => r = .b (fitsAll l ((i : Int) + 1))) := by
  refine contract_of Try.func36 rfl (by kernel_rfl) ?_
  simp only [Try.ntmps36, argEnv]
  (repeat refine Sat.seq ?_)
  (refine Sat.region_k fun k hk => ?_; simp -implicitDefEqProofs only [evr, ty, rPick, rIbin, rBin, wideB, eqB, strB, rUn, rConv, rFieldAddr, rIndexAddr, rLoad, rField, rLen, rMax, rMin, rSlice, rBuild, toB, asRead, asAny, bound, flatOk, flat, lay, fillS, placesOf, id, ne_eq, reduceCtorEq, if_true, if_false, reduceIte, forall_const, decide_true, decide_eq_true_eq, decide_eq_false_iff_not, Nat.reduceMul, Nat.reduceAdd, Nat.reduceLT, Nat.reduceLeDiff, Nat.reduceEqDiff, Int.reduceLT, thenK, blockK, retK, resHolds, resVR, VR.holds, ro, roArg, roPtr, roArgS, roSl, beq_self_eq_true, eq_self, implies_true, Int.reduceBEq, Int.reduceBNe, frz, frzOne, bne_self_eq_false, rNilCheck, rIndex, retM, retMK, argM, Smp.cs, Smp.sv, slS]; refine hk _ ?_; clear hk k; try show Sat _ _ _ _ _)
  (repeat refine Sat.seq ?_)
  refine Sat.region_k (fun k hk => ?_)
  have e1 : IntKind.i64.wrap ((i : Int) + 1) = (i : Int) + 1 := w64 (by omega)
  simp -implicitDefEqProofs only [evr, ty, rPick, rIbin, rBin, wideB, eqB, strB, rUn, rConv, rFieldAddr, rIndexAddr, rLoad, rField, rLen, rMax, rMin, rSlice, rBuild, toB, asRead, asAny, bound, flatOk, flat, lay, fillS, placesOf, id, ne_eq, reduceCtorEq, if_true, if_false, reduceIte, forall_const, decide_true, decide_eq_true_eq, decide_eq_false_iff_not, Nat.reduceMul, Nat.reduceAdd, Nat.reduceLT, Nat.reduceLeDiff, Nat.reduceEqDiff, Int.reduceLT, thenK, blockK, retK, resHolds, resVR, VR.holds, ro, roArg, roPtr, roArgS, roSl, beq_self_eq_true, eq_self, implies_true, Int.reduceBEq, Int.reduceBNe, frz, frzOne, bne_self_eq_false, rNilCheck, rIndex, retM, retMK, argM, Smp.cs, Smp.sv, slS, e1, hrd]
  refine wcall_plain (fitsC F ad cap l ((i : Int) + 1) hl) rfl (by rintro _ rfl; exact ok_plain rfl) ?_
  rintro r rfl
  simp -implicitDefEqProofs only [evr, ty, rPick, rIbin, rBin, wideB, eqB, strB, rUn, rConv, rFieldAddr, rIndexAddr, rLoad, rField, rLen, rMax, rMin, rSlice, rBuild, toB, asRead, asAny, bound, flatOk, flat, lay, fillS, placesOf, id, ne_eq, reduceCtorEq, if_true, if_false, reduceIte, forall_const, decide_true, decide_eq_true_eq, decide_eq_false_iff_not, Nat.reduceMul, Nat.reduceAdd, Nat.reduceLT, Nat.reduceLeDiff, Nat.reduceEqDiff, Int.reduceLT, thenK, blockK, retK, resHolds, resVR, VR.holds, ro, roArg, roPtr, roArgS, roSl, beq_self_eq_true, eq_self, implies_true, Int.reduceBEq, Int.reduceBNe, frz, frzOne, bne_self_eq_false, rNilCheck, rIndex, retM, retMK, argM, Smp.cs, Smp.sv, slS]
  refine hk _ ?_
  (repeat refine Sat.seq ?_)
  refine Sat.ret ?_
  simp only [Try.results36, evr, ty, rPick, rIbin, rBin, wideB, eqB, strB, rUn, rConv, rFieldAddr, rIndexAddr, rLoad, rField, rLen, rMax, rMin, rSlice, rBuild, toB, asRead, asAny, bound, flatOk, flat, lay, fillS, placesOf, id, ne_eq, reduceCtorEq, if_true, if_false, reduceIte, forall_const, decide_true, decide_eq_true_eq, decide_eq_false_iff_not, Nat.reduceMul, Nat.reduceAdd, Nat.reduceLT, Nat.reduceLeDiff, Nat.reduceEqDiff, Int.reduceLT, thenK, blockK, retK, resHolds, resVR, VR.holds, ro, roArg, roPtr, roArgS, roSl, beq_self_eq_true, eq_self, implies_true, Int.reduceBEq, Int.reduceBNe, frz, frzOne, bne_self_eq_false, rNilCheck, rIndex, retM, retMK, argM, Smp.cs, Smp.sv, slS]

def LeastPost (l : List Smp) (r : SV) : Prop :=
  (fitsAll l 1073741824 = false ∧ r = tupL [.i .i64 0, .b false]) ∨
  (∃ s : Int, 1 ≤ s ∧ s ≤ 1073741824 ∧ fitsAll l s = true ∧ (1 < s → fitsAll l (s - 1) = false) ∧ r = tupL [.i .i64 s, .b true])

set_option maxRecDepth 100000 in
theorem leastC (F : Frm) (ad : Option Addr) (cap : Nat) (l : List Smp) (hl : l.length ≤ 1000000) :
    Contract F Try.prog 17 [slS ad cap l] (LeastPost l) := by
  refine contract_of Try.func17 rfl (by kernel_rfl) ?_
  simp only [Try.ntmps17, argEnv]
  (repeat refine Sat.seq ?_)
  refine Sat.region_k (fun k hk => ?_)
  simp -implicitDefEqProofs only [evr, ty, rPick, rIbin, rBin, wideB, eqB, strB, rUn, rConv, rFieldAddr, rIndexAddr, rLoad, rField, rLen, rMax, rMin, rSlice, rBuild, toB, asRead, asAny, bound, flatOk, flat, lay, fillS, placesOf, id, ne_eq, reduceCtorEq, if_true, if_false, reduceIte, forall_const, decide_true, decide_eq_true_eq, decide_eq_false_iff_not, Nat.reduceMul, Nat.reduceAdd, Nat.reduceLT, Nat.reduceLeDiff, Nat.reduceEqDiff, Int.reduceLT, thenK, blockK, retK, resHolds, resVR, VR.holds, ro, roArg, roPtr, roArgS, roSl, beq_self_eq_true, eq_self, implies_true, Int.reduceBEq, Int.reduceBNe, frz, frzOne, bne_self_eq_false, rNilCheck, rIndex, retM, retMK, argM, Smp.cs, Smp.sv, slS]
  refine fun blk => hk _ ?_
  (repeat refine Sat.seq ?_)
  refine Sat.region_k (fun k hk => ?_)
  simp -implicitDefEqProofs only [evr, ty, rPick, rIbin, rBin, wideB, eqB, strB, rUn, rConv, rFieldAddr, rIndexAddr, rLoad, rField, rLen, rMax, rMin, rSlice, rBuild, toB, asRead, asAny, bound, flatOk, flat, lay, fillS, placesOf, id, ne_eq, reduceCtorEq, if_true, if_false, reduceIte, forall_const, decide_true, decide_eq_true_eq, decide_eq_false_iff_not, Nat.reduceMul, Nat.reduceAdd, Nat.reduceLT, Nat.reduceLeDiff, Nat.reduceEqDiff, Int.reduceLT, thenK, blockK, retK, resHolds, resVR, VR.holds, ro, roArg, roPtr, roArgS, roSl, beq_self_eq_true, eq_self, implies_true, Int.reduceBEq, Int.reduceBNe, frz, frzOne, bne_self_eq_false, rNilCheck, rIndex, retM, retMK, argM, Smp.cs, Smp.sv, slS]
  refine wcall_plain (validC F ad cap l hl) rfl (by rintro _ rfl; exact ok_plain rfl) ?_
  rintro r rfl
  simp -implicitDefEqProofs only [evr, ty, rPick, rIbin, rBin, wideB, eqB, strB, rUn, rConv, rFieldAddr, rIndexAddr, rLoad, rField, rLen, rMax, rMin, rSlice, rBuild, toB, asRead, asAny, bound, flatOk, flat, lay, fillS, placesOf, id, ne_eq, reduceCtorEq, if_true, if_false, reduceIte, forall_const, decide_true, decide_eq_true_eq, decide_eq_false_iff_not, Nat.reduceMul, Nat.reduceAdd, Nat.reduceLT, Nat.reduceLeDiff, Nat.reduceEqDiff, Int.reduceLT, thenK, blockK, retK, resHolds, resVR, VR.holds, ro, roArg, roPtr, roArgS, roSl, beq_self_eq_true, eq_self, implies_true, Int.reduceBEq, Int.reduceBNe, frz, frzOne, bne_self_eq_false, rNilCheck, rIndex, retM, retMK, argM, Smp.cs, Smp.sv, slS]
  refine hk _ ?_
  (repeat refine Sat.seq ?_)
  refine Sat.cond_b rfl (fun hv => ?_) (fun hv => ?_)
  · (repeat refine Sat.seq ?_)
    (refine Sat.region_k fun k hk => ?_; simp -implicitDefEqProofs only [evr, ty, rPick, rIbin, rBin, wideB, eqB, strB, rUn, rConv, rFieldAddr, rIndexAddr, rLoad, rField, rLen, rMax, rMin, rSlice, rBuild, toB, asRead, asAny, bound, flatOk, flat, lay, fillS, placesOf, id, ne_eq, reduceCtorEq, if_true, if_false, reduceIte, forall_const, decide_true, decide_eq_true_eq, decide_eq_false_iff_not, Nat.reduceMul, Nat.reduceAdd, Nat.reduceLT, Nat.reduceLeDiff, Nat.reduceEqDiff, Int.reduceLT, thenK, blockK, retK, resHolds, resVR, VR.holds, ro, roArg, roPtr, roArgS, roSl, beq_self_eq_true, eq_self, implies_true, Int.reduceBEq, Int.reduceBNe, frz, frzOne, bne_self_eq_false, rNilCheck, rIndex, retM, retMK, argM, Smp.cs, Smp.sv, slS]; refine hk _ ?_; clear hk k; try show Sat _ _ _ _ _)
    refine Sat.ret ?_
    simp only [Try.results17, evr, ty, rPick, rIbin, rBin, wideB, eqB, strB, rUn, rConv, rFieldAddr, rIndexAddr, rLoad, rField, rLen, rMax, rMin, rSlice, rBuild, toB, asRead, asAny, bound, flatOk, flat, lay, fillS, placesOf, id, ne_eq, reduceCtorEq, if_true, if_false, reduceIte, forall_const, decide_true, decide_eq_true_eq, decide_eq_false_iff_not, Nat.reduceMul, Nat.reduceAdd, Nat.reduceLT, Nat.reduceLeDiff, Nat.reduceEqDiff, Int.reduceLT, thenK, blockK, retK, resHolds, resVR, VR.holds, ro, roArg, roPtr, roArgS, roSl, beq_self_eq_true, eq_self, implies_true, Int.reduceBEq, Int.reduceBNe, frz, frzOne, bne_self_eq_false, rNilCheck, rIndex, retM, retMK, argM, Smp.cs, Smp.sv, slS]
    exact .inl ⟨by unfold fitsAll; simp at hv; simp [hv], rfl⟩
  · refine Sat.skip ?_
    simp only [thenK]
    (repeat refine Sat.seq ?_)
    refine Sat.region_k (fun k hk => ?_)
    simp -implicitDefEqProofs only [evr, ty, rPick, rIbin, rBin, wideB, eqB, strB, rUn, rConv, rFieldAddr, rIndexAddr, rLoad, rField, rLen, rMax, rMin, rSlice, rBuild, toB, asRead, asAny, bound, flatOk, flat, lay, fillS, placesOf, id, ne_eq, reduceCtorEq, if_true, if_false, reduceIte, forall_const, decide_true, decide_eq_true_eq, decide_eq_false_iff_not, Nat.reduceMul, Nat.reduceAdd, Nat.reduceLT, Nat.reduceLeDiff, Nat.reduceEqDiff, Int.reduceLT, thenK, blockK, retK, resHolds, resVR, VR.holds, ro, roArg, roPtr, roArgS, roSl, beq_self_eq_true, eq_self, implies_true, Int.reduceBEq, Int.reduceBNe, frz, frzOne, bne_self_eq_false, rNilCheck, rIndex, retM, retMK, argM, Smp.cs, Smp.sv, slS]
    refine wcall_plain (searchC F 1073741824 (by omega) 36 1 (fun j => roPtr [.box blk 26 [slS ad cap l]] ([SV.op 0 blk 0].getD j default)) (fun i => fitsAll l ((i : Int) + 1)) (fun i hi own => ?_) (fun own => ?_)) rfl (by rintro _ ⟨j, _, _, _, rfl⟩; exact ok_plain rfl) ?_
    · show Contract F Try.prog _ [.i .i64 i, roPtr [.box blk 26 [slS ad cap l]] (.op 0 blk 0)] _
      rw [show roPtr [.box blk 26 [slS ad cap l]] (.op 0 blk 0) = .el ⟨blk, 0, none⟩ 1 (fun j => [slS ad cap l].getD (0 + j) default) by simp [roPtr]]
      exact leastFnC F ad cap l hl blk i hi _ rfl
    · show [roArg own (roPtr [.box blk 26 [slS ad cap l]] (.op 0 blk 0))] = [roPtr [.box blk 26 [slS ad cap l]] (.op 0 blk 0)]
      rw [show roPtr [.box blk 26 [slS ad cap l]] (.op 0 blk 0) = .el ⟨blk, 0, none⟩ 1 (fun j => [slS ad cap l].getD (0 + j) default) by simp [roPtr]]
      rfl
    rintro r ⟨j, hj1, hj2, hj3, rfl⟩
    simp -implicitDefEqProofs only [evr, ty, rPick, rIbin, rBin, wideB, eqB, strB, rUn, rConv, rFieldAddr, rIndexAddr, rLoad, rField, rLen, rMax, rMin, rSlice, rBuild, toB, asRead, asAny, bound, flatOk, flat, lay, fillS, placesOf, id, ne_eq, reduceCtorEq, if_true, if_false, reduceIte, forall_const, decide_true, decide_eq_true_eq, decide_eq_false_iff_not, Nat.reduceMul, Nat.reduceAdd, Nat.reduceLT, Nat.reduceLeDiff, Nat.reduceEqDiff, Int.reduceLT, thenK, blockK, retK, resHolds, resVR, VR.holds, ro, roArg, roPtr, roArgS, roSl, beq_self_eq_true, eq_self, implies_true, Int.reduceBEq, Int.reduceBNe, frz, frzOne, bne_self_eq_false, rNilCheck, rIndex, retM, retMK, argM, Smp.cs, Smp.sv, slS]
    refine hk _ ?_
    (repeat refine Sat.seq ?_)
    (refine Sat.region_k fun k hk => ?_; simp -implicitDefEqProofs only [evr, ty, rPick, rIbin, rBin, wideB, eqB, strB, rUn, rConv, rFieldAddr, rIndexAddr, rLoad, rField, rLen, rMax, rMin, rSlice, rBuild, toB, asRead, asAny, bound, flatOk, flat, lay, fillS, placesOf, id, ne_eq, reduceCtorEq, if_true, if_false, reduceIte, forall_const, decide_true, decide_eq_true_eq, decide_eq_false_iff_not, Nat.reduceMul, Nat.reduceAdd, Nat.reduceLT, Nat.reduceLeDiff, Nat.reduceEqDiff, Int.reduceLT, thenK, blockK, retK, resHolds, resVR, VR.holds, ro, roArg, roPtr, roArgS, roSl, beq_self_eq_true, eq_self, implies_true, Int.reduceBEq, Int.reduceBNe, frz, frzOne, bne_self_eq_false, rNilCheck, rIndex, retM, retMK, argM, Smp.cs, Smp.sv, slS]; refine hk _ ?_; clear hk k; try show Sat _ _ _ _ _)
    (repeat refine Sat.seq ?_)
    refine Sat.cond_b rfl (fun h3 => ?_) (fun h3 => ?_)
    · (repeat refine Sat.seq ?_)
      (refine Sat.region_k fun k hk => ?_; simp -implicitDefEqProofs only [evr, ty, rPick, rIbin, rBin, wideB, eqB, strB, rUn, rConv, rFieldAddr, rIndexAddr, rLoad, rField, rLen, rMax, rMin, rSlice, rBuild, toB, asRead, asAny, bound, flatOk, flat, lay, fillS, placesOf, id, ne_eq, reduceCtorEq, if_true, if_false, reduceIte, forall_const, decide_true, decide_eq_true_eq, decide_eq_false_iff_not, Nat.reduceMul, Nat.reduceAdd, Nat.reduceLT, Nat.reduceLeDiff, Nat.reduceEqDiff, Int.reduceLT, thenK, blockK, retK, resHolds, resVR, VR.holds, ro, roArg, roPtr, roArgS, roSl, beq_self_eq_true, eq_self, implies_true, Int.reduceBEq, Int.reduceBNe, frz, frzOne, bne_self_eq_false, rNilCheck, rIndex, retM, retMK, argM, Smp.cs, Smp.sv, slS]; refine hk _ ?_; clear hk k; try show Sat _ _ _ _ _)
      refine Sat.ret ?_
      simp only [Try.results17, evr, ty, rPick, rIbin, rBin, wideB, eqB, strB, rUn, rConv, rFieldAddr, rIndexAddr, rLoad, rField, rLen, rMax, rMin, rSlice, rBuild, toB, asRead, asAny, bound, flatOk, flat, lay, fillS, placesOf, id, ne_eq, reduceCtorEq, if_true, if_false, reduceIte, forall_const, decide_true, decide_eq_true_eq, decide_eq_false_iff_not, Nat.reduceMul, Nat.reduceAdd, Nat.reduceLT, Nat.reduceLeDiff, Nat.reduceEqDiff, Int.reduceLT, thenK, blockK, retK, resHolds, resVR, VR.holds, ro, roArg, roPtr, roArgS, roSl, beq_self_eq_true, eq_self, implies_true, Int.reduceBEq, Int.reduceBNe, frz, frzOne, bne_self_eq_false, rNilCheck, rIndex, retM, retMK, argM, Smp.cs, Smp.sv, slS]
      have h3' : (j : Int) = 1073741824 := by simpa using h3
      obtain rfl : j = 1073741824 := by omega
      exact .inl ⟨by have := hj3 (by omega); exact this, rfl⟩
    · have h4 : j < 1073741824 := by
        have h3' : ¬ (j : Int) = 1073741824 := by simpa using h3
        omega
      refine Sat.skip ?_
      simp only [thenK]
      (repeat refine Sat.seq ?_)
      (refine Sat.region_k fun k hk => ?_; simp -implicitDefEqProofs only [evr, ty, rPick, rIbin, rBin, wideB, eqB, strB, rUn, rConv, rFieldAddr, rIndexAddr, rLoad, rField, rLen, rMax, rMin, rSlice, rBuild, toB, asRead, asAny, bound, flatOk, flat, lay, fillS, placesOf, id, ne_eq, reduceCtorEq, if_true, if_false, reduceIte, forall_const, decide_true, decide_eq_true_eq, decide_eq_false_iff_not, Nat.reduceMul, Nat.reduceAdd, Nat.reduceLT, Nat.reduceLeDiff, Nat.reduceEqDiff, Int.reduceLT, thenK, blockK, retK, resHolds, resVR, VR.holds, ro, roArg, roPtr, roArgS, roSl, beq_self_eq_true, eq_self, implies_true, Int.reduceBEq, Int.reduceBNe, frz, frzOne, bne_self_eq_false, rNilCheck, rIndex, retM, retMK, argM, Smp.cs, Smp.sv, slS]; refine hk _ ?_; clear hk k; try show Sat _ _ _ _ _)
      refine Sat.ret ?_
      have e4 : IntKind.i64.wrap ((j : Int) + 1) = (j : Int) + 1 := w64 (by omega)
      simp only [Try.results17, evr, ty, rPick, rIbin, rBin, wideB, eqB, strB, rUn, rConv, rFieldAddr, rIndexAddr, rLoad, rField, rLen, rMax, rMin, rSlice, rBuild, toB, asRead, asAny, bound, flatOk, flat, lay, fillS, placesOf, id, ne_eq, reduceCtorEq, if_true, if_false, reduceIte, forall_const, decide_true, decide_eq_true_eq, decide_eq_false_iff_not, Nat.reduceMul, Nat.reduceAdd, Nat.reduceLT, Nat.reduceLeDiff, Nat.reduceEqDiff, Int.reduceLT, thenK, blockK, retK, resHolds, resVR, VR.holds, ro, roArg, roPtr, roArgS, roSl, beq_self_eq_true, eq_self, implies_true, Int.reduceBEq, Int.reduceBNe, frz, frzOne, bne_self_eq_false, rNilCheck, rIndex, retM, retMK, argM, Smp.cs, Smp.sv, slS, e4]
      refine .inr ⟨(j : Int) + 1, by omega, by omega, hj2 h4, fun h5 => ?_, rfl⟩
      have := hj3 (by omega)
      rw [show (((j - 1 : Nat) : Int) + 1) = (j : Int) + 1 - 1 by omega] at this
      exact this
end Go.Proofs.Ytchpegjadoodnaa
