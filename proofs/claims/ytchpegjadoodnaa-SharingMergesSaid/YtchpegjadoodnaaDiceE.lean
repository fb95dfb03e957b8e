/- Choices: Pick, Bool, Address, by the evaluator. -/
import Derived.Test.YtchpegjadoodnaaCodesE
set_option linter.unusedSimpArgs false
set_option linter.unusedVariables false
namespace Go.Proofs.Ytchpegjadoodnaa
open Eng

set_option maxRecDepth 100000 in
theorem pickC (cb : Nat) (a : Option Addr) (len cap : Nat) (rd : Nat → Nat → SV) (Q : Int → Prop) (h0 : 0 < len) (h1 : len ≤ 1000) (hq : ∀ i, i < len → ∃ x : Int, rd i 0 = .i .i64 x ∧ Q x) :
    Contract (Frm.codes cb) Try.prog 11 [ptr cb, .sl a len cap 1 rd] (fun r => ∃ x : Int, r = .i .i64 x ∧ Q x) := by
  refine contract_of Try.func11 rfl (by kernel_rfl) ?_
  simp only [Try.ntmps11, argEnv, ptr]
  (repeat refine Sat.seq ?_)
  (refine Sat.region_k fun k hk => ?_; simp -implicitDefEqProofs only [evr, ty, rPick, rIbin, rBin, wideB, eqB, strB, rUn, rConv, rFieldAddr, rIndexAddr, rLoad, rField, rLen, rCap, rMax, rMin, rSlice, isRow, WCut, WZer, rBuild, toB, asRead, asAny, bound, flatOk, flat, lay, fillS, placesOf, id, ne_eq, reduceCtorEq, if_true, if_false, reduceIte, forall_const, decide_true, decide_eq_true_eq, decide_eq_false_iff_not, Nat.reduceMul, Nat.reduceAdd, Nat.reduceLT, Nat.reduceLeDiff, Nat.reduceEqDiff, Int.reduceLT, thenK, blockK, retK, resHolds, resVR, VR.holds, ro, roArg, roPtr, roArgS, roSl, beq_self_eq_true, eq_self, implies_true, Int.reduceBEq, Int.reduceBNe, frz, frzOne, bne_self_eq_false, rNilCheck, rIndex, retM, retMK, argM, ptr]; refine hk _ ?_; clear hk k; try show Sat _ _ _ _ _)
  (repeat refine Sat.seq ?_)
  (refine Sat.region_k fun k hk => ?_; simp -implicitDefEqProofs only [evr, ty, rPick, rIbin, rBin, wideB, eqB, strB, rUn, rConv, rFieldAddr, rIndexAddr, rLoad, rField, rLen, rCap, rMax, rMin, rSlice, isRow, WCut, WZer, rBuild, toB, asRead, asAny, bound, flatOk, flat, lay, fillS, placesOf, id, ne_eq, reduceCtorEq, if_true, if_false, reduceIte, forall_const, decide_true, decide_eq_true_eq, decide_eq_false_iff_not, Nat.reduceMul, Nat.reduceAdd, Nat.reduceLT, Nat.reduceLeDiff, Nat.reduceEqDiff, Int.reduceLT, thenK, blockK, retK, resHolds, resVR, VR.holds, ro, roArg, roPtr, roArgS, roSl, beq_self_eq_true, eq_self, implies_true, Int.reduceBEq, Int.reduceBNe, frz, frzOne, bne_self_eq_false, rNilCheck, rIndex, retM, retMK, argM, ptr])
  refine wcall_plain (nextC cb len (by omega) (by omega)) rfl (by rintro _ ⟨x, rfl, _⟩; exact ok_plain rfl) ?_
  rintro r ⟨x, rfl, hx0, hx1⟩
  obtain ⟨i, rfl⟩ := Int.eq_ofNat_of_zero_le hx0
  have hi : i < len := by omega
  obtain ⟨y, hy, hQ⟩ := hq i hi
  simp -implicitDefEqProofs only [evr, ty, rPick, rIbin, rBin, wideB, eqB, strB, rUn, rConv, rFieldAddr, rIndexAddr, rLoad, rField, rLen, rCap, rMax, rMin, rSlice, isRow, WCut, WZer, rBuild, toB, asRead, asAny, bound, flatOk, flat, lay, fillS, placesOf, id, ne_eq, reduceCtorEq, if_true, if_false, reduceIte, forall_const, decide_true, decide_eq_true_eq, decide_eq_false_iff_not, Nat.reduceMul, Nat.reduceAdd, Nat.reduceLT, Nat.reduceLeDiff, Nat.reduceEqDiff, Int.reduceLT, thenK, blockK, retK, resHolds, resVR, VR.holds, ro, roArg, roPtr, roArgS, roSl, beq_self_eq_true, eq_self, implies_true, Int.reduceBEq, Int.reduceBNe, frz, frzOne, bne_self_eq_false, rNilCheck, rIndex, retM, retMK, argM, ptr, hy]
  refine ⟨by omega, ?_⟩
  (refine hk _ ?_; clear hk k; try show Sat _ _ _ _ _)
  refine Sat.ret ?_
  simp only [Try.results11, evr, ty, rPick, rIbin, rBin, wideB, eqB, strB, rUn, rConv, rFieldAddr, rIndexAddr, rLoad, rField, rLen, rCap, rMax, rMin, rSlice, isRow, WCut, WZer, rBuild, toB, asRead, asAny, bound, flatOk, flat, lay, fillS, placesOf, id, ne_eq, reduceCtorEq, if_true, if_false, reduceIte, forall_const, decide_true, decide_eq_true_eq, decide_eq_false_iff_not, Nat.reduceMul, Nat.reduceAdd, Nat.reduceLT, Nat.reduceLeDiff, Nat.reduceEqDiff, Int.reduceLT, thenK, blockK, retK, resHolds, resVR, VR.holds, ro, roArg, roPtr, roArgS, roSl, beq_self_eq_true, eq_self, implies_true, Int.reduceBEq, Int.reduceBNe, frz, frzOne, bne_self_eq_false, rNilCheck, rIndex, retM, retMK, argM, ptr]
  exact ⟨y, rfl, hQ⟩

theorem pickI (cb blk : Nat) (xs : List Int) (Q : Int → Prop) (h0 : 0 < xs.length) (h1 : xs.length ≤ 1000) (hQ : ∀ x ∈ xs, Q x) :
    Contract (Frm.codes cb) Try.prog 11 [ptr cb, .sl (some ⟨blk, 0, none⟩) xs.length xs.length 1 (rdL (xs.map (SV.i .i64)) 1)] (fun r => ∃ x : Int, r = .i .i64 x ∧ Q x) :=
  pickC cb _ _ _ _ Q h0 h1 fun i hi => ⟨xs.getD i 0, by simp [rdL, List.getD, hi], hQ _ (getD_mem hi)⟩
theorem plain_pick {Q : Int → Prop} (r : SV) (h : ∃ x : Int, r = .i .i64 x ∧ Q x) : ∀ R w, r.ok R w := by
  obtain ⟨x, rfl, _⟩ := h; exact ok_plain rfl
theorem plain_bool (r : SV) (h : ∃ b : Bool, r = .b b) : ∀ R w, r.ok R w := by
  obtain ⟨x, rfl⟩ := h; exact ok_plain rfl
theorem plain_addr (r : SV) (h : ∃ x : Int, r = .i .u32 x) : ∀ R w, r.ok R w := by
  obtain ⟨x, rfl⟩ := h; exact ok_plain rfl

set_option maxRecDepth 100000 in
theorem boolC (cb : Nat) (n : Int) (h1 : 1 ≤ n) (h2 : n ≤ 1000000) : Contract (Frm.codes cb) Try.prog 30 [ptr cb, .i .i64 n] (fun r => ∃ b : Bool, r = .b b) := by
  refine contract_of Try.func30 rfl (by kernel_rfl) ?_
  simp only [Try.ntmps30, argEnv, ptr]
  (repeat refine Sat.seq ?_)
  (refine Sat.region_k fun k hk => ?_; simp -implicitDefEqProofs only [evr, ty, rPick, rIbin, rBin, wideB, eqB, strB, rUn, rConv, rFieldAddr, rIndexAddr, rLoad, rField, rLen, rCap, rMax, rMin, rSlice, isRow, WCut, WZer, rBuild, toB, asRead, asAny, bound, flatOk, flat, lay, fillS, placesOf, id, ne_eq, reduceCtorEq, if_true, if_false, reduceIte, forall_const, decide_true, decide_eq_true_eq, decide_eq_false_iff_not, Nat.reduceMul, Nat.reduceAdd, Nat.reduceLT, Nat.reduceLeDiff, Nat.reduceEqDiff, Int.reduceLT, thenK, blockK, retK, resHolds, resVR, VR.holds, ro, roArg, roPtr, roArgS, roSl, beq_self_eq_true, eq_self, implies_true, Int.reduceBEq, Int.reduceBNe, frz, frzOne, bne_self_eq_false, rNilCheck, rIndex, retM, retMK, argM, ptr]; refine hk _ ?_; clear hk k; try show Sat _ _ _ _ _)
  (repeat refine Sat.seq ?_)
  (refine Sat.region_k fun k hk => ?_; simp -implicitDefEqProofs only [evr, ty, rPick, rIbin, rBin, wideB, eqB, strB, rUn, rConv, rFieldAddr, rIndexAddr, rLoad, rField, rLen, rCap, rMax, rMin, rSlice, isRow, WCut, WZer, rBuild, toB, asRead, asAny, bound, flatOk, flat, lay, fillS, placesOf, id, ne_eq, reduceCtorEq, if_true, if_false, reduceIte, forall_const, decide_true, decide_eq_true_eq, decide_eq_false_iff_not, Nat.reduceMul, Nat.reduceAdd, Nat.reduceLT, Nat.reduceLeDiff, Nat.reduceEqDiff, Int.reduceLT, thenK, blockK, retK, resHolds, resVR, VR.holds, ro, roArg, roPtr, roArgS, roSl, beq_self_eq_true, eq_self, implies_true, Int.reduceBEq, Int.reduceBNe, frz, frzOne, bne_self_eq_false, rNilCheck, rIndex, retM, retMK, argM, ptr])
  refine wcall_plain (nextC cb n (by omega) (by omega)) rfl (by rintro _ ⟨x, rfl, _⟩; exact ok_plain rfl) ?_
  rintro r ⟨x, rfl, hx0, hx1⟩
  simp -implicitDefEqProofs only [evr, ty, rPick, rIbin, rBin, wideB, eqB, strB, rUn, rConv, rFieldAddr, rIndexAddr, rLoad, rField, rLen, rCap, rMax, rMin, rSlice, isRow, WCut, WZer, rBuild, toB, asRead, asAny, bound, flatOk, flat, lay, fillS, placesOf, id, ne_eq, reduceCtorEq, if_true, if_false, reduceIte, forall_const, decide_true, decide_eq_true_eq, decide_eq_false_iff_not, Nat.reduceMul, Nat.reduceAdd, Nat.reduceLT, Nat.reduceLeDiff, Nat.reduceEqDiff, Int.reduceLT, thenK, blockK, retK, resHolds, resVR, VR.holds, ro, roArg, roPtr, roArgS, roSl, beq_self_eq_true, eq_self, implies_true, Int.reduceBEq, Int.reduceBNe, frz, frzOne, bne_self_eq_false, rNilCheck, rIndex, retM, retMK, argM, ptr]
  (refine hk _ ?_; clear hk k; try show Sat _ _ _ _ _)
  refine Sat.ret ?_
  simp only [Try.results30, evr, ty, rPick, rIbin, rBin, wideB, eqB, strB, rUn, rConv, rFieldAddr, rIndexAddr, rLoad, rField, rLen, rCap, rMax, rMin, rSlice, isRow, WCut, WZer, rBuild, toB, asRead, asAny, bound, flatOk, flat, lay, fillS, placesOf, id, ne_eq, reduceCtorEq, if_true, if_false, reduceIte, forall_const, decide_true, decide_eq_true_eq, decide_eq_false_iff_not, Nat.reduceMul, Nat.reduceAdd, Nat.reduceLT, Nat.reduceLeDiff, Nat.reduceEqDiff, Int.reduceLT, thenK, blockK, retK, resHolds, resVR, VR.holds, ro, roArg, roPtr, roArgS, roSl, beq_self_eq_true, eq_self, implies_true, Int.reduceBEq, Int.reduceBNe, frz, frzOne, bne_self_eq_false, rNilCheck, rIndex, retM, retMK, argM, ptr]
  exact ⟨_, rfl⟩

set_option maxRecDepth 100000 in
theorem addressC (cb : Nat) : Contract (Frm.codes cb) Try.prog 34 [ptr cb] (fun r => ∃ x : Int, r = .i .u32 x) := by
  refine contract_of Try.func34 rfl (by kernel_rfl) ?_
  simp only [Try.ntmps34, argEnv, ptr]
  (repeat refine Sat.seq ?_)
  (refine Sat.region_k fun k hk => ?_; simp -implicitDefEqProofs only [evr, ty, rPick, rIbin, rBin, wideB, eqB, strB, rUn, rConv, rFieldAddr, rIndexAddr, rLoad, rField, rLen, rCap, rMax, rMin, rSlice, isRow, WCut, WZer, rBuild, toB, asRead, asAny, bound, flatOk, flat, lay, fillS, placesOf, id, ne_eq, reduceCtorEq, if_true, if_false, reduceIte, forall_const, decide_true, decide_eq_true_eq, decide_eq_false_iff_not, Nat.reduceMul, Nat.reduceAdd, Nat.reduceLT, Nat.reduceLeDiff, Nat.reduceEqDiff, Int.reduceLT, thenK, blockK, retK, resHolds, resVR, VR.holds, ro, roArg, roPtr, roArgS, roSl, beq_self_eq_true, eq_self, implies_true, Int.reduceBEq, Int.reduceBNe, frz, frzOne, bne_self_eq_false, rNilCheck, rIndex, retM, retMK, argM, ptr]; refine hk _ ?_; clear hk k; try show Sat _ _ _ _ _)
  (repeat refine Sat.seq ?_)
  (refine Sat.region_k fun k hk => ?_; simp -implicitDefEqProofs only [evr, ty, rPick, rIbin, rBin, wideB, eqB, strB, rUn, rConv, rFieldAddr, rIndexAddr, rLoad, rField, rLen, rCap, rMax, rMin, rSlice, isRow, WCut, WZer, rBuild, toB, asRead, asAny, bound, flatOk, flat, lay, fillS, placesOf, id, ne_eq, reduceCtorEq, if_true, if_false, reduceIte, forall_const, decide_true, decide_eq_true_eq, decide_eq_false_iff_not, Nat.reduceMul, Nat.reduceAdd, Nat.reduceLT, Nat.reduceLeDiff, Nat.reduceEqDiff, Int.reduceLT, thenK, blockK, retK, resHolds, resVR, VR.holds, ro, roArg, roPtr, roArgS, roSl, beq_self_eq_true, eq_self, implies_true, Int.reduceBEq, Int.reduceBNe, frz, frzOne, bne_self_eq_false, rNilCheck, rIndex, retM, retMK, argM, ptr])
  intro blk
  refine wcall_plain (pickI cb blk [1, 2, 5, 6, 9, 10, 12, 13] (fun _ => True) (by decide) (by decide) (by simp)) (by simp -implicitDefEqProofs only [evr, ty, rPick, rIbin, rBin, wideB, eqB, strB, rUn, rConv, rFieldAddr, rIndexAddr, rLoad, rField, rLen, rCap, rMax, rMin, rSlice, isRow, WCut, WZer, rBuild, toB, asRead, asAny, bound, flatOk, flat, lay, fillS, placesOf, id, ne_eq, reduceCtorEq, if_true, if_false, reduceIte, forall_const, decide_true, decide_eq_true_eq, decide_eq_false_iff_not, Nat.reduceMul, Nat.reduceAdd, Nat.reduceLT, Nat.reduceLeDiff, Nat.reduceEqDiff, Int.reduceLT, thenK, blockK, retK, resHolds, resVR, VR.holds, ro, roArg, roPtr, roArgS, roSl, beq_self_eq_true, eq_self, implies_true, Int.reduceBEq, Int.reduceBNe, frz, frzOne, bne_self_eq_false, rNilCheck, rIndex, retM, retMK, argM, ptr]) plain_pick ?_
  rintro r ⟨x, rfl, _⟩
  simp -implicitDefEqProofs only [evr, ty, rPick, rIbin, rBin, wideB, eqB, strB, rUn, rConv, rFieldAddr, rIndexAddr, rLoad, rField, rLen, rCap, rMax, rMin, rSlice, isRow, WCut, WZer, rBuild, toB, asRead, asAny, bound, flatOk, flat, lay, fillS, placesOf, id, ne_eq, reduceCtorEq, if_true, if_false, reduceIte, forall_const, decide_true, decide_eq_true_eq, decide_eq_false_iff_not, Nat.reduceMul, Nat.reduceAdd, Nat.reduceLT, Nat.reduceLeDiff, Nat.reduceEqDiff, Int.reduceLT, thenK, blockK, retK, resHolds, resVR, VR.holds, ro, roArg, roPtr, roArgS, roSl, beq_self_eq_true, eq_self, implies_true, Int.reduceBEq, Int.reduceBNe, frz, frzOne, bne_self_eq_false, rNilCheck, rIndex, retM, retMK, argM, ptr]
  (refine hk _ ?_; clear hk k; try show Sat _ _ _ _ _)
  refine Sat.ret ?_
  simp only [Try.results34, evr, ty, rPick, rIbin, rBin, wideB, eqB, strB, rUn, rConv, rFieldAddr, rIndexAddr, rLoad, rField, rLen, rCap, rMax, rMin, rSlice, isRow, WCut, WZer, rBuild, toB, asRead, asAny, bound, flatOk, flat, lay, fillS, placesOf, id, ne_eq, reduceCtorEq, if_true, if_false, reduceIte, forall_const, decide_true, decide_eq_true_eq, decide_eq_false_iff_not, Nat.reduceMul, Nat.reduceAdd, Nat.reduceLT, Nat.reduceLeDiff, Nat.reduceEqDiff, Int.reduceLT, thenK, blockK, retK, resHolds, resVR, VR.holds, ro, roArg, roPtr, roArgS, roSl, beq_self_eq_true, eq_self, implies_true, Int.reduceBEq, Int.reduceBNe, frz, frzOne, bne_self_eq_false, rNilCheck, rIndex, retM, retMK, argM, ptr]
  exact ⟨_, rfl⟩
end Go.Proofs.Ytchpegjadoodnaa
