/- The reference of package sharing, by the evaluator: Earliest, Fits, Check, Refute, Least. -/
import Derived.Test.YtchpegjadoodnaaRefSA
import Derived.Test.YtchpegjadoodnaaLeastE
set_option linter.unusedSimpArgs false
set_option linter.unusedVariables false
namespace Go.Proofs.Ytchpegjadoodnaa
open Eng

theorem id_ok {l : List Smp} (hv : validL l = true) {q : Nat} (hq : q < l.length) : -9223372036854775808 ≤ (l.getD q default).id ∧ (l.getD q default).id ≤ 9223372036854775807 := by
  have := (validL_iff.1 hv q hq).1
  unfold Smp.Ok at this
  omega
theorem needR_ok {a b : Smp} {s : Int} (hs : spOk s = true) : needR a b s = tupL [.i .i64 (needI a.id b.id s), .i .i64 0] := if_pos hs
theorem rNeedC' (l : List Smp) (hv : validL l = true) (s : Int) (hs : spOk s = true) (q p : Nat) (hq : q < l.length) (hp : p < l.length) : Contract Frm.nil Try.prog 26 [(l.getD q default).sv, (l.getD p default).sv, .i .i64 s] (fun r => r = tupL [.i .i64 (needI (l.getD q default).id (l.getD p default).id s), .i .i64 0]) :=
  (rNeedC Frm.nil _ _ s (id_ok hv hq) (id_ok hv hp)).mono fun r h => by rw [h, needR_ok hs]

set_option maxRecDepth 100000 in
theorem rEarliestC (F : Frm) (ad : Option Addr) (cap : Nat) (l : List Smp) (s : Int) (hl : l.length ≤ 1000000) : Contract F Try.prog 21 [slS ad cap l, .i .i64 s] (EarlPost l s) := by
  refine contract_of Try.func21 rfl (by kernel_rfl) ?_
  simp only [Try.ntmps21, argEnv, slS]
  (repeat refine Sat.seq ?_)
  (refine Sat.region_k fun k hk => ?_; simp -implicitDefEqProofs only [evr, ty, rPick, rIbin, rBin, wideB, eqB, strB, rUn, rConv, rFieldAddr, rIndexAddr, rLoad, rField, rLen, rMax, rMin, rSlice, rBuild, toB, asRead, asAny, bound, flatOk, flat, lay, fillS, placesOf, id, ne_eq, reduceCtorEq, if_true, if_false, reduceIte, forall_const, decide_true, decide_eq_true_eq, decide_eq_false_iff_not, Nat.reduceMul, Nat.reduceAdd, Nat.reduceLT, Nat.reduceLeDiff, Nat.reduceEqDiff, Int.reduceLT, thenK, blockK, retK, resHolds, resVR, VR.holds, ro, roArg, roPtr, roArgS, roSl, beq_self_eq_true, eq_self, implies_true, Int.reduceBEq, Int.reduceBNe, frz, frzOne, bne_self_eq_false, rNilCheck, rIndex, retM, retMK, argM, Smp.cs, Smp.sv, slS]; refine hk _ ?_; clear hk k; try show Sat _ _ _ _ _)
  (repeat refine Sat.seq ?_)
  (refine Sat.region_k fun k hk => ?_; simp -implicitDefEqProofs only [evr, ty, rPick, rIbin, rBin, wideB, eqB, strB, rUn, rConv, rFieldAddr, rIndexAddr, rLoad, rField, rLen, rMax, rMin, rSlice, rBuild, toB, asRead, asAny, bound, flatOk, flat, lay, fillS, placesOf, id, ne_eq, reduceCtorEq, if_true, if_false, reduceIte, forall_const, decide_true, decide_eq_true_eq, decide_eq_false_iff_not, Nat.reduceMul, Nat.reduceAdd, Nat.reduceLT, Nat.reduceLeDiff, Nat.reduceEqDiff, Int.reduceLT, thenK, blockK, retK, resHolds, resVR, VR.holds, ro, roArg, roPtr, roArgS, roSl, beq_self_eq_true, eq_self, implies_true, Int.reduceBEq, Int.reduceBNe, frz, frzOne, bne_self_eq_false, rNilCheck, rIndex, retM, retMK, argM, Smp.cs, Smp.sv, slS])
  refine wcall_plain (rValidC F ad cap l hl) rfl (by rintro _ rfl; exact ok_plain rfl) ?_
  rintro r rfl
  simp -implicitDefEqProofs only [evr, ty, rPick, rIbin, rBin, wideB, eqB, strB, rUn, rConv, rFieldAddr, rIndexAddr, rLoad, rField, rLen, rMax, rMin, rSlice, rBuild, toB, asRead, asAny, bound, flatOk, flat, lay, fillS, placesOf, id, ne_eq, reduceCtorEq, if_true, if_false, reduceIte, forall_const, decide_true, decide_eq_true_eq, decide_eq_false_iff_not, Nat.reduceMul, Nat.reduceAdd, Nat.reduceLT, Nat.reduceLeDiff, Nat.reduceEqDiff, Int.reduceLT, thenK, blockK, retK, resHolds, resVR, VR.holds, ro, roArg, roPtr, roArgS, roSl, beq_self_eq_true, eq_self, implies_true, Int.reduceBEq, Int.reduceBNe, frz, frzOne, bne_self_eq_false, rNilCheck, rIndex, retM, retMK, argM, Smp.cs, Smp.sv, slS]
  (refine hk _ ?_; clear hk k; try show Sat _ _ _ _ _)
  refine Sat.cond_b rfl (fun h => ?_) (fun h => ?_)
  · (repeat refine Sat.seq ?_)
    (refine Sat.region_k fun k hk => ?_; simp -implicitDefEqProofs only [evr, ty, rPick, rIbin, rBin, wideB, eqB, strB, rUn, rConv, rFieldAddr, rIndexAddr, rLoad, rField, rLen, rMax, rMin, rSlice, rBuild, toB, asRead, asAny, bound, flatOk, flat, lay, fillS, placesOf, id, ne_eq, reduceCtorEq, if_true, if_false, reduceIte, forall_const, decide_true, decide_eq_true_eq, decide_eq_false_iff_not, Nat.reduceMul, Nat.reduceAdd, Nat.reduceLT, Nat.reduceLeDiff, Nat.reduceEqDiff, Int.reduceLT, thenK, blockK, retK, resHolds, resVR, VR.holds, ro, roArg, roPtr, roArgS, roSl, beq_self_eq_true, eq_self, implies_true, Int.reduceBEq, Int.reduceBNe, frz, frzOne, bne_self_eq_false, rNilCheck, rIndex, retM, retMK, argM, Smp.cs, Smp.sv, slS]; refine hk _ ?_; clear hk k; try show Sat _ _ _ _ _)
    refine Sat.ret ?_
    simp only [Try.results21, evr, ty, rPick, rIbin, rBin, wideB, eqB, strB, rUn, rConv, rFieldAddr, rIndexAddr, rLoad, rField, rLen, rMax, rMin, rSlice, rBuild, toB, asRead, asAny, bound, flatOk, flat, lay, fillS, placesOf, id, ne_eq, reduceCtorEq, if_true, if_false, reduceIte, forall_const, decide_true, decide_eq_true_eq, decide_eq_false_iff_not, Nat.reduceMul, Nat.reduceAdd, Nat.reduceLT, Nat.reduceLeDiff, Nat.reduceEqDiff, Int.reduceLT, thenK, blockK, retK, resHolds, resVR, VR.holds, ro, roArg, roPtr, roArgS, roSl, beq_self_eq_true, eq_self, implies_true, Int.reduceBEq, Int.reduceBNe, frz, frzOne, bne_self_eq_false, rNilCheck, rIndex, retM, retMK, argM, Smp.cs, Smp.sv, slS]
    unfold EarlPost
    rw [if_neg (by simpa using h)]
  · have hv : validL l = true := by simpa using h
    refine Sat.skip ?_
    simp only [thenK]
    (repeat refine Sat.seq ?_)
    (refine Sat.region_k fun k hk => ?_; simp -implicitDefEqProofs only [evr, ty, rPick, rIbin, rBin, wideB, eqB, strB, rUn, rConv, rFieldAddr, rIndexAddr, rLoad, rField, rLen, rMax, rMin, rSlice, rBuild, toB, asRead, asAny, bound, flatOk, flat, lay, fillS, placesOf, id, ne_eq, reduceCtorEq, if_true, if_false, reduceIte, forall_const, decide_true, decide_eq_true_eq, decide_eq_false_iff_not, Nat.reduceMul, Nat.reduceAdd, Nat.reduceLT, Nat.reduceLeDiff, Nat.reduceEqDiff, Int.reduceLT, thenK, blockK, retK, resHolds, resVR, VR.holds, ro, roArg, roPtr, roArgS, roSl, beq_self_eq_true, eq_self, implies_true, Int.reduceBEq, Int.reduceBNe, frz, frzOne, bne_self_eq_false, rNilCheck, rIndex, retM, retMK, argM, Smp.cs, Smp.sv, slS])
    refine wcall_plain (rSpeedsC F s) rfl (by rintro _ rfl; exact ok_plain rfl) ?_
    rintro r rfl
    simp -implicitDefEqProofs only [evr, ty, rPick, rIbin, rBin, wideB, eqB, strB, rUn, rConv, rFieldAddr, rIndexAddr, rLoad, rField, rLen, rMax, rMin, rSlice, rBuild, toB, asRead, asAny, bound, flatOk, flat, lay, fillS, placesOf, id, ne_eq, reduceCtorEq, if_true, if_false, reduceIte, forall_const, decide_true, decide_eq_true_eq, decide_eq_false_iff_not, Nat.reduceMul, Nat.reduceAdd, Nat.reduceLT, Nat.reduceLeDiff, Nat.reduceEqDiff, Int.reduceLT, thenK, blockK, retK, resHolds, resVR, VR.holds, ro, roArg, roPtr, roArgS, roSl, beq_self_eq_true, eq_self, implies_true, Int.reduceBEq, Int.reduceBNe, frz, frzOne, bne_self_eq_false, rNilCheck, rIndex, retM, retMK, argM, Smp.cs, Smp.sv, slS]
    (refine hk _ ?_; clear hk k; try show Sat _ _ _ _ _)
    refine Sat.cond_b rfl (fun h1 => ?_) (fun h1 => ?_)
    · (repeat refine Sat.seq ?_)
      (refine Sat.region_k fun k hk => ?_; simp -implicitDefEqProofs only [evr, ty, rPick, rIbin, rBin, wideB, eqB, strB, rUn, rConv, rFieldAddr, rIndexAddr, rLoad, rField, rLen, rMax, rMin, rSlice, rBuild, toB, asRead, asAny, bound, flatOk, flat, lay, fillS, placesOf, id, ne_eq, reduceCtorEq, if_true, if_false, reduceIte, forall_const, decide_true, decide_eq_true_eq, decide_eq_false_iff_not, Nat.reduceMul, Nat.reduceAdd, Nat.reduceLT, Nat.reduceLeDiff, Nat.reduceEqDiff, Int.reduceLT, thenK, blockK, retK, resHolds, resVR, VR.holds, ro, roArg, roPtr, roArgS, roSl, beq_self_eq_true, eq_self, implies_true, Int.reduceBEq, Int.reduceBNe, frz, frzOne, bne_self_eq_false, rNilCheck, rIndex, retM, retMK, argM, Smp.cs, Smp.sv, slS]; refine hk _ ?_; clear hk k; try show Sat _ _ _ _ _)
      refine Sat.ret ?_
      simp only [Try.results21, evr, ty, rPick, rIbin, rBin, wideB, eqB, strB, rUn, rConv, rFieldAddr, rIndexAddr, rLoad, rField, rLen, rMax, rMin, rSlice, rBuild, toB, asRead, asAny, bound, flatOk, flat, lay, fillS, placesOf, id, ne_eq, reduceCtorEq, if_true, if_false, reduceIte, forall_const, decide_true, decide_eq_true_eq, decide_eq_false_iff_not, Nat.reduceMul, Nat.reduceAdd, Nat.reduceLT, Nat.reduceLeDiff, Nat.reduceEqDiff, Int.reduceLT, thenK, blockK, retK, resHolds, resVR, VR.holds, ro, roArg, roPtr, roArgS, roSl, beq_self_eq_true, eq_self, implies_true, Int.reduceBEq, Int.reduceBNe, frz, frzOne, bne_self_eq_false, rNilCheck, rIndex, retM, retMK, argM, Smp.cs, Smp.sv, slS]
      unfold EarlPost
      rw [if_pos hv, if_neg (by simpa using h1)]
    · have hs : spOk s = true := by simpa using h1
      have hs' := spOk_iff.1 hs
      refine Sat.skip ?_
      simp only [thenK]
      (repeat refine Sat.seq ?_)
      (refine Sat.region_k fun k hk => ?_; simp -implicitDefEqProofs only [evr, ty, rPick, rIbin, rBin, wideB, eqB, strB, rUn, rConv, rFieldAddr, rIndexAddr, rLoad, rField, rLen, rMax, rMin, rSlice, rBuild, toB, asRead, asAny, bound, flatOk, flat, lay, fillS, placesOf, id, ne_eq, reduceCtorEq, if_true, if_false, reduceIte, forall_const, decide_true, decide_eq_true_eq, decide_eq_false_iff_not, Nat.reduceMul, Nat.reduceAdd, Nat.reduceLT, Nat.reduceLeDiff, Nat.reduceEqDiff, Int.reduceLT, thenK, blockK, retK, resHolds, resVR, VR.holds, ro, roArg, roPtr, roArgS, roSl, beq_self_eq_true, eq_self, implies_true, Int.reduceBEq, Int.reduceBNe, frz, frzOne, bne_self_eq_false, rNilCheck, rIndex, retM, retMK, argM, Smp.cs, Smp.sv, slS]; refine hk _ ?_; clear hk k; try show Sat _ _ _ _ _)
      (repeat refine Sat.seq ?_)
      (refine Sat.region_k fun k hk => ?_; simp -implicitDefEqProofs only [evr, ty, rPick, rIbin, rBin, wideB, eqB, strB, rUn, rConv, rFieldAddr, rIndexAddr, rLoad, rField, rLen, rMax, rMin, rSlice, rBuild, toB, asRead, asAny, bound, flatOk, flat, lay, fillS, placesOf, id, ne_eq, reduceCtorEq, if_true, if_false, reduceIte, forall_const, decide_true, decide_eq_true_eq, decide_eq_false_iff_not, Nat.reduceMul, Nat.reduceAdd, Nat.reduceLT, Nat.reduceLeDiff, Nat.reduceEqDiff, Int.reduceLT, thenK, blockK, retK, resHolds, resVR, VR.holds, ro, roArg, roPtr, roArgS, roSl, beq_self_eq_true, eq_self, implies_true, Int.reduceBEq, Int.reduceBNe, frz, frzOne, bne_self_eq_false, rNilCheck, rIndex, retM, retMK, argM, Smp.cs, Smp.sv, slS]; refine hk _ ?_; clear hk k; try show Sat _ _ _ _ _)
      refine Sat.block ?_
      refine Sat.adopt 6 3 1 (fun p _ => .i .i64 (tAt l s p)) rfl ?_
      refine Sat.loop (ι := Nat × Option Addr × Nat) (fun x => ⟨65, [(7, .i .i64 x.1), (0, slS ad cap l), (1, .i .i64 s), (6, .os 0 x.2.1 x.1 x.2.2)], [.row x.2.1 3 x.1 x.2.2 1 (fun p _ => .i .i64 (tAt l s p))]⟩)
        (fun x => x.1 ≤ l.length ∧ ∀ j, j < x.1 → tAt l s j ≤ (l.getD j default).back) (fun x => l.length - x.1) (0, none, 0) ⟨Nat.zero_le _, fun j hj => absurd hj (Nat.not_lt_zero _)⟩ (by simp -implicitDefEqProofs only [evr, ty, rPick, rIbin, rBin, wideB, eqB, strB, rUn, rConv, rFieldAddr, rIndexAddr, rLoad, rField, rLen, rMax, rMin, rSlice, rBuild, toB, asRead, asAny, bound, flatOk, flat, lay, fillS, placesOf, id, ne_eq, reduceCtorEq, if_true, if_false, reduceIte, forall_const, decide_true, decide_eq_true_eq, decide_eq_false_iff_not, Nat.reduceMul, Nat.reduceAdd, Nat.reduceLT, Nat.reduceLeDiff, Nat.reduceEqDiff, Int.reduceLT, thenK, blockK, retK, resHolds, resVR, VR.holds, ro, roArg, roPtr, roArgS, roSl, beq_self_eq_true, eq_self, implies_true, Int.reduceBEq, Int.reduceBNe, frz, frzOne, bne_self_eq_false, rNilCheck, rIndex, retM, retMK, argM, Smp.cs, Smp.sv, slS, Le, envLe, ownLe, Own.le, Option.some.injEq, eq_self, true_or, false_or, or_false, exists_eq_left', exists_eq_left, exists_eq, exists_eq', SV.i.injEq, SV.b.injEq, rdEq_same, exists_false, and_false, false_and]; rfl) ?_
      rintro ⟨i, a, c⟩ ⟨hi, hall⟩
      simp only [slS] at hi hall ⊢
      (repeat refine Sat.seq ?_)
      (refine Sat.region_k fun k hk => ?_; simp -implicitDefEqProofs only [evr, ty, rPick, rIbin, rBin, wideB, eqB, strB, rUn, rConv, rFieldAddr, rIndexAddr, rLoad, rField, rLen, rMax, rMin, rSlice, rBuild, toB, asRead, asAny, bound, flatOk, flat, lay, fillS, placesOf, id, ne_eq, reduceCtorEq, if_true, if_false, reduceIte, forall_const, decide_true, decide_eq_true_eq, decide_eq_false_iff_not, Nat.reduceMul, Nat.reduceAdd, Nat.reduceLT, Nat.reduceLeDiff, Nat.reduceEqDiff, Int.reduceLT, thenK, blockK, retK, resHolds, resVR, VR.holds, ro, roArg, roPtr, roArgS, roSl, beq_self_eq_true, eq_self, implies_true, Int.reduceBEq, Int.reduceBNe, frz, frzOne, bne_self_eq_false, rNilCheck, rIndex, retM, retMK, argM, Smp.cs, Smp.sv, slS]; refine hk _ ?_; clear hk k; try show Sat _ _ _ _ _)
      (repeat refine Sat.seq ?_)
      refine Sat.cond_b rfl (fun h => ?_) (fun h => ?_)
      · simp only [decide_eq_true_eq] at h
        have hlt : i < l.length := by omega
        refine Sat.skip ?_
        simp only [thenK]
        (repeat refine Sat.seq ?_)
        refine Sat.block ?_
        (repeat refine Sat.seq ?_)
        (refine Sat.region_k fun k hk => ?_; simp -implicitDefEqProofs only [evr, ty, rPick, rIbin, rBin, wideB, eqB, strB, rUn, rConv, rFieldAddr, rIndexAddr, rLoad, rField, rLen, rMax, rMin, rSlice, rBuild, toB, asRead, asAny, bound, flatOk, flat, lay, fillS, placesOf, id, ne_eq, reduceCtorEq, if_true, if_false, reduceIte, forall_const, decide_true, decide_eq_true_eq, decide_eq_false_iff_not, Nat.reduceMul, Nat.reduceAdd, Nat.reduceLT, Nat.reduceLeDiff, Nat.reduceEqDiff, Int.reduceLT, thenK, blockK, retK, resHolds, resVR, VR.holds, ro, roArg, roPtr, roArgS, roSl, beq_self_eq_true, eq_self, implies_true, Int.reduceBEq, Int.reduceBNe, frz, frzOne, bne_self_eq_false, rNilCheck, rIndex, retM, retMK, argM, Smp.cs, Smp.sv, slS])
        refine ⟨by omega, ?_⟩
        (refine hk _ ?_; clear hk k; try show Sat _ _ _ _ _)
        (repeat refine Sat.seq ?_)
        (refine Sat.region_k fun k hk => ?_; simp -implicitDefEqProofs only [evr, ty, rPick, rIbin, rBin, wideB, eqB, strB, rUn, rConv, rFieldAddr, rIndexAddr, rLoad, rField, rLen, rMax, rMin, rSlice, rBuild, toB, asRead, asAny, bound, flatOk, flat, lay, fillS, placesOf, id, ne_eq, reduceCtorEq, if_true, if_false, reduceIte, forall_const, decide_true, decide_eq_true_eq, decide_eq_false_iff_not, Nat.reduceMul, Nat.reduceAdd, Nat.reduceLT, Nat.reduceLeDiff, Nat.reduceEqDiff, Int.reduceLT, thenK, blockK, retK, resHolds, resVR, VR.holds, ro, roArg, roPtr, roArgS, roSl, beq_self_eq_true, eq_self, implies_true, Int.reduceBEq, Int.reduceBNe, frz, frzOne, bne_self_eq_false, rNilCheck, rIndex, retM, retMK, argM, Smp.cs, Smp.sv, slS]; refine hk _ ?_; clear hk k; try show Sat _ _ _ _ _)
        (repeat refine Sat.seq ?_)
        refine Sat.at ⟨65, [(8, .i .i64 (tAt l s i)), (7, .i .i64 i), (0, slS ad cap l), (1, .i .i64 s), (6, .os 0 a i c)], [.row a 3 i c 1 (fun p _ => .i .i64 (tAt l s p))]⟩ ?_ ?_
        · refine Sat.cond_b rfl (fun h2 => ?_) (fun h2 => ?_)
          · simp only [decide_eq_true_eq] at h2
            obtain ⟨q, rfl⟩ : ∃ q, i = q + 1 := ⟨i - 1, by omega⟩
            have ew : IntKind.i64.wrap (((q + 1 : Nat) : Int) - 1) = (q : Int) := by rw [w64 (by omega)]; omega
            (repeat refine Sat.seq ?_)
            refine Sat.region_qk (by kernel_rfl) (by kernel_rfl) fun k hk => ?_
            simp -implicitDefEqProofs only [evr, ty, rPick, rIbin, rBin, wideB, eqB, strB, rUn, rConv, rFieldAddr, rIndexAddr, rLoad, rField, rLen, rMax, rMin, rSlice, rBuild, toB, asRead, asAny, bound, flatOk, flat, lay, fillS, placesOf, id, ne_eq, reduceCtorEq, if_true, if_false, reduceIte, forall_const, decide_true, decide_eq_true_eq, decide_eq_false_iff_not, Nat.reduceMul, Nat.reduceAdd, Nat.reduceLT, Nat.reduceLeDiff, Nat.reduceEqDiff, Int.reduceLT, thenK, blockK, retK, resHolds, resVR, VR.holds, ro, roArg, roPtr, roArgS, roSl, beq_self_eq_true, eq_self, implies_true, Int.reduceBEq, Int.reduceBNe, frz, frzOne, bne_self_eq_false, rNilCheck, rIndex, retM, retMK, argM, Smp.cs, Smp.sv, slS, ew]
            refine ⟨by omega, by omega, ?_⟩
            refine qcall (rNeedC' l hv s hs q (q + 1) (by omega) hlt) rfl (ok_tupL rfl) ?_
            simp -implicitDefEqProofs only [evr, ty, rPick, rIbin, rBin, wideB, eqB, strB, rUn, rConv, rFieldAddr, rIndexAddr, rLoad, rField, rLen, rMax, rMin, rSlice, rBuild, toB, asRead, asAny, bound, flatOk, flat, lay, fillS, placesOf, id, ne_eq, reduceCtorEq, if_true, if_false, reduceIte, forall_const, decide_true, decide_eq_true_eq, decide_eq_false_iff_not, Nat.reduceMul, Nat.reduceAdd, Nat.reduceLT, Nat.reduceLeDiff, Nat.reduceEqDiff, Int.reduceLT, thenK, blockK, retK, resHolds, resVR, VR.holds, ro, roArg, roPtr, roArgS, roSl, beq_self_eq_true, eq_self, implies_true, Int.reduceBEq, Int.reduceBNe, frz, frzOne, bne_self_eq_false, rNilCheck, rIndex, retM, retMK, argM, Smp.cs, Smp.sv, slS]
            (refine hk _ ?_; clear hk k; try show Sat _ _ _ _ _)
            refine Sat.region_k fun k hk => ?_
            simp -implicitDefEqProofs only [evr, ty, rPick, rIbin, rBin, wideB, eqB, strB, rUn, rConv, rFieldAddr, rIndexAddr, rLoad, rField, rLen, rMax, rMin, rSlice, rBuild, toB, asRead, asAny, bound, flatOk, flat, lay, fillS, placesOf, id, ne_eq, reduceCtorEq, if_true, if_false, reduceIte, forall_const, decide_true, decide_eq_true_eq, decide_eq_false_iff_not, Nat.reduceMul, Nat.reduceAdd, Nat.reduceLT, Nat.reduceLeDiff, Nat.reduceEqDiff, Int.reduceLT, thenK, blockK, retK, resHolds, resVR, VR.holds, ro, roArg, roPtr, roArgS, roSl, beq_self_eq_true, eq_self, implies_true, Int.reduceBEq, Int.reduceBNe, frz, frzOne, bne_self_eq_false, rNilCheck, rIndex, retM, retMK, argM, Smp.cs, Smp.sv, slS, ew]
            refine ⟨by omega, by omega, ?_⟩
            refine hk _ ?_
            simp only [thenK]
            have hv' := validL_iff.1 hv
            have b1 := (hv' q (by omega)).1
            have b2 := hall q (by omega)
            have b3 := need_bounds l hs'.1 q
            have b4 : (l.getD q default).at_ ≤ tAt l s q := by have := tAt_le l s q 0; simpa [sumN] using this
            unfold Smp.Ok at b1
            simp -implicitDefEqProofs only [evr, ty, rPick, rIbin, rBin, wideB, eqB, strB, rUn, rConv, rFieldAddr, rIndexAddr, rLoad, rField, rLen, rMax, rMin, rSlice, rBuild, toB, asRead, asAny, bound, flatOk, flat, lay, fillS, placesOf, id, ne_eq, reduceCtorEq, if_true, if_false, reduceIte, forall_const, decide_true, decide_eq_true_eq, decide_eq_false_iff_not, Nat.reduceMul, Nat.reduceAdd, Nat.reduceLT, Nat.reduceLeDiff, Nat.reduceEqDiff, Int.reduceLT, thenK, blockK, retK, resHolds, resVR, VR.holds, ro, roArg, roPtr, roArgS, roSl, beq_self_eq_true, eq_self, implies_true, Int.reduceBEq, Int.reduceBNe, frz, frzOne, bne_self_eq_false, rNilCheck, rIndex, retM, retMK, argM, Smp.cs, Smp.sv, slS, Le, envLe, ownLe, Own.le, Option.some.injEq, eq_self, true_or, false_or, or_false, exists_eq_left', exists_eq_left, exists_eq, exists_eq', SV.i.injEq, SV.b.injEq, rdEq_same, exists_false, and_false, false_and]
            have e : tAt l s (q + 1) = max (l.getD (q + 1) default).at_ (tAt l s q + need l s q) := rfl
            unfold need at e b3
            rw [w64 (by omega), e]
          · simp only [decide_eq_false_iff_not] at h2
            obtain rfl : i = 0 := by omega
            refine Sat.skip ?_
            simp only [thenK]
            simp -implicitDefEqProofs only [evr, ty, rPick, rIbin, rBin, wideB, eqB, strB, rUn, rConv, rFieldAddr, rIndexAddr, rLoad, rField, rLen, rMax, rMin, rSlice, rBuild, toB, asRead, asAny, bound, flatOk, flat, lay, fillS, placesOf, id, ne_eq, reduceCtorEq, if_true, if_false, reduceIte, forall_const, decide_true, decide_eq_true_eq, decide_eq_false_iff_not, Nat.reduceMul, Nat.reduceAdd, Nat.reduceLT, Nat.reduceLeDiff, Nat.reduceEqDiff, Int.reduceLT, thenK, blockK, retK, resHolds, resVR, VR.holds, ro, roArg, roPtr, roArgS, roSl, beq_self_eq_true, eq_self, implies_true, Int.reduceBEq, Int.reduceBNe, frz, frzOne, bne_self_eq_false, rNilCheck, rIndex, retM, retMK, argM, Smp.cs, Smp.sv, slS, Le, envLe, ownLe, Own.le, Option.some.injEq, eq_self, true_or, false_or, or_false, exists_eq_left', exists_eq_left, exists_eq, exists_eq', SV.i.injEq, SV.b.injEq, rdEq_same, exists_false, and_false, false_and]
            rfl
        · simp only [thenK, slS]
          (repeat refine Sat.seq ?_)
          (refine Sat.region_k fun k hk => ?_; simp -implicitDefEqProofs only [evr, ty, rPick, rIbin, rBin, wideB, eqB, strB, rUn, rConv, rFieldAddr, rIndexAddr, rLoad, rField, rLen, rMax, rMin, rSlice, rBuild, toB, asRead, asAny, bound, flatOk, flat, lay, fillS, placesOf, id, ne_eq, reduceCtorEq, if_true, if_false, reduceIte, forall_const, decide_true, decide_eq_true_eq, decide_eq_false_iff_not, Nat.reduceMul, Nat.reduceAdd, Nat.reduceLT, Nat.reduceLeDiff, Nat.reduceEqDiff, Int.reduceLT, thenK, blockK, retK, resHolds, resVR, VR.holds, ro, roArg, roPtr, roArgS, roSl, beq_self_eq_true, eq_self, implies_true, Int.reduceBEq, Int.reduceBNe, frz, frzOne, bne_self_eq_false, rNilCheck, rIndex, retM, retMK, argM, Smp.cs, Smp.sv, slS])
          refine ⟨by omega, ?_⟩
          (refine hk _ ?_; clear hk k; try show Sat _ _ _ _ _)
          refine Sat.cond_b rfl (fun h2 => ?_) (fun h2 => ?_)
          · simp only [decide_eq_true_eq] at h2
            (repeat refine Sat.seq ?_)
            (refine Sat.region_k fun k hk => ?_; simp -implicitDefEqProofs only [evr, ty, rPick, rIbin, rBin, wideB, eqB, strB, rUn, rConv, rFieldAddr, rIndexAddr, rLoad, rField, rLen, rMax, rMin, rSlice, rBuild, toB, asRead, asAny, bound, flatOk, flat, lay, fillS, placesOf, id, ne_eq, reduceCtorEq, if_true, if_false, reduceIte, forall_const, decide_true, decide_eq_true_eq, decide_eq_false_iff_not, Nat.reduceMul, Nat.reduceAdd, Nat.reduceLT, Nat.reduceLeDiff, Nat.reduceEqDiff, Int.reduceLT, thenK, blockK, retK, resHolds, resVR, VR.holds, ro, roArg, roPtr, roArgS, roSl, beq_self_eq_true, eq_self, implies_true, Int.reduceBEq, Int.reduceBNe, frz, frzOne, bne_self_eq_false, rNilCheck, rIndex, retM, retMK, argM, Smp.cs, Smp.sv, slS]; refine hk _ ?_; clear hk k; try show Sat _ _ _ _ _)
            refine Sat.ret ?_
            simp only [Try.results21, evr, ty, rPick, rIbin, rBin, wideB, eqB, strB, rUn, rConv, rFieldAddr, rIndexAddr, rLoad, rField, rLen, rMax, rMin, rSlice, rBuild, toB, asRead, asAny, bound, flatOk, flat, lay, fillS, placesOf, id, ne_eq, reduceCtorEq, if_true, if_false, reduceIte, forall_const, decide_true, decide_eq_true_eq, decide_eq_false_iff_not, Nat.reduceMul, Nat.reduceAdd, Nat.reduceLT, Nat.reduceLeDiff, Nat.reduceEqDiff, Int.reduceLT, thenK, blockK, retK, resHolds, resVR, VR.holds, ro, roArg, roPtr, roArgS, roSl, beq_self_eq_true, eq_self, implies_true, Int.reduceBEq, Int.reduceBNe, frz, frzOne, bne_self_eq_false, rNilCheck, rIndex, retM, retMK, argM, Smp.cs, Smp.sv, slS]
            unfold EarlPost
            have hf : ¬ fitsB l s = true := fun hf => by have := fitsB_iff.1 hf i hlt; omega
            rw [if_pos hv, if_pos hs, if_neg hf]
          · simp only [decide_eq_false_iff_not] at h2
            refine Sat.skip ?_
            simp only [thenK]
            (repeat refine Sat.seq ?_)
            (refine Sat.region_k fun k hk => ?_; simp -implicitDefEqProofs only [evr, ty, rPick, rIbin, rBin, wideB, eqB, strB, rUn, rConv, rFieldAddr, rIndexAddr, rLoad, rField, rLen, rMax, rMin, rSlice, rBuild, toB, asRead, asAny, bound, flatOk, flat, lay, fillS, placesOf, id, ne_eq, reduceCtorEq, if_true, if_false, reduceIte, forall_const, decide_true, decide_eq_true_eq, decide_eq_false_iff_not, Nat.reduceMul, Nat.reduceAdd, Nat.reduceLT, Nat.reduceLeDiff, Nat.reduceEqDiff, Int.reduceLT, thenK, blockK, retK, resHolds, resVR, VR.holds, ro, roArg, roPtr, roArgS, roSl, beq_self_eq_true, eq_self, implies_true, Int.reduceBEq, Int.reduceBNe, frz, frzOne, bne_self_eq_false, rNilCheck, rIndex, retM, retMK, argM, Smp.cs, Smp.sv, slS])
            intro blk2
            refine ⟨⟨by unfold maxLen; omega, by omega⟩, fun a2 cap2 => ?_⟩
            refine hk _ ?_
            simp only [thenK, blockK]
            (repeat refine Sat.seq ?_)
            (refine Sat.region_k fun k hk => ?_; simp -implicitDefEqProofs only [evr, ty, rPick, rIbin, rBin, wideB, eqB, strB, rUn, rConv, rFieldAddr, rIndexAddr, rLoad, rField, rLen, rMax, rMin, rSlice, rBuild, toB, asRead, asAny, bound, flatOk, flat, lay, fillS, placesOf, id, ne_eq, reduceCtorEq, if_true, if_false, reduceIte, forall_const, decide_true, decide_eq_true_eq, decide_eq_false_iff_not, Nat.reduceMul, Nat.reduceAdd, Nat.reduceLT, Nat.reduceLeDiff, Nat.reduceEqDiff, Int.reduceLT, thenK, blockK, retK, resHolds, resVR, VR.holds, ro, roArg, roPtr, roArgS, roSl, beq_self_eq_true, eq_self, implies_true, Int.reduceBEq, Int.reduceBNe, frz, frzOne, bne_self_eq_false, rNilCheck, rIndex, retM, retMK, argM, Smp.cs, Smp.sv, slS])
            refine hk _ ?_
            simp only [thenK, blockK]
            refine ⟨(i + 1, a2, cap2), ⟨by show i + 1 ≤ _; omega, fun j hj => ?_⟩, by show _ - (i + 1) < _; omega, ?_⟩
            · have hj' : j < i + 1 := hj
              by_cases e : j < i
              · exact hall j e
              · rw [show j = i by omega]; omega
            · simp -implicitDefEqProofs only [evr, ty, rPick, rIbin, rBin, wideB, eqB, strB, rUn, rConv, rFieldAddr, rIndexAddr, rLoad, rField, rLen, rMax, rMin, rSlice, rBuild, toB, asRead, asAny, bound, flatOk, flat, lay, fillS, placesOf, id, ne_eq, reduceCtorEq, if_true, if_false, reduceIte, forall_const, decide_true, decide_eq_true_eq, decide_eq_false_iff_not, Nat.reduceMul, Nat.reduceAdd, Nat.reduceLT, Nat.reduceLeDiff, Nat.reduceEqDiff, Int.reduceLT, thenK, blockK, retK, resHolds, resVR, VR.holds, ro, roArg, roPtr, roArgS, roSl, beq_self_eq_true, eq_self, implies_true, Int.reduceBEq, Int.reduceBNe, frz, frzOne, bne_self_eq_false, rNilCheck, rIndex, retM, retMK, argM, Smp.cs, Smp.sv, slS, Le, envLe, ownLe, Own.le, Option.some.injEq, eq_self, true_or, false_or, or_false, exists_eq_left', exists_eq_left, exists_eq, exists_eq', SV.i.injEq, SV.b.injEq, rdEq_same, exists_false, and_false, false_and]
              exact ⟨by rw [w64 (by omega)]; omega, rdEq_one (rdEq_refl _ _ _) rfl⟩
      · simp only [decide_eq_false_iff_not] at h
        refine Sat.exit ?_
        simp only [thenK, blockK, reduceIte]
        (repeat refine Sat.seq ?_)
        (refine Sat.region_k fun k hk => ?_; simp -implicitDefEqProofs only [evr, ty, rPick, rIbin, rBin, wideB, eqB, strB, rUn, rConv, rFieldAddr, rIndexAddr, rLoad, rField, rLen, rMax, rMin, rSlice, rBuild, toB, asRead, asAny, bound, flatOk, flat, lay, fillS, placesOf, id, ne_eq, reduceCtorEq, if_true, if_false, reduceIte, forall_const, decide_true, decide_eq_true_eq, decide_eq_false_iff_not, Nat.reduceMul, Nat.reduceAdd, Nat.reduceLT, Nat.reduceLeDiff, Nat.reduceEqDiff, Int.reduceLT, thenK, blockK, retK, resHolds, resVR, VR.holds, ro, roArg, roPtr, roArgS, roSl, beq_self_eq_true, eq_self, implies_true, Int.reduceBEq, Int.reduceBNe, frz, frzOne, bne_self_eq_false, rNilCheck, rIndex, retM, retMK, argM, Smp.cs, Smp.sv, slS]; refine hk _ ?_; clear hk k; try show Sat _ _ _ _ _)
        refine Sat.ret ?_
        simp only [Try.results21, evr, ty, rPick, rIbin, rBin, wideB, eqB, strB, rUn, rConv, rFieldAddr, rIndexAddr, rLoad, rField, rLen, rMax, rMin, rSlice, rBuild, toB, asRead, asAny, bound, flatOk, flat, lay, fillS, placesOf, id, ne_eq, reduceCtorEq, if_true, if_false, reduceIte, forall_const, decide_true, decide_eq_true_eq, decide_eq_false_iff_not, Nat.reduceMul, Nat.reduceAdd, Nat.reduceLT, Nat.reduceLeDiff, Nat.reduceEqDiff, Int.reduceLT, thenK, blockK, retK, resHolds, resVR, VR.holds, ro, roArg, roPtr, roArgS, roSl, beq_self_eq_true, eq_self, implies_true, Int.reduceBEq, Int.reduceBNe, frz, frzOne, bne_self_eq_false, rNilCheck, rIndex, retM, retMK, argM, Smp.cs, Smp.sv, slS]
        have hil : i = l.length := by omega
        subst hil
        have hf : fitsB l s = true := fitsB_iff.2 fun j hj => hall j hj
        unfold EarlPost
        rw [if_pos hv, if_pos hs, if_pos hf]
        exact ⟨a, c, rfl⟩

theorem earl_code {l : List Smp} {s : Int} {r : SV} (hr : EarlPost l s r) : ∃ x c, r = tupL [x, .i .i64 c] ∧ (c == 0) = fitsAll l s := by
  unfold EarlPost at hr
  unfold fitsAll
  split at hr
  · rename_i h1
    split at hr
    · rename_i h2
      split at hr
      · rename_i h3
        obtain ⟨a, cap, rfl⟩ := hr
        exact ⟨_, _, rfl, by simp [h1, h2, h3]⟩
      · rename_i h3; exact ⟨_, _, hr, by simp [h1, h2, h3]⟩
    · rename_i h2; exact ⟨_, _, hr, by simp [h1, h2]⟩
  · rename_i h1; exact ⟨_, _, hr, by simp [h1]⟩

set_option maxRecDepth 100000 in
theorem rFitsC (F : Frm) (ad : Option Addr) (cap : Nat) (l : List Smp) (s : Int) (hl : l.length ≤ 1000000) : Contract F Try.prog 24 [slS ad cap l, .i .i64 s] (fun r => r = .b (fitsAll l s)) := by
  refine contract_of Try.func24 rfl (by kernel_rfl) ?_
  simp only [Try.ntmps24, argEnv, slS]
  (repeat refine Sat.seq ?_)
  (refine Sat.region_k fun k hk => ?_; simp -implicitDefEqProofs only [evr, ty, rPick, rIbin, rBin, wideB, eqB, strB, rUn, rConv, rFieldAddr, rIndexAddr, rLoad, rField, rLen, rMax, rMin, rSlice, rBuild, toB, asRead, asAny, bound, flatOk, flat, lay, fillS, placesOf, id, ne_eq, reduceCtorEq, if_true, if_false, reduceIte, forall_const, decide_true, decide_eq_true_eq, decide_eq_false_iff_not, Nat.reduceMul, Nat.reduceAdd, Nat.reduceLT, Nat.reduceLeDiff, Nat.reduceEqDiff, Int.reduceLT, thenK, blockK, retK, resHolds, resVR, VR.holds, ro, roArg, roPtr, roArgS, roSl, beq_self_eq_true, eq_self, implies_true, Int.reduceBEq, Int.reduceBNe, frz, frzOne, bne_self_eq_false, rNilCheck, rIndex, retM, retMK, argM, Smp.cs, Smp.sv, slS]; refine hk _ ?_; clear hk k; try show Sat _ _ _ _ _)
  (repeat refine Sat.seq ?_)
  (refine Sat.region_k fun k hk => ?_; simp -implicitDefEqProofs only [evr, ty, rPick, rIbin, rBin, wideB, eqB, strB, rUn, rConv, rFieldAddr, rIndexAddr, rLoad, rField, rLen, rMax, rMin, rSlice, rBuild, toB, asRead, asAny, bound, flatOk, flat, lay, fillS, placesOf, id, ne_eq, reduceCtorEq, if_true, if_false, reduceIte, forall_const, decide_true, decide_eq_true_eq, decide_eq_false_iff_not, Nat.reduceMul, Nat.reduceAdd, Nat.reduceLT, Nat.reduceLeDiff, Nat.reduceEqDiff, Int.reduceLT, thenK, blockK, retK, resHolds, resVR, VR.holds, ro, roArg, roPtr, roArgS, roSl, beq_self_eq_true, eq_self, implies_true, Int.reduceBEq, Int.reduceBNe, frz, frzOne, bne_self_eq_false, rNilCheck, rIndex, retM, retMK, argM, Smp.cs, Smp.sv, slS])
  refine wcall_slice (rEarliestC F ad cap l s hl) rfl rfl ?_
  intro r hr
  obtain ⟨x, c, rfl, hc⟩ := earl_code hr
  simp -implicitDefEqProofs only [evr, ty, rPick, rIbin, rBin, wideB, eqB, strB, rUn, rConv, rFieldAddr, rIndexAddr, rLoad, rField, rLen, rMax, rMin, rSlice, rBuild, toB, asRead, asAny, bound, flatOk, flat, lay, fillS, placesOf, id, ne_eq, reduceCtorEq, if_true, if_false, reduceIte, forall_const, decide_true, decide_eq_true_eq, decide_eq_false_iff_not, Nat.reduceMul, Nat.reduceAdd, Nat.reduceLT, Nat.reduceLeDiff, Nat.reduceEqDiff, Int.reduceLT, thenK, blockK, retK, resHolds, resVR, VR.holds, ro, roArg, roPtr, roArgS, roSl, beq_self_eq_true, eq_self, implies_true, Int.reduceBEq, Int.reduceBNe, frz, frzOne, bne_self_eq_false, rNilCheck, rIndex, retM, retMK, argM, Smp.cs, Smp.sv, slS]
  (refine hk _ ?_; clear hk k; try show Sat _ _ _ _ _)
  (repeat refine Sat.seq ?_)
  (refine Sat.region_k fun k hk => ?_; simp -implicitDefEqProofs only [evr, ty, rPick, rIbin, rBin, wideB, eqB, strB, rUn, rConv, rFieldAddr, rIndexAddr, rLoad, rField, rLen, rMax, rMin, rSlice, rBuild, toB, asRead, asAny, bound, flatOk, flat, lay, fillS, placesOf, id, ne_eq, reduceCtorEq, if_true, if_false, reduceIte, forall_const, decide_true, decide_eq_true_eq, decide_eq_false_iff_not, Nat.reduceMul, Nat.reduceAdd, Nat.reduceLT, Nat.reduceLeDiff, Nat.reduceEqDiff, Int.reduceLT, thenK, blockK, retK, resHolds, resVR, VR.holds, ro, roArg, roPtr, roArgS, roSl, beq_self_eq_true, eq_self, implies_true, Int.reduceBEq, Int.reduceBNe, frz, frzOne, bne_self_eq_false, rNilCheck, rIndex, retM, retMK, argM, Smp.cs, Smp.sv, slS]; refine hk _ ?_; clear hk k; try show Sat _ _ _ _ _)
  refine Sat.ret ?_
  simp only [Try.results24, evr, ty, rPick, rIbin, rBin, wideB, eqB, strB, rUn, rConv, rFieldAddr, rIndexAddr, rLoad, rField, rLen, rMax, rMin, rSlice, rBuild, toB, asRead, asAny, bound, flatOk, flat, lay, fillS, placesOf, id, ne_eq, reduceCtorEq, if_true, if_false, reduceIte, forall_const, decide_true, decide_eq_true_eq, decide_eq_false_iff_not, Nat.reduceMul, Nat.reduceAdd, Nat.reduceLT, Nat.reduceLeDiff, Nat.reduceEqDiff, Int.reduceLT, thenK, blockK, retK, resHolds, resVR, VR.holds, ro, roArg, roPtr, roArgS, roSl, beq_self_eq_true, eq_self, implies_true, Int.reduceBEq, Int.reduceBNe, frz, frzOne, bne_self_eq_false, rNilCheck, rIndex, retM, retMK, argM, Smp.cs, Smp.sv, slS, hc]

set_option maxRecDepth 100000 in
theorem rCheckC (F : Frm) (ad : Option Addr) (cap : Nat) (l : List Smp) (s i j : Int) (hl : l.length ≤ 1000000) : Contract F Try.prog 25 [slS ad cap l, .i .i64 s, .i .i64 i, .i .i64 j] (fun r => r = .b (checkB l s i j)) := by
  refine contract_of Try.func25 rfl (by kernel_rfl) ?_
  simp only [Try.ntmps25, argEnv, slS]
  (repeat refine Sat.seq ?_)
  (refine Sat.region_k fun k hk => ?_; simp -implicitDefEqProofs only [evr, ty, rPick, rIbin, rBin, wideB, eqB, strB, rUn, rConv, rFieldAddr, rIndexAddr, rLoad, rField, rLen, rMax, rMin, rSlice, rBuild, toB, asRead, asAny, bound, flatOk, flat, lay, fillS, placesOf, id, ne_eq, reduceCtorEq, if_true, if_false, reduceIte, forall_const, decide_true, decide_eq_true_eq, decide_eq_false_iff_not, Nat.reduceMul, Nat.reduceAdd, Nat.reduceLT, Nat.reduceLeDiff, Nat.reduceEqDiff, Int.reduceLT, thenK, blockK, retK, resHolds, resVR, VR.holds, ro, roArg, roPtr, roArgS, roSl, beq_self_eq_true, eq_self, implies_true, Int.reduceBEq, Int.reduceBNe, frz, frzOne, bne_self_eq_false, rNilCheck, rIndex, retM, retMK, argM, Smp.cs, Smp.sv, slS]; refine hk _ ?_; clear hk k; try show Sat _ _ _ _ _)
  (repeat refine Sat.seq ?_)
  refine Sat.region_at ⟨72, [(35, .b (!chkIn l s i j)), (0, slS ad cap l), (1, .i .i64 s), (2, .i .i64 i), (3, .i .i64 j)], []⟩ (fun k hk => ?_) ?_
  · simp -implicitDefEqProofs only [evr, ty, rPick, rIbin, rBin, wideB, eqB, strB, rUn, rConv, rFieldAddr, rIndexAddr, rLoad, rField, rLen, rMax, rMin, rSlice, rBuild, toB, asRead, asAny, bound, flatOk, flat, lay, fillS, placesOf, id, ne_eq, reduceCtorEq, if_true, if_false, reduceIte, forall_const, decide_true, decide_eq_true_eq, decide_eq_false_iff_not, Nat.reduceMul, Nat.reduceAdd, Nat.reduceLT, Nat.reduceLeDiff, Nat.reduceEqDiff, Int.reduceLT, thenK, blockK, retK, resHolds, resVR, VR.holds, ro, roArg, roPtr, roArgS, roSl, beq_self_eq_true, eq_self, implies_true, Int.reduceBEq, Int.reduceBNe, frz, frzOne, bne_self_eq_false, rNilCheck, rIndex, retM, retMK, argM, Smp.cs, Smp.sv, slS]
    refine wcall_plain (rValidC F ad cap l hl) rfl (by rintro _ rfl; exact ok_plain rfl) ?_
    rintro r rfl
    simp -implicitDefEqProofs only [evr, ty, rPick, rIbin, rBin, wideB, eqB, strB, rUn, rConv, rFieldAddr, rIndexAddr, rLoad, rField, rLen, rMax, rMin, rSlice, rBuild, toB, asRead, asAny, bound, flatOk, flat, lay, fillS, placesOf, id, ne_eq, reduceCtorEq, if_true, if_false, reduceIte, forall_const, decide_true, decide_eq_true_eq, decide_eq_false_iff_not, Nat.reduceMul, Nat.reduceAdd, Nat.reduceLT, Nat.reduceLeDiff, Nat.reduceEqDiff, Int.reduceLT, thenK, blockK, retK, resHolds, resVR, VR.holds, ro, roArg, roPtr, roArgS, roSl, beq_self_eq_true, eq_self, implies_true, Int.reduceBEq, Int.reduceBNe, frz, frzOne, bne_self_eq_false, rNilCheck, rIndex, retM, retMK, argM, Smp.cs, Smp.sv, slS]
    refine ⟨fun h => ?_, fun h => ?_⟩
    · refine hk _ ?_
      simp -implicitDefEqProofs only [evr, ty, rPick, rIbin, rBin, wideB, eqB, strB, rUn, rConv, rFieldAddr, rIndexAddr, rLoad, rField, rLen, rMax, rMin, rSlice, rBuild, toB, asRead, asAny, bound, flatOk, flat, lay, fillS, placesOf, id, ne_eq, reduceCtorEq, if_true, if_false, reduceIte, forall_const, decide_true, decide_eq_true_eq, decide_eq_false_iff_not, Nat.reduceMul, Nat.reduceAdd, Nat.reduceLT, Nat.reduceLeDiff, Nat.reduceEqDiff, Int.reduceLT, thenK, blockK, retK, resHolds, resVR, VR.holds, ro, roArg, roPtr, roArgS, roSl, beq_self_eq_true, eq_self, implies_true, Int.reduceBEq, Int.reduceBNe, frz, frzOne, bne_self_eq_false, rNilCheck, rIndex, retM, retMK, argM, Smp.cs, Smp.sv, slS, Le, envLe, ownLe, Own.le, Option.some.injEq, eq_self, true_or, false_or, or_false, exists_eq_left', exists_eq_left, exists_eq, exists_eq', SV.i.injEq, SV.b.injEq, rdEq_same, exists_false, and_false, false_and]
      unfold chkIn
      have hv : validL l = false := by simpa using h
      simp [hv]
    · have hv : validL l = true := by simpa using h
      refine wcall_plain (rSpeedsC F s) rfl (by rintro _ rfl; exact ok_plain rfl) ?_
      rintro r rfl
      simp -implicitDefEqProofs only [evr, ty, rPick, rIbin, rBin, wideB, eqB, strB, rUn, rConv, rFieldAddr, rIndexAddr, rLoad, rField, rLen, rMax, rMin, rSlice, rBuild, toB, asRead, asAny, bound, flatOk, flat, lay, fillS, placesOf, id, ne_eq, reduceCtorEq, if_true, if_false, reduceIte, forall_const, decide_true, decide_eq_true_eq, decide_eq_false_iff_not, Nat.reduceMul, Nat.reduceAdd, Nat.reduceLT, Nat.reduceLeDiff, Nat.reduceEqDiff, Int.reduceLT, thenK, blockK, retK, resHolds, resVR, VR.holds, ro, roArg, roPtr, roArgS, roSl, beq_self_eq_true, eq_self, implies_true, Int.reduceBEq, Int.reduceBNe, frz, frzOne, bne_self_eq_false, rNilCheck, rIndex, retM, retMK, argM, Smp.cs, Smp.sv, slS]
      refine ⟨fun h1 => ?_, fun h1 => ⟨fun h2 => ?_, fun h2 => ⟨fun h3 => ?_, fun h3 => ?_⟩⟩⟩
      all_goals
        refine hk _ ?_
        simp -implicitDefEqProofs only [evr, ty, rPick, rIbin, rBin, wideB, eqB, strB, rUn, rConv, rFieldAddr, rIndexAddr, rLoad, rField, rLen, rMax, rMin, rSlice, rBuild, toB, asRead, asAny, bound, flatOk, flat, lay, fillS, placesOf, id, ne_eq, reduceCtorEq, if_true, if_false, reduceIte, forall_const, decide_true, decide_eq_true_eq, decide_eq_false_iff_not, Nat.reduceMul, Nat.reduceAdd, Nat.reduceLT, Nat.reduceLeDiff, Nat.reduceEqDiff, Int.reduceLT, thenK, blockK, retK, resHolds, resVR, VR.holds, ro, roArg, roPtr, roArgS, roSl, beq_self_eq_true, eq_self, implies_true, Int.reduceBEq, Int.reduceBNe, frz, frzOne, bne_self_eq_false, rNilCheck, rIndex, retM, retMK, argM, Smp.cs, Smp.sv, slS, Le, envLe, ownLe, Own.le, Option.some.injEq, eq_self, true_or, false_or, or_false, exists_eq_left', exists_eq_left, exists_eq, exists_eq', SV.i.injEq, SV.b.injEq, rdEq_same, exists_false, and_false, false_and]
        unfold chkIn
      · have hs : spOk s = false := by simpa using h1
        simp [hs]
      · simp; omega
      · simp; omega
      · have hs : spOk s = true := by simpa using h1
        have e : decide ((l.length : Int) ≤ j) = !(true && true && decide (0 ≤ i) && decide (i < j) && decide (j < (l.length : Int))) := by
          by_cases h9 : (l.length : Int) ≤ j
          · simp [h9, show ¬ j < (l.length : Int) by omega]
          · simp [h9, show 0 ≤ i by omega, show i < j by omega, show j < (l.length : Int) by omega]
        rw [hv, hs]
        first | exact e | exact .inl e
  · simp only [thenK, slS]
    refine Sat.cond_b rfl (fun h => ?_) (fun h => ?_)
    · have hc : chkIn l s i j = false := by simpa using h
      (repeat refine Sat.seq ?_)
      (refine Sat.region_k fun k hk => ?_; simp -implicitDefEqProofs only [evr, ty, rPick, rIbin, rBin, wideB, eqB, strB, rUn, rConv, rFieldAddr, rIndexAddr, rLoad, rField, rLen, rMax, rMin, rSlice, rBuild, toB, asRead, asAny, bound, flatOk, flat, lay, fillS, placesOf, id, ne_eq, reduceCtorEq, if_true, if_false, reduceIte, forall_const, decide_true, decide_eq_true_eq, decide_eq_false_iff_not, Nat.reduceMul, Nat.reduceAdd, Nat.reduceLT, Nat.reduceLeDiff, Nat.reduceEqDiff, Int.reduceLT, thenK, blockK, retK, resHolds, resVR, VR.holds, ro, roArg, roPtr, roArgS, roSl, beq_self_eq_true, eq_self, implies_true, Int.reduceBEq, Int.reduceBNe, frz, frzOne, bne_self_eq_false, rNilCheck, rIndex, retM, retMK, argM, Smp.cs, Smp.sv, slS]; refine hk _ ?_; clear hk k; try show Sat _ _ _ _ _)
      refine Sat.ret ?_
      simp only [Try.results25, evr, ty, rPick, rIbin, rBin, wideB, eqB, strB, rUn, rConv, rFieldAddr, rIndexAddr, rLoad, rField, rLen, rMax, rMin, rSlice, rBuild, toB, asRead, asAny, bound, flatOk, flat, lay, fillS, placesOf, id, ne_eq, reduceCtorEq, if_true, if_false, reduceIte, forall_const, decide_true, decide_eq_true_eq, decide_eq_false_iff_not, Nat.reduceMul, Nat.reduceAdd, Nat.reduceLT, Nat.reduceLeDiff, Nat.reduceEqDiff, Int.reduceLT, thenK, blockK, retK, resHolds, resVR, VR.holds, ro, roArg, roPtr, roArgS, roSl, beq_self_eq_true, eq_self, implies_true, Int.reduceBEq, Int.reduceBNe, frz, frzOne, bne_self_eq_false, rNilCheck, rIndex, retM, retMK, argM, Smp.cs, Smp.sv, slS]
      unfold checkB
      unfold chkIn at hc
      rw [hc]; rfl
    · have hc : chkIn l s i j = true := by simpa using h
      have hv : validL l = true := by unfold chkIn at hc; simp at hc; exact hc.1.1.1.1
      have hs : spOk s = true := by unfold chkIn at hc; simp at hc; exact hc.1.1.1.2
      have hs' := spOk_iff.1 hs
      have hij : 0 ≤ i ∧ i < j ∧ j < l.length := by unfold chkIn at hc; simp at hc; exact ⟨hc.1.1.2, hc.1.2, hc.2⟩
      obtain ⟨i, rfl⟩ := Int.eq_ofNat_of_zero_le hij.1
      obtain ⟨j, rfl⟩ := Int.eq_ofNat_of_zero_le (show 0 ≤ j by omega)
      refine Sat.skip ?_
      simp only [thenK]
      (repeat refine Sat.seq ?_)
      (refine Sat.region_k fun k hk => ?_; simp -implicitDefEqProofs only [evr, ty, rPick, rIbin, rBin, wideB, eqB, strB, rUn, rConv, rFieldAddr, rIndexAddr, rLoad, rField, rLen, rMax, rMin, rSlice, rBuild, toB, asRead, asAny, bound, flatOk, flat, lay, fillS, placesOf, id, ne_eq, reduceCtorEq, if_true, if_false, reduceIte, forall_const, decide_true, decide_eq_true_eq, decide_eq_false_iff_not, Nat.reduceMul, Nat.reduceAdd, Nat.reduceLT, Nat.reduceLeDiff, Nat.reduceEqDiff, Int.reduceLT, thenK, blockK, retK, resHolds, resVR, VR.holds, ro, roArg, roPtr, roArgS, roSl, beq_self_eq_true, eq_self, implies_true, Int.reduceBEq, Int.reduceBNe, frz, frzOne, bne_self_eq_false, rNilCheck, rIndex, retM, retMK, argM, Smp.cs, Smp.sv, slS]; refine hk _ ?_; clear hk k; try show Sat _ _ _ _ _)
      (repeat refine Sat.seq ?_)
      (refine Sat.region_k fun k hk => ?_; simp -implicitDefEqProofs only [evr, ty, rPick, rIbin, rBin, wideB, eqB, strB, rUn, rConv, rFieldAddr, rIndexAddr, rLoad, rField, rLen, rMax, rMin, rSlice, rBuild, toB, asRead, asAny, bound, flatOk, flat, lay, fillS, placesOf, id, ne_eq, reduceCtorEq, if_true, if_false, reduceIte, forall_const, decide_true, decide_eq_true_eq, decide_eq_false_iff_not, Nat.reduceMul, Nat.reduceAdd, Nat.reduceLT, Nat.reduceLeDiff, Nat.reduceEqDiff, Int.reduceLT, thenK, blockK, retK, resHolds, resVR, VR.holds, ro, roArg, roPtr, roArgS, roSl, beq_self_eq_true, eq_self, implies_true, Int.reduceBEq, Int.reduceBNe, frz, frzOne, bne_self_eq_false, rNilCheck, rIndex, retM, retMK, argM, Smp.cs, Smp.sv, slS]; refine hk _ ?_; clear hk k; try show Sat _ _ _ _ _)
      refine Sat.block ?_
      refine Sat.loop (ι := Nat) (fun m => ⟨72, [(10, .i .i64 m), (9, .i .i64 (sumN l s i (m - i))), (0, slS ad cap l), (1, .i .i64 s), (2, .i .i64 i), (3, .i .i64 j)], []⟩)
        (fun m => i ≤ m ∧ m ≤ j) (fun m => j - m) i ⟨by omega, by omega⟩ (by simp -implicitDefEqProofs only [evr, ty, rPick, rIbin, rBin, wideB, eqB, strB, rUn, rConv, rFieldAddr, rIndexAddr, rLoad, rField, rLen, rMax, rMin, rSlice, rBuild, toB, asRead, asAny, bound, flatOk, flat, lay, fillS, placesOf, id, ne_eq, reduceCtorEq, if_true, if_false, reduceIte, forall_const, decide_true, decide_eq_true_eq, decide_eq_false_iff_not, Nat.reduceMul, Nat.reduceAdd, Nat.reduceLT, Nat.reduceLeDiff, Nat.reduceEqDiff, Int.reduceLT, thenK, blockK, retK, resHolds, resVR, VR.holds, ro, roArg, roPtr, roArgS, roSl, beq_self_eq_true, eq_self, implies_true, Int.reduceBEq, Int.reduceBNe, frz, frzOne, bne_self_eq_false, rNilCheck, rIndex, retM, retMK, argM, Smp.cs, Smp.sv, slS, Le, envLe, ownLe, Own.le, Option.some.injEq, eq_self, true_or, false_or, or_false, exists_eq_left', exists_eq_left, exists_eq, exists_eq', SV.i.injEq, SV.b.injEq, rdEq_same, exists_false, and_false, false_and]; rw [Nat.sub_self]; rfl) ?_
      rintro m ⟨hm1, hm2⟩
      simp only [slS]
      (repeat refine Sat.seq ?_)
      (refine Sat.region_k fun k hk => ?_; simp -implicitDefEqProofs only [evr, ty, rPick, rIbin, rBin, wideB, eqB, strB, rUn, rConv, rFieldAddr, rIndexAddr, rLoad, rField, rLen, rMax, rMin, rSlice, rBuild, toB, asRead, asAny, bound, flatOk, flat, lay, fillS, placesOf, id, ne_eq, reduceCtorEq, if_true, if_false, reduceIte, forall_const, decide_true, decide_eq_true_eq, decide_eq_false_iff_not, Nat.reduceMul, Nat.reduceAdd, Nat.reduceLT, Nat.reduceLeDiff, Nat.reduceEqDiff, Int.reduceLT, thenK, blockK, retK, resHolds, resVR, VR.holds, ro, roArg, roPtr, roArgS, roSl, beq_self_eq_true, eq_self, implies_true, Int.reduceBEq, Int.reduceBNe, frz, frzOne, bne_self_eq_false, rNilCheck, rIndex, retM, retMK, argM, Smp.cs, Smp.sv, slS]; refine hk _ ?_; clear hk k; try show Sat _ _ _ _ _)
      (repeat refine Sat.seq ?_)
      refine Sat.cond_b rfl (fun h3 => ?_) (fun h3 => ?_)
      · simp only [decide_eq_true_eq] at h3
        have e2 : IntKind.i64.wrap ((m : Int) + 1) = ((m + 1 : Nat) : Int) := by rw [w64 (by omega)]; omega
        refine Sat.skip ?_
        simp only [thenK]
        (repeat refine Sat.seq ?_)
        refine Sat.block ?_
        (repeat refine Sat.seq ?_)
        refine Sat.region_qk (by kernel_rfl) (by kernel_rfl) fun k hk => ?_
        simp -implicitDefEqProofs only [evr, ty, rPick, rIbin, rBin, wideB, eqB, strB, rUn, rConv, rFieldAddr, rIndexAddr, rLoad, rField, rLen, rMax, rMin, rSlice, rBuild, toB, asRead, asAny, bound, flatOk, flat, lay, fillS, placesOf, id, ne_eq, reduceCtorEq, if_true, if_false, reduceIte, forall_const, decide_true, decide_eq_true_eq, decide_eq_false_iff_not, Nat.reduceMul, Nat.reduceAdd, Nat.reduceLT, Nat.reduceLeDiff, Nat.reduceEqDiff, Int.reduceLT, thenK, blockK, retK, resHolds, resVR, VR.holds, ro, roArg, roPtr, roArgS, roSl, beq_self_eq_true, eq_self, implies_true, Int.reduceBEq, Int.reduceBNe, frz, frzOne, bne_self_eq_false, rNilCheck, rIndex, retM, retMK, argM, Smp.cs, Smp.sv, slS, e2]
        refine ⟨by omega, by omega, ?_⟩
        refine qcall (rNeedC' l hv s hs m (m + 1) (by omega) (by omega)) rfl (ok_tupL rfl) ?_
        simp -implicitDefEqProofs only [evr, ty, rPick, rIbin, rBin, wideB, eqB, strB, rUn, rConv, rFieldAddr, rIndexAddr, rLoad, rField, rLen, rMax, rMin, rSlice, rBuild, toB, asRead, asAny, bound, flatOk, flat, lay, fillS, placesOf, id, ne_eq, reduceCtorEq, if_true, if_false, reduceIte, forall_const, decide_true, decide_eq_true_eq, decide_eq_false_iff_not, Nat.reduceMul, Nat.reduceAdd, Nat.reduceLT, Nat.reduceLeDiff, Nat.reduceEqDiff, Int.reduceLT, thenK, blockK, retK, resHolds, resVR, VR.holds, ro, roArg, roPtr, roArgS, roSl, beq_self_eq_true, eq_self, implies_true, Int.reduceBEq, Int.reduceBNe, frz, frzOne, bne_self_eq_false, rNilCheck, rIndex, retM, retMK, argM, Smp.cs, Smp.sv, slS]
        (refine hk _ ?_; clear hk k; try show Sat _ _ _ _ _)
        (repeat refine Sat.seq ?_)
        (refine Sat.region_k fun k hk => ?_; simp -implicitDefEqProofs only [evr, ty, rPick, rIbin, rBin, wideB, eqB, strB, rUn, rConv, rFieldAddr, rIndexAddr, rLoad, rField, rLen, rMax, rMin, rSlice, rBuild, toB, asRead, asAny, bound, flatOk, flat, lay, fillS, placesOf, id, ne_eq, reduceCtorEq, if_true, if_false, reduceIte, forall_const, decide_true, decide_eq_true_eq, decide_eq_false_iff_not, Nat.reduceMul, Nat.reduceAdd, Nat.reduceLT, Nat.reduceLeDiff, Nat.reduceEqDiff, Int.reduceLT, thenK, blockK, retK, resHolds, resVR, VR.holds, ro, roArg, roPtr, roArgS, roSl, beq_self_eq_true, eq_self, implies_true, Int.reduceBEq, Int.reduceBNe, frz, frzOne, bne_self_eq_false, rNilCheck, rIndex, retM, retMK, argM, Smp.cs, Smp.sv, slS])
        refine hk _ ?_
        simp only [thenK, blockK]
        (repeat refine Sat.seq ?_)
        (refine Sat.region_k fun k hk => ?_; simp -implicitDefEqProofs only [evr, ty, rPick, rIbin, rBin, wideB, eqB, strB, rUn, rConv, rFieldAddr, rIndexAddr, rLoad, rField, rLen, rMax, rMin, rSlice, rBuild, toB, asRead, asAny, bound, flatOk, flat, lay, fillS, placesOf, id, ne_eq, reduceCtorEq, if_true, if_false, reduceIte, forall_const, decide_true, decide_eq_true_eq, decide_eq_false_iff_not, Nat.reduceMul, Nat.reduceAdd, Nat.reduceLT, Nat.reduceLeDiff, Nat.reduceEqDiff, Int.reduceLT, thenK, blockK, retK, resHolds, resVR, VR.holds, ro, roArg, roPtr, roArgS, roSl, beq_self_eq_true, eq_self, implies_true, Int.reduceBEq, Int.reduceBNe, frz, frzOne, bne_self_eq_false, rNilCheck, rIndex, retM, retMK, argM, Smp.cs, Smp.sv, slS])
        refine hk _ ?_
        simp only [thenK, blockK]
        have b1 := sumN_bounds l hs'.1 i (m - i)
        have b2 := need_bounds l hs'.1 m
        have ef : sumN l s i (m + 1 - i) = sumN l s i (m - i) + need l s m := by
          rw [show m + 1 - i = (m - i) + 1 by omega]
          show sumN l s i (m - i) + need l s (i + (m - i)) = _
          rw [show i + (m - i) = m by omega]
        unfold need at b2 ef
        refine ⟨m + 1, ⟨by omega, by omega⟩, by omega, ?_⟩
        simp -implicitDefEqProofs only [evr, ty, rPick, rIbin, rBin, wideB, eqB, strB, rUn, rConv, rFieldAddr, rIndexAddr, rLoad, rField, rLen, rMax, rMin, rSlice, rBuild, toB, asRead, asAny, bound, flatOk, flat, lay, fillS, placesOf, id, ne_eq, reduceCtorEq, if_true, if_false, reduceIte, forall_const, decide_true, decide_eq_true_eq, decide_eq_false_iff_not, Nat.reduceMul, Nat.reduceAdd, Nat.reduceLT, Nat.reduceLeDiff, Nat.reduceEqDiff, Int.reduceLT, thenK, blockK, retK, resHolds, resVR, VR.holds, ro, roArg, roPtr, roArgS, roSl, beq_self_eq_true, eq_self, implies_true, Int.reduceBEq, Int.reduceBNe, frz, frzOne, bne_self_eq_false, rNilCheck, rIndex, retM, retMK, argM, Smp.cs, Smp.sv, slS, Le, envLe, ownLe, Own.le, Option.some.injEq, eq_self, true_or, false_or, or_false, exists_eq_left', exists_eq_left, exists_eq, exists_eq', SV.i.injEq, SV.b.injEq, rdEq_same, exists_false, and_false, false_and]
        exact ⟨e2, by rw [w64 (by omega)]; omega⟩
      · simp only [decide_eq_false_iff_not] at h3
        obtain rfl : m = j := by omega
        refine Sat.exit ?_
        simp only [thenK, blockK, reduceIte]
        (repeat refine Sat.seq ?_)
        (refine Sat.region_qk (by kernel_rfl) (by kernel_rfl) fun k hk => ?_; simp -implicitDefEqProofs only [evr, ty, rPick, rIbin, rBin, wideB, eqB, strB, rUn, rConv, rFieldAddr, rIndexAddr, rLoad, rField, rLen, rMax, rMin, rSlice, rBuild, toB, asRead, asAny, bound, flatOk, flat, lay, fillS, placesOf, id, ne_eq, reduceCtorEq, if_true, if_false, reduceIte, forall_const, decide_true, decide_eq_true_eq, decide_eq_false_iff_not, Nat.reduceMul, Nat.reduceAdd, Nat.reduceLT, Nat.reduceLeDiff, Nat.reduceEqDiff, Int.reduceLT, thenK, blockK, retK, resHolds, resVR, VR.holds, ro, roArg, roPtr, roArgS, roSl, beq_self_eq_true, eq_self, implies_true, Int.reduceBEq, Int.reduceBNe, frz, frzOne, bne_self_eq_false, rNilCheck, rIndex, retM, retMK, argM, Smp.cs, Smp.sv, slS])
        refine ⟨by omega, by omega, ?_⟩
        have v1 := (validL_iff.1 hv m (by omega)).1
        have v2 := (validL_iff.1 hv i (by omega)).1
        unfold Smp.Ok at v1 v2
        rw [w64 (by omega)]
        (refine hk _ ?_; clear hk k; try show Sat _ _ _ _ _)
        refine Sat.ret ?_
        simp only [Try.results25, evr, ty, rPick, rIbin, rBin, wideB, eqB, strB, rUn, rConv, rFieldAddr, rIndexAddr, rLoad, rField, rLen, rMax, rMin, rSlice, rBuild, toB, asRead, asAny, bound, flatOk, flat, lay, fillS, placesOf, id, ne_eq, reduceCtorEq, if_true, if_false, reduceIte, forall_const, decide_true, decide_eq_true_eq, decide_eq_false_iff_not, Nat.reduceMul, Nat.reduceAdd, Nat.reduceLT, Nat.reduceLeDiff, Nat.reduceEqDiff, Int.reduceLT, thenK, blockK, retK, resHolds, resVR, VR.holds, ro, roArg, roPtr, roArgS, roSl, beq_self_eq_true, eq_self, implies_true, Int.reduceBEq, Int.reduceBNe, frz, frzOne, bne_self_eq_false, rNilCheck, rIndex, retM, retMK, argM, Smp.cs, Smp.sv, slS]
        unfold checkB refutes
        unfold chkIn at hc
        rw [hc]; rfl

theorem chk_nat (l : List Smp) (s : Int) (i j : Nat) (hi : i < j) (hj : j < l.length) : checkB l s i j = ((validL l && spOk s) && decide (refutes l s i j)) := by
  unfold checkB
  simp [show (i : Int) < j by omega, show (j : Int) < (l.length : Int) by omega]

set_option maxRecDepth 100000 in
theorem rRefuteC (F : Frm) (ad : Option Addr) (cap : Nat) (l : List Smp) (s : Int) (hl : l.length ≤ 1000000) : Contract F Try.prog 22 [slS ad cap l, .i .i64 s] (RefPost l s) := by
  refine contract_of Try.func22 rfl (by kernel_rfl) ?_
  simp only [Try.ntmps22, argEnv, slS]
  (repeat refine Sat.seq ?_)
  (refine Sat.region_k fun k hk => ?_; simp -implicitDefEqProofs only [evr, ty, rPick, rIbin, rBin, wideB, eqB, strB, rUn, rConv, rFieldAddr, rIndexAddr, rLoad, rField, rLen, rMax, rMin, rSlice, rBuild, toB, asRead, asAny, bound, flatOk, flat, lay, fillS, placesOf, id, ne_eq, reduceCtorEq, if_true, if_false, reduceIte, forall_const, decide_true, decide_eq_true_eq, decide_eq_false_iff_not, Nat.reduceMul, Nat.reduceAdd, Nat.reduceLT, Nat.reduceLeDiff, Nat.reduceEqDiff, Int.reduceLT, thenK, blockK, retK, resHolds, resVR, VR.holds, ro, roArg, roPtr, roArgS, roSl, beq_self_eq_true, eq_self, implies_true, Int.reduceBEq, Int.reduceBNe, frz, frzOne, bne_self_eq_false, rNilCheck, rIndex, retM, retMK, argM, Smp.cs, Smp.sv, slS]; refine hk _ ?_; clear hk k; try show Sat _ _ _ _ _)
  (repeat refine Sat.seq ?_)
  (refine Sat.region_k fun k hk => ?_; simp -implicitDefEqProofs only [evr, ty, rPick, rIbin, rBin, wideB, eqB, strB, rUn, rConv, rFieldAddr, rIndexAddr, rLoad, rField, rLen, rMax, rMin, rSlice, rBuild, toB, asRead, asAny, bound, flatOk, flat, lay, fillS, placesOf, id, ne_eq, reduceCtorEq, if_true, if_false, reduceIte, forall_const, decide_true, decide_eq_true_eq, decide_eq_false_iff_not, Nat.reduceMul, Nat.reduceAdd, Nat.reduceLT, Nat.reduceLeDiff, Nat.reduceEqDiff, Int.reduceLT, thenK, blockK, retK, resHolds, resVR, VR.holds, ro, roArg, roPtr, roArgS, roSl, beq_self_eq_true, eq_self, implies_true, Int.reduceBEq, Int.reduceBNe, frz, frzOne, bne_self_eq_false, rNilCheck, rIndex, retM, retMK, argM, Smp.cs, Smp.sv, slS]; refine hk _ ?_; clear hk k; try show Sat _ _ _ _ _)
  refine Sat.block ?_
  refine Sat.loop (ι := Nat) (fun j => ⟨26, [(5, .i .i64 j), (0, slS ad cap l), (1, .i .i64 s)], []⟩)
    (fun j => 1 ≤ j ∧ ∀ j', j' < j → j' < l.length → ∀ i', i' < j' → checkB l s i' j' = false) (fun j => l.length - j) 1 ⟨Nat.le_refl _, fun j' h1 _ i' h2 => by omega⟩ (by simp -implicitDefEqProofs only [evr, ty, rPick, rIbin, rBin, wideB, eqB, strB, rUn, rConv, rFieldAddr, rIndexAddr, rLoad, rField, rLen, rMax, rMin, rSlice, rBuild, toB, asRead, asAny, bound, flatOk, flat, lay, fillS, placesOf, id, ne_eq, reduceCtorEq, if_true, if_false, reduceIte, forall_const, decide_true, decide_eq_true_eq, decide_eq_false_iff_not, Nat.reduceMul, Nat.reduceAdd, Nat.reduceLT, Nat.reduceLeDiff, Nat.reduceEqDiff, Int.reduceLT, thenK, blockK, retK, resHolds, resVR, VR.holds, ro, roArg, roPtr, roArgS, roSl, beq_self_eq_true, eq_self, implies_true, Int.reduceBEq, Int.reduceBNe, frz, frzOne, bne_self_eq_false, rNilCheck, rIndex, retM, retMK, argM, Smp.cs, Smp.sv, slS, Le, envLe, ownLe, Own.le, Option.some.injEq, eq_self, true_or, false_or, or_false, exists_eq_left', exists_eq_left, exists_eq, exists_eq', SV.i.injEq, SV.b.injEq, rdEq_same, exists_false, and_false, false_and]; rfl) ?_
  rintro j ⟨hj, hall⟩
  simp only [slS]
  (repeat refine Sat.seq ?_)
  (refine Sat.region_k fun k hk => ?_; simp -implicitDefEqProofs only [evr, ty, rPick, rIbin, rBin, wideB, eqB, strB, rUn, rConv, rFieldAddr, rIndexAddr, rLoad, rField, rLen, rMax, rMin, rSlice, rBuild, toB, asRead, asAny, bound, flatOk, flat, lay, fillS, placesOf, id, ne_eq, reduceCtorEq, if_true, if_false, reduceIte, forall_const, decide_true, decide_eq_true_eq, decide_eq_false_iff_not, Nat.reduceMul, Nat.reduceAdd, Nat.reduceLT, Nat.reduceLeDiff, Nat.reduceEqDiff, Int.reduceLT, thenK, blockK, retK, resHolds, resVR, VR.holds, ro, roArg, roPtr, roArgS, roSl, beq_self_eq_true, eq_self, implies_true, Int.reduceBEq, Int.reduceBNe, frz, frzOne, bne_self_eq_false, rNilCheck, rIndex, retM, retMK, argM, Smp.cs, Smp.sv, slS]; refine hk _ ?_; clear hk k; try show Sat _ _ _ _ _)
  (repeat refine Sat.seq ?_)
  refine Sat.cond_b rfl (fun h2 => ?_) (fun h2 => ?_)
  · simp only [decide_eq_true_eq] at h2
    have hjl : j < l.length := by omega
    refine Sat.skip ?_
    simp only [thenK]
    (repeat refine Sat.seq ?_)
    refine Sat.block ?_
    (repeat refine Sat.seq ?_)
    (refine Sat.region_k fun k hk => ?_; simp -implicitDefEqProofs only [evr, ty, rPick, rIbin, rBin, wideB, eqB, strB, rUn, rConv, rFieldAddr, rIndexAddr, rLoad, rField, rLen, rMax, rMin, rSlice, rBuild, toB, asRead, asAny, bound, flatOk, flat, lay, fillS, placesOf, id, ne_eq, reduceCtorEq, if_true, if_false, reduceIte, forall_const, decide_true, decide_eq_true_eq, decide_eq_false_iff_not, Nat.reduceMul, Nat.reduceAdd, Nat.reduceLT, Nat.reduceLeDiff, Nat.reduceEqDiff, Int.reduceLT, thenK, blockK, retK, resHolds, resVR, VR.holds, ro, roArg, roPtr, roArgS, roSl, beq_self_eq_true, eq_self, implies_true, Int.reduceBEq, Int.reduceBNe, frz, frzOne, bne_self_eq_false, rNilCheck, rIndex, retM, retMK, argM, Smp.cs, Smp.sv, slS]; refine hk _ ?_; clear hk k; try show Sat _ _ _ _ _)
    refine Sat.block ?_
    refine Sat.loop (ι := Nat) (fun m => ⟨26, [(4, .i .i64 ((m : Int) - 1)), (5, .i .i64 j), (0, slS ad cap l), (1, .i .i64 s)], []⟩)
      (fun m => m ≤ j ∧ ∀ i' : Nat, m ≤ i' → i' < j → checkB l s i' j = false) (fun m => m) j ⟨Nat.le_refl _, fun i' h1 h2 => by omega⟩ (by simp -implicitDefEqProofs only [evr, ty, rPick, rIbin, rBin, wideB, eqB, strB, rUn, rConv, rFieldAddr, rIndexAddr, rLoad, rField, rLen, rMax, rMin, rSlice, rBuild, toB, asRead, asAny, bound, flatOk, flat, lay, fillS, placesOf, id, ne_eq, reduceCtorEq, if_true, if_false, reduceIte, forall_const, decide_true, decide_eq_true_eq, decide_eq_false_iff_not, Nat.reduceMul, Nat.reduceAdd, Nat.reduceLT, Nat.reduceLeDiff, Nat.reduceEqDiff, Int.reduceLT, thenK, blockK, retK, resHolds, resVR, VR.holds, ro, roArg, roPtr, roArgS, roSl, beq_self_eq_true, eq_self, implies_true, Int.reduceBEq, Int.reduceBNe, frz, frzOne, bne_self_eq_false, rNilCheck, rIndex, retM, retMK, argM, Smp.cs, Smp.sv, slS, Le, envLe, ownLe, Own.le, Option.some.injEq, eq_self, true_or, false_or, or_false, exists_eq_left', exists_eq_left, exists_eq, exists_eq', SV.i.injEq, SV.b.injEq, rdEq_same, exists_false, and_false, false_and]; exact w64 (by omega)) ?_
    rintro m ⟨hmj, hm⟩
    simp only [slS]
    (repeat refine Sat.seq ?_)
    (refine Sat.region_k fun k hk => ?_; simp -implicitDefEqProofs only [evr, ty, rPick, rIbin, rBin, wideB, eqB, strB, rUn, rConv, rFieldAddr, rIndexAddr, rLoad, rField, rLen, rMax, rMin, rSlice, rBuild, toB, asRead, asAny, bound, flatOk, flat, lay, fillS, placesOf, id, ne_eq, reduceCtorEq, if_true, if_false, reduceIte, forall_const, decide_true, decide_eq_true_eq, decide_eq_false_iff_not, Nat.reduceMul, Nat.reduceAdd, Nat.reduceLT, Nat.reduceLeDiff, Nat.reduceEqDiff, Int.reduceLT, thenK, blockK, retK, resHolds, resVR, VR.holds, ro, roArg, roPtr, roArgS, roSl, beq_self_eq_true, eq_self, implies_true, Int.reduceBEq, Int.reduceBNe, frz, frzOne, bne_self_eq_false, rNilCheck, rIndex, retM, retMK, argM, Smp.cs, Smp.sv, slS]; refine hk _ ?_; clear hk k; try show Sat _ _ _ _ _)
    (repeat refine Sat.seq ?_)
    refine Sat.cond_b rfl (fun h3 => ?_) (fun h3 => ?_)
    · simp only [decide_eq_true_eq] at h3
      obtain ⟨q, rfl⟩ : ∃ q, m = q + 1 := ⟨m - 1, by omega⟩
      have e1 : ((q + 1 : Nat) : Int) - 1 = (q : Int) := by omega
      simp only [e1]
      refine Sat.skip ?_
      simp only [thenK]
      (repeat refine Sat.seq ?_)
      refine Sat.block ?_
      (repeat refine Sat.seq ?_)
      (refine Sat.region_k fun k hk => ?_; simp -implicitDefEqProofs only [evr, ty, rPick, rIbin, rBin, wideB, eqB, strB, rUn, rConv, rFieldAddr, rIndexAddr, rLoad, rField, rLen, rMax, rMin, rSlice, rBuild, toB, asRead, asAny, bound, flatOk, flat, lay, fillS, placesOf, id, ne_eq, reduceCtorEq, if_true, if_false, reduceIte, forall_const, decide_true, decide_eq_true_eq, decide_eq_false_iff_not, Nat.reduceMul, Nat.reduceAdd, Nat.reduceLT, Nat.reduceLeDiff, Nat.reduceEqDiff, Int.reduceLT, thenK, blockK, retK, resHolds, resVR, VR.holds, ro, roArg, roPtr, roArgS, roSl, beq_self_eq_true, eq_self, implies_true, Int.reduceBEq, Int.reduceBNe, frz, frzOne, bne_self_eq_false, rNilCheck, rIndex, retM, retMK, argM, Smp.cs, Smp.sv, slS])
      refine wcall_plain (rCheckC F ad cap l s q j hl) rfl (by rintro _ rfl; exact ok_plain rfl) ?_
      rintro r rfl
      simp -implicitDefEqProofs only [evr, ty, rPick, rIbin, rBin, wideB, eqB, strB, rUn, rConv, rFieldAddr, rIndexAddr, rLoad, rField, rLen, rMax, rMin, rSlice, rBuild, toB, asRead, asAny, bound, flatOk, flat, lay, fillS, placesOf, id, ne_eq, reduceCtorEq, if_true, if_false, reduceIte, forall_const, decide_true, decide_eq_true_eq, decide_eq_false_iff_not, Nat.reduceMul, Nat.reduceAdd, Nat.reduceLT, Nat.reduceLeDiff, Nat.reduceEqDiff, Int.reduceLT, thenK, blockK, retK, resHolds, resVR, VR.holds, ro, roArg, roPtr, roArgS, roSl, beq_self_eq_true, eq_self, implies_true, Int.reduceBEq, Int.reduceBNe, frz, frzOne, bne_self_eq_false, rNilCheck, rIndex, retM, retMK, argM, Smp.cs, Smp.sv, slS]
      (refine hk _ ?_; clear hk k; try show Sat _ _ _ _ _)
      refine Sat.cond_b rfl (fun h4 => ?_) (fun h4 => ?_)
      · (repeat refine Sat.seq ?_)
        (refine Sat.region_k fun k hk => ?_; simp -implicitDefEqProofs only [evr, ty, rPick, rIbin, rBin, wideB, eqB, strB, rUn, rConv, rFieldAddr, rIndexAddr, rLoad, rField, rLen, rMax, rMin, rSlice, rBuild, toB, asRead, asAny, bound, flatOk, flat, lay, fillS, placesOf, id, ne_eq, reduceCtorEq, if_true, if_false, reduceIte, forall_const, decide_true, decide_eq_true_eq, decide_eq_false_iff_not, Nat.reduceMul, Nat.reduceAdd, Nat.reduceLT, Nat.reduceLeDiff, Nat.reduceEqDiff, Int.reduceLT, thenK, blockK, retK, resHolds, resVR, VR.holds, ro, roArg, roPtr, roArgS, roSl, beq_self_eq_true, eq_self, implies_true, Int.reduceBEq, Int.reduceBNe, frz, frzOne, bne_self_eq_false, rNilCheck, rIndex, retM, retMK, argM, Smp.cs, Smp.sv, slS]; refine hk _ ?_; clear hk k; try show Sat _ _ _ _ _)
        refine Sat.ret ?_
        simp only [Try.results22, evr, ty, rPick, rIbin, rBin, wideB, eqB, strB, rUn, rConv, rFieldAddr, rIndexAddr, rLoad, rField, rLen, rMax, rMin, rSlice, rBuild, toB, asRead, asAny, bound, flatOk, flat, lay, fillS, placesOf, id, ne_eq, reduceCtorEq, if_true, if_false, reduceIte, forall_const, decide_true, decide_eq_true_eq, decide_eq_false_iff_not, Nat.reduceMul, Nat.reduceAdd, Nat.reduceLT, Nat.reduceLeDiff, Nat.reduceEqDiff, Int.reduceLT, thenK, blockK, retK, resHolds, resVR, VR.holds, ro, roArg, roPtr, roArgS, roSl, beq_self_eq_true, eq_self, implies_true, Int.reduceBEq, Int.reduceBNe, frz, frzOne, bne_self_eq_false, rNilCheck, rIndex, retM, retMK, argM, Smp.cs, Smp.sv, slS]
        rw [chk_nat l s q j (by omega) hjl] at h4
        simp only [Bool.and_eq_true, decide_eq_true_eq] at h4
        have hvs : (validL l && spOk s) = true := by simp [h4.1.1, h4.1.2]
        have no : ∀ i' j' : Nat, i' < j' → j' < l.length → checkB l s i' j' = false → ¬ refutes l s i' j' := fun i' j' h5 h6 h7 h8 => by
          rw [chk_nat l s i' j' h5 h6, hvs] at h7
          simp [h8] at h7
        exact .inl ⟨hvs, q, j, by omega, hjl, h4.2, fun j' h5 i' h6 => no i' j' h6 (by omega) (hall j' h5 (by omega) i' h6), fun i' h5 h6 => no i' j h6 hjl (hm i' (by omega) h6), rfl⟩
      · refine Sat.skip ?_
        simp only [thenK, blockK]
        (repeat refine Sat.seq ?_)
        (refine Sat.region_k fun k hk => ?_; simp -implicitDefEqProofs only [evr, ty, rPick, rIbin, rBin, wideB, eqB, strB, rUn, rConv, rFieldAddr, rIndexAddr, rLoad, rField, rLen, rMax, rMin, rSlice, rBuild, toB, asRead, asAny, bound, flatOk, flat, lay, fillS, placesOf, id, ne_eq, reduceCtorEq, if_true, if_false, reduceIte, forall_const, decide_true, decide_eq_true_eq, decide_eq_false_iff_not, Nat.reduceMul, Nat.reduceAdd, Nat.reduceLT, Nat.reduceLeDiff, Nat.reduceEqDiff, Int.reduceLT, thenK, blockK, retK, resHolds, resVR, VR.holds, ro, roArg, roPtr, roArgS, roSl, beq_self_eq_true, eq_self, implies_true, Int.reduceBEq, Int.reduceBNe, frz, frzOne, bne_self_eq_false, rNilCheck, rIndex, retM, retMK, argM, Smp.cs, Smp.sv, slS])
        refine hk _ ?_
        simp only [thenK, blockK]
        refine ⟨q, ⟨by omega, fun i' h5 h6 => ?_⟩, by omega, ?_⟩
        · by_cases e : i' = q
          · rw [e]; exact h4
          · exact hm i' (by omega) h6
        · simp -implicitDefEqProofs only [evr, ty, rPick, rIbin, rBin, wideB, eqB, strB, rUn, rConv, rFieldAddr, rIndexAddr, rLoad, rField, rLen, rMax, rMin, rSlice, rBuild, toB, asRead, asAny, bound, flatOk, flat, lay, fillS, placesOf, id, ne_eq, reduceCtorEq, if_true, if_false, reduceIte, forall_const, decide_true, decide_eq_true_eq, decide_eq_false_iff_not, Nat.reduceMul, Nat.reduceAdd, Nat.reduceLT, Nat.reduceLeDiff, Nat.reduceEqDiff, Int.reduceLT, thenK, blockK, retK, resHolds, resVR, VR.holds, ro, roArg, roPtr, roArgS, roSl, beq_self_eq_true, eq_self, implies_true, Int.reduceBEq, Int.reduceBNe, frz, frzOne, bne_self_eq_false, rNilCheck, rIndex, retM, retMK, argM, Smp.cs, Smp.sv, slS, Le, envLe, ownLe, Own.le, Option.some.injEq, eq_self, true_or, false_or, or_false, exists_eq_left', exists_eq_left, exists_eq, exists_eq', SV.i.injEq, SV.b.injEq, rdEq_same, exists_false, and_false, false_and]
          rw [w64 (by omega)]
    · simp only [decide_eq_false_iff_not] at h3
      obtain rfl : m = 0 := by omega
      refine Sat.exit ?_
      simp only [thenK, blockK, reduceIte]
      (repeat refine Sat.seq ?_)
      (refine Sat.region_k fun k hk => ?_; simp -implicitDefEqProofs only [evr, ty, rPick, rIbin, rBin, wideB, eqB, strB, rUn, rConv, rFieldAddr, rIndexAddr, rLoad, rField, rLen, rMax, rMin, rSlice, rBuild, toB, asRead, asAny, bound, flatOk, flat, lay, fillS, placesOf, id, ne_eq, reduceCtorEq, if_true, if_false, reduceIte, forall_const, decide_true, decide_eq_true_eq, decide_eq_false_iff_not, Nat.reduceMul, Nat.reduceAdd, Nat.reduceLT, Nat.reduceLeDiff, Nat.reduceEqDiff, Int.reduceLT, thenK, blockK, retK, resHolds, resVR, VR.holds, ro, roArg, roPtr, roArgS, roSl, beq_self_eq_true, eq_self, implies_true, Int.reduceBEq, Int.reduceBNe, frz, frzOne, bne_self_eq_false, rNilCheck, rIndex, retM, retMK, argM, Smp.cs, Smp.sv, slS])
      refine hk _ ?_
      simp only [thenK, blockK]
      refine ⟨j + 1, ⟨by omega, fun j' h4 h5 i' h6 => ?_⟩, by omega, ?_⟩
      · by_cases e : j' < j
        · exact hall j' e h5 i' h6
        · obtain rfl : j' = j := by omega
          exact hm i' (by omega) h6
      · simp -implicitDefEqProofs only [evr, ty, rPick, rIbin, rBin, wideB, eqB, strB, rUn, rConv, rFieldAddr, rIndexAddr, rLoad, rField, rLen, rMax, rMin, rSlice, rBuild, toB, asRead, asAny, bound, flatOk, flat, lay, fillS, placesOf, id, ne_eq, reduceCtorEq, if_true, if_false, reduceIte, forall_const, decide_true, decide_eq_true_eq, decide_eq_false_iff_not, Nat.reduceMul, Nat.reduceAdd, Nat.reduceLT, Nat.reduceLeDiff, Nat.reduceEqDiff, Int.reduceLT, thenK, blockK, retK, resHolds, resVR, VR.holds, ro, roArg, roPtr, roArgS, roSl, beq_self_eq_true, eq_self, implies_true, Int.reduceBEq, Int.reduceBNe, frz, frzOne, bne_self_eq_false, rNilCheck, rIndex, retM, retMK, argM, Smp.cs, Smp.sv, slS, Le, envLe, ownLe, Own.le, Option.some.injEq, eq_self, true_or, false_or, or_false, exists_eq_left', exists_eq_left, exists_eq, exists_eq', SV.i.injEq, SV.b.injEq, rdEq_same, exists_false, and_false, false_and]
        rw [w64 (by omega)]; omega
  · simp only [decide_eq_false_iff_not] at h2
    refine Sat.exit ?_
    simp only [thenK, blockK, reduceIte]
    (repeat refine Sat.seq ?_)
    (refine Sat.region_k fun k hk => ?_; simp -implicitDefEqProofs only [evr, ty, rPick, rIbin, rBin, wideB, eqB, strB, rUn, rConv, rFieldAddr, rIndexAddr, rLoad, rField, rLen, rMax, rMin, rSlice, rBuild, toB, asRead, asAny, bound, flatOk, flat, lay, fillS, placesOf, id, ne_eq, reduceCtorEq, if_true, if_false, reduceIte, forall_const, decide_true, decide_eq_true_eq, decide_eq_false_iff_not, Nat.reduceMul, Nat.reduceAdd, Nat.reduceLT, Nat.reduceLeDiff, Nat.reduceEqDiff, Int.reduceLT, thenK, blockK, retK, resHolds, resVR, VR.holds, ro, roArg, roPtr, roArgS, roSl, beq_self_eq_true, eq_self, implies_true, Int.reduceBEq, Int.reduceBNe, frz, frzOne, bne_self_eq_false, rNilCheck, rIndex, retM, retMK, argM, Smp.cs, Smp.sv, slS]; refine hk _ ?_; clear hk k; try show Sat _ _ _ _ _)
    refine Sat.ret ?_
    simp only [Try.results22, evr, ty, rPick, rIbin, rBin, wideB, eqB, strB, rUn, rConv, rFieldAddr, rIndexAddr, rLoad, rField, rLen, rMax, rMin, rSlice, rBuild, toB, asRead, asAny, bound, flatOk, flat, lay, fillS, placesOf, id, ne_eq, reduceCtorEq, if_true, if_false, reduceIte, forall_const, decide_true, decide_eq_true_eq, decide_eq_false_iff_not, Nat.reduceMul, Nat.reduceAdd, Nat.reduceLT, Nat.reduceLeDiff, Nat.reduceEqDiff, Int.reduceLT, thenK, blockK, retK, resHolds, resVR, VR.holds, ro, roArg, roPtr, roArgS, roSl, beq_self_eq_true, eq_self, implies_true, Int.reduceBEq, Int.reduceBNe, frz, frzOne, bne_self_eq_false, rNilCheck, rIndex, retM, retMK, argM, Smp.cs, Smp.sv, slS]
    refine .inr ⟨fun hvs j' hj' i' hi' hr => ?_, rfl⟩
    have := hall j' (by omega) hj' i' hi'
    rw [chk_nat l s i' j' hi' hj', hvs] at this
    simp [hr] at this

set_option maxRecDepth 100000 in
theorem rLeastC (F : Frm) (ad : Option Addr) (cap : Nat) (l : List Smp) (hl : l.length ≤ 1000000) :
    Contract F Try.prog 29 [slS ad cap l] (LeastPost l) := by
  refine contract_of Try.func29 rfl (by kernel_rfl) ?_
  simp only [Try.ntmps29, argEnv, slS]
  (repeat refine Sat.seq ?_)
  (refine Sat.region_k fun k hk => ?_; simp -implicitDefEqProofs only [evr, ty, rPick, rIbin, rBin, wideB, eqB, strB, rUn, rConv, rFieldAddr, rIndexAddr, rLoad, rField, rLen, rMax, rMin, rSlice, rBuild, toB, asRead, asAny, bound, flatOk, flat, lay, fillS, placesOf, id, ne_eq, reduceCtorEq, if_true, if_false, reduceIte, forall_const, decide_true, decide_eq_true_eq, decide_eq_false_iff_not, Nat.reduceMul, Nat.reduceAdd, Nat.reduceLT, Nat.reduceLeDiff, Nat.reduceEqDiff, Int.reduceLT, thenK, blockK, retK, resHolds, resVR, VR.holds, ro, roArg, roPtr, roArgS, roSl, beq_self_eq_true, eq_self, implies_true, Int.reduceBEq, Int.reduceBNe, frz, frzOne, bne_self_eq_false, rNilCheck, rIndex, retM, retMK, argM, Smp.cs, Smp.sv, slS]; refine hk _ ?_; clear hk k; try show Sat _ _ _ _ _)
  (repeat refine Sat.seq ?_)
  (refine Sat.region_k fun k hk => ?_; simp -implicitDefEqProofs only [evr, ty, rPick, rIbin, rBin, wideB, eqB, strB, rUn, rConv, rFieldAddr, rIndexAddr, rLoad, rField, rLen, rMax, rMin, rSlice, rBuild, toB, asRead, asAny, bound, flatOk, flat, lay, fillS, placesOf, id, ne_eq, reduceCtorEq, if_true, if_false, reduceIte, forall_const, decide_true, decide_eq_true_eq, decide_eq_false_iff_not, Nat.reduceMul, Nat.reduceAdd, Nat.reduceLT, Nat.reduceLeDiff, Nat.reduceEqDiff, Int.reduceLT, thenK, blockK, retK, resHolds, resVR, VR.holds, ro, roArg, roPtr, roArgS, roSl, beq_self_eq_true, eq_self, implies_true, Int.reduceBEq, Int.reduceBNe, frz, frzOne, bne_self_eq_false, rNilCheck, rIndex, retM, retMK, argM, Smp.cs, Smp.sv, slS])
  refine wcall_plain (rFitsC F ad cap l 1073741824 hl) rfl (by rintro _ rfl; exact ok_plain rfl) ?_
  rintro r rfl
  simp -implicitDefEqProofs only [evr, ty, rPick, rIbin, rBin, wideB, eqB, strB, rUn, rConv, rFieldAddr, rIndexAddr, rLoad, rField, rLen, rMax, rMin, rSlice, rBuild, toB, asRead, asAny, bound, flatOk, flat, lay, fillS, placesOf, id, ne_eq, reduceCtorEq, if_true, if_false, reduceIte, forall_const, decide_true, decide_eq_true_eq, decide_eq_false_iff_not, Nat.reduceMul, Nat.reduceAdd, Nat.reduceLT, Nat.reduceLeDiff, Nat.reduceEqDiff, Int.reduceLT, thenK, blockK, retK, resHolds, resVR, VR.holds, ro, roArg, roPtr, roArgS, roSl, beq_self_eq_true, eq_self, implies_true, Int.reduceBEq, Int.reduceBNe, frz, frzOne, bne_self_eq_false, rNilCheck, rIndex, retM, retMK, argM, Smp.cs, Smp.sv, slS]
  (refine hk _ ?_; clear hk k; try show Sat _ _ _ _ _)
  refine Sat.cond_b rfl (fun h => ?_) (fun h => ?_)
  · (repeat refine Sat.seq ?_)
    (refine Sat.region_k fun k hk => ?_; simp -implicitDefEqProofs only [evr, ty, rPick, rIbin, rBin, wideB, eqB, strB, rUn, rConv, rFieldAddr, rIndexAddr, rLoad, rField, rLen, rMax, rMin, rSlice, rBuild, toB, asRead, asAny, bound, flatOk, flat, lay, fillS, placesOf, id, ne_eq, reduceCtorEq, if_true, if_false, reduceIte, forall_const, decide_true, decide_eq_true_eq, decide_eq_false_iff_not, Nat.reduceMul, Nat.reduceAdd, Nat.reduceLT, Nat.reduceLeDiff, Nat.reduceEqDiff, Int.reduceLT, thenK, blockK, retK, resHolds, resVR, VR.holds, ro, roArg, roPtr, roArgS, roSl, beq_self_eq_true, eq_self, implies_true, Int.reduceBEq, Int.reduceBNe, frz, frzOne, bne_self_eq_false, rNilCheck, rIndex, retM, retMK, argM, Smp.cs, Smp.sv, slS]; refine hk _ ?_; clear hk k; try show Sat _ _ _ _ _)
    refine Sat.ret ?_
    simp only [Try.results29, evr, ty, rPick, rIbin, rBin, wideB, eqB, strB, rUn, rConv, rFieldAddr, rIndexAddr, rLoad, rField, rLen, rMax, rMin, rSlice, rBuild, toB, asRead, asAny, bound, flatOk, flat, lay, fillS, placesOf, id, ne_eq, reduceCtorEq, if_true, if_false, reduceIte, forall_const, decide_true, decide_eq_true_eq, decide_eq_false_iff_not, Nat.reduceMul, Nat.reduceAdd, Nat.reduceLT, Nat.reduceLeDiff, Nat.reduceEqDiff, Int.reduceLT, thenK, blockK, retK, resHolds, resVR, VR.holds, ro, roArg, roPtr, roArgS, roSl, beq_self_eq_true, eq_self, implies_true, Int.reduceBEq, Int.reduceBNe, frz, frzOne, bne_self_eq_false, rNilCheck, rIndex, retM, retMK, argM, Smp.cs, Smp.sv, slS]
    exact .inl ⟨by simpa using h, rfl⟩
  · have hf : fitsAll l 1073741824 = true := by simpa using h
    refine Sat.skip ?_
    simp only [thenK]
    (repeat refine Sat.seq ?_)
    (refine Sat.region_k fun k hk => ?_; simp -implicitDefEqProofs only [evr, ty, rPick, rIbin, rBin, wideB, eqB, strB, rUn, rConv, rFieldAddr, rIndexAddr, rLoad, rField, rLen, rMax, rMin, rSlice, rBuild, toB, asRead, asAny, bound, flatOk, flat, lay, fillS, placesOf, id, ne_eq, reduceCtorEq, if_true, if_false, reduceIte, forall_const, decide_true, decide_eq_true_eq, decide_eq_false_iff_not, Nat.reduceMul, Nat.reduceAdd, Nat.reduceLT, Nat.reduceLeDiff, Nat.reduceEqDiff, Int.reduceLT, thenK, blockK, retK, resHolds, resVR, VR.holds, ro, roArg, roPtr, roArgS, roSl, beq_self_eq_true, eq_self, implies_true, Int.reduceBEq, Int.reduceBNe, frz, frzOne, bne_self_eq_false, rNilCheck, rIndex, retM, retMK, argM, Smp.cs, Smp.sv, slS]; refine hk _ ?_; clear hk k; try show Sat _ _ _ _ _)
    (repeat refine Sat.seq ?_)
    refine Sat.block ?_
    refine Sat.loop (ι := Int × Int) (fun x => ⟨24, [(4, .i .i64 x.1), (5, .i .i64 x.2), (0, slS ad cap l)], []⟩)
      (fun x => 1 ≤ x.1 ∧ x.1 ≤ x.2 ∧ x.2 ≤ 1073741824 ∧ fitsAll l x.2 = true ∧ (1 < x.1 → fitsAll l (x.1 - 1) = false)) (fun x => (x.2 - x.1).toNat) (1, 1073741824) ⟨by decide, by decide, by decide, hf, fun h => absurd h (by decide)⟩ (by simp -implicitDefEqProofs only [evr, ty, rPick, rIbin, rBin, wideB, eqB, strB, rUn, rConv, rFieldAddr, rIndexAddr, rLoad, rField, rLen, rMax, rMin, rSlice, rBuild, toB, asRead, asAny, bound, flatOk, flat, lay, fillS, placesOf, id, ne_eq, reduceCtorEq, if_true, if_false, reduceIte, forall_const, decide_true, decide_eq_true_eq, decide_eq_false_iff_not, Nat.reduceMul, Nat.reduceAdd, Nat.reduceLT, Nat.reduceLeDiff, Nat.reduceEqDiff, Int.reduceLT, thenK, blockK, retK, resHolds, resVR, VR.holds, ro, roArg, roPtr, roArgS, roSl, beq_self_eq_true, eq_self, implies_true, Int.reduceBEq, Int.reduceBNe, frz, frzOne, bne_self_eq_false, rNilCheck, rIndex, retM, retMK, argM, Smp.cs, Smp.sv, slS, Le, envLe, ownLe, Own.le, Option.some.injEq, eq_self, true_or, false_or, or_false, exists_eq_left', exists_eq_left, exists_eq, exists_eq', SV.i.injEq, SV.b.injEq, rdEq_same, exists_false, and_false, false_and]) ?_
    rintro ⟨lo, hi⟩ ⟨h1, h2, h3, h4, h5⟩
    simp only [slS] at h1 h2 h3 h4 h5 ⊢
    (repeat refine Sat.seq ?_)
    (refine Sat.region_k fun k hk => ?_; simp -implicitDefEqProofs only [evr, ty, rPick, rIbin, rBin, wideB, eqB, strB, rUn, rConv, rFieldAddr, rIndexAddr, rLoad, rField, rLen, rMax, rMin, rSlice, rBuild, toB, asRead, asAny, bound, flatOk, flat, lay, fillS, placesOf, id, ne_eq, reduceCtorEq, if_true, if_false, reduceIte, forall_const, decide_true, decide_eq_true_eq, decide_eq_false_iff_not, Nat.reduceMul, Nat.reduceAdd, Nat.reduceLT, Nat.reduceLeDiff, Nat.reduceEqDiff, Int.reduceLT, thenK, blockK, retK, resHolds, resVR, VR.holds, ro, roArg, roPtr, roArgS, roSl, beq_self_eq_true, eq_self, implies_true, Int.reduceBEq, Int.reduceBNe, frz, frzOne, bne_self_eq_false, rNilCheck, rIndex, retM, retMK, argM, Smp.cs, Smp.sv, slS]; refine hk _ ?_; clear hk k; try show Sat _ _ _ _ _)
    (repeat refine Sat.seq ?_)
    refine Sat.cond_b rfl (fun h6 => ?_) (fun h6 => ?_)
    · simp only [decide_eq_true_eq] at h6
      refine Sat.skip ?_
      simp only [thenK]
      (repeat refine Sat.seq ?_)
      refine Sat.block ?_
      (repeat refine Sat.seq ?_)
      have e1 : IntKind.i64.wrap (lo + hi) = lo + hi := w64 (by omega)
      have e2 : IntKind.i64.wrap ((lo + hi).tdiv 2) = (lo + hi) / 2 := by rw [Int.tdiv_eq_ediv_of_nonneg (by omega), w64 (by omega)]
      refine Sat.region_k fun k hk => ?_
      simp -implicitDefEqProofs only [evr, ty, rPick, rIbin, rBin, wideB, eqB, strB, rUn, rConv, rFieldAddr, rIndexAddr, rLoad, rField, rLen, rMax, rMin, rSlice, rBuild, toB, asRead, asAny, bound, flatOk, flat, lay, fillS, placesOf, id, ne_eq, reduceCtorEq, if_true, if_false, reduceIte, forall_const, decide_true, decide_eq_true_eq, decide_eq_false_iff_not, Nat.reduceMul, Nat.reduceAdd, Nat.reduceLT, Nat.reduceLeDiff, Nat.reduceEqDiff, Int.reduceLT, thenK, blockK, retK, resHolds, resVR, VR.holds, ro, roArg, roPtr, roArgS, roSl, beq_self_eq_true, eq_self, implies_true, Int.reduceBEq, Int.reduceBNe, frz, frzOne, bne_self_eq_false, rNilCheck, rIndex, retM, retMK, argM, Smp.cs, Smp.sv, slS, e1]
      refine ⟨by decide, ?_⟩
      rw [e2]
      (refine hk _ ?_; clear hk k; try show Sat _ _ _ _ _)
      (repeat refine Sat.seq ?_)
      (refine Sat.region_k fun k hk => ?_; simp -implicitDefEqProofs only [evr, ty, rPick, rIbin, rBin, wideB, eqB, strB, rUn, rConv, rFieldAddr, rIndexAddr, rLoad, rField, rLen, rMax, rMin, rSlice, rBuild, toB, asRead, asAny, bound, flatOk, flat, lay, fillS, placesOf, id, ne_eq, reduceCtorEq, if_true, if_false, reduceIte, forall_const, decide_true, decide_eq_true_eq, decide_eq_false_iff_not, Nat.reduceMul, Nat.reduceAdd, Nat.reduceLT, Nat.reduceLeDiff, Nat.reduceEqDiff, Int.reduceLT, thenK, blockK, retK, resHolds, resVR, VR.holds, ro, roArg, roPtr, roArgS, roSl, beq_self_eq_true, eq_self, implies_true, Int.reduceBEq, Int.reduceBNe, frz, frzOne, bne_self_eq_false, rNilCheck, rIndex, retM, retMK, argM, Smp.cs, Smp.sv, slS])
      refine wcall_plain (rFitsC F ad cap l ((lo + hi) / 2) hl) rfl (by rintro _ rfl; exact ok_plain rfl) ?_
      rintro r rfl
      simp -implicitDefEqProofs only [evr, ty, rPick, rIbin, rBin, wideB, eqB, strB, rUn, rConv, rFieldAddr, rIndexAddr, rLoad, rField, rLen, rMax, rMin, rSlice, rBuild, toB, asRead, asAny, bound, flatOk, flat, lay, fillS, placesOf, id, ne_eq, reduceCtorEq, if_true, if_false, reduceIte, forall_const, decide_true, decide_eq_true_eq, decide_eq_false_iff_not, Nat.reduceMul, Nat.reduceAdd, Nat.reduceLT, Nat.reduceLeDiff, Nat.reduceEqDiff, Int.reduceLT, thenK, blockK, retK, resHolds, resVR, VR.holds, ro, roArg, roPtr, roArgS, roSl, beq_self_eq_true, eq_self, implies_true, Int.reduceBEq, Int.reduceBNe, frz, frzOne, bne_self_eq_false, rNilCheck, rIndex, retM, retMK, argM, Smp.cs, Smp.sv, slS]
      (refine hk _ ?_; clear hk k; try show Sat _ _ _ _ _)
      refine Sat.cond_b rfl (fun h7 => ?_) (fun h7 => ?_)
      · (refine Sat.region_k fun k hk => ?_; simp -implicitDefEqProofs only [evr, ty, rPick, rIbin, rBin, wideB, eqB, strB, rUn, rConv, rFieldAddr, rIndexAddr, rLoad, rField, rLen, rMax, rMin, rSlice, rBuild, toB, asRead, asAny, bound, flatOk, flat, lay, fillS, placesOf, id, ne_eq, reduceCtorEq, if_true, if_false, reduceIte, forall_const, decide_true, decide_eq_true_eq, decide_eq_false_iff_not, Nat.reduceMul, Nat.reduceAdd, Nat.reduceLT, Nat.reduceLeDiff, Nat.reduceEqDiff, Int.reduceLT, thenK, blockK, retK, resHolds, resVR, VR.holds, ro, roArg, roPtr, roArgS, roSl, beq_self_eq_true, eq_self, implies_true, Int.reduceBEq, Int.reduceBNe, frz, frzOne, bne_self_eq_false, rNilCheck, rIndex, retM, retMK, argM, Smp.cs, Smp.sv, slS])
        refine hk _ ?_
        simp only [thenK, blockK]
        refine ⟨(lo, (lo + hi) / 2), ⟨h1, by show lo ≤ _; omega, by show _ ≤ _; omega, h7, h5⟩, by show ((lo + hi) / 2 - lo).toNat < (hi - lo).toNat; omega, ?_⟩
        simp -implicitDefEqProofs only [evr, ty, rPick, rIbin, rBin, wideB, eqB, strB, rUn, rConv, rFieldAddr, rIndexAddr, rLoad, rField, rLen, rMax, rMin, rSlice, rBuild, toB, asRead, asAny, bound, flatOk, flat, lay, fillS, placesOf, id, ne_eq, reduceCtorEq, if_true, if_false, reduceIte, forall_const, decide_true, decide_eq_true_eq, decide_eq_false_iff_not, Nat.reduceMul, Nat.reduceAdd, Nat.reduceLT, Nat.reduceLeDiff, Nat.reduceEqDiff, Int.reduceLT, thenK, blockK, retK, resHolds, resVR, VR.holds, ro, roArg, roPtr, roArgS, roSl, beq_self_eq_true, eq_self, implies_true, Int.reduceBEq, Int.reduceBNe, frz, frzOne, bne_self_eq_false, rNilCheck, rIndex, retM, retMK, argM, Smp.cs, Smp.sv, slS, Le, envLe, ownLe, Own.le, Option.some.injEq, eq_self, true_or, false_or, or_false, exists_eq_left', exists_eq_left, exists_eq, exists_eq', SV.i.injEq, SV.b.injEq, rdEq_same, exists_false, and_false, false_and]
      · have e3 : IntKind.i64.wrap ((lo + hi) / 2 + 1) = (lo + hi) / 2 + 1 := w64 (by omega)
        refine Sat.region_k fun k hk => ?_
        simp -implicitDefEqProofs only [evr, ty, rPick, rIbin, rBin, wideB, eqB, strB, rUn, rConv, rFieldAddr, rIndexAddr, rLoad, rField, rLen, rMax, rMin, rSlice, rBuild, toB, asRead, asAny, bound, flatOk, flat, lay, fillS, placesOf, id, ne_eq, reduceCtorEq, if_true, if_false, reduceIte, forall_const, decide_true, decide_eq_true_eq, decide_eq_false_iff_not, Nat.reduceMul, Nat.reduceAdd, Nat.reduceLT, Nat.reduceLeDiff, Nat.reduceEqDiff, Int.reduceLT, thenK, blockK, retK, resHolds, resVR, VR.holds, ro, roArg, roPtr, roArgS, roSl, beq_self_eq_true, eq_self, implies_true, Int.reduceBEq, Int.reduceBNe, frz, frzOne, bne_self_eq_false, rNilCheck, rIndex, retM, retMK, argM, Smp.cs, Smp.sv, slS, e3]
        refine hk _ ?_
        simp only [thenK, blockK]
        refine ⟨((lo + hi) / 2 + 1, hi), ⟨by show 1 ≤ _; omega, by show _ ≤ hi; omega, h3, h4, fun _ => by show fitsAll l ((lo + hi) / 2 + 1 - 1) = false; rw [show (lo + hi) / 2 + 1 - 1 = (lo + hi) / 2 by omega]; exact h7⟩, by show (hi - ((lo + hi) / 2 + 1)).toNat < (hi - lo).toNat; omega, ?_⟩
        simp -implicitDefEqProofs only [evr, ty, rPick, rIbin, rBin, wideB, eqB, strB, rUn, rConv, rFieldAddr, rIndexAddr, rLoad, rField, rLen, rMax, rMin, rSlice, rBuild, toB, asRead, asAny, bound, flatOk, flat, lay, fillS, placesOf, id, ne_eq, reduceCtorEq, if_true, if_false, reduceIte, forall_const, decide_true, decide_eq_true_eq, decide_eq_false_iff_not, Nat.reduceMul, Nat.reduceAdd, Nat.reduceLT, Nat.reduceLeDiff, Nat.reduceEqDiff, Int.reduceLT, thenK, blockK, retK, resHolds, resVR, VR.holds, ro, roArg, roPtr, roArgS, roSl, beq_self_eq_true, eq_self, implies_true, Int.reduceBEq, Int.reduceBNe, frz, frzOne, bne_self_eq_false, rNilCheck, rIndex, retM, retMK, argM, Smp.cs, Smp.sv, slS, Le, envLe, ownLe, Own.le, Option.some.injEq, eq_self, true_or, false_or, or_false, exists_eq_left', exists_eq_left, exists_eq, exists_eq', SV.i.injEq, SV.b.injEq, rdEq_same, exists_false, and_false, false_and]
    · simp only [decide_eq_false_iff_not] at h6
      obtain rfl : lo = hi := by omega
      refine Sat.exit ?_
      simp only [thenK, blockK, reduceIte]
      (repeat refine Sat.seq ?_)
      (refine Sat.region_k fun k hk => ?_; simp -implicitDefEqProofs only [evr, ty, rPick, rIbin, rBin, wideB, eqB, strB, rUn, rConv, rFieldAddr, rIndexAddr, rLoad, rField, rLen, rMax, rMin, rSlice, rBuild, toB, asRead, asAny, bound, flatOk, flat, lay, fillS, placesOf, id, ne_eq, reduceCtorEq, if_true, if_false, reduceIte, forall_const, decide_true, decide_eq_true_eq, decide_eq_false_iff_not, Nat.reduceMul, Nat.reduceAdd, Nat.reduceLT, Nat.reduceLeDiff, Nat.reduceEqDiff, Int.reduceLT, thenK, blockK, retK, resHolds, resVR, VR.holds, ro, roArg, roPtr, roArgS, roSl, beq_self_eq_true, eq_self, implies_true, Int.reduceBEq, Int.reduceBNe, frz, frzOne, bne_self_eq_false, rNilCheck, rIndex, retM, retMK, argM, Smp.cs, Smp.sv, slS]; refine hk _ ?_; clear hk k; try show Sat _ _ _ _ _)
      refine Sat.ret ?_
      simp only [Try.results29, evr, ty, rPick, rIbin, rBin, wideB, eqB, strB, rUn, rConv, rFieldAddr, rIndexAddr, rLoad, rField, rLen, rMax, rMin, rSlice, rBuild, toB, asRead, asAny, bound, flatOk, flat, lay, fillS, placesOf, id, ne_eq, reduceCtorEq, if_true, if_false, reduceIte, forall_const, decide_true, decide_eq_true_eq, decide_eq_false_iff_not, Nat.reduceMul, Nat.reduceAdd, Nat.reduceLT, Nat.reduceLeDiff, Nat.reduceEqDiff, Int.reduceLT, thenK, blockK, retK, resHolds, resVR, VR.holds, ro, roArg, roPtr, roArgS, roSl, beq_self_eq_true, eq_self, implies_true, Int.reduceBEq, Int.reduceBNe, frz, frzOne, bne_self_eq_false, rNilCheck, rIndex, retM, retMK, argM, Smp.cs, Smp.sv, slS]
      exact .inr ⟨lo, h1, h3, h4, h5, rfl⟩
end Go.Proofs.Ytchpegjadoodnaa
