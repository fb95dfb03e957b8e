/- SharingMerges: two lists that are merged. -/
import Derived.Test.YtchpegjadoodnaaMrgG
import Derived.Test.YtchpegjadoodnaaMrgMath
import Derived.Test.YtchpegjadoodnaaShrAwake
import Derived.Test.YtchpegjadoodnaaWalkE
import Derived.Test.YtchpegjadoodnaaSmpS
import Derived.OpenShut
import Derived.Test.YtchpegjadoodnaaShSharingMerges
set_option linter.unusedSimpArgs false
set_option linter.unusedVariables false
namespace Go.Proofs.Ytchpegjadoodnaa
open Eng Go.RowKit Go.WideShapes Go.ChangeShapes

theorem slB_bytes3 (a : Option Addr) (cap : Nat) (z : List Int) (hz : ∀ n ∈ z, (Lit.int .u8 n).wf = true) : isBytes (slB a cap z) :=
  ⟨a, z.length, cap, _, rfl, fun i hi => ⟨z.getD i 0, by have := bounds_u8 (hz _ (getD_mem (d := 0) hi)); omega, by have := bounds_u8 (hz _ (getD_mem (d := 0) hi)); omega, rfl⟩⟩

def rdS3 (l : List Smp) : Nat → Nat → SV := fun i j => (l.getD i default).cs.getD j default
theorem cat_one (x : List Smp) (s : Smp) : rdEq (x.length + 1) 4 (rdCat x.length (rdS3 x) (rdL s.cs 4)) (rdS3 (x ++ [s])) := by
  intro i j hi hj
  unfold rdCat rdS3
  by_cases h : i < x.length
  · simp [h, List.getD, List.getElem?_append]
  · obtain rfl : i = x.length := by omega
    simp [List.getD, rdL]

theorem perm_a {A B l : List Smp} {i : Nat} (h : i < l.length) (hp : (A ++ B).Perm (l.take i)) : ((A ++ [l.getD i default]) ++ B).Perm (l.take (i + 1)) := by
  have e : l.take (i + 1) = l.take i ++ [l.getD i default] := by rw [List.take_add_one]; simp [List.getD, h]
  rw [e]
  refine List.Perm.trans ?_ (hp.append_right _)
  simp only [List.append_assoc]
  exact List.Perm.append_left A List.perm_append_comm
theorem perm_b {A B l : List Smp} {i : Nat} (h : i < l.length) (hp : (A ++ B).Perm (l.take i)) : (A ++ (B ++ [l.getD i default])).Perm (l.take (i + 1)) := by
  have e : l.take (i + 1) = l.take i ++ [l.getD i default] := by rw [List.take_add_one]; simp [List.getD, h]
  rw [e, ← List.append_assoc]
  exact hp.append_right _
theorem mergeL_back {A B l : List Smp} (hv : validL l = true) (hp : (A ++ B).Perm l) : mergeL A B = l := by
  unfold mergeL
  exact merge_back l (A ++ B).toArray hv (by simpa using hp)
theorem mergeC2 (F : Frm) (a1 a2 : Option Addr) (c1 c2 : Nat) {A B l : List Smp} (hl : A.length + B.length < 20) (hv : validL l = true) (hp : (A ++ B).Perm l) :
    Contract F Try.prog 31 [slS a1 c1 A, slS a2 c2 B] (fun r => ∃ a c, r = tupL [slS a c l, .i .i64 0]) := by
  have e := mergeL_back hv hp
  refine (mergeC F a1 a2 c1 c2 A B hl (by rw [e]; exact hv)).mono ?_
  rintro r ⟨a, c, rfl⟩
  refine ⟨a, c, ?_⟩
  rw [e, hp.length_eq, smpRd_list]
  rfl
theorem fitsAll_take3 {l : List Smp} {s : Int} (n : Nat) (h : fitsAll l s = true) : fitsAll (l.take n) s = true := by
  unfold fitsAll at *
  simp only [Bool.and_eq_true] at *
  exact ⟨⟨valid_take n h.1.1, h.1.2⟩, fits_take n h.2⟩
theorem fitsTakeC3 (F : Frm) (ad : Option Addr) (cap : Nat) (l : List Smp) (s : Int) (hl : l.length ≤ 1000000) (i : Nat) (hi : i ≤ l.length) (rd : Nat → Nat → SV) (hrd : ∀ p q, p < i → rd p q = (l.getD p default).cs.getD q default) : Contract F Try.prog 19 [.sl ad i cap 4 rd, .i .i64 s] (fun r => r = .b (fitsAll (l.take i) s)) :=
  Contract.of_sim (fitsC F ad cap (l.take i) s (by simp; omega)) ⟨by
    unfold slS
    rw [List.length_take, Nat.min_eq_left hi]
    exact sim_sl fun p q hp hq => by rw [hrd p q hp, getD_take l i p hp], sim_refl _, trivial⟩

set_option maxRecDepth 100000 in
theorem mergesC (a : Option Addr) (cap : Nat) (z : List Int) (hz : ∀ n ∈ z, (Lit.int .u8 n).wf = true) : Contract Frm.nil Try.prog 7 [slB a cap z] (fun r => r = .b true) := by
  have hb := slB_bytes3 a cap z hz
  refine contract_of Try.func7 rfl (by kernel_rfl) ?_
  simp only [Try.ntmps7, argEnv]
  (repeat refine Sat.seq ?_)
  (refine Sat.region_k fun k hk => ?_; simp -implicitDefEqProofs only [evr, ty, rPick, rIbin, rBin, wideB, eqB, strB, rUn, rConv, rFieldAddr, rIndexAddr, rLoad, rField, rLen, rCap, rMax, rMin, rSlice, isRow, WCut, WZer, rBuild, toB, asRead, asAny, bound, flatOk, flat, lay, fillS, placesOf, id, ne_eq, reduceCtorEq, if_true, if_false, reduceIte, forall_const, decide_true, decide_eq_true_eq, decide_eq_false_iff_not, Nat.reduceMul, Nat.reduceAdd, Nat.reduceLT, Nat.reduceLeDiff, Nat.reduceEqDiff, Int.reduceLT, thenK, blockK, retK, resHolds, resVR, VR.holds, ro, roArg, roPtr, roArgS, roSl, beq_self_eq_true, eq_self, implies_true, Int.reduceBEq, Int.reduceBNe, frz, frzOne, bne_self_eq_false, rNilCheck, rIndex, retM, retMK, argM, Smp.cs, Smp.sv, slS, ptr, Bool.not_true, Bool.not_false]; refine hk _ ?_; clear hk k; try show Sat _ _ _ _ _)
  (repeat refine Sat.seq ?_)
  (refine Sat.region_k fun k hk => ?_; simp -implicitDefEqProofs only [evr, ty, rPick, rIbin, rBin, wideB, eqB, strB, rUn, rConv, rFieldAddr, rIndexAddr, rLoad, rField, rLen, rCap, rMax, rMin, rSlice, isRow, WCut, WZer, rBuild, toB, asRead, asAny, bound, flatOk, flat, lay, fillS, placesOf, id, ne_eq, reduceCtorEq, if_true, if_false, reduceIte, forall_const, decide_true, decide_eq_true_eq, decide_eq_false_iff_not, Nat.reduceMul, Nat.reduceAdd, Nat.reduceLT, Nat.reduceLeDiff, Nat.reduceEqDiff, Int.reduceLT, thenK, blockK, retK, resHolds, resVR, VR.holds, ro, roArg, roPtr, roArgS, roSl, beq_self_eq_true, eq_self, implies_true, Int.reduceBEq, Int.reduceBNe, frz, frzOne, bne_self_eq_false, rNilCheck, rIndex, retM, retMK, argM, Smp.cs, Smp.sv, slS, ptr, Bool.not_true, Bool.not_false])
  refine wcall_plain (awakeC Frm.nil) rfl (by rintro _ rfl; exact ok_plain rfl) ?_
  rintro r rfl
  simp -implicitDefEqProofs only [evr, ty, rPick, rIbin, rBin, wideB, eqB, strB, rUn, rConv, rFieldAddr, rIndexAddr, rLoad, rField, rLen, rCap, rMax, rMin, rSlice, isRow, WCut, WZer, rBuild, toB, asRead, asAny, bound, flatOk, flat, lay, fillS, placesOf, id, ne_eq, reduceCtorEq, if_true, if_false, reduceIte, forall_const, decide_true, decide_eq_true_eq, decide_eq_false_iff_not, Nat.reduceMul, Nat.reduceAdd, Nat.reduceLT, Nat.reduceLeDiff, Nat.reduceEqDiff, Int.reduceLT, thenK, blockK, retK, resHolds, resVR, VR.holds, ro, roArg, roPtr, roArgS, roSl, beq_self_eq_true, eq_self, implies_true, Int.reduceBEq, Int.reduceBNe, frz, frzOne, bne_self_eq_false, rNilCheck, rIndex, retM, retMK, argM, Smp.cs, Smp.sv, slS, ptr, Bool.not_true, Bool.not_false]
  (refine hk _ ?_; clear hk k; try show Sat _ _ _ _ _)
  refine Sat.cond_b rfl (fun h => absurd h (by decide)) (fun _ => ?_)
  refine Sat.skip ?_
  simp only [thenK]
  refine Sat.seq ?_
  (refine Sat.region_k fun k hk => ?_; simp -implicitDefEqProofs only [evr, ty, rPick, rIbin, rBin, wideB, eqB, strB, rUn, rConv, rFieldAddr, rIndexAddr, rLoad, rField, rLen, rCap, rMax, rMin, rSlice, isRow, WCut, WZer, rBuild, toB, asRead, asAny, bound, flatOk, flat, lay, fillS, placesOf, id, ne_eq, reduceCtorEq, if_true, if_false, reduceIte, forall_const, decide_true, decide_eq_true_eq, decide_eq_false_iff_not, Nat.reduceMul, Nat.reduceAdd, Nat.reduceLT, Nat.reduceLeDiff, Nat.reduceEqDiff, Int.reduceLT, thenK, blockK, retK, resHolds, resVR, VR.holds, ro, roArg, roPtr, roArgS, roSl, beq_self_eq_true, eq_self, implies_true, Int.reduceBEq, Int.reduceBNe, frz, frzOne, bne_self_eq_false, rNilCheck, rIndex, retM, retMK, argM, Smp.cs, Smp.sv, slS, ptr, Bool.not_true, Bool.not_false])
  refine wcall_make (rollC (slB a cap z) hb) ?_
  intro cb
  simp -implicitDefEqProofs only [evr, ty, rPick, rIbin, rBin, wideB, eqB, strB, rUn, rConv, rFieldAddr, rIndexAddr, rLoad, rField, rLen, rCap, rMax, rMin, rSlice, isRow, WCut, WZer, rBuild, toB, asRead, asAny, bound, flatOk, flat, lay, fillS, placesOf, id, ne_eq, reduceCtorEq, if_true, if_false, reduceIte, forall_const, decide_true, decide_eq_true_eq, decide_eq_false_iff_not, Nat.reduceMul, Nat.reduceAdd, Nat.reduceLT, Nat.reduceLeDiff, Nat.reduceEqDiff, Int.reduceLT, thenK, blockK, retK, resHolds, resVR, VR.holds, ro, roArg, roPtr, roArgS, roSl, beq_self_eq_true, eq_self, implies_true, Int.reduceBEq, Int.reduceBNe, frz, frzOne, bne_self_eq_false, rNilCheck, rIndex, retM, retMK, argM, Smp.cs, Smp.sv, slS, ptr, Bool.not_true, Bool.not_false]
  (refine hk _ ?_; clear hk k; try show Sat _ _ _ _ _)
  refine Sat.switch (cb := cb) (id := 0) (F' := Frm.codes cb) (fun b => Iff.rfl) rfl ?_
  (repeat refine Sat.seq ?_)
  (refine Sat.region_k fun k hk => ?_; simp -implicitDefEqProofs only [evr, ty, rPick, rIbin, rBin, wideB, eqB, strB, rUn, rConv, rFieldAddr, rIndexAddr, rLoad, rField, rLen, rCap, rMax, rMin, rSlice, isRow, WCut, WZer, rBuild, toB, asRead, asAny, bound, flatOk, flat, lay, fillS, placesOf, id, ne_eq, reduceCtorEq, if_true, if_false, reduceIte, forall_const, decide_true, decide_eq_true_eq, decide_eq_false_iff_not, Nat.reduceMul, Nat.reduceAdd, Nat.reduceLT, Nat.reduceLeDiff, Nat.reduceEqDiff, Int.reduceLT, thenK, blockK, retK, resHolds, resVR, VR.holds, ro, roArg, roPtr, roArgS, roSl, beq_self_eq_true, eq_self, implies_true, Int.reduceBEq, Int.reduceBNe, frz, frzOne, bne_self_eq_false, rNilCheck, rIndex, retM, retMK, argM, Smp.cs, Smp.sv, slS, ptr, Bool.not_true, Bool.not_false])
  refine wcall_slice (samplesC cb 14 (by decide)) rfl rfl ?_
  rintro r ⟨sa, sc, l, rfl, hll, hv⟩
  simp -implicitDefEqProofs only [evr, ty, rPick, rIbin, rBin, wideB, eqB, strB, rUn, rConv, rFieldAddr, rIndexAddr, rLoad, rField, rLen, rCap, rMax, rMin, rSlice, isRow, WCut, WZer, rBuild, toB, asRead, asAny, bound, flatOk, flat, lay, fillS, placesOf, id, ne_eq, reduceCtorEq, if_true, if_false, reduceIte, forall_const, decide_true, decide_eq_true_eq, decide_eq_false_iff_not, Nat.reduceMul, Nat.reduceAdd, Nat.reduceLT, Nat.reduceLeDiff, Nat.reduceEqDiff, Int.reduceLT, thenK, blockK, retK, resHolds, resVR, VR.holds, ro, roArg, roPtr, roArgS, roSl, beq_self_eq_true, eq_self, implies_true, Int.reduceBEq, Int.reduceBNe, frz, frzOne, bne_self_eq_false, rNilCheck, rIndex, retM, retMK, argM, Smp.cs, Smp.sv, slS, ptr, Bool.not_true, Bool.not_false]
  (refine hk _ ?_; clear hk k; try show Sat _ _ _ _ _)
  have hl : l.length ≤ 1000000 := by omega
  refine Sat.le (st' := ⟨90, [(3, ptr cb), (4, slS sa sc l)], []⟩) ?_ (by simp -implicitDefEqProofs only [evr, ty, rPick, rIbin, rBin, wideB, eqB, strB, rUn, rConv, rFieldAddr, rIndexAddr, rLoad, rField, rLen, rCap, rMax, rMin, rSlice, isRow, WCut, WZer, rBuild, toB, asRead, asAny, bound, flatOk, flat, lay, fillS, placesOf, id, ne_eq, reduceCtorEq, if_true, if_false, reduceIte, forall_const, decide_true, decide_eq_true_eq, decide_eq_false_iff_not, Nat.reduceMul, Nat.reduceAdd, Nat.reduceLT, Nat.reduceLeDiff, Nat.reduceEqDiff, Int.reduceLT, thenK, blockK, retK, resHolds, resVR, VR.holds, ro, roArg, roPtr, roArgS, roSl, beq_self_eq_true, eq_self, implies_true, Int.reduceBEq, Int.reduceBNe, frz, frzOne, bne_self_eq_false, rNilCheck, rIndex, retM, retMK, argM, Smp.cs, Smp.sv, slS, ptr, Bool.not_true, Bool.not_false, Le, envLe, ownLe, Own.le, Option.some.injEq, eq_self, true_or, false_or, or_false, exists_eq_left', exists_eq_left, exists_eq, exists_eq', SV.i.injEq, SV.b.injEq, rdEq_same, exists_false, and_false, false_and])
  simp only [slS]
  (repeat refine Sat.seq ?_)
  (refine Sat.region_k fun k hk => ?_; simp -implicitDefEqProofs only [evr, ty, rPick, rIbin, rBin, wideB, eqB, strB, rUn, rConv, rFieldAddr, rIndexAddr, rLoad, rField, rLen, rCap, rMax, rMin, rSlice, isRow, WCut, WZer, rBuild, toB, asRead, asAny, bound, flatOk, flat, lay, fillS, placesOf, id, ne_eq, reduceCtorEq, if_true, if_false, reduceIte, forall_const, decide_true, decide_eq_true_eq, decide_eq_false_iff_not, Nat.reduceMul, Nat.reduceAdd, Nat.reduceLT, Nat.reduceLeDiff, Nat.reduceEqDiff, Int.reduceLT, thenK, blockK, retK, resHolds, resVR, VR.holds, ro, roArg, roPtr, roArgS, roSl, beq_self_eq_true, eq_self, implies_true, Int.reduceBEq, Int.reduceBNe, frz, frzOne, bne_self_eq_false, rNilCheck, rIndex, retM, retMK, argM, Smp.cs, Smp.sv, slS, ptr, Bool.not_true, Bool.not_false]; refine hk _ ?_; clear hk k; try show Sat _ _ _ _ _)
  (repeat refine Sat.seq ?_)
  (refine Sat.region_k fun k hk => ?_; simp -implicitDefEqProofs only [evr, ty, rPick, rIbin, rBin, wideB, eqB, strB, rUn, rConv, rFieldAddr, rIndexAddr, rLoad, rField, rLen, rCap, rMax, rMin, rSlice, isRow, WCut, WZer, rBuild, toB, asRead, asAny, bound, flatOk, flat, lay, fillS, placesOf, id, ne_eq, reduceCtorEq, if_true, if_false, reduceIte, forall_const, decide_true, decide_eq_true_eq, decide_eq_false_iff_not, Nat.reduceMul, Nat.reduceAdd, Nat.reduceLT, Nat.reduceLeDiff, Nat.reduceEqDiff, Int.reduceLT, thenK, blockK, retK, resHolds, resVR, VR.holds, ro, roArg, roPtr, roArgS, roSl, beq_self_eq_true, eq_self, implies_true, Int.reduceBEq, Int.reduceBNe, frz, frzOne, bne_self_eq_false, rNilCheck, rIndex, retM, retMK, argM, Smp.cs, Smp.sv, slS, ptr, Bool.not_true, Bool.not_false]; refine hk _ ?_; clear hk k; try show Sat _ _ _ _ _)
  refine Sat.block ?_
  refine Sat.adopt 5 39 4 (rdS3 []) rfl ?_
  refine Sat.adopt 6 39 4 (rdS3 []) rfl ?_
  refine Sat.loop (ι := Nat × (List Smp × Option Addr × Nat) × List Smp × Option Addr × Nat) (fun x => ⟨90, [(22, .i .i64 x.1), (21, .i .i64 l.length), (20, slS sa sc l), (3, ptr cb), (4, slS sa sc l), (5, .os 0 x.2.1.2.1 x.2.1.1.length x.2.1.2.2), (6, .os 1 x.2.2.2.1 x.2.2.1.length x.2.2.2.2)],
      [.row x.2.1.2.1 39 x.2.1.1.length x.2.1.2.2 4 (rdS3 x.2.1.1), .row x.2.2.2.1 39 x.2.2.1.length x.2.2.2.2 4 (rdS3 x.2.2.1)]⟩)
    (fun x => x.1 ≤ l.length ∧ (x.2.1.1 ++ x.2.2.1).Perm (l.take x.1)) (fun x => l.length - x.1) (0, ([], none, 0), [], none, 0) ⟨Nat.zero_le _, by simp⟩ (by simp -implicitDefEqProofs only [evr, ty, rPick, rIbin, rBin, wideB, eqB, strB, rUn, rConv, rFieldAddr, rIndexAddr, rLoad, rField, rLen, rCap, rMax, rMin, rSlice, isRow, WCut, WZer, rBuild, toB, asRead, asAny, bound, flatOk, flat, lay, fillS, placesOf, id, ne_eq, reduceCtorEq, if_true, if_false, reduceIte, forall_const, decide_true, decide_eq_true_eq, decide_eq_false_iff_not, Nat.reduceMul, Nat.reduceAdd, Nat.reduceLT, Nat.reduceLeDiff, Nat.reduceEqDiff, Int.reduceLT, thenK, blockK, retK, resHolds, resVR, VR.holds, ro, roArg, roPtr, roArgS, roSl, beq_self_eq_true, eq_self, implies_true, Int.reduceBEq, Int.reduceBNe, frz, frzOne, bne_self_eq_false, rNilCheck, rIndex, retM, retMK, argM, Smp.cs, Smp.sv, slS, ptr, Bool.not_true, Bool.not_false, Le, envLe, ownLe, Own.le, Option.some.injEq, eq_self, true_or, false_or, or_false, exists_eq_left', exists_eq_left, exists_eq, exists_eq', SV.i.injEq, SV.b.injEq, rdEq_same, exists_false, and_false, false_and]; try rfl) ?_
  rintro ⟨i, ⟨A, aa, ac⟩, B, ba, bc⟩ ⟨hi, hp⟩
  simp only [slS, ptr] at hi hp ⊢
  (repeat refine Sat.seq ?_)
  (refine Sat.region_k fun k hk => ?_; simp -implicitDefEqProofs only [evr, ty, rPick, rIbin, rBin, wideB, eqB, strB, rUn, rConv, rFieldAddr, rIndexAddr, rLoad, rField, rLen, rCap, rMax, rMin, rSlice, isRow, WCut, WZer, rBuild, toB, asRead, asAny, bound, flatOk, flat, lay, fillS, placesOf, id, ne_eq, reduceCtorEq, if_true, if_false, reduceIte, forall_const, decide_true, decide_eq_true_eq, decide_eq_false_iff_not, Nat.reduceMul, Nat.reduceAdd, Nat.reduceLT, Nat.reduceLeDiff, Nat.reduceEqDiff, Int.reduceLT, thenK, blockK, retK, resHolds, resVR, VR.holds, ro, roArg, roPtr, roArgS, roSl, beq_self_eq_true, eq_self, implies_true, Int.reduceBEq, Int.reduceBNe, frz, frzOne, bne_self_eq_false, rNilCheck, rIndex, retM, retMK, argM, Smp.cs, Smp.sv, slS, ptr, Bool.not_true, Bool.not_false]; refine hk _ ?_; clear hk k; try show Sat _ _ _ _ _)
  (repeat refine Sat.seq ?_)
  have hpl := hp.length_eq
  simp only [List.length_append, List.length_take] at hpl
  refine Sat.cond_b rfl (fun h => ?_) (fun h => ?_)
  · simp only [decide_eq_true_eq] at h
    have ew2 : IntKind.i64.wrap ((i : Int) + 1) = ((i + 1 : Nat) : Int) := by rw [w64 (by omega)]; omega
    refine Sat.skip ?_
    simp only [thenK]
    (repeat refine Sat.seq ?_)
    refine Sat.block ?_
    (repeat refine Sat.seq ?_)
    (refine Sat.region_k fun k hk => ?_; simp -implicitDefEqProofs only [evr, ty, rPick, rIbin, rBin, wideB, eqB, strB, rUn, rConv, rFieldAddr, rIndexAddr, rLoad, rField, rLen, rCap, rMax, rMin, rSlice, isRow, WCut, WZer, rBuild, toB, asRead, asAny, bound, flatOk, flat, lay, fillS, placesOf, id, ne_eq, reduceCtorEq, if_true, if_false, reduceIte, forall_const, decide_true, decide_eq_true_eq, decide_eq_false_iff_not, Nat.reduceMul, Nat.reduceAdd, Nat.reduceLT, Nat.reduceLeDiff, Nat.reduceEqDiff, Int.reduceLT, thenK, blockK, retK, resHolds, resVR, VR.holds, ro, roArg, roPtr, roArgS, roSl, beq_self_eq_true, eq_self, implies_true, Int.reduceBEq, Int.reduceBNe, frz, frzOne, bne_self_eq_false, rNilCheck, rIndex, retM, retMK, argM, Smp.cs, Smp.sv, slS, ptr, Bool.not_true, Bool.not_false])
    refine ⟨by omega, fun blk => ?_⟩
    (refine hk _ ?_; clear hk k; try show Sat _ _ _ _ _)
    (repeat refine Sat.seq ?_)
    (refine Sat.region_k fun k hk => ?_; simp -implicitDefEqProofs only [evr, ty, rPick, rIbin, rBin, wideB, eqB, strB, rUn, rConv, rFieldAddr, rIndexAddr, rLoad, rField, rLen, rCap, rMax, rMin, rSlice, isRow, WCut, WZer, rBuild, toB, asRead, asAny, bound, flatOk, flat, lay, fillS, placesOf, id, ne_eq, reduceCtorEq, if_true, if_false, reduceIte, forall_const, decide_true, decide_eq_true_eq, decide_eq_false_iff_not, Nat.reduceMul, Nat.reduceAdd, Nat.reduceLT, Nat.reduceLeDiff, Nat.reduceEqDiff, Int.reduceLT, thenK, blockK, retK, resHolds, resVR, VR.holds, ro, roArg, roPtr, roArgS, roSl, beq_self_eq_true, eq_self, implies_true, Int.reduceBEq, Int.reduceBNe, frz, frzOne, bne_self_eq_false, rNilCheck, rIndex, retM, retMK, argM, Smp.cs, Smp.sv, slS, ptr, Bool.not_true, Bool.not_false])
    refine wcall_plain (boolC cb 2 (by omega) (by omega)) rfl plain_bool ?_
    rintro r ⟨bb, rfl⟩
    simp -implicitDefEqProofs only [evr, ty, rPick, rIbin, rBin, wideB, eqB, strB, rUn, rConv, rFieldAddr, rIndexAddr, rLoad, rField, rLen, rCap, rMax, rMin, rSlice, isRow, WCut, WZer, rBuild, toB, asRead, asAny, bound, flatOk, flat, lay, fillS, placesOf, id, ne_eq, reduceCtorEq, if_true, if_false, reduceIte, forall_const, decide_true, decide_eq_true_eq, decide_eq_false_iff_not, Nat.reduceMul, Nat.reduceAdd, Nat.reduceLT, Nat.reduceLeDiff, Nat.reduceEqDiff, Int.reduceLT, thenK, blockK, retK, resHolds, resVR, VR.holds, ro, roArg, roPtr, roArgS, roSl, beq_self_eq_true, eq_self, implies_true, Int.reduceBEq, Int.reduceBNe, frz, frzOne, bne_self_eq_false, rNilCheck, rIndex, retM, retMK, argM, Smp.cs, Smp.sv, slS, ptr, Bool.not_true, Bool.not_false]
    (refine hk _ ?_; clear hk k; try show Sat _ _ _ _ _)
    refine Sat.atF (ι := (List Smp × Option Addr × Nat) × List Smp × Option Addr × Nat) (fun x => ⟨90, [(22, .i .i64 i), (21, .i .i64 l.length), (20, slS sa sc l), (3, ptr cb), (4, slS sa sc l), (5, .os 0 x.1.2.1 x.1.1.length x.1.2.2), (6, .os 1 x.2.2.1 x.2.1.length x.2.2.2)],
      [.row x.1.2.1 39 x.1.1.length x.1.2.2 4 (rdS3 x.1.1), .row x.2.2.1 39 x.2.1.length x.2.2.2 4 (rdS3 x.2.1)]⟩)
      (fun x => (x.1.1 ++ x.2.1).Perm (l.take (i + 1))) ?_ ?_
    · refine Sat.cond_b rfl (fun h2 => ?_) (fun h2 => ?_)
      · (refine Sat.region_k fun k hk => ?_; simp -implicitDefEqProofs only [evr, ty, rPick, rIbin, rBin, wideB, eqB, strB, rUn, rConv, rFieldAddr, rIndexAddr, rLoad, rField, rLen, rCap, rMax, rMin, rSlice, isRow, WCut, WZer, rBuild, toB, asRead, asAny, bound, flatOk, flat, lay, fillS, placesOf, id, ne_eq, reduceCtorEq, if_true, if_false, reduceIte, forall_const, decide_true, decide_eq_true_eq, decide_eq_false_iff_not, Nat.reduceMul, Nat.reduceAdd, Nat.reduceLT, Nat.reduceLeDiff, Nat.reduceEqDiff, Int.reduceLT, thenK, blockK, retK, resHolds, resVR, VR.holds, ro, roArg, roPtr, roArgS, roSl, beq_self_eq_true, eq_self, implies_true, Int.reduceBEq, Int.reduceBNe, frz, frzOne, bne_self_eq_false, rNilCheck, rIndex, retM, retMK, argM, Smp.cs, Smp.sv, slS, ptr, Bool.not_true, Bool.not_false])
        intro blk2
        refine ⟨⟨by unfold maxLen; omega, by omega⟩, fun a2 c2 => ?_⟩
        refine hk _ ?_
        simp only [thenK]
        refine ⟨((A ++ [l.getD i default], a2, c2), B, ba, bc), perm_a (by omega) hp, ?_⟩
        simp only [List.length_append, List.length_cons, List.length_nil]
        simp -implicitDefEqProofs only [evr, ty, rPick, rIbin, rBin, wideB, eqB, strB, rUn, rConv, rFieldAddr, rIndexAddr, rLoad, rField, rLen, rCap, rMax, rMin, rSlice, isRow, WCut, WZer, rBuild, toB, asRead, asAny, bound, flatOk, flat, lay, fillS, placesOf, id, ne_eq, reduceCtorEq, if_true, if_false, reduceIte, forall_const, decide_true, decide_eq_true_eq, decide_eq_false_iff_not, Nat.reduceMul, Nat.reduceAdd, Nat.reduceLT, Nat.reduceLeDiff, Nat.reduceEqDiff, Int.reduceLT, thenK, blockK, retK, resHolds, resVR, VR.holds, ro, roArg, roPtr, roArgS, roSl, beq_self_eq_true, eq_self, implies_true, Int.reduceBEq, Int.reduceBNe, frz, frzOne, bne_self_eq_false, rNilCheck, rIndex, retM, retMK, argM, Smp.cs, Smp.sv, slS, ptr, Bool.not_true, Bool.not_false, Le, envLe, ownLe, Own.le, Option.some.injEq, eq_self, true_or, false_or, or_false, exists_eq_left', exists_eq_left, exists_eq, exists_eq', SV.i.injEq, SV.b.injEq, rdEq_same, exists_false, and_false, false_and]
        exact cat_one A (l.getD i default)
      · (refine Sat.region_k fun k hk => ?_; simp -implicitDefEqProofs only [evr, ty, rPick, rIbin, rBin, wideB, eqB, strB, rUn, rConv, rFieldAddr, rIndexAddr, rLoad, rField, rLen, rCap, rMax, rMin, rSlice, isRow, WCut, WZer, rBuild, toB, asRead, asAny, bound, flatOk, flat, lay, fillS, placesOf, id, ne_eq, reduceCtorEq, if_true, if_false, reduceIte, forall_const, decide_true, decide_eq_true_eq, decide_eq_false_iff_not, Nat.reduceMul, Nat.reduceAdd, Nat.reduceLT, Nat.reduceLeDiff, Nat.reduceEqDiff, Int.reduceLT, thenK, blockK, retK, resHolds, resVR, VR.holds, ro, roArg, roPtr, roArgS, roSl, beq_self_eq_true, eq_self, implies_true, Int.reduceBEq, Int.reduceBNe, frz, frzOne, bne_self_eq_false, rNilCheck, rIndex, retM, retMK, argM, Smp.cs, Smp.sv, slS, ptr, Bool.not_true, Bool.not_false])
        intro blk2
        refine ⟨⟨by unfold maxLen; omega, by omega⟩, fun a2 c2 => ?_⟩
        refine hk _ ?_
        simp only [thenK]
        refine ⟨((A, aa, ac), B ++ [l.getD i default], a2, c2), perm_b (by omega) hp, ?_⟩
        simp only [List.length_append, List.length_cons, List.length_nil]
        simp -implicitDefEqProofs only [evr, ty, rPick, rIbin, rBin, wideB, eqB, strB, rUn, rConv, rFieldAddr, rIndexAddr, rLoad, rField, rLen, rCap, rMax, rMin, rSlice, isRow, WCut, WZer, rBuild, toB, asRead, asAny, bound, flatOk, flat, lay, fillS, placesOf, id, ne_eq, reduceCtorEq, if_true, if_false, reduceIte, forall_const, decide_true, decide_eq_true_eq, decide_eq_false_iff_not, Nat.reduceMul, Nat.reduceAdd, Nat.reduceLT, Nat.reduceLeDiff, Nat.reduceEqDiff, Int.reduceLT, thenK, blockK, retK, resHolds, resVR, VR.holds, ro, roArg, roPtr, roArgS, roSl, beq_self_eq_true, eq_self, implies_true, Int.reduceBEq, Int.reduceBNe, frz, frzOne, bne_self_eq_false, rNilCheck, rIndex, retM, retMK, argM, Smp.cs, Smp.sv, slS, ptr, Bool.not_true, Bool.not_false, Le, envLe, ownLe, Own.le, Option.some.injEq, eq_self, true_or, false_or, or_false, exists_eq_left', exists_eq_left, exists_eq, exists_eq', SV.i.injEq, SV.b.injEq, rdEq_same, exists_false, and_false, false_and]
        exact cat_one B (l.getD i default)
    · rintro ⟨⟨A', aa', ac'⟩, B', ba', bc'⟩ hp'
      simp only [slS, ptr] at hp' ⊢
      simp only [thenK, blockK]
      refine Sat.region_k fun k hk => ?_
      simp -implicitDefEqProofs only [evr, ty, rPick, rIbin, rBin, wideB, eqB, strB, rUn, rConv, rFieldAddr, rIndexAddr, rLoad, rField, rLen, rCap, rMax, rMin, rSlice, isRow, WCut, WZer, rBuild, toB, asRead, asAny, bound, flatOk, flat, lay, fillS, placesOf, id, ne_eq, reduceCtorEq, if_true, if_false, reduceIte, forall_const, decide_true, decide_eq_true_eq, decide_eq_false_iff_not, Nat.reduceMul, Nat.reduceAdd, Nat.reduceLT, Nat.reduceLeDiff, Nat.reduceEqDiff, Int.reduceLT, thenK, blockK, retK, resHolds, resVR, VR.holds, ro, roArg, roPtr, roArgS, roSl, beq_self_eq_true, eq_self, implies_true, Int.reduceBEq, Int.reduceBNe, frz, frzOne, bne_self_eq_false, rNilCheck, rIndex, retM, retMK, argM, Smp.cs, Smp.sv, slS, ptr, Bool.not_true, Bool.not_false, ew2]
      refine hk _ ?_
      simp only [thenK, blockK]
      refine ⟨(i + 1, (A', aa', ac'), B', ba', bc'), ⟨by show i + 1 ≤ _; omega, hp'⟩, by show _ - (i + 1) < _ - i; omega, ?_⟩
      simp -implicitDefEqProofs only [evr, ty, rPick, rIbin, rBin, wideB, eqB, strB, rUn, rConv, rFieldAddr, rIndexAddr, rLoad, rField, rLen, rCap, rMax, rMin, rSlice, isRow, WCut, WZer, rBuild, toB, asRead, asAny, bound, flatOk, flat, lay, fillS, placesOf, id, ne_eq, reduceCtorEq, if_true, if_false, reduceIte, forall_const, decide_true, decide_eq_true_eq, decide_eq_false_iff_not, Nat.reduceMul, Nat.reduceAdd, Nat.reduceLT, Nat.reduceLeDiff, Nat.reduceEqDiff, Int.reduceLT, thenK, blockK, retK, resHolds, resVR, VR.holds, ro, roArg, roPtr, roArgS, roSl, beq_self_eq_true, eq_self, implies_true, Int.reduceBEq, Int.reduceBNe, frz, frzOne, bne_self_eq_false, rNilCheck, rIndex, retM, retMK, argM, Smp.cs, Smp.sv, slS, ptr, Bool.not_true, Bool.not_false, Le, envLe, ownLe, Own.le, Option.some.injEq, eq_self, true_or, false_or, or_false, exists_eq_left', exists_eq_left, exists_eq, exists_eq', SV.i.injEq, SV.b.injEq, rdEq_same, exists_false, and_false, false_and]
      try exact ⟨rdEq_refl _ _ _, rdEq_refl _ _ _⟩
  · have hil : i = l.length := by simp only [decide_eq_false_iff_not] at h; omega
    subst hil
    rw [List.take_length] at hp
    refine Sat.exit ?_
    simp only [thenK, blockK, reduceIte]
    refine Sat.settle2 5 rfl rfl ?_
    refine Sat.settle2 6 rfl rfl ?_
    refine Sat.le (st' := ⟨90, [(3, ptr cb), (4, slS sa sc l), (5, slS aa ac A), (6, slS ba bc B)], []⟩) ?_ (by simp only [slS, rdS3]; simp -implicitDefEqProofs only [evr, ty, rPick, rIbin, rBin, wideB, eqB, strB, rUn, rConv, rFieldAddr, rIndexAddr, rLoad, rField, rLen, rCap, rMax, rMin, rSlice, isRow, WCut, WZer, rBuild, toB, asRead, asAny, bound, flatOk, flat, lay, fillS, placesOf, id, ne_eq, reduceCtorEq, if_true, if_false, reduceIte, forall_const, decide_true, decide_eq_true_eq, decide_eq_false_iff_not, Nat.reduceMul, Nat.reduceAdd, Nat.reduceLT, Nat.reduceLeDiff, Nat.reduceEqDiff, Int.reduceLT, thenK, blockK, retK, resHolds, resVR, VR.holds, ro, roArg, roPtr, roArgS, roSl, beq_self_eq_true, eq_self, implies_true, Int.reduceBEq, Int.reduceBNe, frz, frzOne, bne_self_eq_false, rNilCheck, rIndex, retM, retMK, argM, Smp.cs, Smp.sv, slS, ptr, Bool.not_true, Bool.not_false, Le, envLe, ownLe, Own.le, Option.some.injEq, eq_self, true_or, false_or, or_false, exists_eq_left', exists_eq_left, exists_eq, exists_eq', SV.i.injEq, SV.b.injEq, rdEq_same, exists_false, and_false, false_and]; try exact ⟨rfl, rfl⟩)
    have hp2 : (B ++ A).Perm l := List.Perm.trans List.perm_append_comm hp
    simp only [slS]
    (repeat refine Sat.seq ?_)
    (refine Sat.region_k fun k hk => ?_; simp -implicitDefEqProofs only [evr, ty, rPick, rIbin, rBin, wideB, eqB, strB, rUn, rConv, rFieldAddr, rIndexAddr, rLoad, rField, rLen, rCap, rMax, rMin, rSlice, isRow, WCut, WZer, rBuild, toB, asRead, asAny, bound, flatOk, flat, lay, fillS, placesOf, id, ne_eq, reduceCtorEq, if_true, if_false, reduceIte, forall_const, decide_true, decide_eq_true_eq, decide_eq_false_iff_not, Nat.reduceMul, Nat.reduceAdd, Nat.reduceLT, Nat.reduceLeDiff, Nat.reduceEqDiff, Int.reduceLT, thenK, blockK, retK, resHolds, resVR, VR.holds, ro, roArg, roPtr, roArgS, roSl, beq_self_eq_true, eq_self, implies_true, Int.reduceBEq, Int.reduceBNe, frz, frzOne, bne_self_eq_false, rNilCheck, rIndex, retM, retMK, argM, Smp.cs, Smp.sv, slS, ptr, Bool.not_true, Bool.not_false])
    refine wcall_slice (mergeC2 (Frm.codes cb) aa ba ac bc (by omega) hv hp) rfl rfl ?_
    rintro r ⟨pa, pc, rfl⟩
    simp -implicitDefEqProofs only [evr, ty, rPick, rIbin, rBin, wideB, eqB, strB, rUn, rConv, rFieldAddr, rIndexAddr, rLoad, rField, rLen, rCap, rMax, rMin, rSlice, isRow, WCut, WZer, rBuild, toB, asRead, asAny, bound, flatOk, flat, lay, fillS, placesOf, id, ne_eq, reduceCtorEq, if_true, if_false, reduceIte, forall_const, decide_true, decide_eq_true_eq, decide_eq_false_iff_not, Nat.reduceMul, Nat.reduceAdd, Nat.reduceLT, Nat.reduceLeDiff, Nat.reduceEqDiff, Int.reduceLT, thenK, blockK, retK, resHolds, resVR, VR.holds, ro, roArg, roPtr, roArgS, roSl, beq_self_eq_true, eq_self, implies_true, Int.reduceBEq, Int.reduceBNe, frz, frzOne, bne_self_eq_false, rNilCheck, rIndex, retM, retMK, argM, Smp.cs, Smp.sv, slS, ptr, Bool.not_true, Bool.not_false]
    (refine hk _ ?_; clear hk k; try show Sat _ _ _ _ _)
    (repeat refine Sat.seq ?_)
    (refine Sat.region_k fun k hk => ?_; simp -implicitDefEqProofs only [evr, ty, rPick, rIbin, rBin, wideB, eqB, strB, rUn, rConv, rFieldAddr, rIndexAddr, rLoad, rField, rLen, rCap, rMax, rMin, rSlice, isRow, WCut, WZer, rBuild, toB, asRead, asAny, bound, flatOk, flat, lay, fillS, placesOf, id, ne_eq, reduceCtorEq, if_true, if_false, reduceIte, forall_const, decide_true, decide_eq_true_eq, decide_eq_false_iff_not, Nat.reduceMul, Nat.reduceAdd, Nat.reduceLT, Nat.reduceLeDiff, Nat.reduceEqDiff, Int.reduceLT, thenK, blockK, retK, resHolds, resVR, VR.holds, ro, roArg, roPtr, roArgS, roSl, beq_self_eq_true, eq_self, implies_true, Int.reduceBEq, Int.reduceBNe, frz, frzOne, bne_self_eq_false, rNilCheck, rIndex, retM, retMK, argM, Smp.cs, Smp.sv, slS, ptr, Bool.not_true, Bool.not_false])
    refine wcall_slice (mergeC2 (Frm.codes cb) ba aa bc ac (by omega) hv hp2) rfl rfl ?_
    rintro r ⟨qa, qc, rfl⟩
    simp -implicitDefEqProofs only [evr, ty, rPick, rIbin, rBin, wideB, eqB, strB, rUn, rConv, rFieldAddr, rIndexAddr, rLoad, rField, rLen, rCap, rMax, rMin, rSlice, isRow, WCut, WZer, rBuild, toB, asRead, asAny, bound, flatOk, flat, lay, fillS, placesOf, id, ne_eq, reduceCtorEq, if_true, if_false, reduceIte, forall_const, decide_true, decide_eq_true_eq, decide_eq_false_iff_not, Nat.reduceMul, Nat.reduceAdd, Nat.reduceLT, Nat.reduceLeDiff, Nat.reduceEqDiff, Int.reduceLT, thenK, blockK, retK, resHolds, resVR, VR.holds, ro, roArg, roPtr, roArgS, roSl, beq_self_eq_true, eq_self, implies_true, Int.reduceBEq, Int.reduceBNe, frz, frzOne, bne_self_eq_false, rNilCheck, rIndex, retM, retMK, argM, Smp.cs, Smp.sv, slS, ptr, Bool.not_true, Bool.not_false]
    (refine hk _ ?_; clear hk k; try show Sat _ _ _ _ _)
    (repeat refine Sat.seq ?_)
    (refine Sat.region_k fun k hk => ?_; simp -implicitDefEqProofs only [evr, ty, rPick, rIbin, rBin, wideB, eqB, strB, rUn, rConv, rFieldAddr, rIndexAddr, rLoad, rField, rLen, rCap, rMax, rMin, rSlice, isRow, WCut, WZer, rBuild, toB, asRead, asAny, bound, flatOk, flat, lay, fillS, placesOf, id, ne_eq, reduceCtorEq, if_true, if_false, reduceIte, forall_const, decide_true, decide_eq_true_eq, decide_eq_false_iff_not, Nat.reduceMul, Nat.reduceAdd, Nat.reduceLT, Nat.reduceLeDiff, Nat.reduceEqDiff, Int.reduceLT, thenK, blockK, retK, resHolds, resVR, VR.holds, ro, roArg, roPtr, roArgS, roSl, beq_self_eq_true, eq_self, implies_true, Int.reduceBEq, Int.reduceBNe, frz, frzOne, bne_self_eq_false, rNilCheck, rIndex, retM, retMK, argM, Smp.cs, Smp.sv, slS, ptr, Bool.not_true, Bool.not_false])
    intro blk1
    refine wcall_plain (pickI cb blk1 [1000, 100000, 10000000] (fun _ => True) (by decide) (by decide) (by simp)) (by simp -implicitDefEqProofs only [evr, ty, rPick, rIbin, rBin, wideB, eqB, strB, rUn, rConv, rFieldAddr, rIndexAddr, rLoad, rField, rLen, rCap, rMax, rMin, rSlice, isRow, WCut, WZer, rBuild, toB, asRead, asAny, bound, flatOk, flat, lay, fillS, placesOf, id, ne_eq, reduceCtorEq, if_true, if_false, reduceIte, forall_const, decide_true, decide_eq_true_eq, decide_eq_false_iff_not, Nat.reduceMul, Nat.reduceAdd, Nat.reduceLT, Nat.reduceLeDiff, Nat.reduceEqDiff, Int.reduceLT, thenK, blockK, retK, resHolds, resVR, VR.holds, ro, roArg, roPtr, roArgS, roSl, beq_self_eq_true, eq_self, implies_true, Int.reduceBEq, Int.reduceBNe, frz, frzOne, bne_self_eq_false, rNilCheck, rIndex, retM, retMK, argM, Smp.cs, Smp.sv, slS, ptr, Bool.not_true, Bool.not_false]) plain_pick ?_
    rintro r ⟨v, rfl, _⟩
    simp -implicitDefEqProofs only [evr, ty, rPick, rIbin, rBin, wideB, eqB, strB, rUn, rConv, rFieldAddr, rIndexAddr, rLoad, rField, rLen, rCap, rMax, rMin, rSlice, isRow, WCut, WZer, rBuild, toB, asRead, asAny, bound, flatOk, flat, lay, fillS, placesOf, id, ne_eq, reduceCtorEq, if_true, if_false, reduceIte, forall_const, decide_true, decide_eq_true_eq, decide_eq_false_iff_not, Nat.reduceMul, Nat.reduceAdd, Nat.reduceLT, Nat.reduceLeDiff, Nat.reduceEqDiff, Int.reduceLT, thenK, blockK, retK, resHolds, resVR, VR.holds, ro, roArg, roPtr, roArgS, roSl, beq_self_eq_true, eq_self, implies_true, Int.reduceBEq, Int.reduceBNe, frz, frzOne, bne_self_eq_false, rNilCheck, rIndex, retM, retMK, argM, Smp.cs, Smp.sv, slS, ptr, Bool.not_true, Bool.not_false]
    (refine hk _ ?_; clear hk k; try show Sat _ _ _ _ _)
    (repeat refine Sat.seq ?_)
    (refine Sat.region_k fun k hk => ?_; simp -implicitDefEqProofs only [evr, ty, rPick, rIbin, rBin, wideB, eqB, strB, rUn, rConv, rFieldAddr, rIndexAddr, rLoad, rField, rLen, rCap, rMax, rMin, rSlice, isRow, WCut, WZer, rBuild, toB, asRead, asAny, bound, flatOk, flat, lay, fillS, placesOf, id, ne_eq, reduceCtorEq, if_true, if_false, reduceIte, forall_const, decide_true, decide_eq_true_eq, decide_eq_false_iff_not, Nat.reduceMul, Nat.reduceAdd, Nat.reduceLT, Nat.reduceLeDiff, Nat.reduceEqDiff, Int.reduceLT, thenK, blockK, retK, resHolds, resVR, VR.holds, ro, roArg, roPtr, roArgS, roSl, beq_self_eq_true, eq_self, implies_true, Int.reduceBEq, Int.reduceBNe, frz, frzOne, bne_self_eq_false, rNilCheck, rIndex, retM, retMK, argM, Smp.cs, Smp.sv, slS, ptr, Bool.not_true, Bool.not_false])
    refine wcall_plain (rSameC (Frm.codes cb) pa sa pc sc l hl) rfl (by rintro _ rfl; exact ok_plain rfl) ?_
    rintro r rfl
    simp -implicitDefEqProofs only [evr, ty, rPick, rIbin, rBin, wideB, eqB, strB, rUn, rConv, rFieldAddr, rIndexAddr, rLoad, rField, rLen, rCap, rMax, rMin, rSlice, isRow, WCut, WZer, rBuild, toB, asRead, asAny, bound, flatOk, flat, lay, fillS, placesOf, id, ne_eq, reduceCtorEq, if_true, if_false, reduceIte, forall_const, decide_true, decide_eq_true_eq, decide_eq_false_iff_not, Nat.reduceMul, Nat.reduceAdd, Nat.reduceLT, Nat.reduceLeDiff, Nat.reduceEqDiff, Int.reduceLT, thenK, blockK, retK, resHolds, resVR, VR.holds, ro, roArg, roPtr, roArgS, roSl, beq_self_eq_true, eq_self, implies_true, Int.reduceBEq, Int.reduceBNe, frz, frzOne, bne_self_eq_false, rNilCheck, rIndex, retM, retMK, argM, Smp.cs, Smp.sv, slS, ptr, Bool.not_true, Bool.not_false]
    refine wcall_plain (rSameC (Frm.codes cb) qa sa qc sc l hl) rfl (by rintro _ rfl; exact ok_plain rfl) ?_
    rintro r rfl
    simp -implicitDefEqProofs only [evr, ty, rPick, rIbin, rBin, wideB, eqB, strB, rUn, rConv, rFieldAddr, rIndexAddr, rLoad, rField, rLen, rCap, rMax, rMin, rSlice, isRow, WCut, WZer, rBuild, toB, asRead, asAny, bound, flatOk, flat, lay, fillS, placesOf, id, ne_eq, reduceCtorEq, if_true, if_false, reduceIte, forall_const, decide_true, decide_eq_true_eq, decide_eq_false_iff_not, Nat.reduceMul, Nat.reduceAdd, Nat.reduceLT, Nat.reduceLeDiff, Nat.reduceEqDiff, Int.reduceLT, thenK, blockK, retK, resHolds, resVR, VR.holds, ro, roArg, roPtr, roArgS, roSl, beq_self_eq_true, eq_self, implies_true, Int.reduceBEq, Int.reduceBNe, frz, frzOne, bne_self_eq_false, rNilCheck, rIndex, retM, retMK, argM, Smp.cs, Smp.sv, slS, ptr, Bool.not_true, Bool.not_false]
    refine wcall_plain (fitsC (Frm.codes cb) sa sc l v hl) rfl (by rintro _ rfl; exact ok_plain rfl) ?_
    rintro r rfl
    simp -implicitDefEqProofs only [evr, ty, rPick, rIbin, rBin, wideB, eqB, strB, rUn, rConv, rFieldAddr, rIndexAddr, rLoad, rField, rLen, rCap, rMax, rMin, rSlice, isRow, WCut, WZer, rBuild, toB, asRead, asAny, bound, flatOk, flat, lay, fillS, placesOf, id, ne_eq, reduceCtorEq, if_true, if_false, reduceIte, forall_const, decide_true, decide_eq_true_eq, decide_eq_false_iff_not, Nat.reduceMul, Nat.reduceAdd, Nat.reduceLT, Nat.reduceLeDiff, Nat.reduceEqDiff, Int.reduceLT, thenK, blockK, retK, resHolds, resVR, VR.holds, ro, roArg, roPtr, roArgS, roSl, beq_self_eq_true, eq_self, implies_true, Int.reduceBEq, Int.reduceBNe, frz, frzOne, bne_self_eq_false, rNilCheck, rIndex, retM, retMK, argM, Smp.cs, Smp.sv, slS, ptr, Bool.not_true, Bool.not_false]
    refine ⟨fun hf => ?_, fun hf => ⟨fun h0 => ?_, fun h0 => ?_⟩⟩
    · (refine hk _ ?_; clear hk k; try show Sat _ _ _ _ _)
      refine Sat.ret ?_
      simp only [Try.results7, evr, ty, rPick, rIbin, rBin, wideB, eqB, strB, rUn, rConv, rFieldAddr, rIndexAddr, rLoad, rField, rLen, rCap, rMax, rMin, rSlice, isRow, WCut, WZer, rBuild, toB, asRead, asAny, bound, flatOk, flat, lay, fillS, placesOf, id, ne_eq, reduceCtorEq, if_true, if_false, reduceIte, forall_const, decide_true, decide_eq_true_eq, decide_eq_false_iff_not, Nat.reduceMul, Nat.reduceAdd, Nat.reduceLT, Nat.reduceLeDiff, Nat.reduceEqDiff, Int.reduceLT, thenK, blockK, retK, resHolds, resVR, VR.holds, ro, roArg, roPtr, roArgS, roSl, beq_self_eq_true, eq_self, implies_true, Int.reduceBEq, Int.reduceBNe, frz, frzOne, bne_self_eq_false, rNilCheck, rIndex, retM, retMK, argM, Smp.cs, Smp.sv, slS, ptr, Bool.not_true, Bool.not_false]
    · (refine hk _ ?_; clear hk k; try show Sat _ _ _ _ _)
      refine Sat.ret ?_
      simp only [Try.results7, evr, ty, rPick, rIbin, rBin, wideB, eqB, strB, rUn, rConv, rFieldAddr, rIndexAddr, rLoad, rField, rLen, rCap, rMax, rMin, rSlice, isRow, WCut, WZer, rBuild, toB, asRead, asAny, bound, flatOk, flat, lay, fillS, placesOf, id, ne_eq, reduceCtorEq, if_true, if_false, reduceIte, forall_const, decide_true, decide_eq_true_eq, decide_eq_false_iff_not, Nat.reduceMul, Nat.reduceAdd, Nat.reduceLT, Nat.reduceLeDiff, Nat.reduceEqDiff, Int.reduceLT, thenK, blockK, retK, resHolds, resVR, VR.holds, ro, roArg, roPtr, roArgS, roSl, beq_self_eq_true, eq_self, implies_true, Int.reduceBEq, Int.reduceBNe, frz, frzOne, bne_self_eq_false, rNilCheck, rIndex, retM, retMK, argM, Smp.cs, Smp.sv, slS, ptr, Bool.not_true, Bool.not_false]
      try (simp at h0; simp [h0])
    · have hf' : fitsAll l v = true := by simpa using hf
      have hl0 : 0 < l.length := by simp at h0; exact List.length_pos_iff.2 h0
      refine wcall_plain (nextC cb l.length (by omega) (by omega)) rfl (by rintro _ ⟨x, rfl, _, _⟩; exact ok_plain rfl) ?_
      rintro r ⟨x, rfl, hx0, hx1⟩
      obtain ⟨q, rfl⟩ := Int.eq_ofNat_of_zero_le hx0
      have ew : IntKind.i64.wrap (1 + (q : Int)) = ((q + 1 : Nat) : Int) := by rw [w64 (by omega)]; omega
      simp -implicitDefEqProofs only [evr, ty, rPick, rIbin, rBin, wideB, eqB, strB, rUn, rConv, rFieldAddr, rIndexAddr, rLoad, rField, rLen, rCap, rMax, rMin, rSlice, isRow, WCut, WZer, rBuild, toB, asRead, asAny, bound, flatOk, flat, lay, fillS, placesOf, id, ne_eq, reduceCtorEq, if_true, if_false, reduceIte, forall_const, decide_true, decide_eq_true_eq, decide_eq_false_iff_not, Nat.reduceMul, Nat.reduceAdd, Nat.reduceLT, Nat.reduceLeDiff, Nat.reduceEqDiff, Int.reduceLT, thenK, blockK, retK, resHolds, resVR, VR.holds, ro, roArg, roPtr, roArgS, roSl, beq_self_eq_true, eq_self, implies_true, Int.reduceBEq, Int.reduceBNe, frz, frzOne, bne_self_eq_false, rNilCheck, rIndex, retM, retMK, argM, Smp.cs, Smp.sv, slS, ptr, Bool.not_true, Bool.not_false, ew, Int.toNat_zero, Nat.sub_zero, Nat.zero_add]
      refine ⟨⟨by omega, by omega⟩, ?_⟩
      refine wcall_plain (fitsTakeC3 (Frm.codes cb) (if sc = 0 then sa else Option.map (fun x => x.add 0) sa) sc l v hl (q + 1) (by omega) (fun i j => (l.getD i default).cs.getD j default) (fun p q _ => rfl)) (by simp -implicitDefEqProofs only [evr, ty, rPick, rIbin, rBin, wideB, eqB, strB, rUn, rConv, rFieldAddr, rIndexAddr, rLoad, rField, rLen, rCap, rMax, rMin, rSlice, isRow, WCut, WZer, rBuild, toB, asRead, asAny, bound, flatOk, flat, lay, fillS, placesOf, id, ne_eq, reduceCtorEq, if_true, if_false, reduceIte, forall_const, decide_true, decide_eq_true_eq, decide_eq_false_iff_not, Nat.reduceMul, Nat.reduceAdd, Nat.reduceLT, Nat.reduceLeDiff, Nat.reduceEqDiff, Int.reduceLT, thenK, blockK, retK, resHolds, resVR, VR.holds, ro, roArg, roPtr, roArgS, roSl, beq_self_eq_true, eq_self, implies_true, Int.reduceBEq, Int.reduceBNe, frz, frzOne, bne_self_eq_false, rNilCheck, rIndex, retM, retMK, argM, Smp.cs, Smp.sv, slS, ptr, Bool.not_true, Bool.not_false]) (by rintro _ rfl; exact ok_plain rfl) ?_
      rintro r rfl
      simp -implicitDefEqProofs only [evr, ty, rPick, rIbin, rBin, wideB, eqB, strB, rUn, rConv, rFieldAddr, rIndexAddr, rLoad, rField, rLen, rCap, rMax, rMin, rSlice, isRow, WCut, WZer, rBuild, toB, asRead, asAny, bound, flatOk, flat, lay, fillS, placesOf, id, ne_eq, reduceCtorEq, if_true, if_false, reduceIte, forall_const, decide_true, decide_eq_true_eq, decide_eq_false_iff_not, Nat.reduceMul, Nat.reduceAdd, Nat.reduceLT, Nat.reduceLeDiff, Nat.reduceEqDiff, Int.reduceLT, thenK, blockK, retK, resHolds, resVR, VR.holds, ro, roArg, roPtr, roArgS, roSl, beq_self_eq_true, eq_self, implies_true, Int.reduceBEq, Int.reduceBNe, frz, frzOne, bne_self_eq_false, rNilCheck, rIndex, retM, retMK, argM, Smp.cs, Smp.sv, slS, ptr, Bool.not_true, Bool.not_false, fitsAll_take3 (q + 1) hf']
      (refine hk _ ?_; clear hk k; try show Sat _ _ _ _ _)
      refine Sat.ret ?_
      simp only [Try.results7, evr, ty, rPick, rIbin, rBin, wideB, eqB, strB, rUn, rConv, rFieldAddr, rIndexAddr, rLoad, rField, rLen, rCap, rMax, rMin, rSlice, isRow, WCut, WZer, rBuild, toB, asRead, asAny, bound, flatOk, flat, lay, fillS, placesOf, id, ne_eq, reduceCtorEq, if_true, if_false, reduceIte, forall_const, decide_true, decide_eq_true_eq, decide_eq_false_iff_not, Nat.reduceMul, Nat.reduceAdd, Nat.reduceLT, Nat.reduceLeDiff, Nat.reduceEqDiff, Int.reduceLT, thenK, blockK, retK, resHolds, resVR, VR.holds, ro, roArg, roPtr, roArgS, roSl, beq_self_eq_true, eq_self, implies_true, Int.reduceBEq, Int.reduceBNe, frz, frzOne, bne_self_eq_false, rNilCheck, rIndex, retM, retMK, argM, Smp.cs, Smp.sv, slS, ptr, Bool.not_true, Bool.not_false]

theorem merges_holds : Rows.SharingMergesSaid := sharingMerges.of_walk fun a0 z0 w ⟨h, hz⟩ => by
  obtain ⟨a, cap, rfl, hok⟩ := slB_of h
  exact walk_of (mergesC a cap z0 hz) (fun s hs => by rw [List.mem_singleton.1 hs]; exact hok)
end Go.Proofs.Ytchpegjadoodnaa
