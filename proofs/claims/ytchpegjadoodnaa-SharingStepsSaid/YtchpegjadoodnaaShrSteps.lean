/- SharingSteps: what the functions of package sharing return for any samples and speeds. -/
import Derived.Test.YtchpegjadoodnaaShrAwake
import Derived.Test.YtchpegjadoodnaaWalkE
import Derived.Test.YtchpegjadoodnaaEngO
import Derived.Test.YtchpegjadoodnaaRefSB
import Derived.OpenShut
set_option linter.unusedSimpArgs false
set_option linter.unusedVariables false
namespace Go.Proofs.Ytchpegjadoodnaa
open Eng Go.RowKit Go.WideShapes Go.ChangeShapes

def i64 (x : Int) : Prop := -9223372036854775808 ≤ x ∧ x ≤ 9223372036854775807
def IdOk (l : List Smp) : Prop := ∀ i, i < l.length → i64 (l.getD i default).id
theorem idOk_valid {l : List Smp} (hv : validL l = true) : IdOk l := fun i hi => by have := id_ok hv hi; exact this
theorem idOk_set {l : List Smp} (h : IdOk l) (k : Nat) (s : Smp) (hs : i64 s.id) : IdOk (l.set k s) := fun i hi => by
  rw [List.length_set] at hi
  by_cases e : i = k
  · subst e; simpa [List.getD, hi] using hs
  · have := h i hi
    simpa [List.getD, List.getElem?_set, show ¬ k = i from fun h => e h.symm] using this
def rdS (l : List Smp) : Nat → Nat → SV := fun i j => (l.getD i default).cs.getD j default
theorem rdS_one (l : List Smp) (i j : Nat) (h : j < 4) : oneS ((l.getD i default).cs.getD j default) = true := by
  rcases (show j = 0 ∨ j = 1 ∨ j = 2 ∨ j = 3 by omega) with rfl | rfl | rfl | rfl <;> rfl

theorem slB_bytes2 (a : Option Addr) (cap : Nat) (z : List Int) (hz : ∀ n ∈ z, (Lit.int .u8 n).wf = true) : isBytes (slB a cap z) :=
  ⟨a, z.length, cap, _, rfl, fun i hi => ⟨z.getD i 0, by have := bounds_u8 (hz _ (getD_mem (d := 0) hi)); omega, by have := bounds_u8 (hz _ (getD_mem (d := 0) hi)); omega, rfl⟩⟩

theorem rdS_set (l : List Smp) (q : Nat) (hq : q < l.length) (s : Smp) (p j : Nat) (hp : p < l.length) : rdS (l.set q s) p j = if p = q then s.cs.getD j default else rdS l p j := by
  unfold rdS
  by_cases e : p = q
  · subst e; simp [List.getD, hp]
  · simp [List.getD, List.getElem?_set, show ¬ q = p from fun h => e h.symm, e]
theorem rdS_id (l : List Smp) (q : Nat) (v : Int) (hq : q < l.length) : rdEq l.length 4 (rdSet (rdS l) q 2 [.i .i64 v]) (rdS (l.set q ⟨(l.getD q default).at_, (l.getD q default).back, v, (l.getD q default).addr⟩)) := by
  intro p j hp hj
  rw [rdS_set l q hq _ p j hp]
  unfold rdSet
  by_cases e : p = q
  · subst e
    rcases (show j = 0 ∨ j = 1 ∨ j = 2 ∨ j = 3 by omega) with rfl | rfl | rfl | rfl <;> simp [rdS, Smp.cs]
  · simp [e]

theorem rdS_back (l : List Smp) (q : Nat) (v : Int) (hq : q < l.length) : rdEq l.length 4 (rdSet (rdS l) q 1 [.i .i64 v]) (rdS (l.set q ⟨(l.getD q default).at_, v, (l.getD q default).id, (l.getD q default).addr⟩)) := by
  intro p j hp hj
  rw [rdS_set l q hq _ p j hp]
  unfold rdSet
  by_cases e : p = q
  · subst e
    rcases (show j = 0 ∨ j = 1 ∨ j = 2 ∨ j = 3 by omega) with rfl | rfl | rfl | rfl <;> simp [rdS, Smp.cs]
  · simp [e]
theorem rdS_whole (l : List Smp) (q : Nat) (hq : q < l.length) : rdEq l.length 4 (rdSet (rdS l) q 0 [rdS l 0 0, rdS l 0 1, rdS l 0 2, rdS l 0 3]) (rdS (l.set q (l.getD 0 default))) := by
  intro p j hp hj
  rw [rdS_set l q hq _ p j hp]
  unfold rdSet
  by_cases e : p = q
  · subst e
    rcases (show j = 0 ∨ j = 1 ∨ j = 2 ∨ j = 3 by omega) with rfl | rfl | rfl | rfl <;> simp [rdS, Smp.cs]
  · simp [e]

theorem tupL_inj2 {a b c d : SV} (h : tupL [a, b] = tupL [c, d]) : a = c ∧ b = d := by
  unfold tupL at h
  simp only [SV.tup.injEq] at h
  exact ⟨congrFun h.2 0, congrFun h.2 1⟩
theorem earl_form {l : List Smp} {s : Int} {r : SV} (hr : EarlPost l s r) : ∃ a n c sz rd k, r = tupL [.sl a n c sz rd, .i .i64 k] := by
  unfold EarlPost at hr
  split at hr
  · split at hr
    · split at hr
      · obtain ⟨a, c, rfl⟩ := hr; exact ⟨_, _, _, _, _, _, rfl⟩
      · exact ⟨_, _, _, _, _, _, hr⟩
    · exact ⟨_, _, _, _, _, _, hr⟩
  · exact ⟨_, _, _, _, _, _, hr⟩
theorem earl_two {l : List Smp} {s : Int} {a a' : Option Addr} {n n' c c' sz sz' : Nat} {rd rd' : Nat → Nat → SV} {k k' : Int} (h : EarlPost l s (tupL [.sl a n c sz rd, .i .i64 k])) (h' : EarlPost l s (tupL [.sl a' n' c' sz' rd', .i .i64 k'])) :
    k = k' ∧ n = n' ∧ n ≤ l.length ∧ (0 < n → sz = 1 ∧ sz' = 1) ∧ ∀ i, i < n → ∃ x, rd i 0 = .i .i64 x ∧ rd' i 0 = .i .i64 x := by
  have nil : ∀ {q : Int}, tupL [.sl a n c sz rd, .i .i64 k] = tupL [.sl none 0 0 0 (fun _ _ => .v undef), .i .i64 q] → tupL [.sl a' n' c' sz' rd', .i .i64 k'] = tupL [.sl none 0 0 0 (fun _ _ => .v undef), .i .i64 q] → k = k' ∧ n = n' ∧ n ≤ l.length ∧ (0 < n → sz = 1 ∧ sz' = 1) ∧ ∀ i, i < n → ∃ x, rd i 0 = .i .i64 x ∧ rd' i 0 = .i .i64 x := by
    intro q h1 h2
    obtain ⟨e1, e2⟩ := tupL_inj2 h1
    obtain ⟨e3, e4⟩ := tupL_inj2 h2
    simp only [SV.sl.injEq, SV.i.injEq, true_and] at e1 e2 e3 e4
    exact ⟨by rw [e2, e4], by rw [e1.2.1, e3.2.1], by omega, fun h => by omega, fun i h => by omega⟩
  unfold EarlPost at h h'
  split at h
  · rename_i h1
    rw [if_pos h1] at h'
    split at h
    · rename_i h2
      rw [if_pos h2] at h'
      split at h
      · rename_i h3
        rw [if_pos h3] at h'
        obtain ⟨b, d, h⟩ := h
        obtain ⟨b', d', h'⟩ := h'
        obtain ⟨e1, e2⟩ := tupL_inj2 h
        obtain ⟨e3, e4⟩ := tupL_inj2 h'
        simp only [SV.sl.injEq, SV.i.injEq, true_and] at e1 e2 e3 e4
        refine ⟨by rw [e2, e4], by rw [e1.2.1, e3.2.1], by omega, fun _ => ⟨e1.2.2.2.1, e3.2.2.2.1⟩, fun i _ => ⟨tAt l s i, ?_, ?_⟩⟩
        · rw [e1.2.2.2.2]
        · rw [e3.2.2.2.2]
      · rename_i h3; rw [if_neg h3] at h'; exact nil h h'
    · rename_i h2; rw [if_neg h2] at h'; exact nil h h'
  · rename_i h1; rw [if_neg h1] at h'; exact nil h h'
theorem ref_form {l : List Smp} {s : Int} {r : SV} (hr : RefPost l s r) : ∃ i j b, r = tupL [.i .i64 i, .i .i64 j, .b b] := by
  rcases hr with ⟨_, i, j, _, _, _, _, _, rfl⟩ | ⟨_, rfl⟩
  · exact ⟨_, _, _, rfl⟩
  · exact ⟨_, _, _, rfl⟩
theorem ref_two {l : List Smp} {s : Int} {r r' : SV} (h : RefPost l s r) (h' : RefPost l s r') : r = r' := by
  rcases h with ⟨hv, i, j, h1, h2, h3, h4, h5, rfl⟩ | ⟨h1, rfl⟩
  · rcases h' with ⟨_, i', j', g1, g2, g3, g4, g5, rfl⟩ | ⟨g1, rfl⟩
    · have e : j = j' := by
        rcases Nat.lt_trichotomy j j' with h | h | h
        · exact absurd h3 (g4 j h i h1)
        · exact h
        · exact absurd g3 (h4 j' h i' g1)
      subst e
      have e : i = i' := by
        rcases Nat.lt_trichotomy i i' with h | h | h
        · exact absurd g3 (h5 i' h g1)
        · exact h
        · exact absurd h3 (g5 i h h1)
      subst e
      rfl
    · exact absurd h3 (g1 hv j h2 i h1)
  · rcases h' with ⟨hv, i', j', g1, g2, g3, g4, g5, rfl⟩ | ⟨g1, rfl⟩
    · exact absurd g3 (h1 hv j' g2 i' g1)
    · rfl
theorem fitsAll_mono2 {l : List Smp} {s t : Int} (h : fitsAll l s = true) (hst : s ≤ t) (ht : t ≤ 1073741824) : fitsAll l t = true := by
  unfold fitsAll at *
  simp only [Bool.and_eq_true, spOk_iff] at *
  exact ⟨⟨h.1.1, by omega, ht⟩, fits_mono h.1.2.1 hst h.2⟩
theorem least_two {l : List Smp} {r r' : SV} (h : LeastPost l r) (h' : LeastPost l r') : ∃ m b, r = tupL [.i .i64 m, .b b] ∧ r' = tupL [.i .i64 m, .b b] := by
  rcases h with ⟨h1, rfl⟩ | ⟨s, h1, h2, h3, h4, rfl⟩
  · rcases h' with ⟨g1, rfl⟩ | ⟨t, g1, g2, g3, g4, rfl⟩
    · exact ⟨_, _, rfl, rfl⟩
    · rw [fitsAll_mono2 g3 g2 (Int.le_refl _)] at h1; cases h1
  · rcases h' with ⟨g1, rfl⟩ | ⟨t, g1, g2, g3, g4, rfl⟩
    · rw [fitsAll_mono2 h3 h2 (Int.le_refl _)] at g1; cases g1
    · have e : s = t := by
        rcases Int.lt_trichotomy s t with h | h | h
        · have := fitsAll_mono2 h3 (show s ≤ t - 1 by omega) (by omega); rw [g4 (by omega)] at this; cases this
        · exact h
        · have := fitsAll_mono2 g3 (show t ≤ s - 1 by omega) (by omega); rw [h4 (by omega)] at this; cases this
      subst e
      exact ⟨_, _, rfl, rfl⟩
theorem least_form {l : List Smp} {r : SV} (h : LeastPost l r) : ∃ m b, r = tupL [.i .i64 m, .b b] := by
  obtain ⟨m, b, h, _⟩ := least_two h h; exact ⟨m, b, h⟩
theorem needC_all (F : Frm) (a b : Smp) (s : Int) : Contract F Try.prog 15 [a.sv, b.sv, .i .i64 s] (fun r => r = needR a b s) := by
  by_cases hs : 1 ≤ s ∧ s ≤ 1073741824
  · exact (needC F a b s hs).mono fun r h => by rw [h, needR, if_pos (spOk_iff.2 hs)]
  · exact (needC_err F a b s hs).mono fun r h => by rw [h, needR, if_neg fun h => hs (spOk_iff.1 h)]
theorem needR_form (a b : Smp) (s : Int) : ∃ x k, needR a b s = tupL [.i .i64 x, .i .i64 k] := by
  unfold needR; split <;> exact ⟨_, _, rfl⟩

set_option maxRecDepth 100000 in
theorem stepsC (a : Option Addr) (cap : Nat) (z : List Int) (hz : ∀ n ∈ z, (Lit.int .u8 n).wf = true) (ra : Option Addr) (rc : Nat) (raw : List Smp) (hraw : IdOk raw) (hrl : raw.length ≤ 9223372036854775807) (speed i j : Int) : Contract Frm.nil Try.prog 6 [slB a cap z, slS ra rc raw, .i .i64 speed, .i .i64 i, .i .i64 j] (fun r => r = .b true) := by
  have hb := slB_bytes2 a cap z hz
  refine contract_of Try.func6 rfl (by kernel_rfl) ?_
  simp only [Try.ntmps6, argEnv]
  (repeat refine Sat.seq ?_)
  (refine Sat.region_k fun k hk => ?_; simp -implicitDefEqProofs only [evr, ty, rPick, rIbin, rBin, wideB, eqB, strB, rUn, rConv, rFieldAddr, rIndexAddr, rLoad, rField, rLen, rMax, rMin, rSlice, rBuild, toB, asRead, asAny, bound, flatOk, flat, lay, fillS, placesOf, id, ne_eq, reduceCtorEq, if_true, if_false, reduceIte, forall_const, decide_true, decide_eq_true_eq, decide_eq_false_iff_not, Nat.reduceMul, Nat.reduceAdd, Nat.reduceLT, Nat.reduceLeDiff, Nat.reduceEqDiff, Int.reduceLT, thenK, blockK, retK, resHolds, resVR, VR.holds, ro, roArg, roPtr, roArgS, roSl, beq_self_eq_true, eq_self, implies_true, Int.reduceBEq, Int.reduceBNe, frz, frzOne, bne_self_eq_false, rNilCheck, rIndex, retM, retMK, argM, Smp.cs, Smp.sv, slS, ptr, Bool.not_true, Bool.not_false]; refine hk _ ?_; clear hk k; try show Sat _ _ _ _ _)
  (repeat refine Sat.seq ?_)
  (refine Sat.region_k fun k hk => ?_; simp -implicitDefEqProofs only [evr, ty, rPick, rIbin, rBin, wideB, eqB, strB, rUn, rConv, rFieldAddr, rIndexAddr, rLoad, rField, rLen, rMax, rMin, rSlice, rBuild, toB, asRead, asAny, bound, flatOk, flat, lay, fillS, placesOf, id, ne_eq, reduceCtorEq, if_true, if_false, reduceIte, forall_const, decide_true, decide_eq_true_eq, decide_eq_false_iff_not, Nat.reduceMul, Nat.reduceAdd, Nat.reduceLT, Nat.reduceLeDiff, Nat.reduceEqDiff, Int.reduceLT, thenK, blockK, retK, resHolds, resVR, VR.holds, ro, roArg, roPtr, roArgS, roSl, beq_self_eq_true, eq_self, implies_true, Int.reduceBEq, Int.reduceBNe, frz, frzOne, bne_self_eq_false, rNilCheck, rIndex, retM, retMK, argM, Smp.cs, Smp.sv, slS, ptr, Bool.not_true, Bool.not_false])
  refine wcall_plain (awakeC Frm.nil) rfl (by rintro _ rfl; exact ok_plain rfl) ?_
  rintro r rfl
  simp -implicitDefEqProofs only [evr, ty, rPick, rIbin, rBin, wideB, eqB, strB, rUn, rConv, rFieldAddr, rIndexAddr, rLoad, rField, rLen, rMax, rMin, rSlice, rBuild, toB, asRead, asAny, bound, flatOk, flat, lay, fillS, placesOf, id, ne_eq, reduceCtorEq, if_true, if_false, reduceIte, forall_const, decide_true, decide_eq_true_eq, decide_eq_false_iff_not, Nat.reduceMul, Nat.reduceAdd, Nat.reduceLT, Nat.reduceLeDiff, Nat.reduceEqDiff, Int.reduceLT, thenK, blockK, retK, resHolds, resVR, VR.holds, ro, roArg, roPtr, roArgS, roSl, beq_self_eq_true, eq_self, implies_true, Int.reduceBEq, Int.reduceBNe, frz, frzOne, bne_self_eq_false, rNilCheck, rIndex, retM, retMK, argM, Smp.cs, Smp.sv, slS, ptr, Bool.not_true, Bool.not_false]
  (refine hk _ ?_; clear hk k; try show Sat _ _ _ _ _)
  refine Sat.cond_b rfl (fun h => ?_) (fun h => ?_)
  · (repeat refine Sat.seq ?_)
    (refine Sat.region_k fun k hk => ?_; simp -implicitDefEqProofs only [evr, ty, rPick, rIbin, rBin, wideB, eqB, strB, rUn, rConv, rFieldAddr, rIndexAddr, rLoad, rField, rLen, rMax, rMin, rSlice, rBuild, toB, asRead, asAny, bound, flatOk, flat, lay, fillS, placesOf, id, ne_eq, reduceCtorEq, if_true, if_false, reduceIte, forall_const, decide_true, decide_eq_true_eq, decide_eq_false_iff_not, Nat.reduceMul, Nat.reduceAdd, Nat.reduceLT, Nat.reduceLeDiff, Nat.reduceEqDiff, Int.reduceLT, thenK, blockK, retK, resHolds, resVR, VR.holds, ro, roArg, roPtr, roArgS, roSl, beq_self_eq_true, eq_self, implies_true, Int.reduceBEq, Int.reduceBNe, frz, frzOne, bne_self_eq_false, rNilCheck, rIndex, retM, retMK, argM, Smp.cs, Smp.sv, slS, ptr, Bool.not_true, Bool.not_false])
    refine wcall_plain (awakeC Frm.nil) rfl (by rintro _ rfl; exact ok_plain rfl) ?_
    rintro r rfl
    simp -implicitDefEqProofs only [evr, ty, rPick, rIbin, rBin, wideB, eqB, strB, rUn, rConv, rFieldAddr, rIndexAddr, rLoad, rField, rLen, rMax, rMin, rSlice, rBuild, toB, asRead, asAny, bound, flatOk, flat, lay, fillS, placesOf, id, ne_eq, reduceCtorEq, if_true, if_false, reduceIte, forall_const, decide_true, decide_eq_true_eq, decide_eq_false_iff_not, Nat.reduceMul, Nat.reduceAdd, Nat.reduceLT, Nat.reduceLeDiff, Nat.reduceEqDiff, Int.reduceLT, thenK, blockK, retK, resHolds, resVR, VR.holds, ro, roArg, roPtr, roArgS, roSl, beq_self_eq_true, eq_self, implies_true, Int.reduceBEq, Int.reduceBNe, frz, frzOne, bne_self_eq_false, rNilCheck, rIndex, retM, retMK, argM, Smp.cs, Smp.sv, slS, ptr, Bool.not_true, Bool.not_false]
    (refine hk _ ?_; clear hk k; try show Sat _ _ _ _ _)
    refine Sat.ret ?_
    simp only [Try.results6, evr, ty, rPick, rIbin, rBin, wideB, eqB, strB, rUn, rConv, rFieldAddr, rIndexAddr, rLoad, rField, rLen, rMax, rMin, rSlice, rBuild, toB, asRead, asAny, bound, flatOk, flat, lay, fillS, placesOf, id, ne_eq, reduceCtorEq, if_true, if_false, reduceIte, forall_const, decide_true, decide_eq_true_eq, decide_eq_false_iff_not, Nat.reduceMul, Nat.reduceAdd, Nat.reduceLT, Nat.reduceLeDiff, Nat.reduceEqDiff, Int.reduceLT, thenK, blockK, retK, resHolds, resVR, VR.holds, ro, roArg, roPtr, roArgS, roSl, beq_self_eq_true, eq_self, implies_true, Int.reduceBEq, Int.reduceBNe, frz, frzOne, bne_self_eq_false, rNilCheck, rIndex, retM, retMK, argM, Smp.cs, Smp.sv, slS, ptr, Bool.not_true, Bool.not_false]
  · have hr12 : raw.length ≤ 12 := by simp only [decide_eq_false_iff_not] at h; omega
    refine Sat.skip ?_
    simp only [thenK]
    refine Sat.seq ?_
    (refine Sat.region_k fun k hk => ?_; simp -implicitDefEqProofs only [evr, ty, rPick, rIbin, rBin, wideB, eqB, strB, rUn, rConv, rFieldAddr, rIndexAddr, rLoad, rField, rLen, rMax, rMin, rSlice, rBuild, toB, asRead, asAny, bound, flatOk, flat, lay, fillS, placesOf, id, ne_eq, reduceCtorEq, if_true, if_false, reduceIte, forall_const, decide_true, decide_eq_true_eq, decide_eq_false_iff_not, Nat.reduceMul, Nat.reduceAdd, Nat.reduceLT, Nat.reduceLeDiff, Nat.reduceEqDiff, Int.reduceLT, thenK, blockK, retK, resHolds, resVR, VR.holds, ro, roArg, roPtr, roArgS, roSl, beq_self_eq_true, eq_self, implies_true, Int.reduceBEq, Int.reduceBNe, frz, frzOne, bne_self_eq_false, rNilCheck, rIndex, retM, retMK, argM, Smp.cs, Smp.sv, slS, ptr, Bool.not_true, Bool.not_false])
    refine wcall_make (rollC (slB a cap z) hb) ?_
    intro cb
    simp -implicitDefEqProofs only [evr, ty, rPick, rIbin, rBin, wideB, eqB, strB, rUn, rConv, rFieldAddr, rIndexAddr, rLoad, rField, rLen, rMax, rMin, rSlice, rBuild, toB, asRead, asAny, bound, flatOk, flat, lay, fillS, placesOf, id, ne_eq, reduceCtorEq, if_true, if_false, reduceIte, forall_const, decide_true, decide_eq_true_eq, decide_eq_false_iff_not, Nat.reduceMul, Nat.reduceAdd, Nat.reduceLT, Nat.reduceLeDiff, Nat.reduceEqDiff, Int.reduceLT, thenK, blockK, retK, resHolds, resVR, VR.holds, ro, roArg, roPtr, roArgS, roSl, beq_self_eq_true, eq_self, implies_true, Int.reduceBEq, Int.reduceBNe, frz, frzOne, bne_self_eq_false, rNilCheck, rIndex, retM, retMK, argM, Smp.cs, Smp.sv, slS, ptr, Bool.not_true, Bool.not_false]
    (refine hk _ ?_; clear hk k; try show Sat _ _ _ _ _)
    refine Sat.switch (cb := cb) (id := 0) (F' := Frm.codes cb) (fun b => Iff.rfl) rfl ?_
    (repeat refine Sat.seq ?_)
    (refine Sat.region_k fun k hk => ?_; simp -implicitDefEqProofs only [evr, ty, rPick, rIbin, rBin, wideB, eqB, strB, rUn, rConv, rFieldAddr, rIndexAddr, rLoad, rField, rLen, rMax, rMin, rSlice, rBuild, toB, asRead, asAny, bound, flatOk, flat, lay, fillS, placesOf, id, ne_eq, reduceCtorEq, if_true, if_false, reduceIte, forall_const, decide_true, decide_eq_true_eq, decide_eq_false_iff_not, Nat.reduceMul, Nat.reduceAdd, Nat.reduceLT, Nat.reduceLeDiff, Nat.reduceEqDiff, Int.reduceLT, thenK, blockK, retK, resHolds, resVR, VR.holds, ro, roArg, roPtr, roArgS, roSl, beq_self_eq_true, eq_self, implies_true, Int.reduceBEq, Int.reduceBNe, frz, frzOne, bne_self_eq_false, rNilCheck, rIndex, retM, retMK, argM, Smp.cs, Smp.sv, slS, ptr, Bool.not_true, Bool.not_false])
    refine wcall_slice (samplesC cb 12 (by decide)) rfl rfl ?_
    rintro r ⟨sa, sc, l, rfl, hll, hv⟩
    simp -implicitDefEqProofs only [evr, ty, rPick, rIbin, rBin, wideB, eqB, strB, rUn, rConv, rFieldAddr, rIndexAddr, rLoad, rField, rLen, rMax, rMin, rSlice, rBuild, toB, asRead, asAny, bound, flatOk, flat, lay, fillS, placesOf, id, ne_eq, reduceCtorEq, if_true, if_false, reduceIte, forall_const, decide_true, decide_eq_true_eq, decide_eq_false_iff_not, Nat.reduceMul, Nat.reduceAdd, Nat.reduceLT, Nat.reduceLeDiff, Nat.reduceEqDiff, Int.reduceLT, thenK, blockK, retK, resHolds, resVR, VR.holds, ro, roArg, roPtr, roArgS, roSl, beq_self_eq_true, eq_self, implies_true, Int.reduceBEq, Int.reduceBNe, frz, frzOne, bne_self_eq_false, rNilCheck, rIndex, retM, retMK, argM, Smp.cs, Smp.sv, slS, ptr, Bool.not_true, Bool.not_false]
    (refine hk _ ?_; clear hk k; try show Sat _ _ _ _ _)
    refine Sat.le (st' := ⟨301, [(11, ptr cb), (12, slS sa sc l), (1, slS ra rc raw), (2, .i .i64 speed), (3, .i .i64 i), (4, .i .i64 j)], []⟩) ?_ (by simp -implicitDefEqProofs only [evr, ty, rPick, rIbin, rBin, wideB, eqB, strB, rUn, rConv, rFieldAddr, rIndexAddr, rLoad, rField, rLen, rMax, rMin, rSlice, rBuild, toB, asRead, asAny, bound, flatOk, flat, lay, fillS, placesOf, id, ne_eq, reduceCtorEq, if_true, if_false, reduceIte, forall_const, decide_true, decide_eq_true_eq, decide_eq_false_iff_not, Nat.reduceMul, Nat.reduceAdd, Nat.reduceLT, Nat.reduceLeDiff, Nat.reduceEqDiff, Int.reduceLT, thenK, blockK, retK, resHolds, resVR, VR.holds, ro, roArg, roPtr, roArgS, roSl, beq_self_eq_true, eq_self, implies_true, Int.reduceBEq, Int.reduceBNe, frz, frzOne, bne_self_eq_false, rNilCheck, rIndex, retM, retMK, argM, Smp.cs, Smp.sv, slS, ptr, Bool.not_true, Bool.not_false, Le, envLe, ownLe, Own.le, Option.some.injEq, eq_self, true_or, false_or, or_false, exists_eq_left', exists_eq_left, exists_eq, exists_eq', SV.i.injEq, SV.b.injEq, rdEq_same, exists_false, and_false, false_and])
    simp only [slS]
    have hm : l.length ≤ maxLen := by unfold maxLen; omega
    (repeat refine Sat.seq ?_)
    (refine Sat.region_k fun k hk => ?_; simp -implicitDefEqProofs only [evr, ty, rPick, rIbin, rBin, wideB, eqB, strB, rUn, rConv, rFieldAddr, rIndexAddr, rLoad, rField, rLen, rMax, rMin, rSlice, rBuild, toB, asRead, asAny, bound, flatOk, flat, lay, fillS, placesOf, id, ne_eq, reduceCtorEq, if_true, if_false, reduceIte, forall_const, decide_true, decide_eq_true_eq, decide_eq_false_iff_not, Nat.reduceMul, Nat.reduceAdd, Nat.reduceLT, Nat.reduceLeDiff, Nat.reduceEqDiff, Int.reduceLT, thenK, blockK, retK, resHolds, resVR, VR.holds, ro, roArg, roPtr, roArgS, roSl, beq_self_eq_true, eq_self, implies_true, Int.reduceBEq, Int.reduceBNe, frz, frzOne, bne_self_eq_false, rNilCheck, rIndex, retM, retMK, argM, Smp.cs, Smp.sv, slS, ptr, Bool.not_true, Bool.not_false])
    refine ⟨⟨by omega, by omega⟩, fun oa oc => ?_⟩
    (refine hk _ ?_; clear hk k; try show Sat _ _ _ _ _)
    (repeat refine Sat.seq ?_)
    (refine Sat.region_k fun k hk => ?_; simp -implicitDefEqProofs only [evr, ty, rPick, rIbin, rBin, wideB, eqB, strB, rUn, rConv, rFieldAddr, rIndexAddr, rLoad, rField, rLen, rMax, rMin, rSlice, rBuild, toB, asRead, asAny, bound, flatOk, flat, lay, fillS, placesOf, id, ne_eq, reduceCtorEq, if_true, if_false, reduceIte, forall_const, decide_true, decide_eq_true_eq, decide_eq_false_iff_not, Nat.reduceMul, Nat.reduceAdd, Nat.reduceLT, Nat.reduceLeDiff, Nat.reduceEqDiff, Int.reduceLT, thenK, blockK, retK, resHolds, resVR, VR.holds, ro, roArg, roPtr, roArgS, roSl, beq_self_eq_true, eq_self, implies_true, Int.reduceBEq, Int.reduceBNe, frz, frzOne, bne_self_eq_false, rNilCheck, rIndex, retM, retMK, argM, Smp.cs, Smp.sv, slS, ptr, Bool.not_true, Bool.not_false]; refine hk _ ?_; clear hk k; try show Sat _ _ _ _ _)
    (repeat refine Sat.seq ?_)
    refine Sat.atF (ι := List Smp) (fun x => ⟨301, [(13, .os 0 oa l.length oc), (11, ptr cb), (12, slS sa sc l), (1, slS ra rc raw), (2, .i .i64 speed), (3, .i .i64 i), (4, .i .i64 j)], [.row oa 39 l.length oc 4 (rdS x)]⟩) (fun x => x.length = l.length ∧ IdOk x) ?_ ?_
    · refine Sat.cond_b rfl (fun h1 => ?_) (fun h1 => ?_)
      · simp only [decide_eq_true_eq] at h1
        have hl0 : 0 < l.length := by omega
        (repeat refine Sat.seq ?_)
        (refine Sat.region_k fun k hk => ?_; simp -implicitDefEqProofs only [evr, ty, rPick, rIbin, rBin, wideB, eqB, strB, rUn, rConv, rFieldAddr, rIndexAddr, rLoad, rField, rLen, rMax, rMin, rSlice, rBuild, toB, asRead, asAny, bound, flatOk, flat, lay, fillS, placesOf, id, ne_eq, reduceCtorEq, if_true, if_false, reduceIte, forall_const, decide_true, decide_eq_true_eq, decide_eq_false_iff_not, Nat.reduceMul, Nat.reduceAdd, Nat.reduceLT, Nat.reduceLeDiff, Nat.reduceEqDiff, Int.reduceLT, thenK, blockK, retK, resHolds, resVR, VR.holds, ro, roArg, roPtr, roArgS, roSl, beq_self_eq_true, eq_self, implies_true, Int.reduceBEq, Int.reduceBNe, frz, frzOne, bne_self_eq_false, rNilCheck, rIndex, retM, retMK, argM, Smp.cs, Smp.sv, slS, ptr, Bool.not_true, Bool.not_false])
        refine wcall_plain (nextC cb l.length (by omega) (by omega)) rfl (by rintro _ ⟨x, rfl, _, _⟩; exact ok_plain rfl) ?_
        rintro r ⟨k0, rfl, hk0, hk1⟩
        obtain ⟨q, rfl⟩ := Int.eq_ofNat_of_zero_le hk0
        have hq : q < l.length := by omega
        simp -implicitDefEqProofs only [evr, ty, rPick, rIbin, rBin, wideB, eqB, strB, rUn, rConv, rFieldAddr, rIndexAddr, rLoad, rField, rLen, rMax, rMin, rSlice, rBuild, toB, asRead, asAny, bound, flatOk, flat, lay, fillS, placesOf, id, ne_eq, reduceCtorEq, if_true, if_false, reduceIte, forall_const, decide_true, decide_eq_true_eq, decide_eq_false_iff_not, Nat.reduceMul, Nat.reduceAdd, Nat.reduceLT, Nat.reduceLeDiff, Nat.reduceEqDiff, Int.reduceLT, thenK, blockK, retK, resHolds, resVR, VR.holds, ro, roArg, roPtr, roArgS, roSl, beq_self_eq_true, eq_self, implies_true, Int.reduceBEq, Int.reduceBNe, frz, frzOne, bne_self_eq_false, rNilCheck, rIndex, retM, retMK, argM, Smp.cs, Smp.sv, slS, ptr, Bool.not_true, Bool.not_false]
        (refine hk _ ?_; clear hk k; try show Sat _ _ _ _ _)
        (repeat refine Sat.seq ?_)
        (refine Sat.region_k fun k hk => ?_; simp -implicitDefEqProofs only [evr, ty, rPick, rIbin, rBin, wideB, eqB, strB, rUn, rConv, rFieldAddr, rIndexAddr, rLoad, rField, rLen, rMax, rMin, rSlice, rBuild, toB, asRead, asAny, bound, flatOk, flat, lay, fillS, placesOf, id, ne_eq, reduceCtorEq, if_true, if_false, reduceIte, forall_const, decide_true, decide_eq_true_eq, decide_eq_false_iff_not, Nat.reduceMul, Nat.reduceAdd, Nat.reduceLT, Nat.reduceLeDiff, Nat.reduceEqDiff, Int.reduceLT, thenK, blockK, retK, resHolds, resVR, VR.holds, ro, roArg, roPtr, roArgS, roSl, beq_self_eq_true, eq_self, implies_true, Int.reduceBEq, Int.reduceBNe, frz, frzOne, bne_self_eq_false, rNilCheck, rIndex, retM, retMK, argM, Smp.cs, Smp.sv, slS, ptr, Bool.not_true, Bool.not_false])
        refine wcall_plain (nextC cb 3 (by omega) (by omega)) rfl (by rintro _ ⟨x, rfl, _, _⟩; exact ok_plain rfl) ?_
        rintro r ⟨c0, rfl, hc0, hc1⟩
        simp -implicitDefEqProofs only [evr, ty, rPick, rIbin, rBin, wideB, eqB, strB, rUn, rConv, rFieldAddr, rIndexAddr, rLoad, rField, rLen, rMax, rMin, rSlice, rBuild, toB, asRead, asAny, bound, flatOk, flat, lay, fillS, placesOf, id, ne_eq, reduceCtorEq, if_true, if_false, reduceIte, forall_const, decide_true, decide_eq_true_eq, decide_eq_false_iff_not, Nat.reduceMul, Nat.reduceAdd, Nat.reduceLT, Nat.reduceLeDiff, Nat.reduceEqDiff, Int.reduceLT, thenK, blockK, retK, resHolds, resVR, VR.holds, ro, roArg, roPtr, roArgS, roSl, beq_self_eq_true, eq_self, implies_true, Int.reduceBEq, Int.reduceBNe, frz, frzOne, bne_self_eq_false, rNilCheck, rIndex, retM, retMK, argM, Smp.cs, Smp.sv, slS, ptr, Bool.not_true, Bool.not_false]
        (refine hk _ ?_; clear hk k; try show Sat _ _ _ _ _)
        refine Sat.block ?_
        (repeat refine Sat.seq ?_)
        (refine Sat.region_k fun k hk => ?_; simp -implicitDefEqProofs only [evr, ty, rPick, rIbin, rBin, wideB, eqB, strB, rUn, rConv, rFieldAddr, rIndexAddr, rLoad, rField, rLen, rMax, rMin, rSlice, rBuild, toB, asRead, asAny, bound, flatOk, flat, lay, fillS, placesOf, id, ne_eq, reduceCtorEq, if_true, if_false, reduceIte, forall_const, decide_true, decide_eq_true_eq, decide_eq_false_iff_not, Nat.reduceMul, Nat.reduceAdd, Nat.reduceLT, Nat.reduceLeDiff, Nat.reduceEqDiff, Int.reduceLT, thenK, blockK, retK, resHolds, resVR, VR.holds, ro, roArg, roPtr, roArgS, roSl, beq_self_eq_true, eq_self, implies_true, Int.reduceBEq, Int.reduceBNe, frz, frzOne, bne_self_eq_false, rNilCheck, rIndex, retM, retMK, argM, Smp.cs, Smp.sv, slS, ptr, Bool.not_true, Bool.not_false]; refine hk _ ?_; clear hk k; try show Sat _ _ _ _ _)
        refine Sat.cond_b rfl (fun h2 => ?_) (fun h2 => ?_)
        · (refine Sat.region_k fun k hk => ?_; simp -implicitDefEqProofs only [evr, ty, rPick, rIbin, rBin, wideB, eqB, strB, rUn, rConv, rFieldAddr, rIndexAddr, rLoad, rField, rLen, rMax, rMin, rSlice, rBuild, toB, asRead, asAny, bound, flatOk, flat, lay, fillS, placesOf, id, ne_eq, reduceCtorEq, if_true, if_false, reduceIte, forall_const, decide_true, decide_eq_true_eq, decide_eq_false_iff_not, Nat.reduceMul, Nat.reduceAdd, Nat.reduceLT, Nat.reduceLeDiff, Nat.reduceEqDiff, Int.reduceLT, thenK, blockK, retK, resHolds, resVR, VR.holds, ro, roArg, roPtr, roArgS, roSl, beq_self_eq_true, eq_self, implies_true, Int.reduceBEq, Int.reduceBNe, frz, frzOne, bne_self_eq_false, rNilCheck, rIndex, retM, retMK, argM, Smp.cs, Smp.sv, slS, ptr, Bool.not_true, Bool.not_false])
          intro blk1
          refine wcall_plain (pickI cb blk1 [-1, 65535, 65536] i64 (by decide) (by decide) (by unfold i64; simp)) (by simp -implicitDefEqProofs only [evr, ty, rPick, rIbin, rBin, wideB, eqB, strB, rUn, rConv, rFieldAddr, rIndexAddr, rLoad, rField, rLen, rMax, rMin, rSlice, rBuild, toB, asRead, asAny, bound, flatOk, flat, lay, fillS, placesOf, id, ne_eq, reduceCtorEq, if_true, if_false, reduceIte, forall_const, decide_true, decide_eq_true_eq, decide_eq_false_iff_not, Nat.reduceMul, Nat.reduceAdd, Nat.reduceLT, Nat.reduceLeDiff, Nat.reduceEqDiff, Int.reduceLT, thenK, blockK, retK, resHolds, resVR, VR.holds, ro, roArg, roPtr, roArgS, roSl, beq_self_eq_true, eq_self, implies_true, Int.reduceBEq, Int.reduceBNe, frz, frzOne, bne_self_eq_false, rNilCheck, rIndex, retM, retMK, argM, Smp.cs, Smp.sv, slS, ptr, Bool.not_true, Bool.not_false]) plain_pick ?_
          rintro r ⟨v, rfl, hv1⟩
          simp -implicitDefEqProofs only [evr, ty, rPick, rIbin, rBin, wideB, eqB, strB, rUn, rConv, rFieldAddr, rIndexAddr, rLoad, rField, rLen, rMax, rMin, rSlice, rBuild, toB, asRead, asAny, bound, flatOk, flat, lay, fillS, placesOf, id, ne_eq, reduceCtorEq, if_true, if_false, reduceIte, forall_const, decide_true, decide_eq_true_eq, decide_eq_false_iff_not, Nat.reduceMul, Nat.reduceAdd, Nat.reduceLT, Nat.reduceLeDiff, Nat.reduceEqDiff, Int.reduceLT, thenK, blockK, retK, resHolds, resVR, VR.holds, ro, roArg, roPtr, roArgS, roSl, beq_self_eq_true, eq_self, implies_true, Int.reduceBEq, Int.reduceBNe, frz, frzOne, bne_self_eq_false, rNilCheck, rIndex, retM, retMK, argM, Smp.cs, Smp.sv, slS, ptr, Bool.not_true, Bool.not_false]
          refine ⟨by omega, hq, ?_⟩
          refine hk _ ?_
          simp only [thenK, blockK, reduceIte]
          refine ⟨l.set q ⟨(l.getD q default).at_, (l.getD q default).back, v, (l.getD q default).addr⟩, ⟨by simp, idOk_set (idOk_valid hv) q _ hv1⟩, ?_⟩
          simp only [slS]
          simp -implicitDefEqProofs only [evr, ty, rPick, rIbin, rBin, wideB, eqB, strB, rUn, rConv, rFieldAddr, rIndexAddr, rLoad, rField, rLen, rMax, rMin, rSlice, rBuild, toB, asRead, asAny, bound, flatOk, flat, lay, fillS, placesOf, id, ne_eq, reduceCtorEq, if_true, if_false, reduceIte, forall_const, decide_true, decide_eq_true_eq, decide_eq_false_iff_not, Nat.reduceMul, Nat.reduceAdd, Nat.reduceLT, Nat.reduceLeDiff, Nat.reduceEqDiff, Int.reduceLT, thenK, blockK, retK, resHolds, resVR, VR.holds, ro, roArg, roPtr, roArgS, roSl, beq_self_eq_true, eq_self, implies_true, Int.reduceBEq, Int.reduceBNe, frz, frzOne, bne_self_eq_false, rNilCheck, rIndex, retM, retMK, argM, Smp.cs, Smp.sv, slS, ptr, Bool.not_true, Bool.not_false, Le, envLe, ownLe, Own.le, Option.some.injEq, eq_self, true_or, false_or, or_false, exists_eq_left', exists_eq_left, exists_eq, exists_eq', SV.i.injEq, SV.b.injEq, rdEq_same, exists_false, and_false, false_and]
          exact rdS_id l q v hq
        · refine Sat.seq ?_
          (repeat refine Sat.seq ?_)
          (refine Sat.region_k fun k hk => ?_; simp -implicitDefEqProofs only [evr, ty, rPick, rIbin, rBin, wideB, eqB, strB, rUn, rConv, rFieldAddr, rIndexAddr, rLoad, rField, rLen, rMax, rMin, rSlice, rBuild, toB, asRead, asAny, bound, flatOk, flat, lay, fillS, placesOf, id, ne_eq, reduceCtorEq, if_true, if_false, reduceIte, forall_const, decide_true, decide_eq_true_eq, decide_eq_false_iff_not, Nat.reduceMul, Nat.reduceAdd, Nat.reduceLT, Nat.reduceLeDiff, Nat.reduceEqDiff, Int.reduceLT, thenK, blockK, retK, resHolds, resVR, VR.holds, ro, roArg, roPtr, roArgS, roSl, beq_self_eq_true, eq_self, implies_true, Int.reduceBEq, Int.reduceBNe, frz, frzOne, bne_self_eq_false, rNilCheck, rIndex, retM, retMK, argM, Smp.cs, Smp.sv, slS, ptr, Bool.not_true, Bool.not_false]; refine hk _ ?_; clear hk k; try show Sat _ _ _ _ _)
          refine Sat.cond_b rfl (fun h3 => ?_) (fun h3 => ?_)
          · have hat := (validL_iff.1 hv q hq).1
            unfold Smp.Ok at hat
            have e1 : IntKind.i64.wrap ((l.getD q default).at_ - 1) = (l.getD q default).at_ - 1 := w64 (by omega)
            (refine Sat.region_tree (.one 0 (.one 1 (.one 2 (.one 3 (.one 4 (.one 5 (.one 8 (.alt 6 (.one 7 (.one 9 (.one 10 (.one 11 (.one 12 (.one 13 .done)))))) (.alt 9 (.one 6 (.one 7 (.one 10 (.one 11 (.one 12 (.one 13 .done)))))) .none))))))))) (by kernel_rfl) (by kernel_rfl) (fun _ _ h => h) fun k hk => ?_; simp only [WOT, List.map_cons, List.map_nil, List.getD_cons_zero, List.getD_cons_succ]; simp -implicitDefEqProofs only [evr, ty, rPick, rIbin, rBin, wideB, eqB, strB, rUn, rConv, rFieldAddr, rIndexAddr, rLoad, rField, rLen, rMax, rMin, rSlice, rBuild, toB, asRead, asAny, bound, flatOk, flat, lay, fillS, placesOf, id, ne_eq, reduceCtorEq, if_true, if_false, reduceIte, forall_const, decide_true, decide_eq_true_eq, decide_eq_false_iff_not, Nat.reduceMul, Nat.reduceAdd, Nat.reduceLT, Nat.reduceLeDiff, Nat.reduceEqDiff, Int.reduceLT, thenK, blockK, retK, resHolds, resVR, VR.holds, ro, roArg, roPtr, roArgS, roSl, beq_self_eq_true, eq_self, implies_true, Int.reduceBEq, Int.reduceBNe, frz, frzOne, bne_self_eq_false, rNilCheck, rIndex, retM, retMK, argM, Smp.cs, Smp.sv, slS, ptr, Bool.not_true, Bool.not_false, WOT])
            refine ⟨by omega, ⟨hq, ?_⟩, ?_⟩
            · refine wcall_plain (nextC cb 2 (by omega) (by omega)) rfl (by rintro _ ⟨x, rfl, _, _⟩; exact ok_plain rfl) ?_
              rintro r ⟨x, rfl, hx0, hx1⟩
              simp -implicitDefEqProofs only [evr, ty, rPick, rIbin, rBin, wideB, eqB, strB, rUn, rConv, rFieldAddr, rIndexAddr, rLoad, rField, rLen, rMax, rMin, rSlice, rBuild, toB, asRead, asAny, bound, flatOk, flat, lay, fillS, placesOf, id, ne_eq, reduceCtorEq, if_true, if_false, reduceIte, forall_const, decide_true, decide_eq_true_eq, decide_eq_false_iff_not, Nat.reduceMul, Nat.reduceAdd, Nat.reduceLT, Nat.reduceLeDiff, Nat.reduceEqDiff, Int.reduceLT, thenK, blockK, retK, resHolds, resVR, VR.holds, ro, roArg, roPtr, roArgS, roSl, beq_self_eq_true, eq_self, implies_true, Int.reduceBEq, Int.reduceBNe, frz, frzOne, bne_self_eq_false, rNilCheck, rIndex, retM, retMK, argM, Smp.cs, Smp.sv, slS, ptr, Bool.not_true, Bool.not_false, WOT]
              refine ⟨by omega, hq, ?_⟩
              refine hk _ ?_
              simp only [thenK, blockK, reduceIte]
              refine ⟨l.set q ⟨(l.getD q default).at_, IntKind.i64.wrap (IntKind.i64.wrap ((l.getD q default).at_ - 1) + x), (l.getD q default).id, (l.getD q default).addr⟩, ⟨by simp, idOk_set (idOk_valid hv) q _ (idOk_valid hv q hq)⟩, ?_⟩
              simp only [slS]
              simp -implicitDefEqProofs only [evr, ty, rPick, rIbin, rBin, wideB, eqB, strB, rUn, rConv, rFieldAddr, rIndexAddr, rLoad, rField, rLen, rMax, rMin, rSlice, rBuild, toB, asRead, asAny, bound, flatOk, flat, lay, fillS, placesOf, id, ne_eq, reduceCtorEq, if_true, if_false, reduceIte, forall_const, decide_true, decide_eq_true_eq, decide_eq_false_iff_not, Nat.reduceMul, Nat.reduceAdd, Nat.reduceLT, Nat.reduceLeDiff, Nat.reduceEqDiff, Int.reduceLT, thenK, blockK, retK, resHolds, resVR, VR.holds, ro, roArg, roPtr, roArgS, roSl, beq_self_eq_true, eq_self, implies_true, Int.reduceBEq, Int.reduceBNe, frz, frzOne, bne_self_eq_false, rNilCheck, rIndex, retM, retMK, argM, Smp.cs, Smp.sv, slS, ptr, Bool.not_true, Bool.not_false, Le, envLe, ownLe, Own.le, Option.some.injEq, eq_self, true_or, false_or, or_false, exists_eq_left', exists_eq_left, exists_eq, exists_eq', SV.i.injEq, SV.b.injEq, rdEq_same, exists_false, and_false, false_and]
              exact rdS_back l q _ hq
            · refine wcall_plain (nextC cb 2 (by omega) (by omega)) rfl (by rintro _ ⟨x, rfl, _, _⟩; exact ok_plain rfl) ?_
              rintro r ⟨x, rfl, hx0, hx1⟩
              simp -implicitDefEqProofs only [evr, ty, rPick, rIbin, rBin, wideB, eqB, strB, rUn, rConv, rFieldAddr, rIndexAddr, rLoad, rField, rLen, rMax, rMin, rSlice, rBuild, toB, asRead, asAny, bound, flatOk, flat, lay, fillS, placesOf, id, ne_eq, reduceCtorEq, if_true, if_false, reduceIte, forall_const, decide_true, decide_eq_true_eq, decide_eq_false_iff_not, Nat.reduceMul, Nat.reduceAdd, Nat.reduceLT, Nat.reduceLeDiff, Nat.reduceEqDiff, Int.reduceLT, thenK, blockK, retK, resHolds, resVR, VR.holds, ro, roArg, roPtr, roArgS, roSl, beq_self_eq_true, eq_self, implies_true, Int.reduceBEq, Int.reduceBNe, frz, frzOne, bne_self_eq_false, rNilCheck, rIndex, retM, retMK, argM, Smp.cs, Smp.sv, slS, ptr, Bool.not_true, Bool.not_false, WOT]
              refine ⟨hq, by omega, hq, ?_⟩
              refine hk _ ?_
              simp only [thenK, blockK, reduceIte]
              refine ⟨l.set q ⟨(l.getD q default).at_, IntKind.i64.wrap (IntKind.i64.wrap ((l.getD q default).at_ - 1) + x), (l.getD q default).id, (l.getD q default).addr⟩, ⟨by simp, idOk_set (idOk_valid hv) q _ (idOk_valid hv q hq)⟩, ?_⟩
              simp only [slS]
              simp -implicitDefEqProofs only [evr, ty, rPick, rIbin, rBin, wideB, eqB, strB, rUn, rConv, rFieldAddr, rIndexAddr, rLoad, rField, rLen, rMax, rMin, rSlice, rBuild, toB, asRead, asAny, bound, flatOk, flat, lay, fillS, placesOf, id, ne_eq, reduceCtorEq, if_true, if_false, reduceIte, forall_const, decide_true, decide_eq_true_eq, decide_eq_false_iff_not, Nat.reduceMul, Nat.reduceAdd, Nat.reduceLT, Nat.reduceLeDiff, Nat.reduceEqDiff, Int.reduceLT, thenK, blockK, retK, resHolds, resVR, VR.holds, ro, roArg, roPtr, roArgS, roSl, beq_self_eq_true, eq_self, implies_true, Int.reduceBEq, Int.reduceBNe, frz, frzOne, bne_self_eq_false, rNilCheck, rIndex, retM, retMK, argM, Smp.cs, Smp.sv, slS, ptr, Bool.not_true, Bool.not_false, Le, envLe, ownLe, Own.le, Option.some.injEq, eq_self, true_or, false_or, or_false, exists_eq_left', exists_eq_left, exists_eq, exists_eq', SV.i.injEq, SV.b.injEq, rdEq_same, exists_false, and_false, false_and]
              exact rdS_back l q _ hq
          · refine Sat.seq ?_
            (repeat refine Sat.seq ?_)
            (refine Sat.region_k fun k hk => ?_; simp -implicitDefEqProofs only [evr, ty, rPick, rIbin, rBin, wideB, eqB, strB, rUn, rConv, rFieldAddr, rIndexAddr, rLoad, rField, rLen, rMax, rMin, rSlice, rBuild, toB, asRead, asAny, bound, flatOk, flat, lay, fillS, placesOf, id, ne_eq, reduceCtorEq, if_true, if_false, reduceIte, forall_const, decide_true, decide_eq_true_eq, decide_eq_false_iff_not, Nat.reduceMul, Nat.reduceAdd, Nat.reduceLT, Nat.reduceLeDiff, Nat.reduceEqDiff, Int.reduceLT, thenK, blockK, retK, resHolds, resVR, VR.holds, ro, roArg, roPtr, roArgS, roSl, beq_self_eq_true, eq_self, implies_true, Int.reduceBEq, Int.reduceBNe, frz, frzOne, bne_self_eq_false, rNilCheck, rIndex, retM, retMK, argM, Smp.cs, Smp.sv, slS, ptr, Bool.not_true, Bool.not_false]; refine hk _ ?_; clear hk k; try show Sat _ _ _ _ _)
            refine Sat.cond_b rfl (fun h4 => ?_) (fun h4 => ?_)
            · (refine Sat.region_k fun k hk => ?_; simp -implicitDefEqProofs only [evr, ty, rPick, rIbin, rBin, wideB, eqB, strB, rUn, rConv, rFieldAddr, rIndexAddr, rLoad, rField, rLen, rMax, rMin, rSlice, rBuild, toB, asRead, asAny, bound, flatOk, flat, lay, fillS, placesOf, id, ne_eq, reduceCtorEq, if_true, if_false, reduceIte, forall_const, decide_true, decide_eq_true_eq, decide_eq_false_iff_not, Nat.reduceMul, Nat.reduceAdd, Nat.reduceLT, Nat.reduceLeDiff, Nat.reduceEqDiff, Int.reduceLT, thenK, blockK, retK, resHolds, resVR, VR.holds, ro, roArg, roPtr, roArgS, roSl, beq_self_eq_true, eq_self, implies_true, Int.reduceBEq, Int.reduceBNe, frz, frzOne, bne_self_eq_false, rNilCheck, rIndex, retM, retMK, argM, Smp.cs, Smp.sv, slS, ptr, Bool.not_true, Bool.not_false])
              refine ⟨by omega, by omega, by omega, hq, ?_⟩
              refine hk _ ?_
              simp only [thenK, blockK, reduceIte]
              refine ⟨l.set q (l.getD 0 default), ⟨by simp, idOk_set (idOk_valid hv) q _ (idOk_valid hv 0 hl0)⟩, ?_⟩
              simp only [slS]
              simp -implicitDefEqProofs only [evr, ty, rPick, rIbin, rBin, wideB, eqB, strB, rUn, rConv, rFieldAddr, rIndexAddr, rLoad, rField, rLen, rMax, rMin, rSlice, rBuild, toB, asRead, asAny, bound, flatOk, flat, lay, fillS, placesOf, id, ne_eq, reduceCtorEq, if_true, if_false, reduceIte, forall_const, decide_true, decide_eq_true_eq, decide_eq_false_iff_not, Nat.reduceMul, Nat.reduceAdd, Nat.reduceLT, Nat.reduceLeDiff, Nat.reduceEqDiff, Int.reduceLT, thenK, blockK, retK, resHolds, resVR, VR.holds, ro, roArg, roPtr, roArgS, roSl, beq_self_eq_true, eq_self, implies_true, Int.reduceBEq, Int.reduceBNe, frz, frzOne, bne_self_eq_false, rNilCheck, rIndex, retM, retMK, argM, Smp.cs, Smp.sv, slS, ptr, Bool.not_true, Bool.not_false, Le, envLe, ownLe, Own.le, Option.some.injEq, eq_self, true_or, false_or, or_false, exists_eq_left', exists_eq_left, exists_eq, exists_eq', SV.i.injEq, SV.b.injEq, rdEq_same, exists_false, and_false, false_and]
              exact rdS_whole l q hq
            · refine Sat.skip ?_
              simp only [thenK, blockK, reduceIte]
              refine ⟨l, ⟨rfl, idOk_valid hv⟩, ?_⟩
              simp only [slS]
              simp -implicitDefEqProofs only [evr, ty, rPick, rIbin, rBin, wideB, eqB, strB, rUn, rConv, rFieldAddr, rIndexAddr, rLoad, rField, rLen, rMax, rMin, rSlice, rBuild, toB, asRead, asAny, bound, flatOk, flat, lay, fillS, placesOf, id, ne_eq, reduceCtorEq, if_true, if_false, reduceIte, forall_const, decide_true, decide_eq_true_eq, decide_eq_false_iff_not, Nat.reduceMul, Nat.reduceAdd, Nat.reduceLT, Nat.reduceLeDiff, Nat.reduceEqDiff, Int.reduceLT, thenK, blockK, retK, resHolds, resVR, VR.holds, ro, roArg, roPtr, roArgS, roSl, beq_self_eq_true, eq_self, implies_true, Int.reduceBEq, Int.reduceBNe, frz, frzOne, bne_self_eq_false, rNilCheck, rIndex, retM, retMK, argM, Smp.cs, Smp.sv, slS, ptr, Bool.not_true, Bool.not_false, Le, envLe, ownLe, Own.le, Option.some.injEq, eq_self, true_or, false_or, or_false, exists_eq_left', exists_eq_left, exists_eq, exists_eq', SV.i.injEq, SV.b.injEq, rdEq_same, exists_false, and_false, false_and]
              try exact rdEq_refl _ _ _
      · refine Sat.skip ?_
        simp only [thenK]
        refine ⟨l, ⟨rfl, idOk_valid hv⟩, ?_⟩
        simp only [slS]
        simp -implicitDefEqProofs only [evr, ty, rPick, rIbin, rBin, wideB, eqB, strB, rUn, rConv, rFieldAddr, rIndexAddr, rLoad, rField, rLen, rMax, rMin, rSlice, rBuild, toB, asRead, asAny, bound, flatOk, flat, lay, fillS, placesOf, id, ne_eq, reduceCtorEq, if_true, if_false, reduceIte, forall_const, decide_true, decide_eq_true_eq, decide_eq_false_iff_not, Nat.reduceMul, Nat.reduceAdd, Nat.reduceLT, Nat.reduceLeDiff, Nat.reduceEqDiff, Int.reduceLT, thenK, blockK, retK, resHolds, resVR, VR.holds, ro, roArg, roPtr, roArgS, roSl, beq_self_eq_true, eq_self, implies_true, Int.reduceBEq, Int.reduceBNe, frz, frzOne, bne_self_eq_false, rNilCheck, rIndex, retM, retMK, argM, Smp.cs, Smp.sv, slS, ptr, Bool.not_true, Bool.not_false, Le, envLe, ownLe, Own.le, Option.some.injEq, eq_self, true_or, false_or, or_false, exists_eq_left', exists_eq_left, exists_eq, exists_eq', SV.i.injEq, SV.b.injEq, rdEq_same, exists_false, and_false, false_and]
        try exact rdEq_refl _ _ _
    · rintro odd ⟨ho1, ho2⟩
      simp only [thenK, slS]
      refine Sat.settle 13 (sz := 4) (rd := rdS odd) (own' := [.frz oa l.length oc 4 (rdS odd)]) rfl (by simp -implicitDefEqProofs only [evr, ty, rPick, rIbin, rBin, wideB, eqB, strB, rUn, rConv, rFieldAddr, rIndexAddr, rLoad, rField, rLen, rMax, rMin, rSlice, rBuild, toB, asRead, asAny, bound, flatOk, flat, lay, fillS, placesOf, id, ne_eq, reduceCtorEq, if_true, if_false, reduceIte, forall_const, decide_true, decide_eq_true_eq, decide_eq_false_iff_not, Nat.reduceMul, Nat.reduceAdd, Nat.reduceLT, Nat.reduceLeDiff, Nat.reduceEqDiff, Int.reduceLT, thenK, blockK, retK, resHolds, resVR, VR.holds, ro, roArg, roPtr, roArgS, roSl, beq_self_eq_true, eq_self, implies_true, Int.reduceBEq, Int.reduceBNe, frz, frzOne, bne_self_eq_false, rNilCheck, rIndex, retM, retMK, argM, Smp.cs, Smp.sv, slS, ptr, Bool.not_true, Bool.not_false]) (by simp -implicitDefEqProofs only [evr, ty, rPick, rIbin, rBin, wideB, eqB, strB, rUn, rConv, rFieldAddr, rIndexAddr, rLoad, rField, rLen, rMax, rMin, rSlice, rBuild, toB, asRead, asAny, bound, flatOk, flat, lay, fillS, placesOf, id, ne_eq, reduceCtorEq, if_true, if_false, reduceIte, forall_const, decide_true, decide_eq_true_eq, decide_eq_false_iff_not, Nat.reduceMul, Nat.reduceAdd, Nat.reduceLT, Nat.reduceLeDiff, Nat.reduceEqDiff, Int.reduceLT, thenK, blockK, retK, resHolds, resVR, VR.holds, ro, roArg, roPtr, roArgS, roSl, beq_self_eq_true, eq_self, implies_true, Int.reduceBEq, Int.reduceBNe, frz, frzOne, bne_self_eq_false, rNilCheck, rIndex, retM, retMK, argM, Smp.cs, Smp.sv, slS, ptr, Bool.not_true, Bool.not_false]) ?_
      refine Sat.le (st' := ⟨301, [(11, ptr cb), (12, slS sa sc l), (1, slS ra rc raw), (13, slS oa oc odd), (2, .i .i64 speed), (3, .i .i64 i), (4, .i .i64 j)], []⟩) ?_ (by simp only [slS, ho1]; simp -implicitDefEqProofs only [evr, ty, rPick, rIbin, rBin, wideB, eqB, strB, rUn, rConv, rFieldAddr, rIndexAddr, rLoad, rField, rLen, rMax, rMin, rSlice, rBuild, toB, asRead, asAny, bound, flatOk, flat, lay, fillS, placesOf, id, ne_eq, reduceCtorEq, if_true, if_false, reduceIte, forall_const, decide_true, decide_eq_true_eq, decide_eq_false_iff_not, Nat.reduceMul, Nat.reduceAdd, Nat.reduceLT, Nat.reduceLeDiff, Nat.reduceEqDiff, Int.reduceLT, thenK, blockK, retK, resHolds, resVR, VR.holds, ro, roArg, roPtr, roArgS, roSl, beq_self_eq_true, eq_self, implies_true, Int.reduceBEq, Int.reduceBNe, frz, frzOne, bne_self_eq_false, rNilCheck, rIndex, retM, retMK, argM, Smp.cs, Smp.sv, slS, ptr, Bool.not_true, Bool.not_false, Le, envLe, ownLe, Own.le, Option.some.injEq, eq_self, true_or, false_or, or_false, exists_eq_left', exists_eq_left, exists_eq, exists_eq', SV.i.injEq, SV.b.injEq, rdEq_same, exists_false, and_false, false_and]; try rfl)
      simp only [slS]
      (repeat refine Sat.seq ?_)
      (refine Sat.region_k fun k hk => ?_; simp -implicitDefEqProofs only [evr, ty, rPick, rIbin, rBin, wideB, eqB, strB, rUn, rConv, rFieldAddr, rIndexAddr, rLoad, rField, rLen, rMax, rMin, rSlice, rBuild, toB, asRead, asAny, bound, flatOk, flat, lay, fillS, placesOf, id, ne_eq, reduceCtorEq, if_true, if_false, reduceIte, forall_const, decide_true, decide_eq_true_eq, decide_eq_false_iff_not, Nat.reduceMul, Nat.reduceAdd, Nat.reduceLT, Nat.reduceLeDiff, Nat.reduceEqDiff, Int.reduceLT, thenK, blockK, retK, resHolds, resVR, VR.holds, ro, roArg, roPtr, roArgS, roSl, beq_self_eq_true, eq_self, implies_true, Int.reduceBEq, Int.reduceBNe, frz, frzOne, bne_self_eq_false, rNilCheck, rIndex, retM, retMK, argM, Smp.cs, Smp.sv, slS, ptr, Bool.not_true, Bool.not_false])
      intro blk1
      (refine hk _ ?_; clear hk k; try show Sat _ _ _ _ _)
      obtain ⟨rd3, hrd3, hys⟩ : ∃ rd3, rd3 = rdL [slS sa sc l, slS ra rc raw, slS oa oc odd] 1 ∧ ∀ p, p < 3 → ∃ ad cap y, rd3 p 0 = slS ad cap y ∧ y.length ≤ 12 ∧ IdOk y := ⟨_, rfl, fun p hp => by
        rcases (show p = 0 ∨ p = 1 ∨ p = 2 by omega) with rfl | rfl | rfl
        · exact ⟨sa, sc, l, rfl, hll, idOk_valid hv⟩
        · exact ⟨ra, rc, raw, rfl, hr12, hraw⟩
        · exact ⟨oa, oc, odd, rfl, by omega, ho2⟩⟩
      simp only [slS, Smp.cs] at hrd3
      refine Sat.settle 96 (sz := 1) (rd := rd3) (own' := [.frz (some ⟨blk1, 0, none⟩) 3 3 1 rd3]) rfl (by rw [hrd3]; simp -implicitDefEqProofs only [evr, ty, rPick, rIbin, rBin, wideB, eqB, strB, rUn, rConv, rFieldAddr, rIndexAddr, rLoad, rField, rLen, rMax, rMin, rSlice, rBuild, toB, asRead, asAny, bound, flatOk, flat, lay, fillS, placesOf, id, ne_eq, reduceCtorEq, if_true, if_false, reduceIte, forall_const, decide_true, decide_eq_true_eq, decide_eq_false_iff_not, Nat.reduceMul, Nat.reduceAdd, Nat.reduceLT, Nat.reduceLeDiff, Nat.reduceEqDiff, Int.reduceLT, thenK, blockK, retK, resHolds, resVR, VR.holds, ro, roArg, roPtr, roArgS, roSl, beq_self_eq_true, eq_self, implies_true, Int.reduceBEq, Int.reduceBNe, frz, frzOne, bne_self_eq_false, rNilCheck, rIndex, retM, retMK, argM, Smp.cs, Smp.sv, slS, ptr, Bool.not_true, Bool.not_false]; try rfl) (by simp -implicitDefEqProofs only [evr, ty, rPick, rIbin, rBin, wideB, eqB, strB, rUn, rConv, rFieldAddr, rIndexAddr, rLoad, rField, rLen, rMax, rMin, rSlice, rBuild, toB, asRead, asAny, bound, flatOk, flat, lay, fillS, placesOf, id, ne_eq, reduceCtorEq, if_true, if_false, reduceIte, forall_const, decide_true, decide_eq_true_eq, decide_eq_false_iff_not, Nat.reduceMul, Nat.reduceAdd, Nat.reduceLT, Nat.reduceLeDiff, Nat.reduceEqDiff, Int.reduceLT, thenK, blockK, retK, resHolds, resVR, VR.holds, ro, roArg, roPtr, roArgS, roSl, beq_self_eq_true, eq_self, implies_true, Int.reduceBEq, Int.reduceBNe, frz, frzOne, bne_self_eq_false, rNilCheck, rIndex, retM, retMK, argM, Smp.cs, Smp.sv, slS, ptr, Bool.not_true, Bool.not_false]) ?_
      refine Sat.le (st' := ⟨301, [(98, .i .i64 0), (97, .i .i64 3), (96, .sl (some ⟨blk1, 0, none⟩) 3 3 1 rd3), (11, ptr cb), (2, .i .i64 speed), (3, .i .i64 i), (4, .i .i64 j)], []⟩) ?_ (by simp -implicitDefEqProofs only [evr, ty, rPick, rIbin, rBin, wideB, eqB, strB, rUn, rConv, rFieldAddr, rIndexAddr, rLoad, rField, rLen, rMax, rMin, rSlice, rBuild, toB, asRead, asAny, bound, flatOk, flat, lay, fillS, placesOf, id, ne_eq, reduceCtorEq, if_true, if_false, reduceIte, forall_const, decide_true, decide_eq_true_eq, decide_eq_false_iff_not, Nat.reduceMul, Nat.reduceAdd, Nat.reduceLT, Nat.reduceLeDiff, Nat.reduceEqDiff, Int.reduceLT, thenK, blockK, retK, resHolds, resVR, VR.holds, ro, roArg, roPtr, roArgS, roSl, beq_self_eq_true, eq_self, implies_true, Int.reduceBEq, Int.reduceBNe, frz, frzOne, bne_self_eq_false, rNilCheck, rIndex, retM, retMK, argM, Smp.cs, Smp.sv, slS, ptr, Bool.not_true, Bool.not_false, Le, envLe, ownLe, Own.le, Option.some.injEq, eq_self, true_or, false_or, or_false, exists_eq_left', exists_eq_left, exists_eq, exists_eq', SV.i.injEq, SV.b.injEq, rdEq_same, exists_false, and_false, false_and]; try rfl)
      refine Sat.block ?_
      refine Sat.loop (ι := Nat) (fun p => ⟨301, [(98, .i .i64 p), (97, .i .i64 3), (96, .sl (some ⟨blk1, 0, none⟩) 3 3 1 rd3), (11, ptr cb), (2, .i .i64 speed), (3, .i .i64 i), (4, .i .i64 j)], []⟩) (fun p => p ≤ 3) (fun p => 3 - p) 0 (by decide) (by simp -implicitDefEqProofs only [evr, ty, rPick, rIbin, rBin, wideB, eqB, strB, rUn, rConv, rFieldAddr, rIndexAddr, rLoad, rField, rLen, rMax, rMin, rSlice, rBuild, toB, asRead, asAny, bound, flatOk, flat, lay, fillS, placesOf, id, ne_eq, reduceCtorEq, if_true, if_false, reduceIte, forall_const, decide_true, decide_eq_true_eq, decide_eq_false_iff_not, Nat.reduceMul, Nat.reduceAdd, Nat.reduceLT, Nat.reduceLeDiff, Nat.reduceEqDiff, Int.reduceLT, thenK, blockK, retK, resHolds, resVR, VR.holds, ro, roArg, roPtr, roArgS, roSl, beq_self_eq_true, eq_self, implies_true, Int.reduceBEq, Int.reduceBNe, frz, frzOne, bne_self_eq_false, rNilCheck, rIndex, retM, retMK, argM, Smp.cs, Smp.sv, slS, ptr, Bool.not_true, Bool.not_false, Le, envLe, ownLe, Own.le, Option.some.injEq, eq_self, true_or, false_or, or_false, exists_eq_left', exists_eq_left, exists_eq, exists_eq', SV.i.injEq, SV.b.injEq, rdEq_same, exists_false, and_false, false_and]; rfl) ?_
      intro p hp
      simp only [ptr]
      (repeat refine Sat.seq ?_)
      (refine Sat.region_k fun k hk => ?_; simp -implicitDefEqProofs only [evr, ty, rPick, rIbin, rBin, wideB, eqB, strB, rUn, rConv, rFieldAddr, rIndexAddr, rLoad, rField, rLen, rMax, rMin, rSlice, rBuild, toB, asRead, asAny, bound, flatOk, flat, lay, fillS, placesOf, id, ne_eq, reduceCtorEq, if_true, if_false, reduceIte, forall_const, decide_true, decide_eq_true_eq, decide_eq_false_iff_not, Nat.reduceMul, Nat.reduceAdd, Nat.reduceLT, Nat.reduceLeDiff, Nat.reduceEqDiff, Int.reduceLT, thenK, blockK, retK, resHolds, resVR, VR.holds, ro, roArg, roPtr, roArgS, roSl, beq_self_eq_true, eq_self, implies_true, Int.reduceBEq, Int.reduceBNe, frz, frzOne, bne_self_eq_false, rNilCheck, rIndex, retM, retMK, argM, Smp.cs, Smp.sv, slS, ptr, Bool.not_true, Bool.not_false]; refine hk _ ?_; clear hk k; try show Sat _ _ _ _ _)
      (repeat refine Sat.seq ?_)
      refine Sat.cond_b rfl (fun h => ?_) (fun h => ?_)
      · simp only [decide_eq_true_eq] at h
        obtain ⟨ya, yc, y, hy, hyl, hyi⟩ := hys p (by omega)
        have hyl' : y.length ≤ 1000000 := by omega
        refine Sat.skip ?_
        simp only [thenK]
        (repeat refine Sat.seq ?_)
        refine Sat.block ?_
        (repeat refine Sat.seq ?_)
        (refine Sat.region_k fun k hk => ?_; simp -implicitDefEqProofs only [evr, ty, rPick, rIbin, rBin, wideB, eqB, strB, rUn, rConv, rFieldAddr, rIndexAddr, rLoad, rField, rLen, rMax, rMin, rSlice, rBuild, toB, asRead, asAny, bound, flatOk, flat, lay, fillS, placesOf, id, ne_eq, reduceCtorEq, if_true, if_false, reduceIte, forall_const, decide_true, decide_eq_true_eq, decide_eq_false_iff_not, Nat.reduceMul, Nat.reduceAdd, Nat.reduceLT, Nat.reduceLeDiff, Nat.reduceEqDiff, Int.reduceLT, thenK, blockK, retK, resHolds, resVR, VR.holds, ro, roArg, roPtr, roArgS, roSl, beq_self_eq_true, eq_self, implies_true, Int.reduceBEq, Int.reduceBNe, frz, frzOne, bne_self_eq_false, rNilCheck, rIndex, retM, retMK, argM, Smp.cs, Smp.sv, slS, ptr, Bool.not_true, Bool.not_false])
        refine ⟨by omega, ?_⟩
        rw [hy]
        simp only [slS]
        (refine hk _ ?_; clear hk k; try show Sat _ _ _ _ _)
        (repeat refine Sat.seq ?_)
        (refine Sat.region_k fun k hk => ?_; simp -implicitDefEqProofs only [evr, ty, rPick, rIbin, rBin, wideB, eqB, strB, rUn, rConv, rFieldAddr, rIndexAddr, rLoad, rField, rLen, rMax, rMin, rSlice, rBuild, toB, asRead, asAny, bound, flatOk, flat, lay, fillS, placesOf, id, ne_eq, reduceCtorEq, if_true, if_false, reduceIte, forall_const, decide_true, decide_eq_true_eq, decide_eq_false_iff_not, Nat.reduceMul, Nat.reduceAdd, Nat.reduceLT, Nat.reduceLeDiff, Nat.reduceEqDiff, Int.reduceLT, thenK, blockK, retK, resHolds, resVR, VR.holds, ro, roArg, roPtr, roArgS, roSl, beq_self_eq_true, eq_self, implies_true, Int.reduceBEq, Int.reduceBNe, frz, frzOne, bne_self_eq_false, rNilCheck, rIndex, retM, retMK, argM, Smp.cs, Smp.sv, slS, ptr, Bool.not_true, Bool.not_false])
        refine wcall_plain (validC (Frm.codes cb) ya yc y hyl') rfl (by rintro _ rfl; exact ok_plain rfl) ?_
        rintro r rfl
        simp -implicitDefEqProofs only [evr, ty, rPick, rIbin, rBin, wideB, eqB, strB, rUn, rConv, rFieldAddr, rIndexAddr, rLoad, rField, rLen, rMax, rMin, rSlice, rBuild, toB, asRead, asAny, bound, flatOk, flat, lay, fillS, placesOf, id, ne_eq, reduceCtorEq, if_true, if_false, reduceIte, forall_const, decide_true, decide_eq_true_eq, decide_eq_false_iff_not, Nat.reduceMul, Nat.reduceAdd, Nat.reduceLT, Nat.reduceLeDiff, Nat.reduceEqDiff, Int.reduceLT, thenK, blockK, retK, resHolds, resVR, VR.holds, ro, roArg, roPtr, roArgS, roSl, beq_self_eq_true, eq_self, implies_true, Int.reduceBEq, Int.reduceBNe, frz, frzOne, bne_self_eq_false, rNilCheck, rIndex, retM, retMK, argM, Smp.cs, Smp.sv, slS, ptr, Bool.not_true, Bool.not_false]
        refine wcall_plain (rValidC (Frm.codes cb) ya yc y hyl') rfl (by rintro _ rfl; exact ok_plain rfl) ?_
        rintro r rfl
        simp -implicitDefEqProofs only [evr, ty, rPick, rIbin, rBin, wideB, eqB, strB, rUn, rConv, rFieldAddr, rIndexAddr, rLoad, rField, rLen, rMax, rMin, rSlice, rBuild, toB, asRead, asAny, bound, flatOk, flat, lay, fillS, placesOf, id, ne_eq, reduceCtorEq, if_true, if_false, reduceIte, forall_const, decide_true, decide_eq_true_eq, decide_eq_false_iff_not, Nat.reduceMul, Nat.reduceAdd, Nat.reduceLT, Nat.reduceLeDiff, Nat.reduceEqDiff, Int.reduceLT, thenK, blockK, retK, resHolds, resVR, VR.holds, ro, roArg, roPtr, roArgS, roSl, beq_self_eq_true, eq_self, implies_true, Int.reduceBEq, Int.reduceBNe, frz, frzOne, bne_self_eq_false, rNilCheck, rIndex, retM, retMK, argM, Smp.cs, Smp.sv, slS, ptr, Bool.not_true, Bool.not_false]
        (refine hk _ ?_; clear hk k; try show Sat _ _ _ _ _)
        refine Sat.cond_b rfl (fun h => absurd h (by decide)) (fun _ => ?_)
        refine Sat.skip ?_
        simp only [thenK]
        (repeat refine Sat.seq ?_)
        (refine Sat.region_k fun k hk => ?_; simp -implicitDefEqProofs only [evr, ty, rPick, rIbin, rBin, wideB, eqB, strB, rUn, rConv, rFieldAddr, rIndexAddr, rLoad, rField, rLen, rMax, rMin, rSlice, rBuild, toB, asRead, asAny, bound, flatOk, flat, lay, fillS, placesOf, id, ne_eq, reduceCtorEq, if_true, if_false, reduceIte, forall_const, decide_true, decide_eq_true_eq, decide_eq_false_iff_not, Nat.reduceMul, Nat.reduceAdd, Nat.reduceLT, Nat.reduceLeDiff, Nat.reduceEqDiff, Int.reduceLT, thenK, blockK, retK, resHolds, resVR, VR.holds, ro, roArg, roPtr, roArgS, roSl, beq_self_eq_true, eq_self, implies_true, Int.reduceBEq, Int.reduceBNe, frz, frzOne, bne_self_eq_false, rNilCheck, rIndex, retM, retMK, argM, Smp.cs, Smp.sv, slS, ptr, Bool.not_true, Bool.not_false])
        intro blk2
        refine wcall_plain (pickI cb blk2 [1, 1000, 100000, 1000000] (fun _ => True) (by decide) (by decide) (by simp)) (by simp -implicitDefEqProofs only [evr, ty, rPick, rIbin, rBin, wideB, eqB, strB, rUn, rConv, rFieldAddr, rIndexAddr, rLoad, rField, rLen, rMax, rMin, rSlice, rBuild, toB, asRead, asAny, bound, flatOk, flat, lay, fillS, placesOf, id, ne_eq, reduceCtorEq, if_true, if_false, reduceIte, forall_const, decide_true, decide_eq_true_eq, decide_eq_false_iff_not, Nat.reduceMul, Nat.reduceAdd, Nat.reduceLT, Nat.reduceLeDiff, Nat.reduceEqDiff, Int.reduceLT, thenK, blockK, retK, resHolds, resVR, VR.holds, ro, roArg, roPtr, roArgS, roSl, beq_self_eq_true, eq_self, implies_true, Int.reduceBEq, Int.reduceBNe, frz, frzOne, bne_self_eq_false, rNilCheck, rIndex, retM, retMK, argM, Smp.cs, Smp.sv, slS, ptr, Bool.not_true, Bool.not_false]) plain_pick ?_
        rintro r ⟨v1, rfl, _⟩
        simp -implicitDefEqProofs only [evr, ty, rPick, rIbin, rBin, wideB, eqB, strB, rUn, rConv, rFieldAddr, rIndexAddr, rLoad, rField, rLen, rMax, rMin, rSlice, rBuild, toB, asRead, asAny, bound, flatOk, flat, lay, fillS, placesOf, id, ne_eq, reduceCtorEq, if_true, if_false, reduceIte, forall_const, decide_true, decide_eq_true_eq, decide_eq_false_iff_not, Nat.reduceMul, Nat.reduceAdd, Nat.reduceLT, Nat.reduceLeDiff, Nat.reduceEqDiff, Int.reduceLT, thenK, blockK, retK, resHolds, resVR, VR.holds, ro, roArg, roPtr, roArgS, roSl, beq_self_eq_true, eq_self, implies_true, Int.reduceBEq, Int.reduceBNe, frz, frzOne, bne_self_eq_false, rNilCheck, rIndex, retM, retMK, argM, Smp.cs, Smp.sv, slS, ptr, Bool.not_true, Bool.not_false]
        intro blk3
        refine wcall_plain (pickI cb blk3 [0, 1073741824, 1073741825] (fun _ => True) (by decide) (by decide) (by simp)) (by simp -implicitDefEqProofs only [evr, ty, rPick, rIbin, rBin, wideB, eqB, strB, rUn, rConv, rFieldAddr, rIndexAddr, rLoad, rField, rLen, rMax, rMin, rSlice, rBuild, toB, asRead, asAny, bound, flatOk, flat, lay, fillS, placesOf, id, ne_eq, reduceCtorEq, if_true, if_false, reduceIte, forall_const, decide_true, decide_eq_true_eq, decide_eq_false_iff_not, Nat.reduceMul, Nat.reduceAdd, Nat.reduceLT, Nat.reduceLeDiff, Nat.reduceEqDiff, Int.reduceLT, thenK, blockK, retK, resHolds, resVR, VR.holds, ro, roArg, roPtr, roArgS, roSl, beq_self_eq_true, eq_self, implies_true, Int.reduceBEq, Int.reduceBNe, frz, frzOne, bne_self_eq_false, rNilCheck, rIndex, retM, retMK, argM, Smp.cs, Smp.sv, slS, ptr, Bool.not_true, Bool.not_false]) plain_pick ?_
        rintro r ⟨v2, rfl, _⟩
        simp -implicitDefEqProofs only [evr, ty, rPick, rIbin, rBin, wideB, eqB, strB, rUn, rConv, rFieldAddr, rIndexAddr, rLoad, rField, rLen, rMax, rMin, rSlice, rBuild, toB, asRead, asAny, bound, flatOk, flat, lay, fillS, placesOf, id, ne_eq, reduceCtorEq, if_true, if_false, reduceIte, forall_const, decide_true, decide_eq_true_eq, decide_eq_false_iff_not, Nat.reduceMul, Nat.reduceAdd, Nat.reduceLT, Nat.reduceLeDiff, Nat.reduceEqDiff, Int.reduceLT, thenK, blockK, retK, resHolds, resVR, VR.holds, ro, roArg, roPtr, roArgS, roSl, beq_self_eq_true, eq_self, implies_true, Int.reduceBEq, Int.reduceBNe, frz, frzOne, bne_self_eq_false, rNilCheck, rIndex, retM, retMK, argM, Smp.cs, Smp.sv, slS, ptr, Bool.not_true, Bool.not_false]
        intro blk4
        (refine hk _ ?_; clear hk k; try show Sat _ _ _ _ _)
        refine Sat.settle2 114 rfl rfl ?_
        obtain ⟨rdv, hrdv, hvs⟩ : ∃ rdv, rdv = rdL [.i .i64 speed, .i .i64 v1, .i .i64 v2] 1 ∧ ∀ p, p < 3 → ∃ v : Int, rdv p 0 = .i .i64 v := ⟨_, rfl, fun p hp => by
          rcases (show p = 0 ∨ p = 1 ∨ p = 2 by omega) with rfl | rfl | rfl <;> exact ⟨_, rfl⟩⟩
        rw [← hrdv]
        refine Sat.le (st' := ⟨301, [(116, .i .i64 0), (115, .i .i64 3), (114, .sl (some ⟨blk4, 0, none⟩) 3 3 1 rdv), (98, .i .i64 p), (97, .i .i64 3), (96, .sl (some ⟨blk1, 0, none⟩) 3 3 1 rd3), (16, slS ya yc y), (11, ptr cb), (2, .i .i64 speed), (3, .i .i64 i), (4, .i .i64 j)], []⟩) ?_ (by simp -implicitDefEqProofs only [evr, ty, rPick, rIbin, rBin, wideB, eqB, strB, rUn, rConv, rFieldAddr, rIndexAddr, rLoad, rField, rLen, rMax, rMin, rSlice, rBuild, toB, asRead, asAny, bound, flatOk, flat, lay, fillS, placesOf, id, ne_eq, reduceCtorEq, if_true, if_false, reduceIte, forall_const, decide_true, decide_eq_true_eq, decide_eq_false_iff_not, Nat.reduceMul, Nat.reduceAdd, Nat.reduceLT, Nat.reduceLeDiff, Nat.reduceEqDiff, Int.reduceLT, thenK, blockK, retK, resHolds, resVR, VR.holds, ro, roArg, roPtr, roArgS, roSl, beq_self_eq_true, eq_self, implies_true, Int.reduceBEq, Int.reduceBNe, frz, frzOne, bne_self_eq_false, rNilCheck, rIndex, retM, retMK, argM, Smp.cs, Smp.sv, slS, ptr, Bool.not_true, Bool.not_false, Le, envLe, ownLe, Own.le, Option.some.injEq, eq_self, true_or, false_or, or_false, exists_eq_left', exists_eq_left, exists_eq, exists_eq', SV.i.injEq, SV.b.injEq, rdEq_same, exists_false, and_false, false_and]; try rfl)
        refine Sat.block ?_
        refine Sat.loop (ι := Nat) (fun q => ⟨301, [(116, .i .i64 q), (115, .i .i64 3), (114, .sl (some ⟨blk4, 0, none⟩) 3 3 1 rdv), (98, .i .i64 p), (97, .i .i64 3), (96, .sl (some ⟨blk1, 0, none⟩) 3 3 1 rd3), (16, slS ya yc y), (11, ptr cb), (2, .i .i64 speed), (3, .i .i64 i), (4, .i .i64 j)], []⟩) (fun q => q ≤ 3) (fun q => 3 - q) 0 (by decide) (by simp -implicitDefEqProofs only [evr, ty, rPick, rIbin, rBin, wideB, eqB, strB, rUn, rConv, rFieldAddr, rIndexAddr, rLoad, rField, rLen, rMax, rMin, rSlice, rBuild, toB, asRead, asAny, bound, flatOk, flat, lay, fillS, placesOf, id, ne_eq, reduceCtorEq, if_true, if_false, reduceIte, forall_const, decide_true, decide_eq_true_eq, decide_eq_false_iff_not, Nat.reduceMul, Nat.reduceAdd, Nat.reduceLT, Nat.reduceLeDiff, Nat.reduceEqDiff, Int.reduceLT, thenK, blockK, retK, resHolds, resVR, VR.holds, ro, roArg, roPtr, roArgS, roSl, beq_self_eq_true, eq_self, implies_true, Int.reduceBEq, Int.reduceBNe, frz, frzOne, bne_self_eq_false, rNilCheck, rIndex, retM, retMK, argM, Smp.cs, Smp.sv, slS, ptr, Bool.not_true, Bool.not_false, Le, envLe, ownLe, Own.le, Option.some.injEq, eq_self, true_or, false_or, or_false, exists_eq_left', exists_eq_left, exists_eq, exists_eq', SV.i.injEq, SV.b.injEq, rdEq_same, exists_false, and_false, false_and]; try rfl) ?_
        intro q hq
        simp only [ptr]
        (repeat refine Sat.seq ?_)
        (refine Sat.region_k fun k hk => ?_; simp -implicitDefEqProofs only [evr, ty, rPick, rIbin, rBin, wideB, eqB, strB, rUn, rConv, rFieldAddr, rIndexAddr, rLoad, rField, rLen, rMax, rMin, rSlice, rBuild, toB, asRead, asAny, bound, flatOk, flat, lay, fillS, placesOf, id, ne_eq, reduceCtorEq, if_true, if_false, reduceIte, forall_const, decide_true, decide_eq_true_eq, decide_eq_false_iff_not, Nat.reduceMul, Nat.reduceAdd, Nat.reduceLT, Nat.reduceLeDiff, Nat.reduceEqDiff, Int.reduceLT, thenK, blockK, retK, resHolds, resVR, VR.holds, ro, roArg, roPtr, roArgS, roSl, beq_self_eq_true, eq_self, implies_true, Int.reduceBEq, Int.reduceBNe, frz, frzOne, bne_self_eq_false, rNilCheck, rIndex, retM, retMK, argM, Smp.cs, Smp.sv, slS, ptr, Bool.not_true, Bool.not_false]; refine hk _ ?_; clear hk k; try show Sat _ _ _ _ _)
        (repeat refine Sat.seq ?_)
        refine Sat.cond_b rfl (fun h5 => ?_) (fun h5 => ?_)
        · simp only [decide_eq_true_eq] at h5
          obtain ⟨v, hv3⟩ := hvs q (by omega)
          refine Sat.skip ?_
          simp only [thenK]
          (repeat refine Sat.seq ?_)
          refine Sat.block ?_
          (repeat refine Sat.seq ?_)
          (refine Sat.region_k fun k hk => ?_; simp -implicitDefEqProofs only [evr, ty, rPick, rIbin, rBin, wideB, eqB, strB, rUn, rConv, rFieldAddr, rIndexAddr, rLoad, rField, rLen, rMax, rMin, rSlice, rBuild, toB, asRead, asAny, bound, flatOk, flat, lay, fillS, placesOf, id, ne_eq, reduceCtorEq, if_true, if_false, reduceIte, forall_const, decide_true, decide_eq_true_eq, decide_eq_false_iff_not, Nat.reduceMul, Nat.reduceAdd, Nat.reduceLT, Nat.reduceLeDiff, Nat.reduceEqDiff, Int.reduceLT, thenK, blockK, retK, resHolds, resVR, VR.holds, ro, roArg, roPtr, roArgS, roSl, beq_self_eq_true, eq_self, implies_true, Int.reduceBEq, Int.reduceBNe, frz, frzOne, bne_self_eq_false, rNilCheck, rIndex, retM, retMK, argM, Smp.cs, Smp.sv, slS, ptr, Bool.not_true, Bool.not_false])
          refine ⟨by omega, ?_⟩
          rw [hv3]
          (refine hk _ ?_; clear hk k; try show Sat _ _ _ _ _)
          simp only [slS]
          (repeat refine Sat.seq ?_)
          (refine Sat.region_k fun k hk => ?_; simp -implicitDefEqProofs only [evr, ty, rPick, rIbin, rBin, wideB, eqB, strB, rUn, rConv, rFieldAddr, rIndexAddr, rLoad, rField, rLen, rMax, rMin, rSlice, rBuild, toB, asRead, asAny, bound, flatOk, flat, lay, fillS, placesOf, id, ne_eq, reduceCtorEq, if_true, if_false, reduceIte, forall_const, decide_true, decide_eq_true_eq, decide_eq_false_iff_not, Nat.reduceMul, Nat.reduceAdd, Nat.reduceLT, Nat.reduceLeDiff, Nat.reduceEqDiff, Int.reduceLT, thenK, blockK, retK, resHolds, resVR, VR.holds, ro, roArg, roPtr, roArgS, roSl, beq_self_eq_true, eq_self, implies_true, Int.reduceBEq, Int.reduceBNe, frz, frzOne, bne_self_eq_false, rNilCheck, rIndex, retM, retMK, argM, Smp.cs, Smp.sv, slS, ptr, Bool.not_true, Bool.not_false])
          refine wcall_slice (earliestC (Frm.codes cb) ya yc y v hyl') rfl rfl ?_
          intro r hr1
          obtain ⟨xa, xn, xc, xs, xrd, xk, rfl⟩ := earl_form hr1
          simp -implicitDefEqProofs only [evr, ty, rPick, rIbin, rBin, wideB, eqB, strB, rUn, rConv, rFieldAddr, rIndexAddr, rLoad, rField, rLen, rMax, rMin, rSlice, rBuild, toB, asRead, asAny, bound, flatOk, flat, lay, fillS, placesOf, id, ne_eq, reduceCtorEq, if_true, if_false, reduceIte, forall_const, decide_true, decide_eq_true_eq, decide_eq_false_iff_not, Nat.reduceMul, Nat.reduceAdd, Nat.reduceLT, Nat.reduceLeDiff, Nat.reduceEqDiff, Int.reduceLT, thenK, blockK, retK, resHolds, resVR, VR.holds, ro, roArg, roPtr, roArgS, roSl, beq_self_eq_true, eq_self, implies_true, Int.reduceBEq, Int.reduceBNe, frz, frzOne, bne_self_eq_false, rNilCheck, rIndex, retM, retMK, argM, Smp.cs, Smp.sv, slS, ptr, Bool.not_true, Bool.not_false]
          (refine hk _ ?_; clear hk k; try show Sat _ _ _ _ _)
          (repeat refine Sat.seq ?_)
          (refine Sat.region_k fun k hk => ?_; simp -implicitDefEqProofs only [evr, ty, rPick, rIbin, rBin, wideB, eqB, strB, rUn, rConv, rFieldAddr, rIndexAddr, rLoad, rField, rLen, rMax, rMin, rSlice, rBuild, toB, asRead, asAny, bound, flatOk, flat, lay, fillS, placesOf, id, ne_eq, reduceCtorEq, if_true, if_false, reduceIte, forall_const, decide_true, decide_eq_true_eq, decide_eq_false_iff_not, Nat.reduceMul, Nat.reduceAdd, Nat.reduceLT, Nat.reduceLeDiff, Nat.reduceEqDiff, Int.reduceLT, thenK, blockK, retK, resHolds, resVR, VR.holds, ro, roArg, roPtr, roArgS, roSl, beq_self_eq_true, eq_self, implies_true, Int.reduceBEq, Int.reduceBNe, frz, frzOne, bne_self_eq_false, rNilCheck, rIndex, retM, retMK, argM, Smp.cs, Smp.sv, slS, ptr, Bool.not_true, Bool.not_false])
          refine wcall_slice (rEarliestC (Frm.codes cb) ya yc y v hyl') rfl rfl ?_
          intro r hr2
          obtain ⟨xa', xn', xc', xs', xrd', xk', rfl⟩ := earl_form hr2
          obtain ⟨rfl, rfl, hxn, hxs, hxr⟩ := earl_two hr1 hr2
          simp -implicitDefEqProofs only [evr, ty, rPick, rIbin, rBin, wideB, eqB, strB, rUn, rConv, rFieldAddr, rIndexAddr, rLoad, rField, rLen, rMax, rMin, rSlice, rBuild, toB, asRead, asAny, bound, flatOk, flat, lay, fillS, placesOf, id, ne_eq, reduceCtorEq, if_true, if_false, reduceIte, forall_const, decide_true, decide_eq_true_eq, decide_eq_false_iff_not, Nat.reduceMul, Nat.reduceAdd, Nat.reduceLT, Nat.reduceLeDiff, Nat.reduceEqDiff, Int.reduceLT, thenK, blockK, retK, resHolds, resVR, VR.holds, ro, roArg, roPtr, roArgS, roSl, beq_self_eq_true, eq_self, implies_true, Int.reduceBEq, Int.reduceBNe, frz, frzOne, bne_self_eq_false, rNilCheck, rIndex, retM, retMK, argM, Smp.cs, Smp.sv, slS, ptr, Bool.not_true, Bool.not_false]
          (refine hk _ ?_; clear hk k; try show Sat _ _ _ _ _)
          (repeat refine Sat.seq ?_)
          (refine Sat.region_k fun k hk => ?_; simp -implicitDefEqProofs only [evr, ty, rPick, rIbin, rBin, wideB, eqB, strB, rUn, rConv, rFieldAddr, rIndexAddr, rLoad, rField, rLen, rMax, rMin, rSlice, rBuild, toB, asRead, asAny, bound, flatOk, flat, lay, fillS, placesOf, id, ne_eq, reduceCtorEq, if_true, if_false, reduceIte, forall_const, decide_true, decide_eq_true_eq, decide_eq_false_iff_not, Nat.reduceMul, Nat.reduceAdd, Nat.reduceLT, Nat.reduceLeDiff, Nat.reduceEqDiff, Int.reduceLT, thenK, blockK, retK, resHolds, resVR, VR.holds, ro, roArg, roPtr, roArgS, roSl, beq_self_eq_true, eq_self, implies_true, Int.reduceBEq, Int.reduceBNe, frz, frzOne, bne_self_eq_false, rNilCheck, rIndex, retM, retMK, argM, Smp.cs, Smp.sv, slS, ptr, Bool.not_true, Bool.not_false])
          refine wcall_plain (refuteC (Frm.codes cb) ya yc y v hyl') rfl (by rintro r (⟨_, i, j, _, _, _, _, _, rfl⟩ | ⟨_, rfl⟩) <;> exact ok_tupL rfl) ?_
          intro r hr3
          obtain ⟨u1, u2, u3, rfl⟩ := ref_form hr3
          simp -implicitDefEqProofs only [evr, ty, rPick, rIbin, rBin, wideB, eqB, strB, rUn, rConv, rFieldAddr, rIndexAddr, rLoad, rField, rLen, rMax, rMin, rSlice, rBuild, toB, asRead, asAny, bound, flatOk, flat, lay, fillS, placesOf, id, ne_eq, reduceCtorEq, if_true, if_false, reduceIte, forall_const, decide_true, decide_eq_true_eq, decide_eq_false_iff_not, Nat.reduceMul, Nat.reduceAdd, Nat.reduceLT, Nat.reduceLeDiff, Nat.reduceEqDiff, Int.reduceLT, thenK, blockK, retK, resHolds, resVR, VR.holds, ro, roArg, roPtr, roArgS, roSl, beq_self_eq_true, eq_self, implies_true, Int.reduceBEq, Int.reduceBNe, frz, frzOne, bne_self_eq_false, rNilCheck, rIndex, retM, retMK, argM, Smp.cs, Smp.sv, slS, ptr, Bool.not_true, Bool.not_false]
          (refine hk _ ?_; clear hk k; try show Sat _ _ _ _ _)
          (repeat refine Sat.seq ?_)
          (refine Sat.region_k fun k hk => ?_; simp -implicitDefEqProofs only [evr, ty, rPick, rIbin, rBin, wideB, eqB, strB, rUn, rConv, rFieldAddr, rIndexAddr, rLoad, rField, rLen, rMax, rMin, rSlice, rBuild, toB, asRead, asAny, bound, flatOk, flat, lay, fillS, placesOf, id, ne_eq, reduceCtorEq, if_true, if_false, reduceIte, forall_const, decide_true, decide_eq_true_eq, decide_eq_false_iff_not, Nat.reduceMul, Nat.reduceAdd, Nat.reduceLT, Nat.reduceLeDiff, Nat.reduceEqDiff, Int.reduceLT, thenK, blockK, retK, resHolds, resVR, VR.holds, ro, roArg, roPtr, roArgS, roSl, beq_self_eq_true, eq_self, implies_true, Int.reduceBEq, Int.reduceBNe, frz, frzOne, bne_self_eq_false, rNilCheck, rIndex, retM, retMK, argM, Smp.cs, Smp.sv, slS, ptr, Bool.not_true, Bool.not_false])
          refine wcall_plain (rRefuteC (Frm.codes cb) ya yc y v hyl') rfl (by rintro r (⟨_, i, j, _, _, _, _, _, rfl⟩ | ⟨_, rfl⟩) <;> exact ok_tupL rfl) ?_
          intro r hr4
          obtain rfl := ref_two hr3 hr4
          simp -implicitDefEqProofs only [evr, ty, rPick, rIbin, rBin, wideB, eqB, strB, rUn, rConv, rFieldAddr, rIndexAddr, rLoad, rField, rLen, rMax, rMin, rSlice, rBuild, toB, asRead, asAny, bound, flatOk, flat, lay, fillS, placesOf, id, ne_eq, reduceCtorEq, if_true, if_false, reduceIte, forall_const, decide_true, decide_eq_true_eq, decide_eq_false_iff_not, Nat.reduceMul, Nat.reduceAdd, Nat.reduceLT, Nat.reduceLeDiff, Nat.reduceEqDiff, Int.reduceLT, thenK, blockK, retK, resHolds, resVR, VR.holds, ro, roArg, roPtr, roArgS, roSl, beq_self_eq_true, eq_self, implies_true, Int.reduceBEq, Int.reduceBNe, frz, frzOne, bne_self_eq_false, rNilCheck, rIndex, retM, retMK, argM, Smp.cs, Smp.sv, slS, ptr, Bool.not_true, Bool.not_false]
          (refine hk _ ?_; clear hk k; try show Sat _ _ _ _ _)
          (repeat refine Sat.seq ?_)
          refine Sat.region_k fun k hk => ?_
          simp only [List.append_eq, List.cons_append, List.nil_append]
          simp -implicitDefEqProofs only [evr, ty, rPick, rIbin, rBin, wideB, eqB, strB, rUn, rConv, rFieldAddr, rIndexAddr, rLoad, rField, rLen, rMax, rMin, rSlice, rBuild, toB, asRead, asAny, bound, flatOk, flat, lay, fillS, placesOf, id, ne_eq, reduceCtorEq, if_true, if_false, reduceIte, forall_const, decide_true, decide_eq_true_eq, decide_eq_false_iff_not, Nat.reduceMul, Nat.reduceAdd, Nat.reduceLT, Nat.reduceLeDiff, Nat.reduceEqDiff, Int.reduceLT, thenK, blockK, retK, resHolds, resVR, VR.holds, ro, roArg, roPtr, roArgS, roSl, beq_self_eq_true, eq_self, implies_true, Int.reduceBEq, Int.reduceBNe, frz, frzOne, bne_self_eq_false, rNilCheck, rIndex, retM, retMK, argM, Smp.cs, Smp.sv, slS, ptr, Bool.not_true, Bool.not_false]
          refine wcall_plain (rIntsC (Frm.codes cb) xa xa' xc xc' xn xs xs' xrd xrd' (by omega) hxs hxr) rfl (by rintro _ rfl; exact ok_plain rfl) ?_
          rintro r rfl
          simp -implicitDefEqProofs only [evr, ty, rPick, rIbin, rBin, wideB, eqB, strB, rUn, rConv, rFieldAddr, rIndexAddr, rLoad, rField, rLen, rMax, rMin, rSlice, rBuild, toB, asRead, asAny, bound, flatOk, flat, lay, fillS, placesOf, id, ne_eq, reduceCtorEq, if_true, if_false, reduceIte, forall_const, decide_true, decide_eq_true_eq, decide_eq_false_iff_not, Nat.reduceMul, Nat.reduceAdd, Nat.reduceLT, Nat.reduceLeDiff, Nat.reduceEqDiff, Int.reduceLT, thenK, blockK, retK, resHolds, resVR, VR.holds, ro, roArg, roPtr, roArgS, roSl, beq_self_eq_true, eq_self, implies_true, Int.reduceBEq, Int.reduceBNe, frz, frzOne, bne_self_eq_false, rNilCheck, rIndex, retM, retMK, argM, Smp.cs, Smp.sv, slS, ptr, Bool.not_true, Bool.not_false]
          refine wcall_plain (fitsC (Frm.codes cb) ya yc y v hyl') rfl (by rintro _ rfl; exact ok_plain rfl) ?_
          rintro r rfl
          simp -implicitDefEqProofs only [evr, ty, rPick, rIbin, rBin, wideB, eqB, strB, rUn, rConv, rFieldAddr, rIndexAddr, rLoad, rField, rLen, rMax, rMin, rSlice, rBuild, toB, asRead, asAny, bound, flatOk, flat, lay, fillS, placesOf, id, ne_eq, reduceCtorEq, if_true, if_false, reduceIte, forall_const, decide_true, decide_eq_true_eq, decide_eq_false_iff_not, Nat.reduceMul, Nat.reduceAdd, Nat.reduceLT, Nat.reduceLeDiff, Nat.reduceEqDiff, Int.reduceLT, thenK, blockK, retK, resHolds, resVR, VR.holds, ro, roArg, roPtr, roArgS, roSl, beq_self_eq_true, eq_self, implies_true, Int.reduceBEq, Int.reduceBNe, frz, frzOne, bne_self_eq_false, rNilCheck, rIndex, retM, retMK, argM, Smp.cs, Smp.sv, slS, ptr, Bool.not_true, Bool.not_false]
          refine wcall_plain (rFitsC (Frm.codes cb) ya yc y v hyl') rfl (by rintro _ rfl; exact ok_plain rfl) ?_
          rintro r rfl
          simp -implicitDefEqProofs only [evr, ty, rPick, rIbin, rBin, wideB, eqB, strB, rUn, rConv, rFieldAddr, rIndexAddr, rLoad, rField, rLen, rMax, rMin, rSlice, rBuild, toB, asRead, asAny, bound, flatOk, flat, lay, fillS, placesOf, id, ne_eq, reduceCtorEq, if_true, if_false, reduceIte, forall_const, decide_true, decide_eq_true_eq, decide_eq_false_iff_not, Nat.reduceMul, Nat.reduceAdd, Nat.reduceLT, Nat.reduceLeDiff, Nat.reduceEqDiff, Int.reduceLT, thenK, blockK, retK, resHolds, resVR, VR.holds, ro, roArg, roPtr, roArgS, roSl, beq_self_eq_true, eq_self, implies_true, Int.reduceBEq, Int.reduceBNe, frz, frzOne, bne_self_eq_false, rNilCheck, rIndex, retM, retMK, argM, Smp.cs, Smp.sv, slS, ptr, Bool.not_true, Bool.not_false]
          refine wcall_plain (checkC (Frm.codes cb) ya yc y v i j hyl') rfl (by rintro _ rfl; exact ok_plain rfl) ?_
          rintro r rfl
          simp -implicitDefEqProofs only [evr, ty, rPick, rIbin, rBin, wideB, eqB, strB, rUn, rConv, rFieldAddr, rIndexAddr, rLoad, rField, rLen, rMax, rMin, rSlice, rBuild, toB, asRead, asAny, bound, flatOk, flat, lay, fillS, placesOf, id, ne_eq, reduceCtorEq, if_true, if_false, reduceIte, forall_const, decide_true, decide_eq_true_eq, decide_eq_false_iff_not, Nat.reduceMul, Nat.reduceAdd, Nat.reduceLT, Nat.reduceLeDiff, Nat.reduceEqDiff, Int.reduceLT, thenK, blockK, retK, resHolds, resVR, VR.holds, ro, roArg, roPtr, roArgS, roSl, beq_self_eq_true, eq_self, implies_true, Int.reduceBEq, Int.reduceBNe, frz, frzOne, bne_self_eq_false, rNilCheck, rIndex, retM, retMK, argM, Smp.cs, Smp.sv, slS, ptr, Bool.not_true, Bool.not_false]
          refine wcall_plain (rCheckC (Frm.codes cb) ya yc y v i j hyl') rfl (by rintro _ rfl; exact ok_plain rfl) ?_
          rintro r rfl
          simp -implicitDefEqProofs only [evr, ty, rPick, rIbin, rBin, wideB, eqB, strB, rUn, rConv, rFieldAddr, rIndexAddr, rLoad, rField, rLen, rMax, rMin, rSlice, rBuild, toB, asRead, asAny, bound, flatOk, flat, lay, fillS, placesOf, id, ne_eq, reduceCtorEq, if_true, if_false, reduceIte, forall_const, decide_true, decide_eq_true_eq, decide_eq_false_iff_not, Nat.reduceMul, Nat.reduceAdd, Nat.reduceLT, Nat.reduceLeDiff, Nat.reduceEqDiff, Int.reduceLT, thenK, blockK, retK, resHolds, resVR, VR.holds, ro, roArg, roPtr, roArgS, roSl, beq_self_eq_true, eq_self, implies_true, Int.reduceBEq, Int.reduceBNe, frz, frzOne, bne_self_eq_false, rNilCheck, rIndex, retM, retMK, argM, Smp.cs, Smp.sv, slS, ptr, Bool.not_true, Bool.not_false]
          refine wcall_plain (checkC (Frm.codes cb) ya yc y v u1 u2 hyl') rfl (by rintro _ rfl; exact ok_plain rfl) ?_
          rintro r rfl
          simp -implicitDefEqProofs only [evr, ty, rPick, rIbin, rBin, wideB, eqB, strB, rUn, rConv, rFieldAddr, rIndexAddr, rLoad, rField, rLen, rMax, rMin, rSlice, rBuild, toB, asRead, asAny, bound, flatOk, flat, lay, fillS, placesOf, id, ne_eq, reduceCtorEq, if_true, if_false, reduceIte, forall_const, decide_true, decide_eq_true_eq, decide_eq_false_iff_not, Nat.reduceMul, Nat.reduceAdd, Nat.reduceLT, Nat.reduceLeDiff, Nat.reduceEqDiff, Int.reduceLT, thenK, blockK, retK, resHolds, resVR, VR.holds, ro, roArg, roPtr, roArgS, roSl, beq_self_eq_true, eq_self, implies_true, Int.reduceBEq, Int.reduceBNe, frz, frzOne, bne_self_eq_false, rNilCheck, rIndex, retM, retMK, argM, Smp.cs, Smp.sv, slS, ptr, Bool.not_true, Bool.not_false]
          refine wcall_plain (rCheckC (Frm.codes cb) ya yc y v u1 u2 hyl') rfl (by rintro _ rfl; exact ok_plain rfl) ?_
          rintro r rfl
          simp -implicitDefEqProofs only [evr, ty, rPick, rIbin, rBin, wideB, eqB, strB, rUn, rConv, rFieldAddr, rIndexAddr, rLoad, rField, rLen, rMax, rMin, rSlice, rBuild, toB, asRead, asAny, bound, flatOk, flat, lay, fillS, placesOf, id, ne_eq, reduceCtorEq, if_true, if_false, reduceIte, forall_const, decide_true, decide_eq_true_eq, decide_eq_false_iff_not, Nat.reduceMul, Nat.reduceAdd, Nat.reduceLT, Nat.reduceLeDiff, Nat.reduceEqDiff, Int.reduceLT, thenK, blockK, retK, resHolds, resVR, VR.holds, ro, roArg, roPtr, roArgS, roSl, beq_self_eq_true, eq_self, implies_true, Int.reduceBEq, Int.reduceBNe, frz, frzOne, bne_self_eq_false, rNilCheck, rIndex, retM, retMK, argM, Smp.cs, Smp.sv, slS, ptr, Bool.not_true, Bool.not_false]
          refine wcall_plain (checkC (Frm.codes cb) ya yc y v 0 _ hyl') rfl (by rintro _ rfl; exact ok_plain rfl) ?_
          rintro r rfl
          simp -implicitDefEqProofs only [evr, ty, rPick, rIbin, rBin, wideB, eqB, strB, rUn, rConv, rFieldAddr, rIndexAddr, rLoad, rField, rLen, rMax, rMin, rSlice, rBuild, toB, asRead, asAny, bound, flatOk, flat, lay, fillS, placesOf, id, ne_eq, reduceCtorEq, if_true, if_false, reduceIte, forall_const, decide_true, decide_eq_true_eq, decide_eq_false_iff_not, Nat.reduceMul, Nat.reduceAdd, Nat.reduceLT, Nat.reduceLeDiff, Nat.reduceEqDiff, Int.reduceLT, thenK, blockK, retK, resHolds, resVR, VR.holds, ro, roArg, roPtr, roArgS, roSl, beq_self_eq_true, eq_self, implies_true, Int.reduceBEq, Int.reduceBNe, frz, frzOne, bne_self_eq_false, rNilCheck, rIndex, retM, retMK, argM, Smp.cs, Smp.sv, slS, ptr, Bool.not_true, Bool.not_false]
          refine wcall_plain (rCheckC (Frm.codes cb) ya yc y v 0 _ hyl') rfl (by rintro _ rfl; exact ok_plain rfl) ?_
          rintro r rfl
          simp -implicitDefEqProofs only [evr, ty, rPick, rIbin, rBin, wideB, eqB, strB, rUn, rConv, rFieldAddr, rIndexAddr, rLoad, rField, rLen, rMax, rMin, rSlice, rBuild, toB, asRead, asAny, bound, flatOk, flat, lay, fillS, placesOf, id, ne_eq, reduceCtorEq, if_true, if_false, reduceIte, forall_const, decide_true, decide_eq_true_eq, decide_eq_false_iff_not, Nat.reduceMul, Nat.reduceAdd, Nat.reduceLT, Nat.reduceLeDiff, Nat.reduceEqDiff, Int.reduceLT, thenK, blockK, retK, resHolds, resVR, VR.holds, ro, roArg, roPtr, roArgS, roSl, beq_self_eq_true, eq_self, implies_true, Int.reduceBEq, Int.reduceBNe, frz, frzOne, bne_self_eq_false, rNilCheck, rIndex, retM, retMK, argM, Smp.cs, Smp.sv, slS, ptr, Bool.not_true, Bool.not_false]
          (refine hk _ ?_; clear hk k; try show Sat _ _ _ _ _)
          (repeat refine Sat.seq ?_)
          refine Sat.cond_b rfl (fun h => absurd h (by decide)) (fun _ => ?_)
          refine Sat.skip ?_
          simp only [thenK]
          (repeat refine Sat.seq ?_)
          (refine Sat.region_k fun k hk => ?_; simp -implicitDefEqProofs only [evr, ty, rPick, rIbin, rBin, wideB, eqB, strB, rUn, rConv, rFieldAddr, rIndexAddr, rLoad, rField, rLen, rMax, rMin, rSlice, rBuild, toB, asRead, asAny, bound, flatOk, flat, lay, fillS, placesOf, id, ne_eq, reduceCtorEq, if_true, if_false, reduceIte, forall_const, decide_true, decide_eq_true_eq, decide_eq_false_iff_not, Nat.reduceMul, Nat.reduceAdd, Nat.reduceLT, Nat.reduceLeDiff, Nat.reduceEqDiff, Int.reduceLT, thenK, blockK, retK, resHolds, resVR, VR.holds, ro, roArg, roPtr, roArgS, roSl, beq_self_eq_true, eq_self, implies_true, Int.reduceBEq, Int.reduceBNe, frz, frzOne, bne_self_eq_false, rNilCheck, rIndex, retM, retMK, argM, Smp.cs, Smp.sv, slS, ptr, Bool.not_true, Bool.not_false]; refine hk _ ?_; clear hk k; try show Sat _ _ _ _ _)
          refine Sat.block ?_
          refine Sat.loop (ι := Nat) (fun m => ⟨301, [(29, .i .i64 m), (18, .i .i64 v), (116, .i .i64 q), (115, .i .i64 3), (114, .sl (some ⟨blk4, 0, none⟩) 3 3 1 rdv), (98, .i .i64 p), (97, .i .i64 3), (96, .sl (some ⟨blk1, 0, none⟩) 3 3 1 rd3), (16, slS ya yc y), (11, ptr cb), (2, .i .i64 speed), (3, .i .i64 i), (4, .i .i64 j)], []⟩) (fun m => 1 ≤ m) (fun m => y.length - m) 1 (by decide) (by simp -implicitDefEqProofs only [evr, ty, rPick, rIbin, rBin, wideB, eqB, strB, rUn, rConv, rFieldAddr, rIndexAddr, rLoad, rField, rLen, rMax, rMin, rSlice, rBuild, toB, asRead, asAny, bound, flatOk, flat, lay, fillS, placesOf, id, ne_eq, reduceCtorEq, if_true, if_false, reduceIte, forall_const, decide_true, decide_eq_true_eq, decide_eq_false_iff_not, Nat.reduceMul, Nat.reduceAdd, Nat.reduceLT, Nat.reduceLeDiff, Nat.reduceEqDiff, Int.reduceLT, thenK, blockK, retK, resHolds, resVR, VR.holds, ro, roArg, roPtr, roArgS, roSl, beq_self_eq_true, eq_self, implies_true, Int.reduceBEq, Int.reduceBNe, frz, frzOne, bne_self_eq_false, rNilCheck, rIndex, retM, retMK, argM, Smp.cs, Smp.sv, slS, ptr, Bool.not_true, Bool.not_false, Le, envLe, ownLe, Own.le, Option.some.injEq, eq_self, true_or, false_or, or_false, exists_eq_left', exists_eq_left, exists_eq, exists_eq', SV.i.injEq, SV.b.injEq, rdEq_same, exists_false, and_false, false_and]; try rfl) ?_
          intro m hm1
          simp only [slS, ptr]
          (repeat refine Sat.seq ?_)
          (refine Sat.region_k fun k hk => ?_; simp -implicitDefEqProofs only [evr, ty, rPick, rIbin, rBin, wideB, eqB, strB, rUn, rConv, rFieldAddr, rIndexAddr, rLoad, rField, rLen, rMax, rMin, rSlice, rBuild, toB, asRead, asAny, bound, flatOk, flat, lay, fillS, placesOf, id, ne_eq, reduceCtorEq, if_true, if_false, reduceIte, forall_const, decide_true, decide_eq_true_eq, decide_eq_false_iff_not, Nat.reduceMul, Nat.reduceAdd, Nat.reduceLT, Nat.reduceLeDiff, Nat.reduceEqDiff, Int.reduceLT, thenK, blockK, retK, resHolds, resVR, VR.holds, ro, roArg, roPtr, roArgS, roSl, beq_self_eq_true, eq_self, implies_true, Int.reduceBEq, Int.reduceBNe, frz, frzOne, bne_self_eq_false, rNilCheck, rIndex, retM, retMK, argM, Smp.cs, Smp.sv, slS, ptr, Bool.not_true, Bool.not_false]; refine hk _ ?_; clear hk k; try show Sat _ _ _ _ _)
          (repeat refine Sat.seq ?_)
          refine Sat.cond_b rfl (fun h6 => ?_) (fun h6 => ?_)
          · simp only [decide_eq_true_eq] at h6
            have hml : m < y.length := by omega
            have ew : IntKind.i64.wrap ((m : Int) - 1) = ((m - 1 : Nat) : Int) := by rw [w64 (by omega)]; omega
            have ew2 : IntKind.i64.wrap ((m : Int) + 1) = ((m + 1 : Nat) : Int) := by rw [w64 (by omega)]; omega
            obtain ⟨n1, n2, hn⟩ := needR_form (y.getD (m - 1) default) (y.getD m default) v
            refine Sat.skip ?_
            simp only [thenK]
            (repeat refine Sat.seq ?_)
            refine Sat.block ?_
            (repeat refine Sat.seq ?_)
            refine Sat.region_qk (by kernel_rfl) (by kernel_rfl) fun k hk => ?_
            simp -implicitDefEqProofs only [evr, ty, rPick, rIbin, rBin, wideB, eqB, strB, rUn, rConv, rFieldAddr, rIndexAddr, rLoad, rField, rLen, rMax, rMin, rSlice, rBuild, toB, asRead, asAny, bound, flatOk, flat, lay, fillS, placesOf, id, ne_eq, reduceCtorEq, if_true, if_false, reduceIte, forall_const, decide_true, decide_eq_true_eq, decide_eq_false_iff_not, Nat.reduceMul, Nat.reduceAdd, Nat.reduceLT, Nat.reduceLeDiff, Nat.reduceEqDiff, Int.reduceLT, thenK, blockK, retK, resHolds, resVR, VR.holds, ro, roArg, roPtr, roArgS, roSl, beq_self_eq_true, eq_self, implies_true, Int.reduceBEq, Int.reduceBNe, frz, frzOne, bne_self_eq_false, rNilCheck, rIndex, retM, retMK, argM, Smp.cs, Smp.sv, slS, ptr, Bool.not_true, Bool.not_false, ew]
            refine ⟨by omega, by omega, ?_⟩
            refine qcall ((needC_all Frm.nil (y.getD (m - 1) default) (y.getD m default) v).mono fun r h => h.trans hn) rfl (ok_tupL rfl) ?_
            simp -implicitDefEqProofs only [evr, ty, rPick, rIbin, rBin, wideB, eqB, strB, rUn, rConv, rFieldAddr, rIndexAddr, rLoad, rField, rLen, rMax, rMin, rSlice, rBuild, toB, asRead, asAny, bound, flatOk, flat, lay, fillS, placesOf, id, ne_eq, reduceCtorEq, if_true, if_false, reduceIte, forall_const, decide_true, decide_eq_true_eq, decide_eq_false_iff_not, Nat.reduceMul, Nat.reduceAdd, Nat.reduceLT, Nat.reduceLeDiff, Nat.reduceEqDiff, Int.reduceLT, thenK, blockK, retK, resHolds, resVR, VR.holds, ro, roArg, roPtr, roArgS, roSl, beq_self_eq_true, eq_self, implies_true, Int.reduceBEq, Int.reduceBNe, frz, frzOne, bne_self_eq_false, rNilCheck, rIndex, retM, retMK, argM, Smp.cs, Smp.sv, slS, ptr, Bool.not_true, Bool.not_false]
            (refine hk _ ?_; clear hk k; try show Sat _ _ _ _ _)
            (repeat refine Sat.seq ?_)
            refine Sat.region_qk (by kernel_rfl) (by kernel_rfl) fun k hk => ?_
            simp -implicitDefEqProofs only [evr, ty, rPick, rIbin, rBin, wideB, eqB, strB, rUn, rConv, rFieldAddr, rIndexAddr, rLoad, rField, rLen, rMax, rMin, rSlice, rBuild, toB, asRead, asAny, bound, flatOk, flat, lay, fillS, placesOf, id, ne_eq, reduceCtorEq, if_true, if_false, reduceIte, forall_const, decide_true, decide_eq_true_eq, decide_eq_false_iff_not, Nat.reduceMul, Nat.reduceAdd, Nat.reduceLT, Nat.reduceLeDiff, Nat.reduceEqDiff, Int.reduceLT, thenK, blockK, retK, resHolds, resVR, VR.holds, ro, roArg, roPtr, roArgS, roSl, beq_self_eq_true, eq_self, implies_true, Int.reduceBEq, Int.reduceBNe, frz, frzOne, bne_self_eq_false, rNilCheck, rIndex, retM, retMK, argM, Smp.cs, Smp.sv, slS, ptr, Bool.not_true, Bool.not_false, ew]
            refine ⟨by omega, by omega, ?_⟩
            refine qcall ((rNeedC Frm.nil (y.getD (m - 1) default) (y.getD m default) v (hyi (m - 1) (by omega)) (hyi m hml)).mono fun r h => h.trans hn) rfl (ok_tupL rfl) ?_
            simp -implicitDefEqProofs only [evr, ty, rPick, rIbin, rBin, wideB, eqB, strB, rUn, rConv, rFieldAddr, rIndexAddr, rLoad, rField, rLen, rMax, rMin, rSlice, rBuild, toB, asRead, asAny, bound, flatOk, flat, lay, fillS, placesOf, id, ne_eq, reduceCtorEq, if_true, if_false, reduceIte, forall_const, decide_true, decide_eq_true_eq, decide_eq_false_iff_not, Nat.reduceMul, Nat.reduceAdd, Nat.reduceLT, Nat.reduceLeDiff, Nat.reduceEqDiff, Int.reduceLT, thenK, blockK, retK, resHolds, resVR, VR.holds, ro, roArg, roPtr, roArgS, roSl, beq_self_eq_true, eq_self, implies_true, Int.reduceBEq, Int.reduceBNe, frz, frzOne, bne_self_eq_false, rNilCheck, rIndex, retM, retMK, argM, Smp.cs, Smp.sv, slS, ptr, Bool.not_true, Bool.not_false]
            (refine hk _ ?_; clear hk k; try show Sat _ _ _ _ _)
            (repeat refine Sat.seq ?_)
            refine Sat.region_qk (by kernel_rfl) (by kernel_rfl) fun k hk => ?_
            simp -implicitDefEqProofs only [evr, ty, rPick, rIbin, rBin, wideB, eqB, strB, rUn, rConv, rFieldAddr, rIndexAddr, rLoad, rField, rLen, rMax, rMin, rSlice, rBuild, toB, asRead, asAny, bound, flatOk, flat, lay, fillS, placesOf, id, ne_eq, reduceCtorEq, if_true, if_false, reduceIte, forall_const, decide_true, decide_eq_true_eq, decide_eq_false_iff_not, Nat.reduceMul, Nat.reduceAdd, Nat.reduceLT, Nat.reduceLeDiff, Nat.reduceEqDiff, Int.reduceLT, thenK, blockK, retK, resHolds, resVR, VR.holds, ro, roArg, roPtr, roArgS, roSl, beq_self_eq_true, eq_self, implies_true, Int.reduceBEq, Int.reduceBNe, frz, frzOne, bne_self_eq_false, rNilCheck, rIndex, retM, retMK, argM, Smp.cs, Smp.sv, slS, ptr, Bool.not_true, Bool.not_false]
            refine ⟨by omega, by omega, ?_⟩
            refine qcall (gapC Frm.nil (y.getD m default) (y.getD 0 default)) rfl (ok_plain rfl) ?_
            simp -implicitDefEqProofs only [evr, ty, rPick, rIbin, rBin, wideB, eqB, strB, rUn, rConv, rFieldAddr, rIndexAddr, rLoad, rField, rLen, rMax, rMin, rSlice, rBuild, toB, asRead, asAny, bound, flatOk, flat, lay, fillS, placesOf, id, ne_eq, reduceCtorEq, if_true, if_false, reduceIte, forall_const, decide_true, decide_eq_true_eq, decide_eq_false_iff_not, Nat.reduceMul, Nat.reduceAdd, Nat.reduceLT, Nat.reduceLeDiff, Nat.reduceEqDiff, Int.reduceLT, thenK, blockK, retK, resHolds, resVR, VR.holds, ro, roArg, roPtr, roArgS, roSl, beq_self_eq_true, eq_self, implies_true, Int.reduceBEq, Int.reduceBNe, frz, frzOne, bne_self_eq_false, rNilCheck, rIndex, retM, retMK, argM, Smp.cs, Smp.sv, slS, ptr, Bool.not_true, Bool.not_false]
            refine ⟨by omega, by omega, ?_⟩
            refine qcall (rGapC Frm.nil (y.getD m default) (y.getD 0 default) (hyi m hml) (hyi 0 (by omega))) rfl (ok_plain rfl) ?_
            simp -implicitDefEqProofs only [evr, ty, rPick, rIbin, rBin, wideB, eqB, strB, rUn, rConv, rFieldAddr, rIndexAddr, rLoad, rField, rLen, rMax, rMin, rSlice, rBuild, toB, asRead, asAny, bound, flatOk, flat, lay, fillS, placesOf, id, ne_eq, reduceCtorEq, if_true, if_false, reduceIte, forall_const, decide_true, decide_eq_true_eq, decide_eq_false_iff_not, Nat.reduceMul, Nat.reduceAdd, Nat.reduceLT, Nat.reduceLeDiff, Nat.reduceEqDiff, Int.reduceLT, thenK, blockK, retK, resHolds, resVR, VR.holds, ro, roArg, roPtr, roArgS, roSl, beq_self_eq_true, eq_self, implies_true, Int.reduceBEq, Int.reduceBNe, frz, frzOne, bne_self_eq_false, rNilCheck, rIndex, retM, retMK, argM, Smp.cs, Smp.sv, slS, ptr, Bool.not_true, Bool.not_false]
            (refine hk _ ?_; clear hk k; try show Sat _ _ _ _ _)
            (repeat refine Sat.seq ?_)
            refine Sat.cond_b rfl (fun h => absurd h (by decide)) (fun _ => ?_)
            refine Sat.skip ?_
            simp only [thenK, blockK]
            refine Sat.region_k fun k hk => ?_
            simp -implicitDefEqProofs only [evr, ty, rPick, rIbin, rBin, wideB, eqB, strB, rUn, rConv, rFieldAddr, rIndexAddr, rLoad, rField, rLen, rMax, rMin, rSlice, rBuild, toB, asRead, asAny, bound, flatOk, flat, lay, fillS, placesOf, id, ne_eq, reduceCtorEq, if_true, if_false, reduceIte, forall_const, decide_true, decide_eq_true_eq, decide_eq_false_iff_not, Nat.reduceMul, Nat.reduceAdd, Nat.reduceLT, Nat.reduceLeDiff, Nat.reduceEqDiff, Int.reduceLT, thenK, blockK, retK, resHolds, resVR, VR.holds, ro, roArg, roPtr, roArgS, roSl, beq_self_eq_true, eq_self, implies_true, Int.reduceBEq, Int.reduceBNe, frz, frzOne, bne_self_eq_false, rNilCheck, rIndex, retM, retMK, argM, Smp.cs, Smp.sv, slS, ptr, Bool.not_true, Bool.not_false, ew2]
            refine hk _ ?_
            simp only [thenK, blockK]
            refine ⟨m + 1, by omega, by omega, ?_⟩
            try simp only [slS, ptr]
            simp -implicitDefEqProofs only [evr, ty, rPick, rIbin, rBin, wideB, eqB, strB, rUn, rConv, rFieldAddr, rIndexAddr, rLoad, rField, rLen, rMax, rMin, rSlice, rBuild, toB, asRead, asAny, bound, flatOk, flat, lay, fillS, placesOf, id, ne_eq, reduceCtorEq, if_true, if_false, reduceIte, forall_const, decide_true, decide_eq_true_eq, decide_eq_false_iff_not, Nat.reduceMul, Nat.reduceAdd, Nat.reduceLT, Nat.reduceLeDiff, Nat.reduceEqDiff, Int.reduceLT, thenK, blockK, retK, resHolds, resVR, VR.holds, ro, roArg, roPtr, roArgS, roSl, beq_self_eq_true, eq_self, implies_true, Int.reduceBEq, Int.reduceBNe, frz, frzOne, bne_self_eq_false, rNilCheck, rIndex, retM, retMK, argM, Smp.cs, Smp.sv, slS, ptr, Bool.not_true, Bool.not_false, Le, envLe, ownLe, Own.le, Option.some.injEq, eq_self, true_or, false_or, or_false, exists_eq_left', exists_eq_left, exists_eq, exists_eq', SV.i.injEq, SV.b.injEq, rdEq_same, exists_false, and_false, false_and]
          · refine Sat.exit ?_
            simp only [thenK, blockK, reduceIte]
            have ew2 : IntKind.i64.wrap ((q : Int) + 1) = ((q + 1 : Nat) : Int) := by rw [w64 (by omega)]; omega
            refine Sat.region_k fun k hk => ?_
            simp -implicitDefEqProofs only [evr, ty, rPick, rIbin, rBin, wideB, eqB, strB, rUn, rConv, rFieldAddr, rIndexAddr, rLoad, rField, rLen, rMax, rMin, rSlice, rBuild, toB, asRead, asAny, bound, flatOk, flat, lay, fillS, placesOf, id, ne_eq, reduceCtorEq, if_true, if_false, reduceIte, forall_const, decide_true, decide_eq_true_eq, decide_eq_false_iff_not, Nat.reduceMul, Nat.reduceAdd, Nat.reduceLT, Nat.reduceLeDiff, Nat.reduceEqDiff, Int.reduceLT, thenK, blockK, retK, resHolds, resVR, VR.holds, ro, roArg, roPtr, roArgS, roSl, beq_self_eq_true, eq_self, implies_true, Int.reduceBEq, Int.reduceBNe, frz, frzOne, bne_self_eq_false, rNilCheck, rIndex, retM, retMK, argM, Smp.cs, Smp.sv, slS, ptr, Bool.not_true, Bool.not_false, ew2]
            refine hk _ ?_
            simp only [thenK, blockK]
            refine ⟨q + 1, by omega, by omega, ?_⟩
            try simp only [slS, ptr]
            simp -implicitDefEqProofs only [evr, ty, rPick, rIbin, rBin, wideB, eqB, strB, rUn, rConv, rFieldAddr, rIndexAddr, rLoad, rField, rLen, rMax, rMin, rSlice, rBuild, toB, asRead, asAny, bound, flatOk, flat, lay, fillS, placesOf, id, ne_eq, reduceCtorEq, if_true, if_false, reduceIte, forall_const, decide_true, decide_eq_true_eq, decide_eq_false_iff_not, Nat.reduceMul, Nat.reduceAdd, Nat.reduceLT, Nat.reduceLeDiff, Nat.reduceEqDiff, Int.reduceLT, thenK, blockK, retK, resHolds, resVR, VR.holds, ro, roArg, roPtr, roArgS, roSl, beq_self_eq_true, eq_self, implies_true, Int.reduceBEq, Int.reduceBNe, frz, frzOne, bne_self_eq_false, rNilCheck, rIndex, retM, retMK, argM, Smp.cs, Smp.sv, slS, ptr, Bool.not_true, Bool.not_false, Le, envLe, ownLe, Own.le, Option.some.injEq, eq_self, true_or, false_or, or_false, exists_eq_left', exists_eq_left, exists_eq, exists_eq', SV.i.injEq, SV.b.injEq, rdEq_same, exists_false, and_false, false_and]
        · refine Sat.exit ?_
          simp only [thenK, blockK, reduceIte, slS]
          (repeat refine Sat.seq ?_)
          (refine Sat.region_k fun k hk => ?_; simp -implicitDefEqProofs only [evr, ty, rPick, rIbin, rBin, wideB, eqB, strB, rUn, rConv, rFieldAddr, rIndexAddr, rLoad, rField, rLen, rMax, rMin, rSlice, rBuild, toB, asRead, asAny, bound, flatOk, flat, lay, fillS, placesOf, id, ne_eq, reduceCtorEq, if_true, if_false, reduceIte, forall_const, decide_true, decide_eq_true_eq, decide_eq_false_iff_not, Nat.reduceMul, Nat.reduceAdd, Nat.reduceLT, Nat.reduceLeDiff, Nat.reduceEqDiff, Int.reduceLT, thenK, blockK, retK, resHolds, resVR, VR.holds, ro, roArg, roPtr, roArgS, roSl, beq_self_eq_true, eq_self, implies_true, Int.reduceBEq, Int.reduceBNe, frz, frzOne, bne_self_eq_false, rNilCheck, rIndex, retM, retMK, argM, Smp.cs, Smp.sv, slS, ptr, Bool.not_true, Bool.not_false])
          refine wcall_plain (leastC (Frm.codes cb) ya yc y hyl') rfl (by rintro r (⟨_, rfl⟩ | ⟨s, _, _, _, _, rfl⟩) <;> exact ok_tupL rfl) ?_
          intro r hr1
          obtain ⟨m1, b1, rfl⟩ := least_form hr1
          simp -implicitDefEqProofs only [evr, ty, rPick, rIbin, rBin, wideB, eqB, strB, rUn, rConv, rFieldAddr, rIndexAddr, rLoad, rField, rLen, rMax, rMin, rSlice, rBuild, toB, asRead, asAny, bound, flatOk, flat, lay, fillS, placesOf, id, ne_eq, reduceCtorEq, if_true, if_false, reduceIte, forall_const, decide_true, decide_eq_true_eq, decide_eq_false_iff_not, Nat.reduceMul, Nat.reduceAdd, Nat.reduceLT, Nat.reduceLeDiff, Nat.reduceEqDiff, Int.reduceLT, thenK, blockK, retK, resHolds, resVR, VR.holds, ro, roArg, roPtr, roArgS, roSl, beq_self_eq_true, eq_self, implies_true, Int.reduceBEq, Int.reduceBNe, frz, frzOne, bne_self_eq_false, rNilCheck, rIndex, retM, retMK, argM, Smp.cs, Smp.sv, slS, ptr, Bool.not_true, Bool.not_false]
          (refine hk _ ?_; clear hk k; try show Sat _ _ _ _ _)
          (repeat refine Sat.seq ?_)
          (refine Sat.region_k fun k hk => ?_; simp -implicitDefEqProofs only [evr, ty, rPick, rIbin, rBin, wideB, eqB, strB, rUn, rConv, rFieldAddr, rIndexAddr, rLoad, rField, rLen, rMax, rMin, rSlice, rBuild, toB, asRead, asAny, bound, flatOk, flat, lay, fillS, placesOf, id, ne_eq, reduceCtorEq, if_true, if_false, reduceIte, forall_const, decide_true, decide_eq_true_eq, decide_eq_false_iff_not, Nat.reduceMul, Nat.reduceAdd, Nat.reduceLT, Nat.reduceLeDiff, Nat.reduceEqDiff, Int.reduceLT, thenK, blockK, retK, resHolds, resVR, VR.holds, ro, roArg, roPtr, roArgS, roSl, beq_self_eq_true, eq_self, implies_true, Int.reduceBEq, Int.reduceBNe, frz, frzOne, bne_self_eq_false, rNilCheck, rIndex, retM, retMK, argM, Smp.cs, Smp.sv, slS, ptr, Bool.not_true, Bool.not_false])
          refine wcall_plain (rLeastC (Frm.codes cb) ya yc y hyl') rfl (by rintro r (⟨_, rfl⟩ | ⟨s, _, _, _, _, rfl⟩) <;> exact ok_tupL rfl) ?_
          intro r hr2
          obtain rfl : r = tupL [.i .i64 m1, .b b1] := by
            obtain ⟨m', b', e1, e2⟩ := least_two hr1 hr2
            rw [e2, e1]
          simp -implicitDefEqProofs only [evr, ty, rPick, rIbin, rBin, wideB, eqB, strB, rUn, rConv, rFieldAddr, rIndexAddr, rLoad, rField, rLen, rMax, rMin, rSlice, rBuild, toB, asRead, asAny, bound, flatOk, flat, lay, fillS, placesOf, id, ne_eq, reduceCtorEq, if_true, if_false, reduceIte, forall_const, decide_true, decide_eq_true_eq, decide_eq_false_iff_not, Nat.reduceMul, Nat.reduceAdd, Nat.reduceLT, Nat.reduceLeDiff, Nat.reduceEqDiff, Int.reduceLT, thenK, blockK, retK, resHolds, resVR, VR.holds, ro, roArg, roPtr, roArgS, roSl, beq_self_eq_true, eq_self, implies_true, Int.reduceBEq, Int.reduceBNe, frz, frzOne, bne_self_eq_false, rNilCheck, rIndex, retM, retMK, argM, Smp.cs, Smp.sv, slS, ptr, Bool.not_true, Bool.not_false]
          (refine hk _ ?_; clear hk k; try show Sat _ _ _ _ _)
          (repeat refine Sat.seq ?_)
          (refine Sat.region_k fun k hk => ?_; simp -implicitDefEqProofs only [evr, ty, rPick, rIbin, rBin, wideB, eqB, strB, rUn, rConv, rFieldAddr, rIndexAddr, rLoad, rField, rLen, rMax, rMin, rSlice, rBuild, toB, asRead, asAny, bound, flatOk, flat, lay, fillS, placesOf, id, ne_eq, reduceCtorEq, if_true, if_false, reduceIte, forall_const, decide_true, decide_eq_true_eq, decide_eq_false_iff_not, Nat.reduceMul, Nat.reduceAdd, Nat.reduceLT, Nat.reduceLeDiff, Nat.reduceEqDiff, Int.reduceLT, thenK, blockK, retK, resHolds, resVR, VR.holds, ro, roArg, roPtr, roArgS, roSl, beq_self_eq_true, eq_self, implies_true, Int.reduceBEq, Int.reduceBNe, frz, frzOne, bne_self_eq_false, rNilCheck, rIndex, retM, retMK, argM, Smp.cs, Smp.sv, slS, ptr, Bool.not_true, Bool.not_false]; refine hk _ ?_; clear hk k; try show Sat _ _ _ _ _)
          refine Sat.cond_b rfl (fun h => absurd h (by decide)) (fun _ => ?_)
          refine Sat.skip ?_
          simp only [thenK, blockK]
          have ew2 : IntKind.i64.wrap ((p : Int) + 1) = ((p + 1 : Nat) : Int) := by rw [w64 (by omega)]; omega
          refine Sat.region_k fun k hk => ?_
          simp -implicitDefEqProofs only [evr, ty, rPick, rIbin, rBin, wideB, eqB, strB, rUn, rConv, rFieldAddr, rIndexAddr, rLoad, rField, rLen, rMax, rMin, rSlice, rBuild, toB, asRead, asAny, bound, flatOk, flat, lay, fillS, placesOf, id, ne_eq, reduceCtorEq, if_true, if_false, reduceIte, forall_const, decide_true, decide_eq_true_eq, decide_eq_false_iff_not, Nat.reduceMul, Nat.reduceAdd, Nat.reduceLT, Nat.reduceLeDiff, Nat.reduceEqDiff, Int.reduceLT, thenK, blockK, retK, resHolds, resVR, VR.holds, ro, roArg, roPtr, roArgS, roSl, beq_self_eq_true, eq_self, implies_true, Int.reduceBEq, Int.reduceBNe, frz, frzOne, bne_self_eq_false, rNilCheck, rIndex, retM, retMK, argM, Smp.cs, Smp.sv, slS, ptr, Bool.not_true, Bool.not_false, ew2]
          refine hk _ ?_
          simp only [thenK, blockK]
          refine ⟨p + 1, by omega, by omega, ?_⟩
          try simp only [ptr]
          simp -implicitDefEqProofs only [evr, ty, rPick, rIbin, rBin, wideB, eqB, strB, rUn, rConv, rFieldAddr, rIndexAddr, rLoad, rField, rLen, rMax, rMin, rSlice, rBuild, toB, asRead, asAny, bound, flatOk, flat, lay, fillS, placesOf, id, ne_eq, reduceCtorEq, if_true, if_false, reduceIte, forall_const, decide_true, decide_eq_true_eq, decide_eq_false_iff_not, Nat.reduceMul, Nat.reduceAdd, Nat.reduceLT, Nat.reduceLeDiff, Nat.reduceEqDiff, Int.reduceLT, thenK, blockK, retK, resHolds, resVR, VR.holds, ro, roArg, roPtr, roArgS, roSl, beq_self_eq_true, eq_self, implies_true, Int.reduceBEq, Int.reduceBNe, frz, frzOne, bne_self_eq_false, rNilCheck, rIndex, retM, retMK, argM, Smp.cs, Smp.sv, slS, ptr, Bool.not_true, Bool.not_false, Le, envLe, ownLe, Own.le, Option.some.injEq, eq_self, true_or, false_or, or_false, exists_eq_left', exists_eq_left, exists_eq, exists_eq', SV.i.injEq, SV.b.injEq, rdEq_same, exists_false, and_false, false_and]
      · simp only [decide_eq_false_iff_not] at h
        refine Sat.exit ?_
        simp only [thenK, blockK, reduceIte]
        (repeat refine Sat.seq ?_)
        (refine Sat.region_k fun k hk => ?_; simp -implicitDefEqProofs only [evr, ty, rPick, rIbin, rBin, wideB, eqB, strB, rUn, rConv, rFieldAddr, rIndexAddr, rLoad, rField, rLen, rMax, rMin, rSlice, rBuild, toB, asRead, asAny, bound, flatOk, flat, lay, fillS, placesOf, id, ne_eq, reduceCtorEq, if_true, if_false, reduceIte, forall_const, decide_true, decide_eq_true_eq, decide_eq_false_iff_not, Nat.reduceMul, Nat.reduceAdd, Nat.reduceLT, Nat.reduceLeDiff, Nat.reduceEqDiff, Int.reduceLT, thenK, blockK, retK, resHolds, resVR, VR.holds, ro, roArg, roPtr, roArgS, roSl, beq_self_eq_true, eq_self, implies_true, Int.reduceBEq, Int.reduceBNe, frz, frzOne, bne_self_eq_false, rNilCheck, rIndex, retM, retMK, argM, Smp.cs, Smp.sv, slS, ptr, Bool.not_true, Bool.not_false]; refine hk _ ?_; clear hk k; try show Sat _ _ _ _ _)
        refine Sat.ret ?_
        simp only [Try.results6, evr, ty, rPick, rIbin, rBin, wideB, eqB, strB, rUn, rConv, rFieldAddr, rIndexAddr, rLoad, rField, rLen, rMax, rMin, rSlice, rBuild, toB, asRead, asAny, bound, flatOk, flat, lay, fillS, placesOf, id, ne_eq, reduceCtorEq, if_true, if_false, reduceIte, forall_const, decide_true, decide_eq_true_eq, decide_eq_false_iff_not, Nat.reduceMul, Nat.reduceAdd, Nat.reduceLT, Nat.reduceLeDiff, Nat.reduceEqDiff, Int.reduceLT, thenK, blockK, retK, resHolds, resVR, VR.holds, ro, roArg, roPtr, roArgS, roSl, beq_self_eq_true, eq_self, implies_true, Int.reduceBEq, Int.reduceBNe, frz, frzOne, bne_self_eq_false, rNilCheck, rIndex, retM, retMK, argM, Smp.cs, Smp.sv, slS, ptr, Bool.not_true, Bool.not_false]
end Go.Proofs.Ytchpegjadoodnaa
