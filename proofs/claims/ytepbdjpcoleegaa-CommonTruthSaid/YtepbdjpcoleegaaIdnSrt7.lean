import Derived.Test.YtepbdjpcoleegaaIdnSrt1
import Derived.Test.YtepbdjpcoleegaaIdnSrt2
import Derived.Test.YtepbdjpcoleegaaIdnSrt3
import Derived.Test.YtepbdjpcoleegaaIdnSrt4
import Derived.Test.YtepbdjpcoleegaaIdnSrt6

/- Sorting in place, by the evaluator: pdqsortCmpFunc, SortFunc. -/
set_option linter.unusedSimpArgs false
set_option linter.unusedVariables false
namespace Go.Proofs.Ytepbdjpcoleegaa
open Go.Sort Eng
theorem idn_okii (R : Nat → Prop) (w : World) (k k' : IntKind) (m n : Int) : (tupL [.i k m, .i k' n]).ok R w := by
 intro j hj
 have hj2 : j < 2 := hj
 rcases (show j = 0 ∨ j = 1 by omega) with rfl | rfl <;> trivial
def idnInv (lt : Idn → Idn → Bool) (N : Nat) (d : Array Idn) (a b : Nat) (x : Nat × Nat × Nat × Bool × Bool × Array Idn) : Prop :=
 x.1 ≤ x.2.1 ∧ x.2.1 ≤ b ∧ x.2.1 - x.1 ≤ b - a ∧ x.2.2.1 ≤ 1000 ∧ x.2.2.2.2.2.size = N ∧ Below lt x.1 x.2.1 x.2.2.2.2.2 ∧ ∀ R, PermIn x.1 x.2.1 x.2.2.2.2.2 R → SortedIn lt x.1 x.2.1 R → PermIn a b d R ∧ SortedIn lt a b R
set_option maxRecDepth 100000 in
theorem idnPdqC (F : Frm) {g : FuncId} {rdc : Nat → SV} {lt : Idn → Idn → Bool} (hw : SWO lt) (hc : idnCmp g lt) (ad : Option Addr) (cap N : Nat) (hN : N ≤ 1000000000000) : ∀ (n a b : Nat) (lim : Nat) (d : Array Idn) (hd : d.size = N) (hn : b - a ≤ n) (hab : a ≤ b) (hb : b ≤ N) (hlim : lim ≤ 1000) (hB : Below lt a b d),
  ContractM F Try.prog 56 [.os 0 ad N cap, .i .i64 a, .i .i64 b, .i .i64 lim, .fn g 0 rdc] (idnRow ad N cap d)
   (fun r o1 => r = tupL [] ∧ ∃ d', d'.size = N ∧ (PermIn a b d d' ∧ SortedIn lt a b d') ∧ o1 = idnRow ad N cap d') := by
 intro n
 induction n using Nat.strongRecOn with | _ n ih =>
 intro a b lim d hd hn hab hb hlim hB
 refine contractM_of Try.func56 rfl (by kernel_rfl) (by rintro r o1 ⟨_, d', _, _, rfl⟩; exact idn_blk _ _) ?_
 simp only [Try.ntmps56, argEnv]
 (repeat refine Sat.seq ?_)
 (refine Sat.region_k fun k hk => ?_; simp -implicitDefEqProofs only [evr, id, seval, idn_one, idnRow, idnSl, List.append_nil, retM, retMK]; refine hk _ ?_; clear hk k; try show Sat _ _ _ _ _)
 (repeat refine Sat.seq ?_)
 (refine Sat.region_k fun k hk => ?_; simp -implicitDefEqProofs only [evr, id, seval, idn_one, idnRow, idnSl, List.append_nil, retM, retMK]; refine hk _ ?_; clear hk k; try show Sat _ _ _ _ _)
 refine Sat.block ?_
 refine Sat.loop (ι := Nat × Nat × Nat × Bool × Bool × Array Idn) (fun x => ⟨148, [(1, .i .i64 x.1), (2, .i .i64 x.2.1), (3, .i .i64 x.2.2.1), (10, .b x.2.2.2.1), (11, .b x.2.2.2.2.1), (0, .os 0 ad N cap), (4, .fn g 0 rdc)], [idnRow ad N cap x.2.2.2.2.2]⟩)
  (idnInv lt N d a b) (fun x => x.2.1 - x.1) (a, b, lim, true, true, d) ⟨hab, Nat.le_refl _, Nat.le_refl _, hlim, hd, hB, fun R h1 h2 => ⟨h1, h2⟩⟩ (by simp -implicitDefEqProofs only [evr, id, seval, idn_one, idnRow, idnSl, List.append_nil, retM, retMK, evl]) ?_
 rintro ⟨a1, b1, lim1, wb, wp, d1⟩ ⟨h1, h2, h3, h4, hd1, hB1, hfin⟩
 simp only at h1 h2 h3 h4 hd1 hB1 hfin ⊢
 obtain ⟨l, hl⟩ : ∃ l, l = b1 - a1 := ⟨_, rfl⟩
 have e1 : IntKind.i64.wrap ((b1 : Int) - (a1 : Int)) = (l : Int) := by rw [w64 (by omega)]; omega
 refine Sat.block ?_
 (repeat refine Sat.seq ?_)
 refine Sat.region_k fun k hk => ?_
 simp -implicitDefEqProofs only [evr, id, seval, idn_one, idnRow, idnSl, List.append_nil, retM, retMK, e1]
 (refine hk _ ?_; clear hk k; try show Sat _ _ _ _ _)
 (repeat refine Sat.seq ?_)
 (refine Sat.region_k fun k hk => ?_; simp -implicitDefEqProofs only [evr, id, seval, idn_one, idnRow, idnSl, List.append_nil, retM, retMK]; refine hk _ ?_; clear hk k; try show Sat _ _ _ _ _)
 (repeat refine Sat.seq ?_)
 refine Sat.cond_b rfl (fun h => ?_) (fun h => ?_)
 ·simp only [decide_eq_true_eq] at h
  (repeat refine Sat.seq ?_)
  (refine Sat.region_k fun k hk => ?_; simp -implicitDefEqProofs only [evr, id, seval, idn_one, idnRow, idnSl, List.append_nil, retM, retMK])
  refine wcall_mut 0 (idnInsC F (rdc := rdc) hc ad cap N d1 hd1 hN a1 b1 (by omega) (by omega)) rfl rfl ?_
  rintro r o1 ⟨rfl, d2, hd2, he2, rfl⟩
  simp -implicitDefEqProofs only [evr, id, seval, idn_one, idnRow, idnSl, List.append_nil, retM, retMK]
  (refine hk _ ?_; clear hk k; try show Sat _ _ _ _ _)
  refine Sat.ret ?_
  simp only [thenK, blockK, Try.results56, evr, id, reduceCtorEq, reduceIte, Nat.reduceMul, Nat.reduceAdd, Nat.reduceLT, Nat.reduceLeDiff, Nat.reduceEqDiff, Int.reduceLT, Int.reduceBEq, Int.reduceBNe, Nat.reduceBEq, idn_one, idnRow, idnSl, List.append_nil, retM, retMK]
  have hs := insertionSort_holds hw d1 a1 b1 h1 (by omega)
  rw [← he2] at hs
  exact ⟨_, _, rfl, d2, hd2, hfin d2 hs.1 hs.2, rfl⟩
 ·simp only [decide_eq_false_iff_not] at h
  refine Sat.skip ?_
  simp only [thenK]
  (repeat refine Sat.seq ?_)
  (refine Sat.region_k fun k hk => ?_; simp -implicitDefEqProofs only [evr, id, seval, idn_one, idnRow, idnSl, List.append_nil, retM, retMK]; refine hk _ ?_; clear hk k; try show Sat _ _ _ _ _)
  (repeat refine Sat.seq ?_)
  refine Sat.cond_b rfl (fun h9 => ?_) (fun h9 => ?_)
  ·(repeat refine Sat.seq ?_)
   (refine Sat.region_k fun k hk => ?_; simp -implicitDefEqProofs only [evr, id, seval, idn_one, idnRow, idnSl, List.append_nil, retM, retMK])
   refine wcall_mut 0 (idnHeapC F (rdc := rdc) hc ad cap N d1 hd1 hN a1 b1 (by omega) (by omega)) rfl rfl ?_
   rintro r o1 ⟨rfl, d2, hd2, he2, rfl⟩
   simp -implicitDefEqProofs only [evr, id, seval, idn_one, idnRow, idnSl, List.append_nil, retM, retMK]
   (refine hk _ ?_; clear hk k; try show Sat _ _ _ _ _)
   refine Sat.ret ?_
   simp only [thenK, blockK, Try.results56, evr, id, reduceCtorEq, reduceIte, Nat.reduceMul, Nat.reduceAdd, Nat.reduceLT, Nat.reduceLeDiff, Nat.reduceEqDiff, Int.reduceLT, Int.reduceBEq, Int.reduceBNe, Nat.reduceBEq, idn_one, idnRow, idnSl, List.append_nil, retM, retMK]
   have hs := heapSort_holds hw d1 a1 b1 h1 (by omega)
   rw [← he2] at hs
   exact ⟨_, _, rfl, d2, hd2, hfin d2 hs.1 hs.2, rfl⟩
  ·have hlim0 : lim1 ≠ 0 := by intro h0; subst h0; simp at h9
   refine Sat.skip ?_
   simp only [thenK]
   (repeat refine Sat.seq ?_)
   (refine Sat.region_k fun k hk => ?_; simp -implicitDefEqProofs only [evr, id, seval, idn_one, idnRow, idnSl, List.append_nil, retM, retMK]; refine hk _ ?_; clear hk k; try show Sat _ _ _ _ _)
   (repeat refine Sat.seq ?_)
   refine Sat.atF (ι := Nat × Array Idn) (fun x => ⟨148, [(0, .os 0 ad N cap), (1, .i .i64 a1), (2, .i .i64 b1), (3, .i .i64 x.1), (4, .fn g 0 rdc), (10, .b wb), (11, .b wp), (12, .i .i64 l)], [idnRow ad N cap x.2]⟩) (fun x => x.1 ≤ 1000 ∧ x.2.size = N ∧ PermIn a1 b1 d1 x.2) ?_ ?_
   ·refine Sat.cond_b rfl (fun h8 => ?_) (fun h8 => ?_)
    ·(repeat refine Sat.seq ?_)
     (refine Sat.region_k fun k hk => ?_; simp -implicitDefEqProofs only [evr, id, seval, idn_one, idnRow, idnSl, List.append_nil, retM, retMK])
     refine wcall_mut 0 (idnBrkC F (fv := .fn g 0 rdc) ad cap N d1 hd1 hN a1 b1 (by omega) (by omega)) rfl rfl ?_
     rintro r o1 ⟨rfl, d2, hd2, hp2, rfl⟩
     simp -implicitDefEqProofs only [evr, id, seval, idn_one, idnRow, idnSl, List.append_nil, retM, retMK]
     (refine hk _ ?_; clear hk k; try show Sat _ _ _ _ _)
     (repeat refine Sat.seq ?_)
     have e2 : IntKind.i64.wrap ((lim1 : Int) - 1) = ((lim1 - 1 : Nat) : Int) := by rw [w64 (by omega)]; omega
     refine Sat.region_k fun k hk => ?_
     simp -implicitDefEqProofs only [evr, id, seval, idn_one, idnRow, idnSl, List.append_nil, retM, retMK, e2]
     refine hk _ ?_
     simp only [thenK]
     refine ⟨(lim1 - 1, d2), ⟨by show lim1 - 1 ≤ 1000; omega, hd2, hp2⟩, ?_⟩
     simp -implicitDefEqProofs only [evr, id, seval, idn_one, idnRow, idnSl, List.append_nil, retM, retMK, evl]
    ·refine Sat.skip ?_
     simp only [thenK]
     refine ⟨(lim1, d1), ⟨h4, hd1, permIn_refl _ _ _⟩, ?_⟩
     simp -implicitDefEqProofs only [evr, id, seval, idn_one, idnRow, idnSl, List.append_nil, retM, retMK, evl]
   ·rintro ⟨lim2, d2⟩ ⟨h5, hd2, hp2⟩
    simp only at h5 hd2 hp2 ⊢
    simp only [thenK]
    (repeat refine Sat.seq ?_)
    (refine Sat.region_k fun k hk => ?_; simp -implicitDefEqProofs only [evr, id, seval, idn_one, idnRow, idnSl, List.append_nil, retM, retMK])
    refine wcall_plain (idnChC F hc ad cap N d2 hN a1 b1 (by omega) (by omega) (rdc := fun j => roPtr [idnRow ad N cap d2] (rdc j))) (by simp -implicitDefEqProofs only [evr, id, seval, idn_one, idnRow, idnSl, List.append_nil, retM, retMK]) (by rintro _ ⟨x, h, _, _, rfl⟩ _ _; exact idn_okii _ _ _ _ _ _) ?_
    rintro r ⟨x, hint, hx1, hx2, rfl⟩
    simp -implicitDefEqProofs only [evr, id, seval, idn_one, idnRow, idnSl, List.append_nil, retM, retMK]
    (refine hk _ ?_; clear hk k; try show Sat _ _ _ _ _)
    (repeat refine Sat.seq ?_)
    (refine Sat.region_k fun k hk => ?_; simp -implicitDefEqProofs only [evr, id, seval, idn_one, idnRow, idnSl, List.append_nil, retM, retMK]; refine hk _ ?_; clear hk k; try show Sat _ _ _ _ _)
    (repeat refine Sat.seq ?_)
    refine Sat.atF (ι := Nat × Int × Array Idn) (fun x => ⟨148, [(0, .os 0 ad N cap), (1, .i .i64 a1), (2, .i .i64 b1), (3, .i .i64 lim2), (4, .fn g 0 rdc), (10, .b wb), (11, .b wp), (12, .i .i64 l), (13, .i .i64 x.1), (14, .i .i64 x.2.1)], [idnRow ad N cap x.2.2]⟩) (fun x => a1 ≤ x.1 ∧ x.1 < b1 ∧ x.2.2.size = N ∧ PermIn a1 b1 d1 x.2.2) ?_ ?_
    ·refine Sat.cond_b rfl (fun h8 => ?_) (fun h8 => ?_)
     ·(repeat refine Sat.seq ?_)
      (refine Sat.region_k fun k hk => ?_; simp -implicitDefEqProofs only [evr, id, seval, idn_one, idnRow, idnSl, List.append_nil, retM, retMK])
      refine wcall_mut 0 (idnRevC F (fv := .fn g 0 rdc) ad cap N d2 hd2 hN a1 b1 (by omega) (by omega)) rfl rfl ?_
      rintro r o1 ⟨rfl, d3, hd3, hp3, rfl⟩
      simp -implicitDefEqProofs only [evr, id, seval, idn_one, idnRow, idnSl, List.append_nil, retM, retMK]
      (refine hk _ ?_; clear hk k; try show Sat _ _ _ _ _)
      (repeat refine Sat.seq ?_)
      have e2 : IntKind.i64.wrap ((b1 : Int) - 1) = ((b1 - 1 : Nat) : Int) := by rw [w64 (by omega)]; omega
      have e3 : IntKind.i64.wrap ((x : Int) - (a1 : Int)) = ((x - a1 : Nat) : Int) := by rw [w64 (by omega)]; omega
      have e4 : IntKind.i64.wrap (((b1 - 1 : Nat) : Int) - ((x - a1 : Nat) : Int)) = ((b1 - 1 - (x - a1) : Nat) : Int) := by rw [w64 (by omega)]; omega
      refine Sat.region_k fun k hk => ?_
      simp -implicitDefEqProofs only [evr, id, seval, idn_one, idnRow, idnSl, List.append_nil, retM, retMK, e2, e3, e4]
      (refine hk _ ?_; clear hk k; try show Sat _ _ _ _ _)
      (refine Sat.region_k fun k hk => ?_; simp -implicitDefEqProofs only [evr, id, seval, idn_one, idnRow, idnSl, List.append_nil, retM, retMK])
      refine hk _ ?_
      simp only [thenK]
      refine ⟨(b1 - 1 - (x - a1), 1, d3), ⟨by show a1 ≤ b1 - 1 - (x - a1); omega, by show b1 - 1 - (x - a1) < b1; omega, hd3, permIn_trans _ _ _ _ _ hp2 hp3⟩, ?_⟩
      simp -implicitDefEqProofs only [evr, id, seval, idn_one, idnRow, idnSl, List.append_nil, retM, retMK, evl]
     ·refine Sat.skip ?_
      simp only [thenK]
      refine ⟨(x, hint, d2), ⟨hx1, hx2, hd2, hp2⟩, ?_⟩
      simp -implicitDefEqProofs only [evr, id, seval, idn_one, idnRow, idnSl, List.append_nil, retM, retMK, evl]
    ·clear hx1 hx2 hd2 hp2
     clear x hint d2
     rintro ⟨x, hint, d2⟩ ⟨hx1, hx2, hd2, hp2⟩
     simp only at hx1 hx2 hd2 hp2 ⊢
     simp only [thenK]
     (repeat refine Sat.seq ?_)
     refine Sat.region_at ⟨148, [(75, .b (wb && wp && (hint == 1))), (0, .os 0 ad N cap), (1, .i .i64 a1), (2, .i .i64 b1), (3, .i .i64 lim2), (4, .fn g 0 rdc), (10, .b wb), (11, .b wp), (12, .i .i64 l), (13, .i .i64 x)], [idnRow ad N cap d2]⟩ (fun k hk => ?_) ?_
     ·simp -implicitDefEqProofs only [evr, id, seval, idn_one, idnRow, idnSl, List.append_nil, retM, retMK]
      refine ⟨fun hw1 => ⟨fun hw2 => hk _ ?_, fun hw2 => hk _ ?_⟩, fun hw1 => hk _ ?_⟩
      ·subst hw1 hw2
       simp only [Bool.true_and]
       simp -implicitDefEqProofs only [evr, id, seval, idn_one, idnRow, idnSl, List.append_nil, retM, retMK, evl]
      ·subst hw1 hw2
       simp only [Bool.true_and, Bool.false_and]
       simp -implicitDefEqProofs only [evr, id, seval, idn_one, idnRow, idnSl, List.append_nil, retM, retMK, evl]
      ·subst hw1
       simp only [Bool.false_and]
       simp -implicitDefEqProofs only [evr, id, seval, idn_one, idnRow, idnSl, List.append_nil, retM, retMK, evl]
     ·simp only [thenK]
      (repeat refine Sat.seq ?_)
      refine Sat.atF (ι := Array Idn) (fun x3 => ⟨148, [(0, .os 0 ad N cap), (1, .i .i64 a1), (2, .i .i64 b1), (3, .i .i64 lim2), (4, .fn g 0 rdc), (10, .b wb), (11, .b wp), (12, .i .i64 l), (13, .i .i64 x)], [idnRow ad N cap x3]⟩) (fun x3 => x3.size = N ∧ PermIn a1 b1 d1 x3) ?_ ?_
      ·refine Sat.cond_b rfl (fun h8 => ?_) (fun h8 => ?_)
       ·(repeat refine Sat.seq ?_)
        (refine Sat.region_k fun k hk => ?_; simp -implicitDefEqProofs only [evr, id, seval, idn_one, idnRow, idnSl, List.append_nil, retM, retMK])
        refine wcall_mut 0 (idnPinC F (rdc := rdc) hc ad cap N d2 hd2 hN a1 b1 (by omega) (by omega)) rfl rfl ?_
        rintro r o1 ⟨d3, y, hd3, he3, rfl, rfl⟩
        have hs := partialInsertionSort_holds hw d2 a1 b1 (by omega) (by omega) (hB1.perm (by omega) hp2)
        rw [he3] at hs
        have hp3 := permIn_trans _ _ _ _ _ hp2 hs.1
        simp -implicitDefEqProofs only [evr, id, seval, idn_one, idnRow, idnSl, List.append_nil, retM, retMK]
        (refine hk _ ?_; clear hk k; try show Sat _ _ _ _ _)
        (repeat refine Sat.seq ?_)
        refine Sat.cond_b rfl (fun h7 => ?_) (fun h7 => ?_)
        ·refine Sat.ret ?_
         simp only [thenK, blockK, Try.results56, evr, id, reduceCtorEq, reduceIte, Nat.reduceMul, Nat.reduceAdd, Nat.reduceLT, Nat.reduceLeDiff, Nat.reduceEqDiff, Int.reduceLT, Int.reduceBEq, Int.reduceBNe, Nat.reduceBEq, idn_one, idnRow, idnSl, List.append_nil, retM, retMK]
         exact ⟨_, _, rfl, d3, hd3, hfin d3 hp3 (hs.2 h7), rfl⟩
        ·refine Sat.skip ?_
         simp only [thenK]
         refine ⟨d3, ⟨hd3, hp3⟩, ?_⟩
         simp -implicitDefEqProofs only [evr, id, seval, idn_one, idnRow, idnSl, List.append_nil, retM, retMK, evl]
       ·refine Sat.skip ?_
        simp only [thenK]
        refine ⟨d2, ⟨hd2, hp2⟩, ?_⟩
        simp -implicitDefEqProofs only [evr, id, seval, idn_one, idnRow, idnSl, List.append_nil, retM, retMK, evl]
      ·clear hd2 hp2
       clear d2
       rintro d3 ⟨hd3, hp3⟩
       have hB3 : Below lt a1 b1 d3 := hB1.perm (by omega) hp3
       simp only [thenK]
       (repeat refine Sat.seq ?_)
       have e2 : IntKind.i64.wrap ((a1 : Int) - 1) = ((a1 : Int) - 1) := w64 (by omega)
       have e3 : ((a1 : Int) - 1).toNat = a1 - 1 := by omega
       refine Sat.region_qat (by kernel_rfl) (by kernel_rfl) ⟨148, [(97, .b (decide (0 < a1) && !lt d3[a1 - 1]! d3[x]!)), (0, .os 0 ad N cap), (1, .i .i64 a1), (2, .i .i64 b1), (3, .i .i64 lim2), (4, .fn g 0 rdc), (10, .b wb), (11, .b wp), (12, .i .i64 l), (13, .i .i64 x)], [idnRow ad N cap d3]⟩ (fun k hk => ?_) ?_
       ·simp -implicitDefEqProofs only [evr, id, seval, idn_one, idnRow, idnSl, List.append_nil, retM, retMK, e2, e3]
        refine ⟨fun h0 => ?_, fun h0 => ?_⟩
        ·refine ⟨by omega, by omega, by omega, by omega, ?_⟩
         refine idn_qcmp hc d3[a1 - 1]! d3[x]! fun c hcl => ?_
         simp -implicitDefEqProofs only [evr, id, seval, idn_one, idnRow, idnSl, List.append_nil, retM, retMK]
         refine hk _ ?_
         have e4 : (decide (0 < a1) && !lt d3[a1 - 1]! d3[x]!) = !decide (c < 0) := by rw [hcl]; simp; omega
         simp only [e4]
         simp -implicitDefEqProofs only [evr, id, seval, idn_one, idnRow, idnSl, List.append_nil, retM, retMK, evl]
        ·refine hk _ ?_
         have e4 : (decide (0 < a1) && !lt d3[a1 - 1]! d3[x]!) = false := by simp; omega
         simp only [e4]
         simp -implicitDefEqProofs only [evr, id, seval, idn_one, idnRow, idnSl, List.append_nil, retM, retMK, evl]
       ·simp only [thenK]
        (repeat refine Sat.seq ?_)
        refine Sat.cond_b rfl (fun h8 => ?_) (fun h8 => ?_)
        ·simp only [Bool.and_eq_true, decide_eq_true_eq, Bool.not_eq_true'] at h8
         (repeat refine Sat.seq ?_)
         (refine Sat.region_k fun k hk => ?_; simp -implicitDefEqProofs only [evr, id, seval, idn_one, idnRow, idnSl, List.append_nil, retM, retMK])
         refine wcall_mut 0 (idnPeqC F (rdc := rdc) hc ad cap N d3 hd3 hN a1 b1 x hx1 hx2 (by omega)) rfl rfl ?_
         rintro r o1 ⟨m, d4, hd4, he4, rfl, rfl⟩
         obtain ⟨g1, g2, g3, g4, g5⟩ := round_eq hw (partitionEqual_holds lt) h8.1 hx1 hx2 (by omega) hB3 h8.2 he4
         simp -implicitDefEqProofs only [evr, id, seval, idn_one, idnRow, idnSl, List.append_nil, retM, retMK]
         (refine hk _ ?_; clear hk k; try show Sat _ _ _ _ _)
         (repeat refine Sat.seq ?_)
         (refine Sat.region_k fun k hk => ?_; simp -implicitDefEqProofs only [evr, id, seval, idn_one, idnRow, idnSl, List.append_nil, retM, retMK])
         refine hk _ ?_
         simp only [thenK]
         refine Sat.exit ?_
         simp only [thenK, blockK, Nat.reduceEqDiff, reduceIte]
         refine ⟨(m, b1, lim2, wb, wp, d4), ⟨g2, h2, by show b1 - m ≤ b - a; omega, h5, hd4, g4, fun R r1 r2 => by
          obtain ⟨q1, q2⟩ := g5 R r1 r2
          exact hfin R (permIn_trans _ _ _ _ _ hp3 q1) q2⟩, by show b1 - m < b1 - a1; omega, ?_⟩
         simp -implicitDefEqProofs only [evr, id, seval, idn_one, idnRow, idnSl, List.append_nil, retM, retMK, evl]
        ·refine Sat.skip ?_
         simp only [thenK]
         (repeat refine Sat.seq ?_)
         (refine Sat.region_k fun k hk => ?_; simp -implicitDefEqProofs only [evr, id, seval, idn_one, idnRow, idnSl, List.append_nil, retM, retMK])
         refine wcall_mut 0 (idnPartC F (rdc := rdc) hc ad cap N d3 hd3 hN a1 b1 x hx1 hx2 (by omega)) rfl rfl ?_
         rintro r o1 ⟨m, ap, d4, hd4, he4, rfl, rfl⟩
         obtain ⟨g1, g2, g3, g4, g5, gl, gr⟩ := round_part hw (partition_holds lt) hx1 hx2 (by omega) hB3 he4
         simp -implicitDefEqProofs only [evr, id, seval, idn_one, idnRow, idnSl, List.append_nil, retM, retMK]
         (refine hk _ ?_; clear hk k; try show Sat _ _ _ _ _)
         (repeat refine Sat.seq ?_)
         (refine Sat.region_k fun k hk => ?_; simp -implicitDefEqProofs only [evr, id, seval, idn_one, idnRow, idnSl, List.append_nil, retM, retMK]; refine hk _ ?_; clear hk k; try show Sat _ _ _ _ _)
         (repeat refine Sat.seq ?_)
         have e5 : IntKind.i64.wrap ((m : Int) - (a1 : Int)) = ((m : Int) - (a1 : Int)) := w64 (by omega)
         have e6 : IntKind.i64.wrap ((b1 : Int) - (m : Int)) = ((b1 : Int) - (m : Int)) := w64 (by omega)
         have e7 : IntKind.i64.wrap ((l : Int).tdiv 8) = ((l / 8 : Nat) : Int) := by rw [Int.tdiv_eq_ediv_of_nonneg (by omega), w64 (by omega)]; omega
         have e8 : IntKind.i64.wrap ((m : Int) + 1) = ((m + 1 : Nat) : Int) := by rw [w64 (by omega)]; omega
         refine Sat.region_k fun k hk => ?_
         simp -implicitDefEqProofs only [evr, id, seval, idn_one, idnRow, idnSl, List.append_nil, retM, retMK, e5, e6]
         (refine hk _ ?_; clear hk k; try show Sat _ _ _ _ _)
         (repeat refine Sat.seq ?_)
         refine Sat.region_k fun k hk => ?_
         simp -implicitDefEqProofs only [evr, id, reduceCtorEq, reduceIte, Nat.reduceMul, Nat.reduceAdd, Nat.reduceLT, Nat.reduceLeDiff, Nat.reduceEqDiff, Int.reduceLT, Int.reduceBEq, Int.reduceBNe, Nat.reduceBEq, idn_one, idnRow, idnSl, List.append_nil, retM, retMK, e7]
         refine ⟨by decide, ?_⟩
         (refine hk _ ?_; clear hk k; try show Sat _ _ _ _ _)
         (repeat refine Sat.seq ?_)
         (refine Sat.region_k fun k hk => ?_; simp -implicitDefEqProofs only [evr, id, seval, idn_one, idnRow, idnSl, List.append_nil, retM, retMK]; refine hk _ ?_; clear hk k; try show Sat _ _ _ _ _)
         (repeat refine Sat.seq ?_)
         refine Sat.atF (ι := Nat × Nat × Nat × Bool × Bool × Array Idn) (fun x => ⟨148, [(1, .i .i64 x.1), (2, .i .i64 x.2.1), (3, .i .i64 x.2.2.1), (10, .b x.2.2.2.1), (11, .b x.2.2.2.2.1), (0, .os 0 ad N cap), (4, .fn g 0 rdc)], [idnRow ad N cap x.2.2.2.2.2]⟩)
          (fun x => idnInv lt N d a b x ∧ x.2.1 - x.1 < b1 - a1) ?_ ?_
         ·refine Sat.cond_b rfl (fun h7 => ?_) (fun h7 => ?_)
          ·(repeat refine Sat.seq ?_)
           (refine Sat.region_k fun k hk => ?_; simp -implicitDefEqProofs only [evr, id, seval, idn_one, idnRow, idnSl, List.append_nil, retM, retMK]; refine hk _ ?_; clear hk k; try show Sat _ _ _ _ _)
           (repeat refine Sat.seq ?_)
           (refine Sat.region_k fun k hk => ?_; simp -implicitDefEqProofs only [evr, id, seval, idn_one, idnRow, idnSl, List.append_nil, retM, retMK])
           refine wcall_mut 0 (ih (m - a1) (by omega) a1 m lim2 d4 hd4 (Nat.le_refl _) g1 (by omega) h5 g4) rfl rfl ?_
           rintro r o1 ⟨rfl, d5, hd5, hs5, rfl⟩
           obtain ⟨q1, q2⟩ := gl d5 hs5.1 hs5.2
           simp -implicitDefEqProofs only [evr, id, seval, idn_one, idnRow, idnSl, List.append_nil, retM, retMK]
           (refine hk _ ?_; clear hk k; try show Sat _ _ _ _ _)
           (repeat refine Sat.seq ?_)
           refine Sat.region_k fun k hk => ?_
           simp -implicitDefEqProofs only [evr, id, seval, idn_one, idnRow, idnSl, List.append_nil, retM, retMK, e8]
           refine hk _ ?_
           simp only [thenK]
           refine ⟨(m + 1, b1, lim2, decide (((l / 8 : Nat) : Int) ≤ (m : Int) - (a1 : Int)), ap, d5), ⟨⟨by show m + 1 ≤ b1; omega, h2, by show b1 - (m + 1) ≤ b - a; omega, h5, hd5, q1, fun R r1 r2 => by
            obtain ⟨u1, u2⟩ := q2 R r1 r2
            exact hfin R (permIn_trans _ _ _ _ _ hp3 u1) u2⟩, by show b1 - (m + 1) < b1 - a1; omega⟩, ?_⟩
           simp -implicitDefEqProofs only [evr, id, seval, idn_one, idnRow, idnSl, List.append_nil, retM, retMK, evl]
          ·(repeat refine Sat.seq ?_)
           (refine Sat.region_k fun k hk => ?_; simp -implicitDefEqProofs only [evr, id, seval, idn_one, idnRow, idnSl, List.append_nil, retM, retMK]; refine hk _ ?_; clear hk k; try show Sat _ _ _ _ _)
           (repeat refine Sat.seq ?_)
           refine Sat.region_k fun k hk => ?_
           simp -implicitDefEqProofs only [evr, id, seval, idn_one, idnRow, idnSl, List.append_nil, retM, retMK, e8]
           refine wcall_mut 0 (ih (b1 - (m + 1)) (by omega) (m + 1) b1 lim2 d4 hd4 (Nat.le_refl _) (by omega) (by omega) h5 g5) rfl rfl ?_
           rintro r o1 ⟨rfl, d5, hd5, hs5, rfl⟩
           obtain ⟨q1, q2⟩ := gr d5 hs5.1 hs5.2
           simp -implicitDefEqProofs only [evr, id, seval, idn_one, idnRow, idnSl, List.append_nil, retM, retMK]
           (refine hk _ ?_; clear hk k; try show Sat _ _ _ _ _)
           (repeat refine Sat.seq ?_)
           (refine Sat.region_k fun k hk => ?_; simp -implicitDefEqProofs only [evr, id, seval, idn_one, idnRow, idnSl, List.append_nil, retM, retMK])
           refine hk _ ?_
           simp only [thenK]
           refine ⟨(a1, m, lim2, decide (((l / 8 : Nat) : Int) ≤ (b1 : Int) - (m : Int)), ap, d5), ⟨⟨g1, by show m ≤ b; omega, by show m - a1 ≤ b - a; omega, h5, hd5, q1, fun R r1 r2 => by
            obtain ⟨u1, u2⟩ := q2 R r1 r2
            exact hfin R (permIn_trans _ _ _ _ _ hp3 u1) u2⟩, by show m - a1 < b1 - a1; omega⟩, ?_⟩
           simp -implicitDefEqProofs only [evr, id, seval, idn_one, idnRow, idnSl, List.append_nil, retM, retMK, evl]
         ·rintro ⟨a2, b2, lim3, wb2, wp2, d5⟩ ⟨hinv, hless⟩
          simp only [thenK, blockK]
          exact ⟨(a2, b2, lim3, wb2, wp2, d5), hinv, hless, by simp -implicitDefEqProofs only [evr, id, seval, idn_one, idnRow, idnSl, List.append_nil, retM, retMK, evl]⟩
set_option maxRecDepth 100000 in
theorem idnSortC (F : Frm) {g : FuncId} {rdc : Nat → SV} {lt : Idn → Idn → Bool} (hw : SWO lt) (hc : idnCmp g lt) (ad : Option Addr) (cap N : Nat) (hN : N ≤ 1000000000000) (d : Array Idn) (hd : d.size = N) :
  ContractM F Try.prog 37 [.os 0 ad N cap, .fn g 0 rdc] (idnRow ad N cap d)
   (fun r o1 => r = tupL [] ∧ ∃ d', d'.size = N ∧ (PermIn 0 N d d' ∧ SortedIn lt 0 N d') ∧ o1 = idnRow ad N cap d') := by
 refine contractM_of Try.func37 rfl (by kernel_rfl) (by rintro r o1 ⟨_, d', _, _, rfl⟩; exact idn_blk _ _) ?_
 simp only [Try.ntmps37, argEnv]
 have hl : bitsLen N ≤ 62 := (bitsLen_le_iff N 62).2 (by omega)
 have e1 : IntKind.u64.wrap (N : Int) = (N : Int) := IntWalk.u64_in _ (by omega)
 (repeat refine Sat.seq ?_)
 (refine Sat.region_k fun k hk => ?_; simp -implicitDefEqProofs only [evr, id, seval, idn_one, idnRow, idnSl, List.append_nil, retM, retMK]; refine hk _ ?_; clear hk k; try show Sat _ _ _ _ _)
 (repeat refine Sat.seq ?_)
 refine Sat.region_k fun k hk => ?_
 simp -implicitDefEqProofs only [evr, id, seval, idn_one, idnRow, idnSl, List.append_nil, retM, retMK, e1]
 refine wcall_plain (lenC F N (by omega)) rfl (by rintro _ rfl; exact ok_plain rfl) ?_
 rintro r rfl
 simp -implicitDefEqProofs only [evr, id, seval, idn_one, idnRow, idnSl, List.append_nil, retM, retMK]
 refine wcall_mut 0 (idnPdqC F (rdc := rdc) hw hc ad cap N hN N 0 N (bitsLen N) d hd (by omega) (by omega) (Nat.le_refl _) (by omega) (.inl rfl)) rfl rfl ?_
 rintro r o1 ⟨rfl, d', hd', hs, rfl⟩
 simp -implicitDefEqProofs only [evr, id, seval, idn_one, idnRow, idnSl, List.append_nil, retM, retMK]
 refine hk _ ?_
 simp only [Try.results37, evr, id, reduceCtorEq, reduceIte, Nat.reduceMul, Nat.reduceAdd, Nat.reduceLT, Nat.reduceLeDiff, Nat.reduceEqDiff, Int.reduceLT, Int.reduceBEq, Int.reduceBNe, Nat.reduceBEq, idn_one, idnRow, idnSl, List.append_nil, retM, retMK]
 exact ⟨_, _, rfl, d', hd', hs, rfl⟩
end Go.Proofs.Ytepbdjpcoleegaa
