/- Sorting in place, by the evaluator: pdqsortCmpFunc, SortFunc. -/
import Derived.Test.YtkpmihaaijiihaaTreSrt1
import Derived.Test.YtkpmihaaijiihaaTreSrt2
import Derived.Test.YtkpmihaaijiihaaTreSrt3
import Derived.Test.YtkpmihaaijiihaaTreSrt4
import Derived.Test.YtkpmihaaijiihaaTreSrt6
import Derived.Test.YtkpmihaaijiihaaTreSrt0
import Derived.Test.YtkpmihaaijiihaaTreMath
import Derived.Test.YtkpmihaaijiihaaEngR
import Derived.Test.YtkpmihaaijiihaaWitE
import Derived.Test.YtkpmihaaijiihaaCmqE
import Derived.Scope
set_option linter.unusedSimpArgs false
set_option linter.unusedVariables false
namespace Go.Proofs.Ytkpmihaaijiihaa
open Go.Sort Eng
theorem tre_okii (R : Nat → Prop) (w : World) (k k' : IntKind) (m n : Int) : (tupL [.i k m, .i k' n]).ok R w := by
  intro j hj
  have hj2 : j < 2 := hj
  rcases (show j = 0 ∨ j = 1 by omega) with rfl | rfl <;> trivial
def treInv (lt : Tre → Tre → Bool) (N : Nat) (d : Array Tre) (a b : Nat) (x : Nat × Nat × Nat × Bool × Bool × Array Tre) : Prop :=
  x.1 ≤ x.2.1 ∧ x.2.1 ≤ b ∧ x.2.1 - x.1 ≤ b - a ∧ x.2.2.1 ≤ 1000 ∧ x.2.2.2.2.2.size = N ∧ Below lt x.1 x.2.1 x.2.2.2.2.2 ∧ ∀ R, PermIn x.1 x.2.1 x.2.2.2.2.2 R → SortedIn lt x.1 x.2.1 R → PermIn a b d R ∧ SortedIn lt a b R
set_option maxRecDepth 100000 in
theorem trePdqC (F : Frm) {g : FuncId} {rdc : Nat → SV} {lt : Tre → Tre → Bool} (hw : SWO lt) (hc : treCmp g lt) (ad : Option Addr) (cap N : Nat) (hN : N ≤ 1000000000000) : ∀ (n a b : Nat) (lim : Nat) (d : Array Tre) (hd : d.size = N) (hn : b - a ≤ n) (hab : a ≤ b) (hb : b ≤ N) (hlim : lim ≤ 1000) (hB : Below lt a b d),
    ContractM F Try.prog 65 [.os 0 ad N cap, .i .i64 a, .i .i64 b, .i .i64 lim, .fn g 0 rdc] (treRow ad N cap d)
      (fun r o1 => r = tupL [] ∧ ∃ d', d'.size = N ∧ (PermIn a b d d' ∧ SortedIn lt a b d') ∧ o1 = treRow ad N cap d') := by
  intro n
  induction n using Nat.strongRecOn with | _ n ih =>
  intro a b lim d hd hn hab hb hlim hB
  refine contractM_of Try.func65 rfl (by kernel_rfl) (by rintro r o1 ⟨_, d', _, _, rfl⟩; exact tre_blk _ _) ?_
  simp only [Try.ntmps65, argEnv]
  (repeat refine Sat.seq ?_)
  (refine Sat.region_k fun k hk => ?_; simp -implicitDefEqProofs only [evr, id, reduceCtorEq, reduceIte, Nat.reduceMul, Nat.reduceAdd, Nat.reduceLT, Nat.reduceLeDiff, Nat.reduceEqDiff, Int.reduceLT, Int.reduceBEq, Int.reduceBNe, Nat.reduceBEq, tre_one, treRow, treSl, List.append_nil, retM, retMK]; refine hk _ ?_; clear hk k; try show Sat _ _ _ _ _)
  (repeat refine Sat.seq ?_)
  (refine Sat.region_k fun k hk => ?_; simp -implicitDefEqProofs only [evr, id, reduceCtorEq, reduceIte, Nat.reduceMul, Nat.reduceAdd, Nat.reduceLT, Nat.reduceLeDiff, Nat.reduceEqDiff, Int.reduceLT, Int.reduceBEq, Int.reduceBNe, Nat.reduceBEq, tre_one, treRow, treSl, List.append_nil, retM, retMK]; refine hk _ ?_; clear hk k; try show Sat _ _ _ _ _)
  refine Sat.block ?_
  refine Sat.loop (ι := Nat × Nat × Nat × Bool × Bool × Array Tre) (fun x => ⟨148, [(1, .i .i64 x.1), (2, .i .i64 x.2.1), (3, .i .i64 x.2.2.1), (10, .b x.2.2.2.1), (11, .b x.2.2.2.2.1), (0, .os 0 ad N cap), (4, .fn g 0 rdc)], [treRow ad N cap x.2.2.2.2.2]⟩)
    (treInv lt N d a b) (fun x => x.2.1 - x.1) (a, b, lim, true, true, d) ⟨hab, Nat.le_refl _, Nat.le_refl _, hlim, hd, hB, fun R h1 h2 => ⟨h1, h2⟩⟩ (by simp -implicitDefEqProofs only [evr, id, reduceCtorEq, reduceIte, Nat.reduceMul, Nat.reduceAdd, Nat.reduceLT, Nat.reduceLeDiff, Nat.reduceEqDiff, Int.reduceLT, Int.reduceBEq, Int.reduceBNe, Nat.reduceBEq, tre_one, treRow, treSl, List.append_nil, retM, retMK, evl]) ?_
  rintro ⟨a1, b1, lim1, wb, wp, d1⟩ ⟨h1, h2, h3, h4, hd1, hB1, hfin⟩
  simp only at h1 h2 h3 h4 hd1 hB1 hfin ⊢
  obtain ⟨l, hl⟩ : ∃ l, l = b1 - a1 := ⟨_, rfl⟩
  have e1 : IntKind.i64.wrap ((b1 : Int) - (a1 : Int)) = (l : Int) := by rw [w64 (by omega)]; omega
  refine Sat.block ?_
  (repeat refine Sat.seq ?_)
  refine Sat.region_k fun k hk => ?_
  simp -implicitDefEqProofs only [evr, id, reduceCtorEq, reduceIte, Nat.reduceMul, Nat.reduceAdd, Nat.reduceLT, Nat.reduceLeDiff, Nat.reduceEqDiff, Int.reduceLT, Int.reduceBEq, Int.reduceBNe, Nat.reduceBEq, tre_one, treRow, treSl, List.append_nil, retM, retMK, e1]
  (refine hk _ ?_; clear hk k; try show Sat _ _ _ _ _)
  (repeat refine Sat.seq ?_)
  (refine Sat.region_k fun k hk => ?_; simp -implicitDefEqProofs only [evr, id, reduceCtorEq, reduceIte, Nat.reduceMul, Nat.reduceAdd, Nat.reduceLT, Nat.reduceLeDiff, Nat.reduceEqDiff, Int.reduceLT, Int.reduceBEq, Int.reduceBNe, Nat.reduceBEq, tre_one, treRow, treSl, List.append_nil, retM, retMK]; refine hk _ ?_; clear hk k; try show Sat _ _ _ _ _)
  (repeat refine Sat.seq ?_)
  refine Sat.cond_b rfl (fun h => ?_) (fun h => ?_)
  · simp only [decide_eq_true_eq] at h
    (repeat refine Sat.seq ?_)
    (refine Sat.region_k fun k hk => ?_; simp -implicitDefEqProofs only [evr, id, reduceCtorEq, reduceIte, Nat.reduceMul, Nat.reduceAdd, Nat.reduceLT, Nat.reduceLeDiff, Nat.reduceEqDiff, Int.reduceLT, Int.reduceBEq, Int.reduceBNe, Nat.reduceBEq, tre_one, treRow, treSl, List.append_nil, retM, retMK])
    refine wcall_mut 0 (treInsC F (rdc := rdc) hc ad cap N d1 hd1 hN a1 b1 (by omega) (by omega)) rfl rfl ?_
    rintro r o1 ⟨rfl, d2, hd2, he2, rfl⟩
    simp -implicitDefEqProofs only [evr, id, reduceCtorEq, reduceIte, Nat.reduceMul, Nat.reduceAdd, Nat.reduceLT, Nat.reduceLeDiff, Nat.reduceEqDiff, Int.reduceLT, Int.reduceBEq, Int.reduceBNe, Nat.reduceBEq, tre_one, treRow, treSl, List.append_nil, retM, retMK]
    (refine hk _ ?_; clear hk k; try show Sat _ _ _ _ _)
    refine Sat.ret ?_
    simp only [thenK, blockK, Try.results65, evr, id, reduceCtorEq, reduceIte, Nat.reduceMul, Nat.reduceAdd, Nat.reduceLT, Nat.reduceLeDiff, Nat.reduceEqDiff, Int.reduceLT, Int.reduceBEq, Int.reduceBNe, Nat.reduceBEq, tre_one, treRow, treSl, List.append_nil, retM, retMK]
    have hs := insertionSort_holds hw d1 a1 b1 h1 (by omega)
    rw [← he2] at hs
    exact ⟨_, _, rfl, d2, hd2, hfin d2 hs.1 hs.2, rfl⟩
  · simp only [decide_eq_false_iff_not] at h
    refine Sat.skip ?_
    simp only [thenK]
    (repeat refine Sat.seq ?_)
    (refine Sat.region_k fun k hk => ?_; simp -implicitDefEqProofs only [evr, id, reduceCtorEq, reduceIte, Nat.reduceMul, Nat.reduceAdd, Nat.reduceLT, Nat.reduceLeDiff, Nat.reduceEqDiff, Int.reduceLT, Int.reduceBEq, Int.reduceBNe, Nat.reduceBEq, tre_one, treRow, treSl, List.append_nil, retM, retMK]; refine hk _ ?_; clear hk k; try show Sat _ _ _ _ _)
    (repeat refine Sat.seq ?_)
    refine Sat.cond_b rfl (fun h9 => ?_) (fun h9 => ?_)
    · (repeat refine Sat.seq ?_)
      (refine Sat.region_k fun k hk => ?_; simp -implicitDefEqProofs only [evr, id, reduceCtorEq, reduceIte, Nat.reduceMul, Nat.reduceAdd, Nat.reduceLT, Nat.reduceLeDiff, Nat.reduceEqDiff, Int.reduceLT, Int.reduceBEq, Int.reduceBNe, Nat.reduceBEq, tre_one, treRow, treSl, List.append_nil, retM, retMK])
      refine wcall_mut 0 (treHeapC F (rdc := rdc) hc ad cap N d1 hd1 hN a1 b1 (by omega) (by omega)) rfl rfl ?_
      rintro r o1 ⟨rfl, d2, hd2, he2, rfl⟩
      simp -implicitDefEqProofs only [evr, id, reduceCtorEq, reduceIte, Nat.reduceMul, Nat.reduceAdd, Nat.reduceLT, Nat.reduceLeDiff, Nat.reduceEqDiff, Int.reduceLT, Int.reduceBEq, Int.reduceBNe, Nat.reduceBEq, tre_one, treRow, treSl, List.append_nil, retM, retMK]
      (refine hk _ ?_; clear hk k; try show Sat _ _ _ _ _)
      refine Sat.ret ?_
      simp only [thenK, blockK, Try.results65, evr, id, reduceCtorEq, reduceIte, Nat.reduceMul, Nat.reduceAdd, Nat.reduceLT, Nat.reduceLeDiff, Nat.reduceEqDiff, Int.reduceLT, Int.reduceBEq, Int.reduceBNe, Nat.reduceBEq, tre_one, treRow, treSl, List.append_nil, retM, retMK]
      have hs := heapSort_holds hw d1 a1 b1 h1 (by omega)
      rw [← he2] at hs
      exact ⟨_, _, rfl, d2, hd2, hfin d2 hs.1 hs.2, rfl⟩
    · have hlim0 : lim1 ≠ 0 := by intro h0; subst h0; simp at h9
      refine Sat.skip ?_
      simp only [thenK]
      (repeat refine Sat.seq ?_)
      (refine Sat.region_k fun k hk => ?_; simp -implicitDefEqProofs only [evr, id, reduceCtorEq, reduceIte, Nat.reduceMul, Nat.reduceAdd, Nat.reduceLT, Nat.reduceLeDiff, Nat.reduceEqDiff, Int.reduceLT, Int.reduceBEq, Int.reduceBNe, Nat.reduceBEq, tre_one, treRow, treSl, List.append_nil, retM, retMK]; refine hk _ ?_; clear hk k; try show Sat _ _ _ _ _)
      (repeat refine Sat.seq ?_)
      refine Sat.atF (ι := Nat × Array Tre) (fun x => ⟨148, [(0, .os 0 ad N cap), (1, .i .i64 a1), (2, .i .i64 b1), (3, .i .i64 x.1), (4, .fn g 0 rdc), (10, .b wb), (11, .b wp), (12, .i .i64 l)], [treRow ad N cap x.2]⟩) (fun x => x.1 ≤ 1000 ∧ x.2.size = N ∧ PermIn a1 b1 d1 x.2) ?_ ?_
      · refine Sat.cond_b rfl (fun h8 => ?_) (fun h8 => ?_)
        · (repeat refine Sat.seq ?_)
          (refine Sat.region_k fun k hk => ?_; simp -implicitDefEqProofs only [evr, id, reduceCtorEq, reduceIte, Nat.reduceMul, Nat.reduceAdd, Nat.reduceLT, Nat.reduceLeDiff, Nat.reduceEqDiff, Int.reduceLT, Int.reduceBEq, Int.reduceBNe, Nat.reduceBEq, tre_one, treRow, treSl, List.append_nil, retM, retMK])
          refine wcall_mut 0 (treBrkC F (fv := .fn g 0 rdc) ad cap N d1 hd1 hN a1 b1 (by omega) (by omega)) rfl rfl ?_
          rintro r o1 ⟨rfl, d2, hd2, hp2, rfl⟩
          simp -implicitDefEqProofs only [evr, id, reduceCtorEq, reduceIte, Nat.reduceMul, Nat.reduceAdd, Nat.reduceLT, Nat.reduceLeDiff, Nat.reduceEqDiff, Int.reduceLT, Int.reduceBEq, Int.reduceBNe, Nat.reduceBEq, tre_one, treRow, treSl, List.append_nil, retM, retMK]
          (refine hk _ ?_; clear hk k; try show Sat _ _ _ _ _)
          (repeat refine Sat.seq ?_)
          have e2 : IntKind.i64.wrap ((lim1 : Int) - 1) = ((lim1 - 1 : Nat) : Int) := by rw [w64 (by omega)]; omega
          refine Sat.region_k fun k hk => ?_
          simp -implicitDefEqProofs only [evr, id, reduceCtorEq, reduceIte, Nat.reduceMul, Nat.reduceAdd, Nat.reduceLT, Nat.reduceLeDiff, Nat.reduceEqDiff, Int.reduceLT, Int.reduceBEq, Int.reduceBNe, Nat.reduceBEq, tre_one, treRow, treSl, List.append_nil, retM, retMK, e2]
          refine hk _ ?_
          simp only [thenK]
          refine ⟨(lim1 - 1, d2), ⟨by show lim1 - 1 ≤ 1000; omega, hd2, hp2⟩, ?_⟩
          simp -implicitDefEqProofs only [evr, id, reduceCtorEq, reduceIte, Nat.reduceMul, Nat.reduceAdd, Nat.reduceLT, Nat.reduceLeDiff, Nat.reduceEqDiff, Int.reduceLT, Int.reduceBEq, Int.reduceBNe, Nat.reduceBEq, tre_one, treRow, treSl, List.append_nil, retM, retMK, evl]
        · refine Sat.skip ?_
          simp only [thenK]
          refine ⟨(lim1, d1), ⟨h4, hd1, permIn_refl _ _ _⟩, ?_⟩
          simp -implicitDefEqProofs only [evr, id, reduceCtorEq, reduceIte, Nat.reduceMul, Nat.reduceAdd, Nat.reduceLT, Nat.reduceLeDiff, Nat.reduceEqDiff, Int.reduceLT, Int.reduceBEq, Int.reduceBNe, Nat.reduceBEq, tre_one, treRow, treSl, List.append_nil, retM, retMK, evl]
      · rintro ⟨lim2, d2⟩ ⟨h5, hd2, hp2⟩
        simp only at h5 hd2 hp2 ⊢
        simp only [thenK]
        (repeat refine Sat.seq ?_)
        (refine Sat.region_k fun k hk => ?_; simp -implicitDefEqProofs only [evr, id, reduceCtorEq, reduceIte, Nat.reduceMul, Nat.reduceAdd, Nat.reduceLT, Nat.reduceLeDiff, Nat.reduceEqDiff, Int.reduceLT, Int.reduceBEq, Int.reduceBNe, Nat.reduceBEq, tre_one, treRow, treSl, List.append_nil, retM, retMK])
        refine wcall_plain (treChC F hc ad cap N d2 hN a1 b1 (by omega) (by omega) (rdc := fun j => roPtr [treRow ad N cap d2] (rdc j))) (by simp -implicitDefEqProofs only [evr, id, reduceCtorEq, reduceIte, Nat.reduceMul, Nat.reduceAdd, Nat.reduceLT, Nat.reduceLeDiff, Nat.reduceEqDiff, Int.reduceLT, Int.reduceBEq, Int.reduceBNe, Nat.reduceBEq, tre_one, treRow, treSl, List.append_nil, retM, retMK]) (by rintro _ ⟨x, h, _, _, rfl⟩ _ _; exact tre_okii _ _ _ _ _ _) ?_
        rintro r ⟨x, hint, hx1, hx2, rfl⟩
        simp -implicitDefEqProofs only [evr, id, reduceCtorEq, reduceIte, Nat.reduceMul, Nat.reduceAdd, Nat.reduceLT, Nat.reduceLeDiff, Nat.reduceEqDiff, Int.reduceLT, Int.reduceBEq, Int.reduceBNe, Nat.reduceBEq, tre_one, treRow, treSl, List.append_nil, retM, retMK]
        (refine hk _ ?_; clear hk k; try show Sat _ _ _ _ _)
        (repeat refine Sat.seq ?_)
        (refine Sat.region_k fun k hk => ?_; simp -implicitDefEqProofs only [evr, id, reduceCtorEq, reduceIte, Nat.reduceMul, Nat.reduceAdd, Nat.reduceLT, Nat.reduceLeDiff, Nat.reduceEqDiff, Int.reduceLT, Int.reduceBEq, Int.reduceBNe, Nat.reduceBEq, tre_one, treRow, treSl, List.append_nil, retM, retMK]; refine hk _ ?_; clear hk k; try show Sat _ _ _ _ _)
        (repeat refine Sat.seq ?_)
        refine Sat.atF (ι := Nat × Int × Array Tre) (fun x => ⟨148, [(0, .os 0 ad N cap), (1, .i .i64 a1), (2, .i .i64 b1), (3, .i .i64 lim2), (4, .fn g 0 rdc), (10, .b wb), (11, .b wp), (12, .i .i64 l), (13, .i .i64 x.1), (14, .i .i64 x.2.1)], [treRow ad N cap x.2.2]⟩) (fun x => a1 ≤ x.1 ∧ x.1 < b1 ∧ x.2.2.size = N ∧ PermIn a1 b1 d1 x.2.2) ?_ ?_
        · refine Sat.cond_b rfl (fun h8 => ?_) (fun h8 => ?_)
          · (repeat refine Sat.seq ?_)
            (refine Sat.region_k fun k hk => ?_; simp -implicitDefEqProofs only [evr, id, reduceCtorEq, reduceIte, Nat.reduceMul, Nat.reduceAdd, Nat.reduceLT, Nat.reduceLeDiff, Nat.reduceEqDiff, Int.reduceLT, Int.reduceBEq, Int.reduceBNe, Nat.reduceBEq, tre_one, treRow, treSl, List.append_nil, retM, retMK])
            refine wcall_mut 0 (treRevC F (fv := .fn g 0 rdc) ad cap N d2 hd2 hN a1 b1 (by omega) (by omega)) rfl rfl ?_
            rintro r o1 ⟨rfl, d3, hd3, hp3, rfl⟩
            simp -implicitDefEqProofs only [evr, id, reduceCtorEq, reduceIte, Nat.reduceMul, Nat.reduceAdd, Nat.reduceLT, Nat.reduceLeDiff, Nat.reduceEqDiff, Int.reduceLT, Int.reduceBEq, Int.reduceBNe, Nat.reduceBEq, tre_one, treRow, treSl, List.append_nil, retM, retMK]
            (refine hk _ ?_; clear hk k; try show Sat _ _ _ _ _)
            (repeat refine Sat.seq ?_)
            have e2 : IntKind.i64.wrap ((b1 : Int) - 1) = ((b1 - 1 : Nat) : Int) := by rw [w64 (by omega)]; omega
            have e3 : IntKind.i64.wrap ((x : Int) - (a1 : Int)) = ((x - a1 : Nat) : Int) := by rw [w64 (by omega)]; omega
            have e4 : IntKind.i64.wrap (((b1 - 1 : Nat) : Int) - ((x - a1 : Nat) : Int)) = ((b1 - 1 - (x - a1) : Nat) : Int) := by rw [w64 (by omega)]; omega
            refine Sat.region_k fun k hk => ?_
            simp -implicitDefEqProofs only [evr, id, reduceCtorEq, reduceIte, Nat.reduceMul, Nat.reduceAdd, Nat.reduceLT, Nat.reduceLeDiff, Nat.reduceEqDiff, Int.reduceLT, Int.reduceBEq, Int.reduceBNe, Nat.reduceBEq, tre_one, treRow, treSl, List.append_nil, retM, retMK, e2, e3, e4]
            (refine hk _ ?_; clear hk k; try show Sat _ _ _ _ _)
            (refine Sat.region_k fun k hk => ?_; simp -implicitDefEqProofs only [evr, id, reduceCtorEq, reduceIte, Nat.reduceMul, Nat.reduceAdd, Nat.reduceLT, Nat.reduceLeDiff, Nat.reduceEqDiff, Int.reduceLT, Int.reduceBEq, Int.reduceBNe, Nat.reduceBEq, tre_one, treRow, treSl, List.append_nil, retM, retMK])
            refine hk _ ?_
            simp only [thenK]
            refine ⟨(b1 - 1 - (x - a1), 1, d3), ⟨by show a1 ≤ b1 - 1 - (x - a1); omega, by show b1 - 1 - (x - a1) < b1; omega, hd3, permIn_trans _ _ _ _ _ hp2 hp3⟩, ?_⟩
            simp -implicitDefEqProofs only [evr, id, reduceCtorEq, reduceIte, Nat.reduceMul, Nat.reduceAdd, Nat.reduceLT, Nat.reduceLeDiff, Nat.reduceEqDiff, Int.reduceLT, Int.reduceBEq, Int.reduceBNe, Nat.reduceBEq, tre_one, treRow, treSl, List.append_nil, retM, retMK, evl]
          · refine Sat.skip ?_
            simp only [thenK]
            refine ⟨(x, hint, d2), ⟨hx1, hx2, hd2, hp2⟩, ?_⟩
            simp -implicitDefEqProofs only [evr, id, reduceCtorEq, reduceIte, Nat.reduceMul, Nat.reduceAdd, Nat.reduceLT, Nat.reduceLeDiff, Nat.reduceEqDiff, Int.reduceLT, Int.reduceBEq, Int.reduceBNe, Nat.reduceBEq, tre_one, treRow, treSl, List.append_nil, retM, retMK, evl]
        · clear hx1 hx2 hd2 hp2
          clear x hint d2
          rintro ⟨x, hint, d2⟩ ⟨hx1, hx2, hd2, hp2⟩
          simp only at hx1 hx2 hd2 hp2 ⊢
          simp only [thenK]
          (repeat refine Sat.seq ?_)
          refine Sat.region_at ⟨148, [(75, .b (wb && wp && (hint == 1))), (0, .os 0 ad N cap), (1, .i .i64 a1), (2, .i .i64 b1), (3, .i .i64 lim2), (4, .fn g 0 rdc), (10, .b wb), (11, .b wp), (12, .i .i64 l), (13, .i .i64 x)], [treRow ad N cap d2]⟩ (fun k hk => ?_) ?_
          · simp -implicitDefEqProofs only [evr, id, reduceCtorEq, reduceIte, Nat.reduceMul, Nat.reduceAdd, Nat.reduceLT, Nat.reduceLeDiff, Nat.reduceEqDiff, Int.reduceLT, Int.reduceBEq, Int.reduceBNe, Nat.reduceBEq, tre_one, treRow, treSl, List.append_nil, retM, retMK]
            refine ⟨fun hw1 => ⟨fun hw2 => hk _ ?_, fun hw2 => hk _ ?_⟩, fun hw1 => hk _ ?_⟩
            · subst hw1 hw2
              simp only [Bool.true_and]
              simp -implicitDefEqProofs only [evr, id, reduceCtorEq, reduceIte, Nat.reduceMul, Nat.reduceAdd, Nat.reduceLT, Nat.reduceLeDiff, Nat.reduceEqDiff, Int.reduceLT, Int.reduceBEq, Int.reduceBNe, Nat.reduceBEq, tre_one, treRow, treSl, List.append_nil, retM, retMK, evl]
            · subst hw1 hw2
              simp only [Bool.true_and, Bool.false_and]
              simp -implicitDefEqProofs only [evr, id, reduceCtorEq, reduceIte, Nat.reduceMul, Nat.reduceAdd, Nat.reduceLT, Nat.reduceLeDiff, Nat.reduceEqDiff, Int.reduceLT, Int.reduceBEq, Int.reduceBNe, Nat.reduceBEq, tre_one, treRow, treSl, List.append_nil, retM, retMK, evl]
            · subst hw1
              simp only [Bool.false_and]
              simp -implicitDefEqProofs only [evr, id, reduceCtorEq, reduceIte, Nat.reduceMul, Nat.reduceAdd, Nat.reduceLT, Nat.reduceLeDiff, Nat.reduceEqDiff, Int.reduceLT, Int.reduceBEq, Int.reduceBNe, Nat.reduceBEq, tre_one, treRow, treSl, List.append_nil, retM, retMK, evl]
          · simp only [thenK]
            (repeat refine Sat.seq ?_)
            refine Sat.atF (ι := Array Tre) (fun x3 => ⟨148, [(0, .os 0 ad N cap), (1, .i .i64 a1), (2, .i .i64 b1), (3, .i .i64 lim2), (4, .fn g 0 rdc), (10, .b wb), (11, .b wp), (12, .i .i64 l), (13, .i .i64 x)], [treRow ad N cap x3]⟩) (fun x3 => x3.size = N ∧ PermIn a1 b1 d1 x3) ?_ ?_
            · refine Sat.cond_b rfl (fun h8 => ?_) (fun h8 => ?_)
              · (repeat refine Sat.seq ?_)
                (refine Sat.region_k fun k hk => ?_; simp -implicitDefEqProofs only [evr, id, reduceCtorEq, reduceIte, Nat.reduceMul, Nat.reduceAdd, Nat.reduceLT, Nat.reduceLeDiff, Nat.reduceEqDiff, Int.reduceLT, Int.reduceBEq, Int.reduceBNe, Nat.reduceBEq, tre_one, treRow, treSl, List.append_nil, retM, retMK])
                refine wcall_mut 0 (trePinC F (rdc := rdc) hc ad cap N d2 hd2 hN a1 b1 (by omega) (by omega)) rfl rfl ?_
                rintro r o1 ⟨d3, y, hd3, he3, rfl, rfl⟩
                have hs := partialInsertionSort_holds hw d2 a1 b1 (by omega) (by omega) (hB1.perm (by omega) hp2)
                rw [he3] at hs
                have hp3 := permIn_trans _ _ _ _ _ hp2 hs.1
                simp -implicitDefEqProofs only [evr, id, reduceCtorEq, reduceIte, Nat.reduceMul, Nat.reduceAdd, Nat.reduceLT, Nat.reduceLeDiff, Nat.reduceEqDiff, Int.reduceLT, Int.reduceBEq, Int.reduceBNe, Nat.reduceBEq, tre_one, treRow, treSl, List.append_nil, retM, retMK]
                (refine hk _ ?_; clear hk k; try show Sat _ _ _ _ _)
                (repeat refine Sat.seq ?_)
                refine Sat.cond_b rfl (fun h7 => ?_) (fun h7 => ?_)
                · refine Sat.ret ?_
                  simp only [thenK, blockK, Try.results65, evr, id, reduceCtorEq, reduceIte, Nat.reduceMul, Nat.reduceAdd, Nat.reduceLT, Nat.reduceLeDiff, Nat.reduceEqDiff, Int.reduceLT, Int.reduceBEq, Int.reduceBNe, Nat.reduceBEq, tre_one, treRow, treSl, List.append_nil, retM, retMK]
                  exact ⟨_, _, rfl, d3, hd3, hfin d3 hp3 (hs.2 h7), rfl⟩
                · refine Sat.skip ?_
                  simp only [thenK]
                  refine ⟨d3, ⟨hd3, hp3⟩, ?_⟩
                  simp -implicitDefEqProofs only [evr, id, reduceCtorEq, reduceIte, Nat.reduceMul, Nat.reduceAdd, Nat.reduceLT, Nat.reduceLeDiff, Nat.reduceEqDiff, Int.reduceLT, Int.reduceBEq, Int.reduceBNe, Nat.reduceBEq, tre_one, treRow, treSl, List.append_nil, retM, retMK, evl]
              · refine Sat.skip ?_
                simp only [thenK]
                refine ⟨d2, ⟨hd2, hp2⟩, ?_⟩
                simp -implicitDefEqProofs only [evr, id, reduceCtorEq, reduceIte, Nat.reduceMul, Nat.reduceAdd, Nat.reduceLT, Nat.reduceLeDiff, Nat.reduceEqDiff, Int.reduceLT, Int.reduceBEq, Int.reduceBNe, Nat.reduceBEq, tre_one, treRow, treSl, List.append_nil, retM, retMK, evl]
            · clear hd2 hp2
              clear d2
              rintro d3 ⟨hd3, hp3⟩
              have hB3 : Below lt a1 b1 d3 := hB1.perm (by omega) hp3
              simp only [thenK]
              (repeat refine Sat.seq ?_)
              have e2 : IntKind.i64.wrap ((a1 : Int) - 1) = ((a1 : Int) - 1) := w64 (by omega)
              have e3 : ((a1 : Int) - 1).toNat = a1 - 1 := by omega
              refine Sat.region_qat (by kernel_rfl) (by kernel_rfl) ⟨148, [(97, .b (decide (0 < a1) && !lt d3[a1 - 1]! d3[x]!)), (0, .os 0 ad N cap), (1, .i .i64 a1), (2, .i .i64 b1), (3, .i .i64 lim2), (4, .fn g 0 rdc), (10, .b wb), (11, .b wp), (12, .i .i64 l), (13, .i .i64 x)], [treRow ad N cap d3]⟩ (fun k hk => ?_) ?_
              · simp -implicitDefEqProofs only [evr, id, reduceCtorEq, reduceIte, Nat.reduceMul, Nat.reduceAdd, Nat.reduceLT, Nat.reduceLeDiff, Nat.reduceEqDiff, Int.reduceLT, Int.reduceBEq, Int.reduceBNe, Nat.reduceBEq, tre_one, treRow, treSl, List.append_nil, retM, retMK, e2, e3]
                refine ⟨fun h0 => ?_, fun h0 => ?_⟩
                · refine ⟨by omega, by omega, by omega, by omega, ?_⟩
                  refine tre_qcmp hc d3[a1 - 1]! d3[x]! fun c hcl => ?_
                  simp -implicitDefEqProofs only [evr, id, reduceCtorEq, reduceIte, Nat.reduceMul, Nat.reduceAdd, Nat.reduceLT, Nat.reduceLeDiff, Nat.reduceEqDiff, Int.reduceLT, Int.reduceBEq, Int.reduceBNe, Nat.reduceBEq, tre_one, treRow, treSl, List.append_nil, retM, retMK]
                  refine hk _ ?_
                  have e4 : (decide (0 < a1) && !lt d3[a1 - 1]! d3[x]!) = !decide (c < 0) := by rw [hcl]; simp; omega
                  simp only [e4]
                  simp -implicitDefEqProofs only [evr, id, reduceCtorEq, reduceIte, Nat.reduceMul, Nat.reduceAdd, Nat.reduceLT, Nat.reduceLeDiff, Nat.reduceEqDiff, Int.reduceLT, Int.reduceBEq, Int.reduceBNe, Nat.reduceBEq, tre_one, treRow, treSl, List.append_nil, retM, retMK, evl]
                · refine hk _ ?_
                  have e4 : (decide (0 < a1) && !lt d3[a1 - 1]! d3[x]!) = false := by simp; omega
                  simp only [e4]
                  simp -implicitDefEqProofs only [evr, id, reduceCtorEq, reduceIte, Nat.reduceMul, Nat.reduceAdd, Nat.reduceLT, Nat.reduceLeDiff, Nat.reduceEqDiff, Int.reduceLT, Int.reduceBEq, Int.reduceBNe, Nat.reduceBEq, tre_one, treRow, treSl, List.append_nil, retM, retMK, evl]
              · simp only [thenK]
                (repeat refine Sat.seq ?_)
                refine Sat.cond_b rfl (fun h8 => ?_) (fun h8 => ?_)
                · simp only [Bool.and_eq_true, decide_eq_true_eq, Bool.not_eq_true'] at h8
                  (repeat refine Sat.seq ?_)
                  (refine Sat.region_k fun k hk => ?_; simp -implicitDefEqProofs only [evr, id, reduceCtorEq, reduceIte, Nat.reduceMul, Nat.reduceAdd, Nat.reduceLT, Nat.reduceLeDiff, Nat.reduceEqDiff, Int.reduceLT, Int.reduceBEq, Int.reduceBNe, Nat.reduceBEq, tre_one, treRow, treSl, List.append_nil, retM, retMK])
                  refine wcall_mut 0 (trePeqC F (rdc := rdc) hc ad cap N d3 hd3 hN a1 b1 x hx1 hx2 (by omega)) rfl rfl ?_
                  rintro r o1 ⟨m, d4, hd4, he4, rfl, rfl⟩
                  obtain ⟨g1, g2, g3, g4, g5⟩ := round_eq hw (partitionEqual_holds lt) h8.1 hx1 hx2 (by omega) hB3 h8.2 he4
                  simp -implicitDefEqProofs only [evr, id, reduceCtorEq, reduceIte, Nat.reduceMul, Nat.reduceAdd, Nat.reduceLT, Nat.reduceLeDiff, Nat.reduceEqDiff, Int.reduceLT, Int.reduceBEq, Int.reduceBNe, Nat.reduceBEq, tre_one, treRow, treSl, List.append_nil, retM, retMK]
                  (refine hk _ ?_; clear hk k; try show Sat _ _ _ _ _)
                  (repeat refine Sat.seq ?_)
                  (refine Sat.region_k fun k hk => ?_; simp -implicitDefEqProofs only [evr, id, reduceCtorEq, reduceIte, Nat.reduceMul, Nat.reduceAdd, Nat.reduceLT, Nat.reduceLeDiff, Nat.reduceEqDiff, Int.reduceLT, Int.reduceBEq, Int.reduceBNe, Nat.reduceBEq, tre_one, treRow, treSl, List.append_nil, retM, retMK])
                  refine hk _ ?_
                  simp only [thenK]
                  refine Sat.exit ?_
                  simp only [thenK, blockK, Nat.reduceEqDiff, reduceIte]
                  refine ⟨(m, b1, lim2, wb, wp, d4), ⟨g2, h2, by show b1 - m ≤ b - a; omega, h5, hd4, g4, fun R r1 r2 => by
                    obtain ⟨q1, q2⟩ := g5 R r1 r2
                    exact hfin R (permIn_trans _ _ _ _ _ hp3 q1) q2⟩, by show b1 - m < b1 - a1; omega, ?_⟩
                  simp -implicitDefEqProofs only [evr, id, reduceCtorEq, reduceIte, Nat.reduceMul, Nat.reduceAdd, Nat.reduceLT, Nat.reduceLeDiff, Nat.reduceEqDiff, Int.reduceLT, Int.reduceBEq, Int.reduceBNe, Nat.reduceBEq, tre_one, treRow, treSl, List.append_nil, retM, retMK, evl]
                · refine Sat.skip ?_
                  simp only [thenK]
                  (repeat refine Sat.seq ?_)
                  (refine Sat.region_k fun k hk => ?_; simp -implicitDefEqProofs only [evr, id, reduceCtorEq, reduceIte, Nat.reduceMul, Nat.reduceAdd, Nat.reduceLT, Nat.reduceLeDiff, Nat.reduceEqDiff, Int.reduceLT, Int.reduceBEq, Int.reduceBNe, Nat.reduceBEq, tre_one, treRow, treSl, List.append_nil, retM, retMK])
                  refine wcall_mut 0 (trePartC F (rdc := rdc) hc ad cap N d3 hd3 hN a1 b1 x hx1 hx2 (by omega)) rfl rfl ?_
                  rintro r o1 ⟨m, ap, d4, hd4, he4, rfl, rfl⟩
                  obtain ⟨g1, g2, g3, g4, g5, gl, gr⟩ := round_part hw (partition_holds lt) hx1 hx2 (by omega) hB3 he4
                  simp -implicitDefEqProofs only [evr, id, reduceCtorEq, reduceIte, Nat.reduceMul, Nat.reduceAdd, Nat.reduceLT, Nat.reduceLeDiff, Nat.reduceEqDiff, Int.reduceLT, Int.reduceBEq, Int.reduceBNe, Nat.reduceBEq, tre_one, treRow, treSl, List.append_nil, retM, retMK]
                  (refine hk _ ?_; clear hk k; try show Sat _ _ _ _ _)
                  (repeat refine Sat.seq ?_)
                  (refine Sat.region_k fun k hk => ?_; simp -implicitDefEqProofs only [evr, id, reduceCtorEq, reduceIte, Nat.reduceMul, Nat.reduceAdd, Nat.reduceLT, Nat.reduceLeDiff, Nat.reduceEqDiff, Int.reduceLT, Int.reduceBEq, Int.reduceBNe, Nat.reduceBEq, tre_one, treRow, treSl, List.append_nil, retM, retMK]; refine hk _ ?_; clear hk k; try show Sat _ _ _ _ _)
                  (repeat refine Sat.seq ?_)
                  have e5 : IntKind.i64.wrap ((m : Int) - (a1 : Int)) = ((m : Int) - (a1 : Int)) := w64 (by omega)
                  have e6 : IntKind.i64.wrap ((b1 : Int) - (m : Int)) = ((b1 : Int) - (m : Int)) := w64 (by omega)
                  have e7 : IntKind.i64.wrap ((l : Int).tdiv 8) = ((l / 8 : Nat) : Int) := by rw [Int.tdiv_eq_ediv_of_nonneg (by omega), w64 (by omega)]; omega
                  have e8 : IntKind.i64.wrap ((m : Int) + 1) = ((m + 1 : Nat) : Int) := by rw [w64 (by omega)]; omega
                  refine Sat.region_k fun k hk => ?_
                  simp -implicitDefEqProofs only [evr, id, reduceCtorEq, reduceIte, Nat.reduceMul, Nat.reduceAdd, Nat.reduceLT, Nat.reduceLeDiff, Nat.reduceEqDiff, Int.reduceLT, Int.reduceBEq, Int.reduceBNe, Nat.reduceBEq, tre_one, treRow, treSl, List.append_nil, retM, retMK, e5, e6]
                  (refine hk _ ?_; clear hk k; try show Sat _ _ _ _ _)
                  (repeat refine Sat.seq ?_)
                  refine Sat.region_k fun k hk => ?_
                  simp -implicitDefEqProofs only [evr, id, reduceCtorEq, reduceIte, Nat.reduceMul, Nat.reduceAdd, Nat.reduceLT, Nat.reduceLeDiff, Nat.reduceEqDiff, Int.reduceLT, Int.reduceBEq, Int.reduceBNe, Nat.reduceBEq, tre_one, treRow, treSl, List.append_nil, retM, retMK, e7]
                  refine ⟨by decide, ?_⟩
                  (refine hk _ ?_; clear hk k; try show Sat _ _ _ _ _)
                  (repeat refine Sat.seq ?_)
                  (refine Sat.region_k fun k hk => ?_; simp -implicitDefEqProofs only [evr, id, reduceCtorEq, reduceIte, Nat.reduceMul, Nat.reduceAdd, Nat.reduceLT, Nat.reduceLeDiff, Nat.reduceEqDiff, Int.reduceLT, Int.reduceBEq, Int.reduceBNe, Nat.reduceBEq, tre_one, treRow, treSl, List.append_nil, retM, retMK]; refine hk _ ?_; clear hk k; try show Sat _ _ _ _ _)
                  (repeat refine Sat.seq ?_)
                  refine Sat.atF (ι := Nat × Nat × Nat × Bool × Bool × Array Tre) (fun x => ⟨148, [(1, .i .i64 x.1), (2, .i .i64 x.2.1), (3, .i .i64 x.2.2.1), (10, .b x.2.2.2.1), (11, .b x.2.2.2.2.1), (0, .os 0 ad N cap), (4, .fn g 0 rdc)], [treRow ad N cap x.2.2.2.2.2]⟩)
                    (fun x => treInv lt N d a b x ∧ x.2.1 - x.1 < b1 - a1) ?_ ?_
                  · refine Sat.cond_b rfl (fun h7 => ?_) (fun h7 => ?_)
                    · (repeat refine Sat.seq ?_)
                      (refine Sat.region_k fun k hk => ?_; simp -implicitDefEqProofs only [evr, id, reduceCtorEq, reduceIte, Nat.reduceMul, Nat.reduceAdd, Nat.reduceLT, Nat.reduceLeDiff, Nat.reduceEqDiff, Int.reduceLT, Int.reduceBEq, Int.reduceBNe, Nat.reduceBEq, tre_one, treRow, treSl, List.append_nil, retM, retMK]; refine hk _ ?_; clear hk k; try show Sat _ _ _ _ _)
                      (repeat refine Sat.seq ?_)
                      (refine Sat.region_k fun k hk => ?_; simp -implicitDefEqProofs only [evr, id, reduceCtorEq, reduceIte, Nat.reduceMul, Nat.reduceAdd, Nat.reduceLT, Nat.reduceLeDiff, Nat.reduceEqDiff, Int.reduceLT, Int.reduceBEq, Int.reduceBNe, Nat.reduceBEq, tre_one, treRow, treSl, List.append_nil, retM, retMK])
                      refine wcall_mut 0 (ih (m - a1) (by omega) a1 m lim2 d4 hd4 (Nat.le_refl _) g1 (by omega) h5 g4) rfl rfl ?_
                      rintro r o1 ⟨rfl, d5, hd5, hs5, rfl⟩
                      obtain ⟨q1, q2⟩ := gl d5 hs5.1 hs5.2
                      simp -implicitDefEqProofs only [evr, id, reduceCtorEq, reduceIte, Nat.reduceMul, Nat.reduceAdd, Nat.reduceLT, Nat.reduceLeDiff, Nat.reduceEqDiff, Int.reduceLT, Int.reduceBEq, Int.reduceBNe, Nat.reduceBEq, tre_one, treRow, treSl, List.append_nil, retM, retMK]
                      (refine hk _ ?_; clear hk k; try show Sat _ _ _ _ _)
                      (repeat refine Sat.seq ?_)
                      refine Sat.region_k fun k hk => ?_
                      simp -implicitDefEqProofs only [evr, id, reduceCtorEq, reduceIte, Nat.reduceMul, Nat.reduceAdd, Nat.reduceLT, Nat.reduceLeDiff, Nat.reduceEqDiff, Int.reduceLT, Int.reduceBEq, Int.reduceBNe, Nat.reduceBEq, tre_one, treRow, treSl, List.append_nil, retM, retMK, e8]
                      refine hk _ ?_
                      simp only [thenK]
                      refine ⟨(m + 1, b1, lim2, decide (((l / 8 : Nat) : Int) ≤ (m : Int) - (a1 : Int)), ap, d5), ⟨⟨by show m + 1 ≤ b1; omega, h2, by show b1 - (m + 1) ≤ b - a; omega, h5, hd5, q1, fun R r1 r2 => by
                        obtain ⟨u1, u2⟩ := q2 R r1 r2
                        exact hfin R (permIn_trans _ _ _ _ _ hp3 u1) u2⟩, by show b1 - (m + 1) < b1 - a1; omega⟩, ?_⟩
                      simp -implicitDefEqProofs only [evr, id, reduceCtorEq, reduceIte, Nat.reduceMul, Nat.reduceAdd, Nat.reduceLT, Nat.reduceLeDiff, Nat.reduceEqDiff, Int.reduceLT, Int.reduceBEq, Int.reduceBNe, Nat.reduceBEq, tre_one, treRow, treSl, List.append_nil, retM, retMK, evl]
                    · (repeat refine Sat.seq ?_)
                      (refine Sat.region_k fun k hk => ?_; simp -implicitDefEqProofs only [evr, id, reduceCtorEq, reduceIte, Nat.reduceMul, Nat.reduceAdd, Nat.reduceLT, Nat.reduceLeDiff, Nat.reduceEqDiff, Int.reduceLT, Int.reduceBEq, Int.reduceBNe, Nat.reduceBEq, tre_one, treRow, treSl, List.append_nil, retM, retMK]; refine hk _ ?_; clear hk k; try show Sat _ _ _ _ _)
                      (repeat refine Sat.seq ?_)
                      refine Sat.region_k fun k hk => ?_
                      simp -implicitDefEqProofs only [evr, id, reduceCtorEq, reduceIte, Nat.reduceMul, Nat.reduceAdd, Nat.reduceLT, Nat.reduceLeDiff, Nat.reduceEqDiff, Int.reduceLT, Int.reduceBEq, Int.reduceBNe, Nat.reduceBEq, tre_one, treRow, treSl, List.append_nil, retM, retMK, e8]
                      refine wcall_mut 0 (ih (b1 - (m + 1)) (by omega) (m + 1) b1 lim2 d4 hd4 (Nat.le_refl _) (by omega) (by omega) h5 g5) rfl rfl ?_
                      rintro r o1 ⟨rfl, d5, hd5, hs5, rfl⟩
                      obtain ⟨q1, q2⟩ := gr d5 hs5.1 hs5.2
                      simp -implicitDefEqProofs only [evr, id, reduceCtorEq, reduceIte, Nat.reduceMul, Nat.reduceAdd, Nat.reduceLT, Nat.reduceLeDiff, Nat.reduceEqDiff, Int.reduceLT, Int.reduceBEq, Int.reduceBNe, Nat.reduceBEq, tre_one, treRow, treSl, List.append_nil, retM, retMK]
                      (refine hk _ ?_; clear hk k; try show Sat _ _ _ _ _)
                      (repeat refine Sat.seq ?_)
                      (refine Sat.region_k fun k hk => ?_; simp -implicitDefEqProofs only [evr, id, reduceCtorEq, reduceIte, Nat.reduceMul, Nat.reduceAdd, Nat.reduceLT, Nat.reduceLeDiff, Nat.reduceEqDiff, Int.reduceLT, Int.reduceBEq, Int.reduceBNe, Nat.reduceBEq, tre_one, treRow, treSl, List.append_nil, retM, retMK])
                      refine hk _ ?_
                      simp only [thenK]
                      refine ⟨(a1, m, lim2, decide (((l / 8 : Nat) : Int) ≤ (b1 : Int) - (m : Int)), ap, d5), ⟨⟨g1, by show m ≤ b; omega, by show m - a1 ≤ b - a; omega, h5, hd5, q1, fun R r1 r2 => by
                        obtain ⟨u1, u2⟩ := q2 R r1 r2
                        exact hfin R (permIn_trans _ _ _ _ _ hp3 u1) u2⟩, by show m - a1 < b1 - a1; omega⟩, ?_⟩
                      simp -implicitDefEqProofs only [evr, id, reduceCtorEq, reduceIte, Nat.reduceMul, Nat.reduceAdd, Nat.reduceLT, Nat.reduceLeDiff, Nat.reduceEqDiff, Int.reduceLT, Int.reduceBEq, Int.reduceBNe, Nat.reduceBEq, tre_one, treRow, treSl, List.append_nil, retM, retMK, evl]
                  · rintro ⟨a2, b2, lim3, wb2, wp2, d5⟩ ⟨hinv, hless⟩
                    simp only [thenK, blockK]
                    exact ⟨(a2, b2, lim3, wb2, wp2, d5), hinv, hless, by simp -implicitDefEqProofs only [evr, id, reduceCtorEq, reduceIte, Nat.reduceMul, Nat.reduceAdd, Nat.reduceLT, Nat.reduceLeDiff, Nat.reduceEqDiff, Int.reduceLT, Int.reduceBEq, Int.reduceBNe, Nat.reduceBEq, tre_one, treRow, treSl, List.append_nil, retM, retMK, evl]⟩
set_option maxRecDepth 100000 in
theorem treSortC (F : Frm) {g : FuncId} {rdc : Nat → SV} {lt : Tre → Tre → Bool} (hw : SWO lt) (hc : treCmp g lt) (ad : Option Addr) (cap N : Nat) (hN : N ≤ 1000000000000) (d : Array Tre) (hd : d.size = N) :
    ContractM F Try.prog 49 [.os 0 ad N cap, .fn g 0 rdc] (treRow ad N cap d)
      (fun r o1 => r = tupL [] ∧ ∃ d', d'.size = N ∧ (PermIn 0 N d d' ∧ SortedIn lt 0 N d') ∧ o1 = treRow ad N cap d') := by
  refine contractM_of Try.func49 rfl (by kernel_rfl) (by rintro r o1 ⟨_, d', _, _, rfl⟩; exact tre_blk _ _) ?_
  simp only [Try.ntmps49, argEnv]
  have hl : bitsLen N ≤ 62 := (bitsLen_le_iff N 62).2 (by omega)
  have e1 : IntKind.u64.wrap (N : Int) = (N : Int) := IntWalk.u64_in _ (by omega)
  (repeat refine Sat.seq ?_)
  (refine Sat.region_k fun k hk => ?_; simp -implicitDefEqProofs only [evr, id, reduceCtorEq, reduceIte, Nat.reduceMul, Nat.reduceAdd, Nat.reduceLT, Nat.reduceLeDiff, Nat.reduceEqDiff, Int.reduceLT, Int.reduceBEq, Int.reduceBNe, Nat.reduceBEq, tre_one, treRow, treSl, List.append_nil, retM, retMK]; refine hk _ ?_; clear hk k; try show Sat _ _ _ _ _)
  (repeat refine Sat.seq ?_)
  refine Sat.region_k fun k hk => ?_
  simp -implicitDefEqProofs only [evr, id, reduceCtorEq, reduceIte, Nat.reduceMul, Nat.reduceAdd, Nat.reduceLT, Nat.reduceLeDiff, Nat.reduceEqDiff, Int.reduceLT, Int.reduceBEq, Int.reduceBNe, Nat.reduceBEq, tre_one, treRow, treSl, List.append_nil, retM, retMK, e1]
  refine wcall_plain (lenC F N (by omega)) rfl (by rintro _ rfl; exact ok_plain rfl) ?_
  rintro r rfl
  simp -implicitDefEqProofs only [evr, id, reduceCtorEq, reduceIte, Nat.reduceMul, Nat.reduceAdd, Nat.reduceLT, Nat.reduceLeDiff, Nat.reduceEqDiff, Int.reduceLT, Int.reduceBEq, Int.reduceBNe, Nat.reduceBEq, tre_one, treRow, treSl, List.append_nil, retM, retMK]
  refine wcall_mut 0 (trePdqC F (rdc := rdc) hw hc ad cap N hN N 0 N (bitsLen N) d hd (by omega) (by omega) (Nat.le_refl _) (by omega) (.inl rfl)) rfl rfl ?_
  rintro r o1 ⟨rfl, d', hd', hs, rfl⟩
  simp -implicitDefEqProofs only [evr, id, reduceCtorEq, reduceIte, Nat.reduceMul, Nat.reduceAdd, Nat.reduceLT, Nat.reduceLeDiff, Nat.reduceEqDiff, Int.reduceLT, Int.reduceBEq, Int.reduceBNe, Nat.reduceBEq, tre_one, treRow, treSl, List.append_nil, retM, retMK]
  refine hk _ ?_
  simp only [Try.results49, evr, id, reduceCtorEq, reduceIte, Nat.reduceMul, Nat.reduceAdd, Nat.reduceLT, Nat.reduceLeDiff, Nat.reduceEqDiff, Int.reduceLT, Int.reduceBEq, Int.reduceBNe, Nat.reduceBEq, tre_one, treRow, treSl, List.append_nil, retM, retMK]
  exact ⟨_, _, rfl, d', hd', hs, rfl⟩
end Go.Proofs.Ytkpmihaaijiihaa

/- Rows of traces: slices.Compact. -/
set_option linter.unusedSimpArgs false
set_option linter.unusedVariables false
namespace Go.Proofs.Ytkpmihaaijiihaa
open Go.Sort Eng
theorem tre_ro (own : List Own) (d : Array Tre) (i j : Nat) (h : j < 3) : roArg own (treRd d i j) = treRd d i j := by
  rcases (show j = 0 ∨ j = 1 ∨ j = 2 by omega) with rfl | rfl | rfl <;> rfl
theorem tre_cat (xs ys : List Tre) : rdEq (xs.length + ys.length) 3 (rdCat xs.length (treRd xs.toArray) (treRd ys.toArray)) (treRd (xs ++ ys).toArray) := by
  intro p q hp hq
  unfold rdCat treRd
  by_cases h : p < xs.length
  · rw [if_pos h]
    simp [getElem!_def, List.getElem?_append, h]
  · rw [if_neg h]
    simp [getElem!_def, List.getElem?_append, h]
theorem tre_eqs (s t : Tre) : aggEq Try.prog 64 3 (fun j => (Tre.cs s).getD j default) 3 (fun j => (Tre.cs t).getD j default) = some ([s.van == t.van, s.dst == t.dst, s.pro == t.pro].all id) := by kernel_rfl
theorem tre_eq (s t : Tre) : aggEq Try.prog 64 3 (fun j => (Tre.cs s).getD j default) 3 (fun j => (Tre.cs t).getD j default) = some (decide (s = t)) := by
  rw [tre_eqs]
  congr 1
  apply Bool.eq_iff_iff.2
  cases s; cases t
  simp
theorem tre_eqr (d e : Array Tre) (i k : Nat) : aggEq Try.prog 64 3 (treRd d i) 3 (treRd e k) = some (decide (d[i]! = e[k]!)) := tre_eq _ _
theorem tre_set {d : Array Tre} {N k : Nat} (hN : d.size = N) (hk : k < N) (q : Nat) : rdEq N 3 (rdSet (treRd d) k 0 ((List.range 3).map (treRd d q))) (treRd (d.setIfInBounds k d[q]!)) := by
  intro p j hp hj
  unfold rdSet
  have hl : ((List.range 3).map (treRd d q)).length = 3 := by simp
  have hg : ((List.range 3).map (treRd d q)).getD (j - 0) default = treRd d q j := by simp [List.getD, hj]
  simp only [hl, hg, Nat.zero_le, Nat.zero_add, hj, and_true, true_and]
  by_cases e : p = k
  · subst e
    simp [treRd, getElem!_def, hN, hk]
  · rw [if_neg e]
    unfold treRd
    simp [getElem!_def, Ne.symm e]
theorem compactT_snoc : ∀ (l : List Tre) (a b : Tre), compactT (l ++ [a, b]) = if a = b then compactT (l ++ [a]) else compactT (l ++ [a]) ++ [b]
  | [], a, b => by by_cases h : a = b <;> simp [compactT, h]
  | [x], a, b => by
    simp only [List.cons_append, List.nil_append, compactT]
    by_cases h1 : x = a <;> by_cases h2 : a = b <;> simp [h1, h2]
  | x :: y :: l, a, b => by
    have ih := compactT_snoc (y :: l) a b
    simp only [List.cons_append] at ih ⊢
    simp only [compactT]
    rw [ih]
    by_cases h1 : x = y <;> by_cases h2 : a = b <;> simp [h1, h2]
theorem compactT_take (d : Array Tre) (j : Nat) (h1 : 1 ≤ j) (h2 : j < d.size) : compactT (d.toList.take (j + 1)) = if d[j]! = d[j - 1]! then compactT (d.toList.take j) else compactT (d.toList.take j) ++ [d[j]!] := by
  obtain ⟨q, rfl⟩ : ∃ q, j = q + 1 := ⟨j - 1, by omega⟩
  have hl : q + 1 < d.toList.length := by simpa using h2
  rw [List.take_succ_eq_append_getElem hl, List.take_succ_eq_append_getElem (show q < d.toList.length by omega), List.append_assoc]
  simp only [List.cons_append, List.nil_append, Nat.add_sub_cancel]
  rw [compactT_snoc]
  have e1 : d[q + 1]! = d.toList[q + 1] := by simp [getElem!_def, h2]
  have e2 : d[q]! = d.toList[q] := by simp [getElem!_def, show q < d.size by omega]
  rw [e1, e2]
  by_cases h : d.toList[q] = d.toList[q + 1]
  · rw [if_pos h, if_pos h.symm]
  · rw [if_neg h, if_neg (Ne.symm h)]
theorem tre_blk2 {ad : Option Addr} {N N' cap : Nat} (d d' : Array Tre) : (treRow ad N cap d').blk = (treRow ad N' cap d).blk := by cases ad <;> rfl
set_option maxRecDepth 100000 in
theorem compactTC (F : Frm) (ad : Option Addr) (cap N : Nat) (hN : N ≤ 1000000000000) (d : Array Tre) (hd : d.size = N) :
    ContractM F Try.prog 54 [.os 0 ad N cap] (treRow ad N cap d)
      (fun r o1 => r = .os 0 ad (compactT d.toList).length cap ∧ o1 = treRow ad (compactT d.toList).length cap (compactT d.toList).toArray) := by
  refine contractM_of Try.func54 rfl (by kernel_rfl) (by rintro r o1 ⟨_, rfl⟩; exact tre_blk2 _ _) ?_
  simp only [Try.ntmps54, argEnv]
  refine Sat.know_row 0 rfl fun hcap => ?_
  have same : ∀ {n : Nat} {env : List (Nat × SV)}, compactT d.toList = d.toList → Eng.look env 2 = some (.os 0 ad N cap) → retM Try.prog [.tmp 2] (fun r o1 => r = .os 0 ad (compactT d.toList).length cap ∧ o1 = treRow ad (compactT d.toList).length cap (compactT d.toList).toArray) .ret ⟨n, env, [treRow ad N cap d]⟩ := by
    intro n env hc hl
    rw [hc]
    simp -implicitDefEqProofs only [evr, id, reduceCtorEq, reduceIte, Nat.reduceMul, Nat.reduceAdd, Nat.reduceLT, Nat.reduceLeDiff, Nat.reduceEqDiff, Int.reduceLT, Int.reduceBEq, Int.reduceBNe, Nat.reduceBEq, tre_one, List.append_nil, Int.toNat_zero, Nat.sub_self, treRow, tre_eqr, tre_ro, hl]
    refine ⟨by simp [okM], _, _, rfl, ?_, ?_⟩
    · simp [hd]
    · simp [hd]
  (repeat refine Sat.seq ?_)
  (refine Sat.region_k fun k hk => ?_; simp -implicitDefEqProofs only [evr, id, reduceCtorEq, reduceIte, Nat.reduceMul, Nat.reduceAdd, Nat.reduceLT, Nat.reduceLeDiff, Nat.reduceEqDiff, Int.reduceLT, Int.reduceBEq, Int.reduceBNe, Nat.reduceBEq, tre_one, List.append_nil, Int.toNat_zero, Nat.sub_self, treRow, tre_eqr, tre_ro]; refine hk _ ?_; clear hk k; try show Sat _ _ _ _ _)
  (repeat refine Sat.seq ?_)
  (refine Sat.region_k fun k hk => ?_; simp -implicitDefEqProofs only [evr, id, reduceCtorEq, reduceIte, Nat.reduceMul, Nat.reduceAdd, Nat.reduceLT, Nat.reduceLeDiff, Nat.reduceEqDiff, Int.reduceLT, Int.reduceBEq, Int.reduceBNe, Nat.reduceBEq, tre_one, List.append_nil, Int.toNat_zero, Nat.sub_self, treRow, tre_eqr, tre_ro]; refine hk _ ?_; clear hk k; try show Sat _ _ _ _ _)
  (repeat refine Sat.seq ?_)
  refine Sat.cond_b rfl (fun h => ?_) (fun h => ?_)
  · have hlt : N < 2 := by simp only [decide_eq_true_eq] at h; omega
    (repeat refine Sat.seq ?_)
    (refine Sat.region_k fun k hk => ?_; simp -implicitDefEqProofs only [evr, id, reduceCtorEq, reduceIte, Nat.reduceMul, Nat.reduceAdd, Nat.reduceLT, Nat.reduceLeDiff, Nat.reduceEqDiff, Int.reduceLT, Int.reduceBEq, Int.reduceBNe, Nat.reduceBEq, tre_one, List.append_nil, Int.toNat_zero, Nat.sub_self, treRow, tre_eqr, tre_ro]; refine hk _ ?_; clear hk k; try show Sat _ _ _ _ _)
    refine Sat.ret ?_
    refine same ?_ rfl
    have hl : d.toList.length < 2 := by simpa [hd] using hlt
    match d.toList, hl with
    | [], _ => rfl
    | [x], _ => rfl
    | _ :: _ :: _, hl => exact absurd hl (by simp only [List.length_cons]; omega)
  · have hge : 2 ≤ N := by simp only [decide_eq_false_iff_not] at h; omega
    refine Sat.skip ?_
    simp only [thenK]
    (repeat refine Sat.seq ?_)
    (refine Sat.region_k fun k hk => ?_; simp -implicitDefEqProofs only [evr, id, reduceCtorEq, reduceIte, Nat.reduceMul, Nat.reduceAdd, Nat.reduceLT, Nat.reduceLeDiff, Nat.reduceEqDiff, Int.reduceLT, Int.reduceBEq, Int.reduceBNe, Nat.reduceBEq, tre_one, List.append_nil, Int.toNat_zero, Nat.sub_self, treRow, tre_eqr, tre_ro]; refine hk _ ?_; clear hk k; try show Sat _ _ _ _ _)
    (repeat refine Sat.seq ?_)
    refine Sat.block ?_
    refine Sat.loop (ι := Nat) (fun i => ⟨61, [(3, .i .i64 i), (0, .os 0 ad N cap)], [treRow ad N cap d]⟩)
      (fun i => 1 ≤ i ∧ i ≤ N ∧ compactT (d.toList.take i) = d.toList.take i) (fun i => N - i) 1 ⟨Nat.le_refl _, by omega, by
        have hl : d.toList.length = N := by simpa using hd
        match h : d.toList, hl with
        | [], hl => rfl
        | x :: t, hl => rfl⟩ (by simp -implicitDefEqProofs only [evr, id, reduceCtorEq, reduceIte, Nat.reduceMul, Nat.reduceAdd, Nat.reduceLT, Nat.reduceLeDiff, Nat.reduceEqDiff, Int.reduceLT, Int.reduceBEq, Int.reduceBNe, Nat.reduceBEq, tre_one, List.append_nil, Int.toNat_zero, Nat.sub_self, treRow, tre_eqr, tre_ro, evl]; rfl) ?_
    rintro i ⟨hi1, hi2, hi3⟩
    (repeat refine Sat.seq ?_)
    (refine Sat.region_k fun k hk => ?_; simp -implicitDefEqProofs only [evr, id, reduceCtorEq, reduceIte, Nat.reduceMul, Nat.reduceAdd, Nat.reduceLT, Nat.reduceLeDiff, Nat.reduceEqDiff, Int.reduceLT, Int.reduceBEq, Int.reduceBNe, Nat.reduceBEq, tre_one, List.append_nil, Int.toNat_zero, Nat.sub_self, treRow, tre_eqr, tre_ro]; refine hk _ ?_; clear hk k; try show Sat _ _ _ _ _)
    (repeat refine Sat.seq ?_)
    refine Sat.cond_b rfl (fun h => ?_) (fun h => ?_)
    · have h1 : i < N := by simp only [decide_eq_true_eq] at h; omega
      have e2 : IntKind.i64.wrap ((i : Int) - 1) = ((i - 1 : Nat) : Int) := by rw [w64 (by omega)]; omega
      have e3 : IntKind.i64.wrap ((i : Int) + 1) = ((i + 1 : Nat) : Int) := by rw [w64 (by omega)]; omega
      have hct := compactT_take d i hi1 (by omega)
      refine Sat.skip ?_
      simp only [thenK]
      (repeat refine Sat.seq ?_)
      refine Sat.block ?_
      (repeat refine Sat.seq ?_)
      refine Sat.region_qk (by kernel_rfl) (by kernel_rfl) fun k hk => ?_
      simp -implicitDefEqProofs only [evr, id, reduceCtorEq, reduceIte, Nat.reduceMul, Nat.reduceAdd, Nat.reduceLT, Nat.reduceLeDiff, Nat.reduceEqDiff, Int.reduceLT, Int.reduceBEq, Int.reduceBNe, Nat.reduceBEq, tre_one, List.append_nil, Int.toNat_zero, Nat.sub_self, treRow, tre_eqr, tre_ro, e2]
      refine ⟨by omega, by omega, by omega, by omega, ?_⟩
      (refine hk _ ?_; clear hk k; try show Sat _ _ _ _ _)
      (repeat refine Sat.seq ?_)
      refine Sat.cond_b rfl (fun h3 => ?_) (fun h3 => ?_)
      · simp only [decide_eq_true_eq] at h3
        rw [if_pos h3, hi3] at hct
        (repeat refine Sat.seq ?_)
        (refine Sat.region_k fun k hk => ?_; simp -implicitDefEqProofs only [evr, id, reduceCtorEq, reduceIte, Nat.reduceMul, Nat.reduceAdd, Nat.reduceLT, Nat.reduceLeDiff, Nat.reduceEqDiff, Int.reduceLT, Int.reduceBEq, Int.reduceBNe, Nat.reduceBEq, tre_one, List.append_nil, Int.toNat_zero, Nat.sub_self, treRow, tre_eqr, tre_ro])
        refine ⟨by omega, ?_⟩
        (refine hk _ ?_; clear hk k; try show Sat _ _ _ _ _)
        (repeat refine Sat.seq ?_)
        (refine Sat.region_k fun k hk => ?_; simp -implicitDefEqProofs only [evr, id, reduceCtorEq, reduceIte, Nat.reduceMul, Nat.reduceAdd, Nat.reduceLT, Nat.reduceLeDiff, Nat.reduceEqDiff, Int.reduceLT, Int.reduceBEq, Int.reduceBNe, Nat.reduceBEq, tre_one, List.append_nil, Int.toNat_zero, Nat.sub_self, treRow, tre_eqr, tre_ro]; refine hk _ ?_; clear hk k; try show Sat _ _ _ _ _)
        (repeat refine Sat.seq ?_)
        refine Sat.block ?_
        refine Sat.loop (ι := Nat × Nat × Array Tre) (fun x => ⟨61, [(3, .i .i64 x.1), (5, .i .i64 x.2.1), (0, .os 0 ad N cap), (4, .ow 0 ad 3 i (N - i) (cap - i))], [treRow ad N cap x.2.2]⟩)
          (fun x => 1 ≤ x.2.1 ∧ x.2.1 ≤ N - i ∧ x.1 ≤ i + x.2.1 - 1 ∧ x.2.2.size = N ∧ (∀ q, i + x.2.1 - 1 ≤ q → x.2.2[q]! = d[q]!) ∧ x.2.2.toList.take x.1 = compactT (d.toList.take (i + x.2.1))) (fun x => N - x.2.1) (i, 1, d) ⟨Nat.le_refl _, by show 1 ≤ N - i; omega, by show i ≤ i + 1 - 1; omega, hd, fun _ _ => rfl, hct.symm⟩ (by simp -implicitDefEqProofs only [evr, id, reduceCtorEq, reduceIte, Nat.reduceMul, Nat.reduceAdd, Nat.reduceLT, Nat.reduceLeDiff, Nat.reduceEqDiff, Int.reduceLT, Int.reduceBEq, Int.reduceBNe, Nat.reduceBEq, tre_one, List.append_nil, Int.toNat_zero, Nat.sub_self, treRow, tre_eqr, tre_ro, evl]; first | rfl | exact ⟨rfl, rfl⟩) ?_
        rintro ⟨w, r, d2⟩ ⟨hr1, hr2, hw, hd2, hq, ht⟩
        simp only at hr1 hr2 hw hd2 hq ht ⊢
        (repeat refine Sat.seq ?_)
        (refine Sat.region_k fun k hk => ?_; simp -implicitDefEqProofs only [evr, id, reduceCtorEq, reduceIte, Nat.reduceMul, Nat.reduceAdd, Nat.reduceLT, Nat.reduceLeDiff, Nat.reduceEqDiff, Int.reduceLT, Int.reduceBEq, Int.reduceBNe, Nat.reduceBEq, tre_one, List.append_nil, Int.toNat_zero, Nat.sub_self, treRow, tre_eqr, tre_ro]; refine hk _ ?_; clear hk k; try show Sat _ _ _ _ _)
        (repeat refine Sat.seq ?_)
        refine Sat.cond_b rfl (fun h => ?_) (fun h => ?_)
        · have h1 : r < N - i := by simp only [decide_eq_true_eq] at h; omega
          have e4 : IntKind.i64.wrap ((r : Int) - 1) = ((r - 1 : Nat) : Int) := by rw [w64 (by omega)]; omega
          have e5 : IntKind.i64.wrap ((r : Int) + 1) = ((r + 1 : Nat) : Int) := by rw [w64 (by omega)]; omega
          have e6 : IntKind.i64.wrap ((w : Int) + 1) = ((w + 1 : Nat) : Int) := by rw [w64 (by omega)]; omega
          have hct2 := compactT_take d (i + r) (by omega) (by omega)
          have q1 := hq (i + r) (by omega)
          have q2 := hq (i + r - 1) (by omega)
          have hsz : d2.toList.length = N := by simpa using hd2
          refine Sat.skip ?_
          simp only [thenK]
          (repeat refine Sat.seq ?_)
          refine Sat.block ?_
          (repeat refine Sat.seq ?_)
          refine Sat.region_qk (by kernel_rfl) (by kernel_rfl) fun k hk => ?_
          simp -implicitDefEqProofs only [evr, id, reduceCtorEq, reduceIte, Nat.reduceMul, Nat.reduceAdd, Nat.reduceLT, Nat.reduceLeDiff, Nat.reduceEqDiff, Int.reduceLT, Int.reduceBEq, Int.reduceBNe, Nat.reduceBEq, tre_one, List.append_nil, Int.toNat_zero, Nat.sub_self, treRow, tre_eqr, tre_ro, e4]
          refine ⟨⟨by omega, by omega⟩, by omega, by omega, ⟨by omega, by omega⟩, by omega, by omega, ?_⟩
          (refine hk _ ?_; clear hk k; try show Sat _ _ _ _ _)
          (repeat refine Sat.seq ?_)
          refine Sat.cond_b rfl (fun h4 => ?_) (fun h4 => ?_)
          · simp only [Bool.not_eq_true', decide_eq_false_iff_not] at h4
            rw [show i + (r - 1) = i + r - 1 by omega, q1, q2] at h4
            rw [if_neg h4] at hct2
            (repeat refine Sat.seq ?_)
            (refine Sat.region_k fun k hk => ?_; simp -implicitDefEqProofs only [evr, id, reduceCtorEq, reduceIte, Nat.reduceMul, Nat.reduceAdd, Nat.reduceLT, Nat.reduceLeDiff, Nat.reduceEqDiff, Int.reduceLT, Int.reduceBEq, Int.reduceBNe, Nat.reduceBEq, tre_one, List.append_nil, Int.toNat_zero, Nat.sub_self, treRow, tre_eqr, tre_ro])
            refine ⟨⟨by omega, by omega⟩, by omega, by omega, by omega, by omega, ?_⟩
            (refine hk _ ?_; clear hk k; try show Sat _ _ _ _ _)
            (repeat refine Sat.seq ?_)
            refine Sat.region_k fun k hk => ?_
            simp -implicitDefEqProofs only [evr, id, reduceCtorEq, reduceIte, Nat.reduceMul, Nat.reduceAdd, Nat.reduceLT, Nat.reduceLeDiff, Nat.reduceEqDiff, Int.reduceLT, Int.reduceBEq, Int.reduceBNe, Nat.reduceBEq, tre_one, List.append_nil, Int.toNat_zero, Nat.sub_self, treRow, tre_eqr, tre_ro, e6]
            refine hk _ ?_
            simp only [thenK, blockK]
            (repeat refine Sat.seq ?_)
            refine Sat.region_k fun k hk => ?_
            simp -implicitDefEqProofs only [evr, id, reduceCtorEq, reduceIte, Nat.reduceMul, Nat.reduceAdd, Nat.reduceLT, Nat.reduceLeDiff, Nat.reduceEqDiff, Int.reduceLT, Int.reduceBEq, Int.reduceBNe, Nat.reduceBEq, tre_one, List.append_nil, Int.toNat_zero, Nat.sub_self, treRow, tre_eqr, tre_ro, e5]
            refine hk _ ?_
            simp only [thenK, blockK]
            refine ⟨(w + 1, r + 1, d2.setIfInBounds w d2[i + r]!), ⟨by simp only; omega, by simp only; omega, by simp only; omega, by simp [hd2], fun q hq' => ?_, ?_⟩, by show N - (r + 1) < N - r; omega, ?_⟩
            · have hne : w ≠ q := by simp only at hq'; omega
              have := hq q (by simp only at hq'; omega)
              rw [← this]
              simp [getElem!_def, hne]
            · show (d2.setIfInBounds w d2[i + r]!).toList.take (w + 1) = compactT (d.toList.take (i + (r + 1)))
              rw [← Nat.add_assoc, hct2, ← ht, q1, Array.toList_setIfInBounds, List.take_succ_eq_append_getElem (by simp; omega), List.take_set_of_le (Nat.le_refl _)]
              simp
            · simp -implicitDefEqProofs only [evr, id, reduceCtorEq, reduceIte, Nat.reduceMul, Nat.reduceAdd, Nat.reduceLT, Nat.reduceLeDiff, Nat.reduceEqDiff, Int.reduceLT, Int.reduceBEq, Int.reduceBNe, Nat.reduceBEq, tre_one, List.append_nil, Int.toNat_zero, Nat.sub_self, treRow, tre_eqr, tre_ro, evl]
              exact tre_set hd2 (by omega) _
          · simp only [Bool.not_eq_false', decide_eq_true_eq] at h4
            rw [show i + (r - 1) = i + r - 1 by omega, q1, q2] at h4
            rw [if_pos h4] at hct2
            refine Sat.skip ?_
            simp only [thenK, blockK]
            refine Sat.region_k fun k hk => ?_
            simp -implicitDefEqProofs only [evr, id, reduceCtorEq, reduceIte, Nat.reduceMul, Nat.reduceAdd, Nat.reduceLT, Nat.reduceLeDiff, Nat.reduceEqDiff, Int.reduceLT, Int.reduceBEq, Int.reduceBNe, Nat.reduceBEq, tre_one, List.append_nil, Int.toNat_zero, Nat.sub_self, treRow, tre_eqr, tre_ro, e5]
            refine hk _ ?_
            simp only [thenK, blockK]
            refine ⟨(w, r + 1, d2), ⟨by simp only; omega, by simp only; omega, by simp only; omega, hd2, fun q hq' => hq q (by simp only at hq'; omega), ?_⟩, by show N - (r + 1) < N - r; omega, ?_⟩
            · show d2.toList.take w = compactT (d.toList.take (i + (r + 1)))
              rw [← Nat.add_assoc, hct2, ht]
            · simp -implicitDefEqProofs only [evr, id, reduceCtorEq, reduceIte, Nat.reduceMul, Nat.reduceAdd, Nat.reduceLT, Nat.reduceLeDiff, Nat.reduceEqDiff, Int.reduceLT, Int.reduceBEq, Int.reduceBNe, Nat.reduceBEq, tre_one, List.append_nil, Int.toNat_zero, Nat.sub_self, treRow, tre_eqr, tre_ro, evl]
        · have h1 : r = N - i := by simp only [decide_eq_false_iff_not] at h; omega
          subst h1
          have hsz : d2.toList.length = N := by simpa using hd2
          have hfin : compactT d.toList = d2.toList.take w := by rw [ht, List.take_of_length_le (by simp [hd]; omega)]
          have hlen : (compactT d.toList).length = w := by rw [hfin, List.length_take]; omega
          refine Sat.exit ?_
          simp only [thenK, blockK, reduceIte]
          (repeat refine Sat.seq ?_)
          (refine Sat.region_k fun k hk => ?_; simp -implicitDefEqProofs only [evr, id, reduceCtorEq, reduceIte, Nat.reduceMul, Nat.reduceAdd, Nat.reduceLT, Nat.reduceLeDiff, Nat.reduceEqDiff, Int.reduceLT, Int.reduceBEq, Int.reduceBNe, Nat.reduceBEq, tre_one, List.append_nil, Int.toNat_zero, Nat.sub_self, treRow, tre_eqr, tre_ro])
          refine ⟨by omega, ⟨by omega, by omega⟩, ?_⟩
          (refine hk _ ?_; clear hk k; try show Sat _ _ _ _ _)
          (repeat refine Sat.seq ?_)
          (refine Sat.region_k fun k hk => ?_; simp -implicitDefEqProofs only [evr, id, reduceCtorEq, reduceIte, Nat.reduceMul, Nat.reduceAdd, Nat.reduceLT, Nat.reduceLeDiff, Nat.reduceEqDiff, Int.reduceLT, Int.reduceBEq, Int.reduceBNe, Nat.reduceBEq, tre_one, List.append_nil, Int.toNat_zero, Nat.sub_self, treRow, tre_eqr, tre_ro])
          refine ⟨by omega, ?_⟩
          (refine hk _ ?_; clear hk k; try show Sat _ _ _ _ _)
          refine Sat.le (st' := ⟨61, [(2, .os 0 ad w cap)], [treRow ad w cap (d2.toList.take w).toArray]⟩) ?_ ?_
          · refine Sat.ret ?_
            rw [hlen, hfin]
            simp only [Try.results54, evr, id, reduceCtorEq, reduceIte, Nat.reduceMul, Nat.reduceAdd, Nat.reduceLT, Nat.reduceLeDiff, Nat.reduceEqDiff, Int.reduceLT, Int.reduceBEq, Int.reduceBNe, Nat.reduceBEq, tre_one, List.append_nil, Int.toNat_zero, Nat.sub_self, treRow, tre_eqr, tre_ro]
            exact ⟨rfl, _, _, rfl, rfl⟩
          · simp -implicitDefEqProofs only [evr, id, reduceCtorEq, reduceIte, Nat.reduceMul, Nat.reduceAdd, Nat.reduceLT, Nat.reduceLeDiff, Nat.reduceEqDiff, Int.reduceLT, Int.reduceBEq, Int.reduceBNe, Nat.reduceBEq, tre_one, List.append_nil, Int.toNat_zero, Nat.sub_self, treRow, tre_eqr, tre_ro, evl]
            intro p q hp hq'
            unfold rdCat
            rw [if_pos hp]
            unfold treRd
            simp [getElem!_def, List.getElem?_take, hp]
      · simp only [decide_eq_false_iff_not] at h3
        rw [if_neg h3, hi3] at hct
        refine Sat.skip ?_
        simp only [thenK, blockK]
        refine Sat.region_k fun k hk => ?_
        simp -implicitDefEqProofs only [evr, id, reduceCtorEq, reduceIte, Nat.reduceMul, Nat.reduceAdd, Nat.reduceLT, Nat.reduceLeDiff, Nat.reduceEqDiff, Int.reduceLT, Int.reduceBEq, Int.reduceBNe, Nat.reduceBEq, tre_one, List.append_nil, Int.toNat_zero, Nat.sub_self, treRow, tre_eqr, tre_ro, e3]
        refine hk _ ?_
        simp only [thenK, blockK]
        refine ⟨i + 1, ⟨by omega, by omega, ?_⟩, by omega, ?_⟩
        · rw [hct, List.take_succ_eq_append_getElem (by simp [hd]; omega)]
          simp [getElem!_def, hd, h1]
        · simp -implicitDefEqProofs only [evr, id, reduceCtorEq, reduceIte, Nat.reduceMul, Nat.reduceAdd, Nat.reduceLT, Nat.reduceLeDiff, Nat.reduceEqDiff, Int.reduceLT, Int.reduceBEq, Int.reduceBNe, Nat.reduceBEq, tre_one, List.append_nil, Int.toNat_zero, Nat.sub_self, treRow, tre_eqr, tre_ro, evl]
    · have h1 : i = N := by simp only [decide_eq_false_iff_not] at h; omega
      subst h1
      refine Sat.exit ?_
      simp only [thenK, blockK, reduceIte]
      (repeat refine Sat.seq ?_)
      (refine Sat.region_k fun k hk => ?_; simp -implicitDefEqProofs only [evr, id, reduceCtorEq, reduceIte, Nat.reduceMul, Nat.reduceAdd, Nat.reduceLT, Nat.reduceLeDiff, Nat.reduceEqDiff, Int.reduceLT, Int.reduceBEq, Int.reduceBNe, Nat.reduceBEq, tre_one, List.append_nil, Int.toNat_zero, Nat.sub_self, treRow, tre_eqr, tre_ro]; refine hk _ ?_; clear hk k; try show Sat _ _ _ _ _)
      refine Sat.ret ?_
      refine same ?_ rfl
      rwa [List.take_of_length_le (by simp [hd])] at hi3
end Go.Proofs.Ytkpmihaaijiihaa

/- The traces of results, by the evaluator: paths.Traces. -/
set_option linter.unusedSimpArgs false
set_option linter.unusedVariables false
namespace Go.Proofs.Ytkpmihaaijiihaa
open Go.Sort Eng
set_option maxRecDepth 100000 in
theorem trcFnC (F : Frm) (x y : Tre) : Contract F Try.prog 50 [treAg x, treAg y] (fun r => r = .i .i64 (treCmpI x y)) := by
  refine contract_of Try.func50 rfl (by kernel_rfl) ?_
  simp only [Try.ntmps50, argEnv, treAg, Tre.cs]
  (repeat refine Sat.seq ?_)
  (refine Sat.region_k fun k hk => ?_; simp -implicitDefEqProofs only [evr, id, reduceCtorEq, reduceIte, Nat.reduceMul, Nat.reduceAdd, Nat.reduceLT, Nat.reduceLeDiff, Nat.reduceEqDiff, Int.reduceLT, Int.reduceBEq, Int.reduceBNe, Nat.reduceBEq, res_one, List.append_nil, Int.toNat_zero, Nat.sub_self, Int.reduceToNat, resRow, res_ro, treRow, tre_one, tre_ro])
  intro blk1 blk2
  (refine hk _ ?_; clear hk k; try show Sat _ _ _ _ _)
  (repeat refine Sat.seq ?_)
  (refine Sat.region_tree (OT.keep [0, 2, 5, 7, 10, 12, 1, 3, 6, 8, 11, 13] [4, 9] (BT.one 4 (BT.one 9 (BT.one 14 (BT.one 15 (BT.one 16 (BT.one 17 BT.done))))))) (by kernel_rfl) (by kernel_rfl) (fun _ _ h => h) fun k hk => ?_; simp only [WOT, List.map_cons, List.map_nil, List.getD_cons_zero, List.getD_cons_succ]; simp -implicitDefEqProofs only [evr, id, reduceCtorEq, reduceIte, Nat.reduceMul, Nat.reduceAdd, Nat.reduceLT, Nat.reduceLeDiff, Nat.reduceEqDiff, Int.reduceLT, Int.reduceBEq, Int.reduceBNe, Nat.reduceBEq, res_one, List.append_nil, Int.toNat_zero, Nat.sub_self, Int.reduceToNat, resRow, res_ro, treRow, tre_one, tre_ro, WOT])
  refine wcall_plain (cmpC F x.van y.van) rfl (by rintro _ rfl; exact ok_plain rfl) ?_
  rintro r rfl
  simp -implicitDefEqProofs only [evr, id, reduceCtorEq, reduceIte, Nat.reduceMul, Nat.reduceAdd, Nat.reduceLT, Nat.reduceLeDiff, Nat.reduceEqDiff, Int.reduceLT, Int.reduceBEq, Int.reduceBNe, Nat.reduceBEq, res_one, List.append_nil, Int.toNat_zero, Nat.sub_self, Int.reduceToNat, resRow, res_ro, treRow, tre_one, tre_ro]
  refine wcall_plain (cmpAC F x.dst y.dst) rfl (by rintro _ rfl; exact ok_plain rfl) ?_
  rintro r rfl
  simp -implicitDefEqProofs only [evr, id, reduceCtorEq, reduceIte, Nat.reduceMul, Nat.reduceAdd, Nat.reduceLT, Nat.reduceLeDiff, Nat.reduceEqDiff, Int.reduceLT, Int.reduceBEq, Int.reduceBNe, Nat.reduceBEq, res_one, List.append_nil, Int.toNat_zero, Nat.sub_self, Int.reduceToNat, resRow, res_ro, treRow, tre_one, tre_ro]
  refine wcall_plain (cmpC F x.pro y.pro) rfl (by rintro _ rfl; exact ok_plain rfl) ?_
  rintro r rfl
  simp -implicitDefEqProofs only [evr, id, reduceCtorEq, reduceIte, Nat.reduceMul, Nat.reduceAdd, Nat.reduceLT, Nat.reduceLeDiff, Nat.reduceEqDiff, Int.reduceLT, Int.reduceBEq, Int.reduceBNe, Nat.reduceBEq, res_one, List.append_nil, Int.toNat_zero, Nat.sub_self, Int.reduceToNat, resRow, res_ro, treRow, tre_one, tre_ro]
  intro blk3
  refine wcall_plain (orC F (some ⟨blk3, 0, none⟩) 3 [ordI x.van y.van, ordI x.dst y.dst, ordI x.pro y.pro] (by simp)) (by simp -implicitDefEqProofs only [evr, id, reduceCtorEq, reduceIte, Nat.reduceMul, Nat.reduceAdd, Nat.reduceLT, Nat.reduceLeDiff, Nat.reduceEqDiff, Int.reduceLT, Int.reduceBEq, Int.reduceBNe, Nat.reduceBEq, res_one, List.append_nil, Int.toNat_zero, Nat.sub_self, Int.reduceToNat, resRow, res_ro, treRow, tre_one, tre_ro, intsRd]) (by rintro _ rfl; exact ok_plain rfl) ?_
  rintro r rfl
  simp -implicitDefEqProofs only [evr, id, reduceCtorEq, reduceIte, Nat.reduceMul, Nat.reduceAdd, Nat.reduceLT, Nat.reduceLeDiff, Nat.reduceEqDiff, Int.reduceLT, Int.reduceBEq, Int.reduceBNe, Nat.reduceBEq, res_one, List.append_nil, Int.toNat_zero, Nat.sub_self, Int.reduceToNat, resRow, res_ro, treRow, tre_one, tre_ro]
  (refine hk _ ?_; clear hk k; try show Sat _ _ _ _ _)
  refine Sat.ret ?_
  simp only [Try.results50, evr, id, reduceCtorEq, reduceIte, Nat.reduceMul, Nat.reduceAdd, Nat.reduceLT, Nat.reduceLeDiff, Nat.reduceEqDiff, Int.reduceLT, Int.reduceBEq, Int.reduceBNe, Nat.reduceBEq, res_one, List.append_nil, Int.toNat_zero, Nat.sub_self, Int.reduceToNat, resRow, res_ro, treRow, tre_one, tre_ro]
  rfl
theorem treCmp1 : treCmp 50 treLt := fun x y => ⟨treCmpI x y, rfl, fun F => trcFnC F x y⟩
theorem trcAg_ok (x : Res) (R : Nat → Prop) (w : World) : (trcAg x).ok R w := by
  intro j hj
  rcases (show j = 0 ∨ j = 1 ∨ j = 2 by omega) with rfl | rfl | rfl <;> trivial
def Res.tre (r : Res) : Tre := ⟨r.vantage, r.dst, r.proto⟩
def TracesOf (xs : List Res) (ts : List Tre) : Prop := (ts.Pairwise fun a b => treLt a b = true) ∧ ∀ t, t ∈ ts ↔ ∃ r ∈ xs, validR r = true ∧ r.tre = t
theorem tre_sorted {xs : List Res} {N : Nat} {fs : List Tre} {d' : Array Tre} (hf : fs = (xs.filter validR).map Res.tre) (hN : fs.length = N) (hd : d'.size = N) (hp : PermIn 0 N fs.toArray d') (hs : SortedIn treLt 0 N d') : TracesOf xs (compactT d'.toList) ∧ (compactT d'.toList).length ≤ N := by
  subst hN
  have h := hp.2.2
  have e1 : (d'.extract 0 fs.length) = d' := by rw [← hd]; simp
  have e2 : (fs.toArray.extract 0 fs.length) = fs.toArray := by simp
  rw [e1, e2] at h
  have hm : ∀ r, r ∈ d'.toList ↔ r ∈ fs := fun r => by simpa using h.mem_iff
  have hs' : d'.toList.Pairwise fun a b => treLt b a = false := by
    rw [List.pairwise_iff_getElem]
    intro i j hi hj hij
    have hi' : i < d'.size := by simpa using hi
    have hj' : j < d'.size := by simpa using hj
    have := hs i j (Nat.zero_le _) hij (by omega)
    simpa [getElem!_def, hi', hj'] using this
  refine ⟨⟨compactT_asc _ hs', fun t => (compactT_mem _ t).trans ((hm t).trans ?_)⟩, ?_⟩
  · rw [hf]
    simp only [List.mem_map, List.mem_filter]
    exact ⟨fun ⟨r, ⟨h1, h2⟩, h3⟩ => ⟨r, h1, h2, h3⟩, fun ⟨r, h1, h2, h3⟩ => ⟨r, ⟨h1, h2⟩, h3⟩⟩
  · have := compactT_le d'.toList
    simp only [Array.length_toList] at this
    omega
theorem tre_app {ys : List Tre} {x : Tre} {cs : List SV} (h : cs = Tre.cs x) : rdEq (ys.length + 1) 3 (rdCat ys.length (treRd ys.toArray) (rdL cs 3)) (treRd (ys ++ [x]).toArray) := by
  subst h
  refine rdEq_snoc (fun i j hi hj => ?_) (fun j hj => ?_)
  · unfold treRd
    simp [getElem!_def, List.getElem?_append, hi]
  · unfold treRd
    simp [getElem!_def]
theorem TracesOf.one {xs : List Res} {ts : List Tre} (h : TracesOf xs ts) : ts.length ≤ 1 ↔ ∀ r ∈ xs, ∀ s ∈ xs, validR r = true → validR s = true → r.tre = s.tre := by
  constructor
  · intro hl r hr s hs vr vs
    have h1 := (h.2 r.tre).2 ⟨r, hr, vr, rfl⟩
    have h2 := (h.2 s.tre).2 ⟨s, hs, vs, rfl⟩
    match ts, hl, h1, h2 with
    | [t], _, h1, h2 => simp at h1 h2; rw [h1, h2]
  · intro ha
    match ts, h with
    | [], _ => simp
    | [t], _ => simp
    | t :: u :: l, h =>
      obtain ⟨r, hr, vr, er⟩ := (h.2 t).1 (by simp)
      obtain ⟨s, hs, vs, es⟩ := (h.2 u).1 (by simp)
      have hlt := (List.pairwise_cons.1 h.1).1 u (by simp)
      rw [← er, ← es, ha r hr s hs vr vs, treLt_irrefl] at hlt
      cases hlt
set_option maxRecDepth 100000 in
theorem tracesC (F : Frm) (ad : Option Addr) (cap : Nat) (xs : List Res) (hl : xs.length ≤ 1000000000) :
    ContractN F Try.prog 33 [.sl ad xs.length cap 17 (resRd xs.toArray)] (fun o => ∃ a cap ts, TracesOf xs ts ∧ ts.length ≤ xs.length ∧ o = treRow a ts.length cap ts.toArray) := by
  refine contractN_of Try.func33 rfl (by kernel_rfl) ?_
  simp only [Try.ntmps33, argEnv]
  (repeat refine Sat.seq ?_)
  (refine Sat.region_k fun k hk => ?_; simp -implicitDefEqProofs only [evr, id, reduceCtorEq, reduceIte, Nat.reduceMul, Nat.reduceAdd, Nat.reduceLT, Nat.reduceLeDiff, Nat.reduceEqDiff, Int.reduceLT, Int.reduceBEq, Int.reduceBNe, Nat.reduceBEq, res_one, List.append_nil, Int.toNat_zero, Nat.sub_self, Int.reduceToNat, resRow, res_ro, treRow, tre_one, tre_ro]; refine hk _ ?_; clear hk k; try show Sat _ _ _ _ _)
  (repeat refine Sat.seq ?_)
  (refine Sat.region_k fun k hk => ?_; simp -implicitDefEqProofs only [evr, id, reduceCtorEq, reduceIte, Nat.reduceMul, Nat.reduceAdd, Nat.reduceLT, Nat.reduceLeDiff, Nat.reduceEqDiff, Int.reduceLT, Int.reduceBEq, Int.reduceBNe, Nat.reduceBEq, res_one, List.append_nil, Int.toNat_zero, Nat.sub_self, Int.reduceToNat, resRow, res_ro, treRow, tre_one, tre_ro]; refine hk _ ?_; clear hk k; try show Sat _ _ _ _ _)
  (repeat refine Sat.seq ?_)
  (refine Sat.region_k fun k hk => ?_; simp -implicitDefEqProofs only [evr, id, reduceCtorEq, reduceIte, Nat.reduceMul, Nat.reduceAdd, Nat.reduceLT, Nat.reduceLeDiff, Nat.reduceEqDiff, Int.reduceLT, Int.reduceBEq, Int.reduceBNe, Nat.reduceBEq, res_one, List.append_nil, Int.toNat_zero, Nat.sub_self, Int.reduceToNat, resRow, res_ro, treRow, tre_one, tre_ro]; refine hk _ ?_; clear hk k; try show Sat _ _ _ _ _)
  (repeat refine Sat.seq ?_)
  refine Sat.adopt 3 64 3 (treRd #[]) rfl ?_
  refine Sat.block ?_
  refine Sat.loop (ι := Nat × Option Addr × Nat × List Tre) (fun z => ⟨24, [(8, .i .i64 z.1), (7, .i .i64 xs.length), (6, .sl ad xs.length cap 17 (resRd xs.toArray)), (3, .os 0 z.2.1 z.2.2.2.length z.2.2.1)], [treRow z.2.1 z.2.2.2.length z.2.2.1 z.2.2.2.toArray]⟩)
    (fun z => z.1 ≤ xs.length ∧ z.2.2.2 = ((xs.take z.1).filter validR).map Res.tre) (fun z => xs.length - z.1) (0, none, 0, []) ⟨Nat.zero_le _, rfl⟩ (by simp -implicitDefEqProofs only [evr, id, reduceCtorEq, reduceIte, Nat.reduceMul, Nat.reduceAdd, Nat.reduceLT, Nat.reduceLeDiff, Nat.reduceEqDiff, Int.reduceLT, Int.reduceBEq, Int.reduceBNe, Nat.reduceBEq, res_one, List.append_nil, Int.toNat_zero, Nat.sub_self, Int.reduceToNat, resRow, res_ro, treRow, tre_one, tre_ro, evl]; rfl) ?_
  rintro ⟨i, a, c, ys⟩ ⟨hi, hy⟩
  simp only [treRow] at hi hy ⊢
  have hyl : ys.length ≤ i := by rw [hy, List.length_map]; exact filter_take_len
  (repeat refine Sat.seq ?_)
  (refine Sat.region_k fun k hk => ?_; simp -implicitDefEqProofs only [evr, id, reduceCtorEq, reduceIte, Nat.reduceMul, Nat.reduceAdd, Nat.reduceLT, Nat.reduceLeDiff, Nat.reduceEqDiff, Int.reduceLT, Int.reduceBEq, Int.reduceBNe, Nat.reduceBEq, res_one, List.append_nil, Int.toNat_zero, Nat.sub_self, Int.reduceToNat, resRow, res_ro, treRow, tre_one, tre_ro]; refine hk _ ?_; clear hk k; try show Sat _ _ _ _ _)
  (repeat refine Sat.seq ?_)
  refine Sat.cond_b rfl (fun h => ?_) (fun h => ?_)
  · have h1 : i < xs.length := by simp only [decide_eq_true_eq] at h; omega
    have e2 : IntKind.i64.wrap ((i : Int) + 1) = ((i + 1 : Nat) : Int) := by rw [w64 (by omega)]; omega
    have hstep := filter_take_succ (p := validR) h1
    refine Sat.skip ?_
    simp only [thenK]
    (repeat refine Sat.seq ?_)
    refine Sat.block ?_
    (repeat refine Sat.seq ?_)
    (refine Sat.region_k fun k hk => ?_; simp -implicitDefEqProofs only [evr, id, reduceCtorEq, reduceIte, Nat.reduceMul, Nat.reduceAdd, Nat.reduceLT, Nat.reduceLeDiff, Nat.reduceEqDiff, Int.reduceLT, Int.reduceBEq, Int.reduceBNe, Nat.reduceBEq, res_one, List.append_nil, Int.toNat_zero, Nat.sub_self, Int.reduceToNat, resRow, res_ro, treRow, tre_one, tre_ro])
    refine ⟨by omega, ?_⟩
    intro b2
    (refine hk _ ?_; clear hk k; try show Sat _ _ _ _ _)
    (repeat refine Sat.seq ?_)
    (refine Sat.region_k fun k hk => ?_; simp -implicitDefEqProofs only [evr, id, reduceCtorEq, reduceIte, Nat.reduceMul, Nat.reduceAdd, Nat.reduceLT, Nat.reduceLeDiff, Nat.reduceEqDiff, Int.reduceLT, Int.reduceBEq, Int.reduceBNe, Nat.reduceBEq, res_one, List.append_nil, Int.toNat_zero, Nat.sub_self, Int.reduceToNat, resRow, res_ro, treRow, tre_one, tre_ro])
    refine wcall_plain (validC F xs.toArray[i]!) rfl (by rintro _ rfl; exact ok_plain rfl) ?_
    rintro r rfl
    simp -implicitDefEqProofs only [evr, id, reduceCtorEq, reduceIte, Nat.reduceMul, Nat.reduceAdd, Nat.reduceLT, Nat.reduceLeDiff, Nat.reduceEqDiff, Int.reduceLT, Int.reduceBEq, Int.reduceBNe, Nat.reduceBEq, res_one, List.append_nil, Int.toNat_zero, Nat.sub_self, Int.reduceToNat, resRow, res_ro, treRow, tre_one, tre_ro]
    (refine hk _ ?_; clear hk k; try show Sat _ _ _ _ _)
    (repeat refine Sat.seq ?_)
    refine Sat.cond_b rfl (fun h2 => ?_) (fun h2 => ?_)
    · (repeat refine Sat.seq ?_)
      (refine Sat.region_k fun k hk => ?_; simp -implicitDefEqProofs only [evr, id, reduceCtorEq, reduceIte, Nat.reduceMul, Nat.reduceAdd, Nat.reduceLT, Nat.reduceLeDiff, Nat.reduceEqDiff, Int.reduceLT, Int.reduceBEq, Int.reduceBNe, Nat.reduceBEq, res_one, List.append_nil, Int.toNat_zero, Nat.sub_self, Int.reduceToNat, resRow, res_ro, treRow, tre_one, tre_ro])
      refine wcall_plain (traceOfC F xs.toArray[i]!) rfl (by rintro _ rfl; exact trcAg_ok _) ?_
      rintro r rfl
      simp only [trcAg, evr, id, reduceCtorEq, reduceIte, Nat.reduceMul, Nat.reduceAdd, Nat.reduceLT, Nat.reduceLeDiff, Nat.reduceEqDiff, Int.reduceLT, Int.reduceBEq, Int.reduceBNe, Nat.reduceBEq, res_one, List.append_nil, Int.toNat_zero, Nat.sub_self, Int.reduceToNat, resRow, res_ro, treRow, tre_one, tre_ro]
      intro b3
      refine ⟨⟨by unfold maxLen; omega, by omega⟩, fun a2 cap2 => ?_⟩
      (refine hk _ ?_; clear hk k; try show Sat _ _ _ _ _)
      refine Sat.region_k fun k hk => ?_
      simp -implicitDefEqProofs only [evr, id, reduceCtorEq, reduceIte, Nat.reduceMul, Nat.reduceAdd, Nat.reduceLT, Nat.reduceLeDiff, Nat.reduceEqDiff, Int.reduceLT, Int.reduceBEq, Int.reduceBNe, Nat.reduceBEq, res_one, List.append_nil, Int.toNat_zero, Nat.sub_self, Int.reduceToNat, resRow, res_ro, treRow, tre_one, tre_ro, e2]
      refine hk _ ?_
      simp only [thenK, blockK]
      have e3 : ys ++ [xs[i].tre] = ((xs.take (i + 1)).filter validR).map Res.tre := by
        rw [getB h1] at h2
        rw [hstep, List.map_append, ← hy, if_pos h2]; rfl
      refine ⟨(i + 1, a2, cap2, ys ++ [xs[i].tre]), ⟨by simp only; omega, e3⟩, by simp only; omega, ?_⟩
      simp only [List.length_append, List.length_singleton]
      simp -implicitDefEqProofs only [evr, id, reduceCtorEq, reduceIte, Nat.reduceMul, Nat.reduceAdd, Nat.reduceLT, Nat.reduceLeDiff, Nat.reduceEqDiff, Int.reduceLT, Int.reduceBEq, Int.reduceBNe, Nat.reduceBEq, res_one, List.append_nil, Int.toNat_zero, Nat.sub_self, Int.reduceToNat, resRow, res_ro, treRow, tre_one, tre_ro, evl]
      exact tre_app (by rw [getB h1]; rfl)
    · refine Sat.skip ?_
      simp only [thenK, blockK]
      refine Sat.region_k fun k hk => ?_
      simp -implicitDefEqProofs only [evr, id, reduceCtorEq, reduceIte, Nat.reduceMul, Nat.reduceAdd, Nat.reduceLT, Nat.reduceLeDiff, Nat.reduceEqDiff, Int.reduceLT, Int.reduceBEq, Int.reduceBNe, Nat.reduceBEq, res_one, List.append_nil, Int.toNat_zero, Nat.sub_self, Int.reduceToNat, resRow, res_ro, treRow, tre_one, tre_ro, e2]
      refine hk _ ?_
      simp only [thenK, blockK]
      refine ⟨(i + 1, a, c, ys), ⟨by simp only; omega, ?_⟩, by simp only; omega, ?_⟩
      · rw [getB h1] at h2
        simp only
        rw [hstep, List.map_append, ← hy, if_neg (by rw [h2]; simp), List.map_nil, List.append_nil]
      · simp -implicitDefEqProofs only [evr, id, reduceCtorEq, reduceIte, Nat.reduceMul, Nat.reduceAdd, Nat.reduceLT, Nat.reduceLeDiff, Nat.reduceEqDiff, Int.reduceLT, Int.reduceBEq, Int.reduceBNe, Nat.reduceBEq, res_one, List.append_nil, Int.toNat_zero, Nat.sub_self, Int.reduceToNat, resRow, res_ro, treRow, tre_one, tre_ro, evl]
  · have h1 : i = xs.length := by simp only [decide_eq_false_iff_not] at h; omega
    have hys : ys = (xs.filter validR).map Res.tre := by rw [hy, h1, List.take_length]
    refine Sat.exit ?_
    simp only [thenK, blockK, reduceIte]
    (repeat refine Sat.seq ?_)
    (refine Sat.region_k fun k hk => ?_; simp -implicitDefEqProofs only [evr, id, reduceCtorEq, reduceIte, Nat.reduceMul, Nat.reduceAdd, Nat.reduceLT, Nat.reduceLeDiff, Nat.reduceEqDiff, Int.reduceLT, Int.reduceBEq, Int.reduceBNe, Nat.reduceBEq, res_one, List.append_nil, Int.toNat_zero, Nat.sub_self, Int.reduceToNat, resRow, res_ro, treRow, tre_one, tre_ro])
    refine wcall_mut 0 (treSortC F treLt_swo treCmp1 a c ys.length (by omega) ys.toArray (by simp)) rfl rfl ?_
    rintro r o1 ⟨rfl, d', hd', ⟨hperm, hsort⟩, rfl⟩
    simp -implicitDefEqProofs only [evr, id, reduceCtorEq, reduceIte, Nat.reduceMul, Nat.reduceAdd, Nat.reduceLT, Nat.reduceLeDiff, Nat.reduceEqDiff, Int.reduceLT, Int.reduceBEq, Int.reduceBNe, Nat.reduceBEq, res_one, List.append_nil, Int.toNat_zero, Nat.sub_self, Int.reduceToNat, resRow, res_ro, treRow, tre_one, tre_ro]
    (refine hk _ ?_; clear hk k; try show Sat _ _ _ _ _)
    (repeat refine Sat.seq ?_)
    (refine Sat.region_k fun k hk => ?_; simp -implicitDefEqProofs only [evr, id, reduceCtorEq, reduceIte, Nat.reduceMul, Nat.reduceAdd, Nat.reduceLT, Nat.reduceLeDiff, Nat.reduceEqDiff, Int.reduceLT, Int.reduceBEq, Int.reduceBNe, Nat.reduceBEq, res_one, List.append_nil, Int.toNat_zero, Nat.sub_self, Int.reduceToNat, resRow, res_ro, treRow, tre_one, tre_ro])
    refine wcall_mut 0 (compactTC F a c ys.length (by omega) d' hd') rfl rfl ?_
    rintro r o1 ⟨rfl, rfl⟩
    simp -implicitDefEqProofs only [evr, id, reduceCtorEq, reduceIte, Nat.reduceMul, Nat.reduceAdd, Nat.reduceLT, Nat.reduceLeDiff, Nat.reduceEqDiff, Int.reduceLT, Int.reduceBEq, Int.reduceBNe, Nat.reduceBEq, res_one, List.append_nil, Int.toNat_zero, Nat.sub_self, Int.reduceToNat, resRow, res_ro, treRow, tre_one, tre_ro]
    (refine hk _ ?_; clear hk k; try show Sat _ _ _ _ _)
    refine Sat.ret ?_
    simp only [Try.results33, evr, id, reduceCtorEq, reduceIte, Nat.reduceMul, Nat.reduceAdd, Nat.reduceLT, Nat.reduceLeDiff, Nat.reduceEqDiff, Int.reduceLT, Int.reduceBEq, Int.reduceBNe, Nat.reduceBEq, res_one, List.append_nil, Int.toNat_zero, Nat.sub_self, Int.reduceToNat, resRow, res_ro, treRow, tre_one, tre_ro, retN, retNK, newRow]
    obtain ⟨g1, g2⟩ := tre_sorted hys rfl hd' hperm hsort
    exact ⟨⟨rfl, rfl, rfl⟩, a, c, compactT d'.toList, g1, by omega, rfl⟩
end Go.Proofs.Ytkpmihaaijiihaa

/- Cutting results into episodes, by the evaluator: slices.IndexFunc, slices.ContainsFunc, episode.Cut, episode.Fewest. -/
set_option linter.unusedSimpArgs false
set_option linter.unusedVariables false
namespace Go.Proofs.Ytkpmihaaijiihaa
open Go.Sort Eng
namespace Eng
def scopeK (K : Exit → St → Prop) : Exit → St → Prop
  | .goto _, _ => False
  | e, st => K e st
theorem Sat.scope {P : Program} {F : Frm} {st : St} {K : Exit → St → Prop} {c : Code} (h : Sat P F c st (scopeK K)) : Sat P F (.scope c) st K := by
  intro R0 w0 a w hr
  refine wp_scope_straight (wp_mono (h R0 w0 a w hr) ?_)
  rintro e a' w' ⟨st', hk, hr'⟩
  cases e with
  | goto l => exact hk.elim
  | _ => exact ⟨st', hk, hr'⟩
end Eng
def epRd (l : List (Nat × Nat)) : Nat → Nat → SV := fun i j => [SV.i .i64 ((l.getD i (0, 0)).1 : Nat), .i .i64 ((l.getD i (0, 0)).2 : Nat)].getD j default
def epRow (a : Option Addr) (cap : Nat) (l : List (Nat × Nat)) : Own := .row a 57 l.length cap 2 (epRd l)
theorem ep_one (l : List (Nat × Nat)) (i j : Nat) (h : j < 2) : oneS (epRd l i j) = true := by
  rcases (show j = 0 ∨ j = 1 by omega) with rfl | rfl <;> rfl
theorem ep_app {l : List (Nat × Nat)} {a b : Nat} {cs : List SV} (h : cs = [.i .i64 (a : Nat), .i .i64 (b : Nat)]) : rdEq (l.length + 1) 2 (rdCat l.length (epRd l) (rdL cs 2)) (epRd (l ++ [(a, b)])) := by
  subst h
  refine rdEq_snoc (fun i j hi hj => ?_) (fun j hj => ?_)
  · unfold epRd
    simp [List.getD, List.getElem?_append, hi]
  · unfold epRd
    simp [List.getD]
def resAsk (g : FuncId) (p : Res → Bool) : Prop := ∀ x F, Contract F Try.prog g [resAg x] (fun r => r = .b (p x))
set_option maxRecDepth 100000 in
theorem indexFuncC (F : Frm) (g : FuncId) (cc : Nat → SV) (p : Res → Bool) (hg : resAsk g p) (a : Option Addr) (cap : Nat) (d : Array Res) (hl : d.size ≤ 1000000000) :
    Contract F Try.prog 47 [.sl a d.size cap 17 (resRd d), .fn g 0 cc] (fun r => (r = .i .i64 (-1) ∧ ∀ q, q < d.size → p d[q]! = false) ∨ ∃ i : Nat, i < d.size ∧ p d[i]! = true ∧ r = .i .i64 i) := by
  refine contract_of Try.func47 rfl (by kernel_rfl) ?_
  simp only [Try.ntmps47, argEnv]
  (repeat refine Sat.seq ?_)
  (refine Sat.region_k fun k hk => ?_; simp -implicitDefEqProofs only [evr, id, reduceCtorEq, reduceIte, Nat.reduceMul, Nat.reduceAdd, Nat.reduceLT, Nat.reduceLeDiff, Nat.reduceEqDiff, Int.reduceLT, Int.reduceBEq, Int.reduceBNe, Nat.reduceBEq, res_one, List.append_nil, Int.toNat_zero, Nat.sub_self, Int.reduceToNat, resRow, res_ro, epRow, ep_one]; refine hk _ ?_; clear hk k; try show Sat _ _ _ _ _)
  (repeat refine Sat.seq ?_)
  (refine Sat.region_k fun k hk => ?_; simp -implicitDefEqProofs only [evr, id, reduceCtorEq, reduceIte, Nat.reduceMul, Nat.reduceAdd, Nat.reduceLT, Nat.reduceLeDiff, Nat.reduceEqDiff, Int.reduceLT, Int.reduceBEq, Int.reduceBNe, Nat.reduceBEq, res_one, List.append_nil, Int.toNat_zero, Nat.sub_self, Int.reduceToNat, resRow, res_ro, epRow, ep_one]; refine hk _ ?_; clear hk k; try show Sat _ _ _ _ _)
  (repeat refine Sat.seq ?_)
  refine Sat.block ?_
  refine Sat.loop (ι := Nat) (fun i => ⟨19, [(8, .i .i64 i), (7, .i .i64 d.size), (0, .sl a d.size cap 17 (resRd d)), (1, .fn g 0 cc)], []⟩)
    (fun i => i ≤ d.size ∧ ∀ q, q < i → p d[q]! = false) (fun i => d.size - i) 0 ⟨Nat.zero_le _, fun q h => by omega⟩ (by simp -implicitDefEqProofs only [evr, id, reduceCtorEq, reduceIte, Nat.reduceMul, Nat.reduceAdd, Nat.reduceLT, Nat.reduceLeDiff, Nat.reduceEqDiff, Int.reduceLT, Int.reduceBEq, Int.reduceBNe, Nat.reduceBEq, res_one, List.append_nil, Int.toNat_zero, Nat.sub_self, Int.reduceToNat, resRow, res_ro, epRow, ep_one, evl]; first | rfl | trace_state) ?_
  rintro i ⟨hi, hq⟩
  (repeat refine Sat.seq ?_)
  (refine Sat.region_k fun k hk => ?_; simp -implicitDefEqProofs only [evr, id, reduceCtorEq, reduceIte, Nat.reduceMul, Nat.reduceAdd, Nat.reduceLT, Nat.reduceLeDiff, Nat.reduceEqDiff, Int.reduceLT, Int.reduceBEq, Int.reduceBNe, Nat.reduceBEq, res_one, List.append_nil, Int.toNat_zero, Nat.sub_self, Int.reduceToNat, resRow, res_ro, epRow, ep_one]; refine hk _ ?_; clear hk k; try show Sat _ _ _ _ _)
  (repeat refine Sat.seq ?_)
  refine Sat.cond_b rfl (fun h => ?_) (fun h => ?_)
  · have h1 : i < d.size := by simp only [decide_eq_true_eq] at h; omega
    have e3 : IntKind.i64.wrap ((i : Int) + 1) = ((i + 1 : Nat) : Int) := by rw [w64 (by omega)]; omega
    refine Sat.skip ?_
    simp only [thenK]
    (repeat refine Sat.seq ?_)
    refine Sat.block ?_
    (repeat refine Sat.seq ?_)
    (refine Sat.region_k fun k hk => ?_; simp -implicitDefEqProofs only [evr, id, reduceCtorEq, reduceIte, Nat.reduceMul, Nat.reduceAdd, Nat.reduceLT, Nat.reduceLeDiff, Nat.reduceEqDiff, Int.reduceLT, Int.reduceBEq, Int.reduceBNe, Nat.reduceBEq, res_one, List.append_nil, Int.toNat_zero, Nat.sub_self, Int.reduceToNat, resRow, res_ro, epRow, ep_one]; refine hk _ ?_; clear hk k; try show Sat _ _ _ _ _)
    (repeat refine Sat.seq ?_)
    (refine Sat.region_k fun k hk => ?_; simp -implicitDefEqProofs only [evr, id, reduceCtorEq, reduceIte, Nat.reduceMul, Nat.reduceAdd, Nat.reduceLT, Nat.reduceLeDiff, Nat.reduceEqDiff, Int.reduceLT, Int.reduceBEq, Int.reduceBNe, Nat.reduceBEq, res_one, List.append_nil, Int.toNat_zero, Nat.sub_self, Int.reduceToNat, resRow, res_ro, epRow, ep_one])
    refine ⟨by omega, ?_⟩
    refine wcall_plain (hg d[i]! F) (by simp -implicitDefEqProofs only [evr, id, reduceCtorEq, reduceIte, Nat.reduceMul, Nat.reduceAdd, Nat.reduceLT, Nat.reduceLeDiff, Nat.reduceEqDiff, Int.reduceLT, Int.reduceBEq, Int.reduceBNe, Nat.reduceBEq, res_one, List.append_nil, Int.toNat_zero, Nat.sub_self, Int.reduceToNat, resRow, res_ro, epRow, ep_one]; rfl) (by rintro _ rfl; exact ok_plain rfl) ?_
    rintro r rfl
    simp -implicitDefEqProofs only [evr, id, reduceCtorEq, reduceIte, Nat.reduceMul, Nat.reduceAdd, Nat.reduceLT, Nat.reduceLeDiff, Nat.reduceEqDiff, Int.reduceLT, Int.reduceBEq, Int.reduceBNe, Nat.reduceBEq, res_one, List.append_nil, Int.toNat_zero, Nat.sub_self, Int.reduceToNat, resRow, res_ro, epRow, ep_one]
    (refine hk _ ?_; clear hk k; try show Sat _ _ _ _ _)
    refine Sat.cond_b rfl (fun h2 => ?_) (fun h2 => ?_)
    · (repeat refine Sat.seq ?_)
      (refine Sat.region_k fun k hk => ?_; simp -implicitDefEqProofs only [evr, id, reduceCtorEq, reduceIte, Nat.reduceMul, Nat.reduceAdd, Nat.reduceLT, Nat.reduceLeDiff, Nat.reduceEqDiff, Int.reduceLT, Int.reduceBEq, Int.reduceBNe, Nat.reduceBEq, res_one, List.append_nil, Int.toNat_zero, Nat.sub_self, Int.reduceToNat, resRow, res_ro, epRow, ep_one]; refine hk _ ?_; clear hk k; try show Sat _ _ _ _ _)
      refine Sat.ret ?_
      simp only [blockK, Try.results47, evr, id, reduceCtorEq, reduceIte, Nat.reduceMul, Nat.reduceAdd, Nat.reduceLT, Nat.reduceLeDiff, Nat.reduceEqDiff, Int.reduceLT, Int.reduceBEq, Int.reduceBNe, Nat.reduceBEq, res_one, List.append_nil, Int.toNat_zero, Nat.sub_self, Int.reduceToNat, resRow, res_ro, epRow, ep_one]
      exact .inr ⟨i, h1, h2, rfl⟩
    · refine Sat.skip ?_
      simp only [thenK, blockK]
      refine Sat.region_k fun k hk => ?_
      simp -implicitDefEqProofs only [evr, id, reduceCtorEq, reduceIte, Nat.reduceMul, Nat.reduceAdd, Nat.reduceLT, Nat.reduceLeDiff, Nat.reduceEqDiff, Int.reduceLT, Int.reduceBEq, Int.reduceBNe, Nat.reduceBEq, res_one, List.append_nil, Int.toNat_zero, Nat.sub_self, Int.reduceToNat, resRow, res_ro, epRow, ep_one, e3]
      refine hk _ ?_
      simp only [thenK, blockK]
      refine ⟨i + 1, ⟨h1, fun q hq2 => ?_⟩, by omega, ?_⟩
      · by_cases e : q = i
        · subst e; exact h2
        · exact hq q (by omega)
      · simp -implicitDefEqProofs only [evr, id, reduceCtorEq, reduceIte, Nat.reduceMul, Nat.reduceAdd, Nat.reduceLT, Nat.reduceLeDiff, Nat.reduceEqDiff, Int.reduceLT, Int.reduceBEq, Int.reduceBNe, Nat.reduceBEq, res_one, List.append_nil, Int.toNat_zero, Nat.sub_self, Int.reduceToNat, resRow, res_ro, epRow, ep_one, evl]
  · have h1 : i = d.size := by simp only [decide_eq_false_iff_not] at h; omega
    subst h1
    refine Sat.exit ?_
    simp only [thenK, blockK, reduceIte]
    (repeat refine Sat.seq ?_)
    (refine Sat.region_k fun k hk => ?_; simp -implicitDefEqProofs only [evr, id, reduceCtorEq, reduceIte, Nat.reduceMul, Nat.reduceAdd, Nat.reduceLT, Nat.reduceLeDiff, Nat.reduceEqDiff, Int.reduceLT, Int.reduceBEq, Int.reduceBNe, Nat.reduceBEq, res_one, List.append_nil, Int.toNat_zero, Nat.sub_self, Int.reduceToNat, resRow, res_ro, epRow, ep_one]; refine hk _ ?_; clear hk k; try show Sat _ _ _ _ _)
    refine Sat.ret ?_
    simp only [Try.results47, evr, id, reduceCtorEq, reduceIte, Nat.reduceMul, Nat.reduceAdd, Nat.reduceLT, Nat.reduceLeDiff, Nat.reduceEqDiff, Int.reduceLT, Int.reduceBEq, Int.reduceBNe, Nat.reduceBEq, res_one, List.append_nil, Int.toNat_zero, Nat.sub_self, Int.reduceToNat, resRow, res_ro, epRow, ep_one]
    exact .inl hq
set_option maxRecDepth 100000 in
theorem containsFuncC (F : Frm) (g : FuncId) (cc : Nat → SV) (p : Res → Bool) (hg : resAsk g p) (a : Option Addr) (cap : Nat) (xs : List Res) (hl : xs.length ≤ 1000000000) :
    Contract F Try.prog 30 [.sl a xs.length cap 17 (resRd xs.toArray), .fn g 0 cc] (fun r => r = .b (xs.any p)) := by
  refine contract_of Try.func30 rfl (by kernel_rfl) ?_
  simp only [Try.ntmps30, argEnv]
  (repeat refine Sat.seq ?_)
  (refine Sat.region_k fun k hk => ?_; simp -implicitDefEqProofs only [evr, id, reduceCtorEq, reduceIte, Nat.reduceMul, Nat.reduceAdd, Nat.reduceLT, Nat.reduceLeDiff, Nat.reduceEqDiff, Int.reduceLT, Int.reduceBEq, Int.reduceBNe, Nat.reduceBEq, res_one, List.append_nil, Int.toNat_zero, Nat.sub_self, Int.reduceToNat, resRow, res_ro, epRow, ep_one]; refine hk _ ?_; clear hk k; try show Sat _ _ _ _ _)
  (repeat refine Sat.seq ?_)
  (refine Sat.region_k fun k hk => ?_; simp -implicitDefEqProofs only [evr, id, reduceCtorEq, reduceIte, Nat.reduceMul, Nat.reduceAdd, Nat.reduceLT, Nat.reduceLeDiff, Nat.reduceEqDiff, Int.reduceLT, Int.reduceBEq, Int.reduceBNe, Nat.reduceBEq, res_one, List.append_nil, Int.toNat_zero, Nat.sub_self, Int.reduceToNat, resRow, res_ro, epRow, ep_one])
  have hc := indexFuncC F g (fun j => roPtr [] (cc j)) p hg a cap xs.toArray (by simp; omega)
  simp only [List.size_toArray] at hc
  refine wcall_plain hc (by simp -implicitDefEqProofs only [evr, id, reduceCtorEq, reduceIte, Nat.reduceMul, Nat.reduceAdd, Nat.reduceLT, Nat.reduceLeDiff, Nat.reduceEqDiff, Int.reduceLT, Int.reduceBEq, Int.reduceBNe, Nat.reduceBEq, res_one, List.append_nil, Int.toNat_zero, Nat.sub_self, Int.reduceToNat, resRow, res_ro, epRow, ep_one]) (by rintro _ (⟨rfl, _⟩ | ⟨i, _, _, rfl⟩) <;> exact ok_plain rfl) ?_
  rintro r (⟨rfl, hno⟩ | ⟨i, hi, hp, rfl⟩)
  · simp -implicitDefEqProofs only [evr, id, reduceCtorEq, reduceIte, Nat.reduceMul, Nat.reduceAdd, Nat.reduceLT, Nat.reduceLeDiff, Nat.reduceEqDiff, Int.reduceLT, Int.reduceBEq, Int.reduceBNe, Nat.reduceBEq, res_one, List.append_nil, Int.toNat_zero, Nat.sub_self, Int.reduceToNat, resRow, res_ro, epRow, ep_one]
    (refine hk _ ?_; clear hk k; try show Sat _ _ _ _ _)
    refine Sat.ret ?_
    simp only [Try.results30, evr, id, reduceCtorEq, reduceIte, Nat.reduceMul, Nat.reduceAdd, Nat.reduceLT, Nat.reduceLeDiff, Nat.reduceEqDiff, Int.reduceLT, Int.reduceBEq, Int.reduceBNe, Nat.reduceBEq, res_one, List.append_nil, Int.toNat_zero, Nat.sub_self, Int.reduceToNat, resRow, res_ro, epRow, ep_one]
    have : xs.any p = false := by
      rw [List.any_eq_false]
      intro x hx
      obtain ⟨q, hq, rfl⟩ := List.getElem_of_mem hx
      have := hno q hq
      rw [getB hq] at this
      simp [this]
    rw [this]; rfl
  · simp -implicitDefEqProofs only [evr, id, reduceCtorEq, reduceIte, Nat.reduceMul, Nat.reduceAdd, Nat.reduceLT, Nat.reduceLeDiff, Nat.reduceEqDiff, Int.reduceLT, Int.reduceBEq, Int.reduceBNe, Nat.reduceBEq, res_one, List.append_nil, Int.toNat_zero, Nat.sub_self, Int.reduceToNat, resRow, res_ro, epRow, ep_one]
    (refine hk _ ?_; clear hk k; try show Sat _ _ _ _ _)
    refine Sat.ret ?_
    simp only [Try.results30, evr, id, reduceCtorEq, reduceIte, Nat.reduceMul, Nat.reduceAdd, Nat.reduceLT, Nat.reduceLeDiff, Nat.reduceEqDiff, Int.reduceLT, Int.reduceBEq, Int.reduceBNe, Nat.reduceBEq, res_one, List.append_nil, Int.toNat_zero, Nat.sub_self, Int.reduceToNat, resRow, res_ro, epRow, ep_one]
    have : xs.any p = true := by
      rw [List.any_eq_true]
      exact ⟨xs[i], List.getElem_mem hi, by rw [getB hi] at hp; exact hp⟩
    rw [this]
set_option maxRecDepth 100000 in
theorem cutFnC : resAsk 31 (fun x => !validR x) := by
  intro x F
  refine contract_of Try.func31 rfl (by kernel_rfl) ?_
  simp only [Try.ntmps31, argEnv, resAg, Res.cs]
  (repeat refine Sat.seq ?_)
  (refine Sat.region_k fun k hk => ?_; simp -implicitDefEqProofs only [evr, id, reduceCtorEq, reduceIte, Nat.reduceMul, Nat.reduceAdd, Nat.reduceLT, Nat.reduceLeDiff, Nat.reduceEqDiff, Int.reduceLT, Int.reduceBEq, Int.reduceBNe, Nat.reduceBEq, res_one, List.append_nil, Int.toNat_zero, Nat.sub_self, Int.reduceToNat, resRow, res_ro, epRow, ep_one])
  intro blk2
  (refine hk _ ?_; clear hk k; try show Sat _ _ _ _ _)
  (repeat refine Sat.seq ?_)
  (refine Sat.region_k fun k hk => ?_; simp -implicitDefEqProofs only [evr, id, reduceCtorEq, reduceIte, Nat.reduceMul, Nat.reduceAdd, Nat.reduceLT, Nat.reduceLeDiff, Nat.reduceEqDiff, Int.reduceLT, Int.reduceBEq, Int.reduceBNe, Nat.reduceBEq, res_one, List.append_nil, Int.toNat_zero, Nat.sub_self, Int.reduceToNat, resRow, res_ro, epRow, ep_one])
  refine wcall_plain (validC F x) rfl (by rintro _ rfl; exact ok_plain rfl) ?_
  rintro r rfl
  simp -implicitDefEqProofs only [evr, id, reduceCtorEq, reduceIte, Nat.reduceMul, Nat.reduceAdd, Nat.reduceLT, Nat.reduceLeDiff, Nat.reduceEqDiff, Int.reduceLT, Int.reduceBEq, Int.reduceBNe, Nat.reduceBEq, res_one, List.append_nil, Int.toNat_zero, Nat.sub_self, Int.reduceToNat, resRow, res_ro, epRow, ep_one]
  (refine hk _ ?_; clear hk k; try show Sat _ _ _ _ _)
  refine Sat.ret ?_
  simp only [Try.results31, evr, id, reduceCtorEq, reduceIte, Nat.reduceMul, Nat.reduceAdd, Nat.reduceLT, Nat.reduceLeDiff, Nat.reduceEqDiff, Int.reduceLT, Int.reduceBEq, Int.reduceBNe, Nat.reduceBEq, res_one, List.append_nil, Int.toNat_zero, Nat.sub_self, Int.reduceToNat, resRow, res_ro, epRow, ep_one]
theorem res_11 (d : Array Res) (i : Nat) : resRd d i 11 = .i .u32 (d[i]!).from_ := rfl
def oneT (xs : List Res) : Prop := ∀ r ∈ xs, ∀ s ∈ xs, r.tre = s.tre
def CutRes (xs : List Res) (l : List (Nat × Nat)) (e : Int) : Prop :=
  (e = 1 ∧ l = [] ∧ ∃ x ∈ xs, validR x = false) ∨ ((∀ x ∈ xs, validR x = true) ∧ ∃ ys, OrdOf xs ys ∧ ((e = 5 ∧ l = [] ∧ 512 < ys.length) ∨ (e = 35 ∧ l = [] ∧ ys.length ≤ 512 ∧ ¬ oneT ys) ∨ (e = 0 ∧ ys.length ≤ 512 ∧ oneT ys ∧ Cuts (fun i => ys.toArray[i]!) ys.length l)))
set_option maxRecDepth 100000 in
theorem cutC (F : Frm) (ad : Option Addr) (cap : Nat) (xs : List Res) (hl : xs.length ≤ 1000000000) (hin : ∀ r ∈ xs, RgR r) :
    Contract F Try.prog 18 [.sl ad xs.length cap 17 (resRd xs.toArray)] (fun r => ∃ (a : Option Addr) (cap : Nat) (l : List (Nat × Nat)) (e : Int), CutRes xs l e ∧ l.length ≤ 1000 ∧ r = tupL [.sl a l.length cap 2 (epRd l), .i .i64 e]) := by
  refine contract_of Try.func18 rfl (by kernel_rfl) ?_
  simp only [Try.ntmps18, argEnv]
  (repeat refine Sat.seq ?_)
  (refine Sat.region_k fun k hk => ?_; simp -implicitDefEqProofs only [evr, id, reduceCtorEq, reduceIte, Nat.reduceMul, Nat.reduceAdd, Nat.reduceLT, Nat.reduceLeDiff, Nat.reduceEqDiff, Int.reduceLT, Int.reduceBEq, Int.reduceBNe, Nat.reduceBEq, res_one, List.append_nil, Int.toNat_zero, Nat.sub_self, Int.reduceToNat, resRow, res_ro, epRow, ep_one]; refine hk _ ?_; clear hk k; try show Sat _ _ _ _ _)
  refine Sat.scope ?_
  (repeat refine Sat.seq ?_)
  (refine Sat.region_k fun k hk => ?_; simp -implicitDefEqProofs only [evr, id, reduceCtorEq, reduceIte, Nat.reduceMul, Nat.reduceAdd, Nat.reduceLT, Nat.reduceLeDiff, Nat.reduceEqDiff, Int.reduceLT, Int.reduceBEq, Int.reduceBNe, Nat.reduceBEq, res_one, List.append_nil, Int.toNat_zero, Nat.sub_self, Int.reduceToNat, resRow, res_ro, epRow, ep_one])
  refine wcall_plain (containsFuncC F _ _ _ cutFnC ad cap xs hl) (by simp -implicitDefEqProofs only [evr, id, reduceCtorEq, reduceIte, Nat.reduceMul, Nat.reduceAdd, Nat.reduceLT, Nat.reduceLeDiff, Nat.reduceEqDiff, Int.reduceLT, Int.reduceBEq, Int.reduceBNe, Nat.reduceBEq, res_one, List.append_nil, Int.toNat_zero, Nat.sub_self, Int.reduceToNat, resRow, res_ro, epRow, ep_one]; rfl) (by rintro _ rfl; exact ok_plain rfl) ?_
  rintro r rfl
  simp -implicitDefEqProofs only [evr, id, reduceCtorEq, reduceIte, Nat.reduceMul, Nat.reduceAdd, Nat.reduceLT, Nat.reduceLeDiff, Nat.reduceEqDiff, Int.reduceLT, Int.reduceBEq, Int.reduceBNe, Nat.reduceBEq, res_one, List.append_nil, Int.toNat_zero, Nat.sub_self, Int.reduceToNat, resRow, res_ro, epRow, ep_one]
  (refine hk _ ?_; clear hk k; try show Sat _ _ _ _ _)
  (repeat refine Sat.seq ?_)
  refine Sat.cond_b rfl (fun h => ?_) (fun h => ?_)
  · (repeat refine Sat.seq ?_)
    (refine Sat.region_k fun k hk => ?_; simp -implicitDefEqProofs only [evr, id, reduceCtorEq, reduceIte, Nat.reduceMul, Nat.reduceAdd, Nat.reduceLT, Nat.reduceLeDiff, Nat.reduceEqDiff, Int.reduceLT, Int.reduceBEq, Int.reduceBNe, Nat.reduceBEq, res_one, List.append_nil, Int.toNat_zero, Nat.sub_self, Int.reduceToNat, resRow, res_ro, epRow, ep_one]; refine hk _ ?_; clear hk k; try show Sat _ _ _ _ _)
    refine Sat.adopt 2 57 2 (epRd []) rfl ?_
    refine Sat.ret ?_
    simp only [scopeK, thenK, Try.results18, evr, id, reduceCtorEq, reduceIte, Nat.reduceMul, Nat.reduceAdd, Nat.reduceLT, Nat.reduceLeDiff, Nat.reduceEqDiff, Int.reduceLT, Int.reduceBEq, Int.reduceBNe, Nat.reduceBEq, res_one, List.append_nil, Int.toNat_zero, Nat.sub_self, Int.reduceToNat, resRow, res_ro, epRow, ep_one]
    obtain ⟨x, hx, hv⟩ := List.any_eq_true.1 h
    exact ⟨none, 0, [], 1, .inl ⟨rfl, rfl, x, hx, by simpa using hv⟩, by simp, rfl⟩
  refine Sat.skip ?_
  simp only [thenK]
  have hval : ∀ x ∈ xs, validR x = true := fun x hx => by
    have := (List.any_eq_false.1 h) x hx
    simpa using this
  (repeat refine Sat.seq ?_)
  (refine Sat.region_k fun k hk => ?_; simp -implicitDefEqProofs only [evr, id, reduceCtorEq, reduceIte, Nat.reduceMul, Nat.reduceAdd, Nat.reduceLT, Nat.reduceLeDiff, Nat.reduceEqDiff, Int.reduceLT, Int.reduceBEq, Int.reduceBNe, Nat.reduceBEq, res_one, List.append_nil, Int.toNat_zero, Nat.sub_self, Int.reduceToNat, resRow, res_ro, epRow, ep_one])
  refine wcall_new (orderC F ad cap xs hl hin) rfl rfl ?_
  rintro ra ty len rc sz rrd ⟨a, c, ys, ho, hyl, e⟩
  simp only [resRow, Own.row.injEq] at e
  obtain ⟨rfl, rfl, rfl, rfl, rfl, rfl⟩ := e
  simp -implicitDefEqProofs only [evr, id, reduceCtorEq, reduceIte, Nat.reduceMul, Nat.reduceAdd, Nat.reduceLT, Nat.reduceLeDiff, Nat.reduceEqDiff, Int.reduceLT, Int.reduceBEq, Int.reduceBNe, Nat.reduceBEq, res_one, List.append_nil, Int.toNat_zero, Nat.sub_self, Int.reduceToNat, resRow, res_ro, epRow, ep_one]
  (refine hk _ ?_; clear hk k; try show Sat _ _ _ _ _)
  refine Sat.settle2 4 rfl rfl ?_
  simp -implicitDefEqProofs only [evr, id, reduceCtorEq, reduceIte, Nat.reduceMul, Nat.reduceAdd, Nat.reduceLT, Nat.reduceLeDiff, Nat.reduceEqDiff, Int.reduceLT, Int.reduceBEq, Int.reduceBNe, Nat.reduceBEq, res_one, List.append_nil, Int.toNat_zero, Nat.sub_self, Int.reduceToNat, resRow, res_ro, epRow, ep_one]
  (repeat refine Sat.seq ?_)
  (refine Sat.region_k fun k hk => ?_; simp -implicitDefEqProofs only [evr, id, reduceCtorEq, reduceIte, Nat.reduceMul, Nat.reduceAdd, Nat.reduceLT, Nat.reduceLeDiff, Nat.reduceEqDiff, Int.reduceLT, Int.reduceBEq, Int.reduceBNe, Nat.reduceBEq, res_one, List.append_nil, Int.toNat_zero, Nat.sub_self, Int.reduceToNat, resRow, res_ro, epRow, ep_one]; refine hk _ ?_; clear hk k; try show Sat _ _ _ _ _)
  (repeat refine Sat.seq ?_)
  refine Sat.cond_b rfl (fun h2 => ?_) (fun h2 => ?_)
  · (repeat refine Sat.seq ?_)
    (refine Sat.region_k fun k hk => ?_; simp -implicitDefEqProofs only [evr, id, reduceCtorEq, reduceIte, Nat.reduceMul, Nat.reduceAdd, Nat.reduceLT, Nat.reduceLeDiff, Nat.reduceEqDiff, Int.reduceLT, Int.reduceBEq, Int.reduceBNe, Nat.reduceBEq, res_one, List.append_nil, Int.toNat_zero, Nat.sub_self, Int.reduceToNat, resRow, res_ro, epRow, ep_one]; refine hk _ ?_; clear hk k; try show Sat _ _ _ _ _)
    refine Sat.adopt 2 57 2 (epRd []) rfl ?_
    refine Sat.ret ?_
    simp only [scopeK, thenK, Try.results18, evr, id, reduceCtorEq, reduceIte, Nat.reduceMul, Nat.reduceAdd, Nat.reduceLT, Nat.reduceLeDiff, Nat.reduceEqDiff, Int.reduceLT, Int.reduceBEq, Int.reduceBNe, Nat.reduceBEq, res_one, List.append_nil, Int.toNat_zero, Nat.sub_self, Int.reduceToNat, resRow, res_ro, epRow, ep_one]
    exact ⟨none, 0, [], 5, .inr ⟨hval, ys, ho, .inl ⟨rfl, rfl, by simp only [decide_eq_true_eq] at h2; omega⟩⟩, by simp, rfl⟩
  refine Sat.skip ?_
  simp only [thenK]
  have hn : ys.length ≤ 512 := by simp only [decide_eq_false_iff_not] at h2; omega
  (repeat refine Sat.seq ?_)
  (refine Sat.region_k fun k hk => ?_; simp -implicitDefEqProofs only [evr, id, reduceCtorEq, reduceIte, Nat.reduceMul, Nat.reduceAdd, Nat.reduceLT, Nat.reduceLeDiff, Nat.reduceEqDiff, Int.reduceLT, Int.reduceBEq, Int.reduceBNe, Nat.reduceBEq, res_one, List.append_nil, Int.toNat_zero, Nat.sub_self, Int.reduceToNat, resRow, res_ro, epRow, ep_one])
  refine wcall_slice ((tracesC F ra rc ys (by omega)).toC) rfl (by simp -implicitDefEqProofs only [evr, id, reduceCtorEq, reduceIte, Nat.reduceMul, Nat.reduceAdd, Nat.reduceLT, Nat.reduceLeDiff, Nat.reduceEqDiff, Int.reduceLT, Int.reduceBEq, Int.reduceBNe, Nat.reduceBEq, res_one, List.append_nil, Int.toNat_zero, Nat.sub_self, Int.reduceToNat, resRow, res_ro, epRow, ep_one]) ?_
  rintro r ⟨ta, tty, tn, tc, tsz, trd, rfl, ⟨a3, c3, ts, htr, htl, e⟩⟩
  simp only [treRow, Own.row.injEq] at e
  obtain ⟨rfl, rfl, rfl, rfl, rfl, rfl⟩ := e
  simp -implicitDefEqProofs only [evr, id, reduceCtorEq, reduceIte, Nat.reduceMul, Nat.reduceAdd, Nat.reduceLT, Nat.reduceLeDiff, Nat.reduceEqDiff, Int.reduceLT, Int.reduceBEq, Int.reduceBNe, Nat.reduceBEq, res_one, List.append_nil, Int.toNat_zero, Nat.sub_self, Int.reduceToNat, resRow, res_ro, epRow, ep_one]
  (refine hk _ ?_; clear hk k; try show Sat _ _ _ _ _)
  have hone : ts.length ≤ 1 ↔ oneT ys := htr.one.trans ⟨fun h r hr s hs => h r hr s hs ((ho.2 r).1 hr).2 ((ho.2 s).1 hs).2, fun h r hr s hs _ _ => h r hr s hs⟩
  (repeat refine Sat.seq ?_)
  refine Sat.cond_b rfl (fun h3 => ?_) (fun h3 => ?_)
  · (repeat refine Sat.seq ?_)
    (refine Sat.region_k fun k hk => ?_; simp -implicitDefEqProofs only [evr, id, reduceCtorEq, reduceIte, Nat.reduceMul, Nat.reduceAdd, Nat.reduceLT, Nat.reduceLeDiff, Nat.reduceEqDiff, Int.reduceLT, Int.reduceBEq, Int.reduceBNe, Nat.reduceBEq, res_one, List.append_nil, Int.toNat_zero, Nat.sub_self, Int.reduceToNat, resRow, res_ro, epRow, ep_one]; refine hk _ ?_; clear hk k; try show Sat _ _ _ _ _)
    refine Sat.adopt 2 57 2 (epRd []) rfl ?_
    refine Sat.ret ?_
    simp only [scopeK, thenK, Try.results18, evr, id, reduceCtorEq, reduceIte, Nat.reduceMul, Nat.reduceAdd, Nat.reduceLT, Nat.reduceLeDiff, Nat.reduceEqDiff, Int.reduceLT, Int.reduceBEq, Int.reduceBNe, Nat.reduceBEq, res_one, List.append_nil, Int.toNat_zero, Nat.sub_self, Int.reduceToNat, resRow, res_ro, epRow, ep_one]
    exact ⟨none, 0, [], 35, .inr ⟨hval, ys, ho, .inr (.inl ⟨rfl, rfl, hn, fun h => by have := hone.2 h; simp only [decide_eq_true_eq] at h3; omega⟩)⟩, by simp, rfl⟩
  refine Sat.skip ?_
  simp only [thenK]
  have h1t : oneT ys := hone.1 (by simp only [decide_eq_false_iff_not] at h3; omega)
  (repeat refine Sat.seq ?_)
  (refine Sat.region_k fun k hk => ?_; simp -implicitDefEqProofs only [evr, id, reduceCtorEq, reduceIte, Nat.reduceMul, Nat.reduceAdd, Nat.reduceLT, Nat.reduceLeDiff, Nat.reduceEqDiff, Int.reduceLT, Int.reduceBEq, Int.reduceBNe, Nat.reduceBEq, res_one, List.append_nil, Int.toNat_zero, Nat.sub_self, Int.reduceToNat, resRow, res_ro, epRow, ep_one]; refine hk _ ?_; clear hk k; try show Sat _ _ _ _ _)
  (repeat refine Sat.seq ?_)
  refine Sat.label ?_
  simp only [thenK]
  (repeat refine Sat.seq ?_)
  (refine Sat.region_k fun k hk => ?_; simp -implicitDefEqProofs only [evr, id, reduceCtorEq, reduceIte, Nat.reduceMul, Nat.reduceAdd, Nat.reduceLT, Nat.reduceLeDiff, Nat.reduceEqDiff, Int.reduceLT, Int.reduceBEq, Int.reduceBNe, Nat.reduceBEq, res_one, List.append_nil, Int.toNat_zero, Nat.sub_self, Int.reduceToNat, resRow, res_ro, epRow, ep_one]; refine hk _ ?_; clear hk k; try show Sat _ _ _ _ _)
  refine Sat.adopt 5 57 2 (epRd []) rfl ?_
  refine Sat.block ?_
  refine Sat.loop (ι := Nat × Option Addr × Nat × List (Nat × Nat)) (fun z => ⟨86, [(6, .i .i64 z.1), (5, .os 1 z.2.1 z.2.2.2.length z.2.2.1), (4, .sl ra ys.length rc 17 (resRd ys.toArray))], [.gone, epRow z.2.1 z.2.2.1 z.2.2.2]⟩)
    (fun z => z.1 ≤ ys.length ∧ Pre (fun i => ys.toArray[i]!) z.2.2.2 z.1 ∧ (z.1 < ys.length ∨ z.1 = 0)) (fun z => ys.length - z.1) (0, none, 0, []) ⟨Nat.zero_le _, .nil, .inr rfl⟩ (by simp -implicitDefEqProofs only [evr, id, reduceCtorEq, reduceIte, Nat.reduceMul, Nat.reduceAdd, Nat.reduceLT, Nat.reduceLeDiff, Nat.reduceEqDiff, Int.reduceLT, Int.reduceBEq, Int.reduceBNe, Nat.reduceBEq, res_one, List.append_nil, Int.toNat_zero, Nat.sub_self, Int.reduceToNat, resRow, res_ro, epRow, ep_one, evl]; rfl) ?_
  rintro ⟨f0, a, c, l⟩ ⟨hf0, hpre, hz⟩
  simp only [epRow] at hf0 hpre hz ⊢
  have hll := hpre.bound
  (repeat refine Sat.seq ?_)
  (refine Sat.region_k fun k hk => ?_; simp -implicitDefEqProofs only [evr, id, reduceCtorEq, reduceIte, Nat.reduceMul, Nat.reduceAdd, Nat.reduceLT, Nat.reduceLeDiff, Nat.reduceEqDiff, Int.reduceLT, Int.reduceBEq, Int.reduceBNe, Nat.reduceBEq, res_one, List.append_nil, Int.toNat_zero, Nat.sub_self, Int.reduceToNat, resRow, res_ro, epRow, ep_one]; refine hk _ ?_; clear hk k; try show Sat _ _ _ _ _)
  (repeat refine Sat.seq ?_)
  refine Sat.cond_b rfl (fun h => ?_) (fun h => ?_)
  · have h0 : f0 < ys.length := by simp only [decide_eq_true_eq] at h; omega
    refine Sat.skip ?_
    simp only [thenK]
    (repeat refine Sat.seq ?_)
    refine Sat.block ?_
    (repeat refine Sat.seq ?_)
    (refine Sat.region_k fun k hk => ?_; simp -implicitDefEqProofs only [evr, id, reduceCtorEq, reduceIte, Nat.reduceMul, Nat.reduceAdd, Nat.reduceLT, Nat.reduceLeDiff, Nat.reduceEqDiff, Int.reduceLT, Int.reduceBEq, Int.reduceBNe, Nat.reduceBEq, res_one, List.append_nil, Int.toNat_zero, Nat.sub_self, Int.reduceToNat, resRow, res_ro, epRow, ep_one])
    intro b1
    (refine hk _ ?_; clear hk k; try show Sat _ _ _ _ _)
    (repeat refine Sat.seq ?_)
    (refine Sat.region_k fun k hk => ?_; simp -implicitDefEqProofs only [evr, id, reduceCtorEq, reduceIte, Nat.reduceMul, Nat.reduceAdd, Nat.reduceLT, Nat.reduceLeDiff, Nat.reduceEqDiff, Int.reduceLT, Int.reduceBEq, Int.reduceBNe, Nat.reduceBEq, res_one, List.append_nil, Int.toNat_zero, Nat.sub_self, Int.reduceToNat, resRow, res_ro, epRow, ep_one]; refine hk _ ?_; clear hk k; try show Sat _ _ _ _ _)
    (repeat refine Sat.seq ?_)
    refine Sat.block ?_
    refine Sat.loop (ι := Nat × (List Int → Option Int)) (fun z => ⟨86, [(8, .i .i64 z.1), (7, .mp 2 b1), (6, .i .i64 f0), (5, .os 1 a l.length c), (4, .sl ra ys.length rc 17 (resRd ys.toArray))], [.gone, .row a 57 l.length c 2 (epRd l), .mp b1 false [.i64, .u32, .i64, .i64, .i64] .u32 z.2]⟩)
      (fun z => f0 ≤ z.1 ∧ z.1 ≤ ys.length ∧ SeenI (fun i => ys.toArray[i]!) f0 z.1 z.2 ∧ Seg (fun i => ys.toArray[i]!) f0 z.1) (fun z => ys.length - z.1) (f0, fun _ => none) ⟨Nat.le_refl _, hf0, SeenI.empty _ _, Seg.nil _ _⟩ (by simp -implicitDefEqProofs only [evr, id, reduceCtorEq, reduceIte, Nat.reduceMul, Nat.reduceAdd, Nat.reduceLT, Nat.reduceLeDiff, Nat.reduceEqDiff, Int.reduceLT, Int.reduceBEq, Int.reduceBNe, Nat.reduceBEq, res_one, List.append_nil, Int.toNat_zero, Nat.sub_self, Int.reduceToNat, resRow, res_ro, epRow, ep_one, evl]; first | rfl | trace_state) ?_
    rintro ⟨i, f⟩ ⟨hfi, hi, hs, hseg⟩
    simp only at hfi hi hs hseg ⊢
    (repeat refine Sat.seq ?_)
    (refine Sat.region_k fun k hk => ?_; simp -implicitDefEqProofs only [evr, id, reduceCtorEq, reduceIte, Nat.reduceMul, Nat.reduceAdd, Nat.reduceLT, Nat.reduceLeDiff, Nat.reduceEqDiff, Int.reduceLT, Int.reduceBEq, Int.reduceBNe, Nat.reduceBEq, res_one, List.append_nil, Int.toNat_zero, Nat.sub_self, Int.reduceToNat, resRow, res_ro, epRow, ep_one]; refine hk _ ?_; clear hk k; try show Sat _ _ _ _ _)
    (repeat refine Sat.seq ?_)
    refine Sat.cond_b rfl (fun h => ?_) (fun h => ?_)
    · have h1 : i < ys.length := by simp only [decide_eq_true_eq] at h; omega
      have e2 : IntKind.i64.wrap ((i : Int) + 1) = ((i + 1 : Nat) : Int) := by rw [w64 (by omega)]; omega
      refine Sat.skip ?_
      simp only [thenK]
      (repeat refine Sat.seq ?_)
      refine Sat.block ?_
      (repeat refine Sat.seq ?_)
      (refine Sat.region_k fun k hk => ?_; simp -implicitDefEqProofs only [evr, id, reduceCtorEq, reduceIte, Nat.reduceMul, Nat.reduceAdd, Nat.reduceLT, Nat.reduceLeDiff, Nat.reduceEqDiff, Int.reduceLT, Int.reduceBEq, Int.reduceBNe, Nat.reduceBEq, res_one, List.append_nil, Int.toNat_zero, Nat.sub_self, Int.reduceToNat, resRow, res_ro, epRow, ep_one])
      refine ⟨by omega, ?_⟩
      refine wcall_plain (placeC F ys.toArray[i]!) rfl (by rintro _ rfl; exact placeS_ok _) ?_
      rintro r rfl
      simp only [placeS, spotAg, evr, id, reduceCtorEq, reduceIte, Nat.reduceMul, Nat.reduceAdd, Nat.reduceLT, Nat.reduceLeDiff, Nat.reduceEqDiff, Int.reduceLT, Int.reduceBEq, Int.reduceBNe, Nat.reduceBEq, res_one, List.append_nil, Int.toNat_zero, Nat.sub_self, Int.reduceToNat, resRow, res_ro, epRow, ep_one]
      intro b3
      (refine hk _ ?_; clear hk k; try show Sat _ _ _ _ _)
      (repeat refine Sat.seq ?_)
      (refine Sat.region_k fun k hk => ?_; simp -implicitDefEqProofs only [evr, id, reduceCtorEq, reduceIte, Nat.reduceMul, Nat.reduceAdd, Nat.reduceLT, Nat.reduceLeDiff, Nat.reduceEqDiff, Int.reduceLT, Int.reduceBEq, Int.reduceBNe, Nat.reduceBEq, res_one, List.append_nil, Int.toNat_zero, Nat.sub_self, Int.reduceToNat, resRow, res_ro, epRow, ep_one]; refine hk _ ?_; clear hk k; try show Sat _ _ _ _ _)
      (repeat refine Sat.seq ?_)
      refine Sat.cond_b rfl (fun h2 => ?_) (fun h2 => ?_)
      · have hp : placedR ys.toArray[i]! = false := by simpa using h2
        refine Sat.exit ?_
        simp only [blockK, thenK, reduceIte]
        refine Sat.region_k fun k hk => ?_
        simp -implicitDefEqProofs only [evr, id, reduceCtorEq, reduceIte, Nat.reduceMul, Nat.reduceAdd, Nat.reduceLT, Nat.reduceLeDiff, Nat.reduceEqDiff, Int.reduceLT, Int.reduceBEq, Int.reduceBNe, Nat.reduceBEq, res_one, List.append_nil, Int.toNat_zero, Nat.sub_self, Int.reduceToNat, resRow, res_ro, epRow, ep_one, e2]
        refine hk _ ?_
        simp only [thenK, blockK]
        have hn := hs.skip hp
        refine ⟨(i + 1, f), ⟨by simp only; omega, by simp only; omega, hn.1, hseg.snoc hn.2⟩, by simp only; omega, ?_⟩
        simp -implicitDefEqProofs only [evr, id, reduceCtorEq, reduceIte, Nat.reduceMul, Nat.reduceAdd, Nat.reduceLT, Nat.reduceLeDiff, Nat.reduceEqDiff, Int.reduceLT, Int.reduceBEq, Int.reduceBNe, Nat.reduceBEq, res_one, List.append_nil, Int.toNat_zero, Nat.sub_self, Int.reduceToNat, resRow, res_ro, epRow, ep_one, evl]
      · have hp : placedR ys.toArray[i]! = true := by simpa using h2
        refine Sat.skip ?_
        simp only [thenK]
        (repeat refine Sat.seq ?_)
        refine Sat.atF (ι := Option Int) (fun z => ⟨86, [(12, .b z.isSome), (11, .i .u32 (z.getD 0)), (9, .op 3 b3 0), (8, .i .i64 i), (7, .mp 2 b1), (6, .i .i64 f0), (5, .os 1 a l.length c), (4, .sl ra ys.length rc 17 (resRd ys.toArray))],
          [.gone, .row a 57 l.length c 2 (epRd l), .mp b1 false [.i64, .u32, .i64, .i64, .i64] .u32 f, .box b3 68 [.i .i64 (ys.toArray[i]!).vantage, .i .u32 (ys.toArray[i]!).dst, .i .i64 (ys.toArray[i]!).proto, .i .i64 (ys.toArray[i]!).flow, .i .i64 (ys.toArray[i]!).ttl]]⟩) (fun z => f (ys.toArray[i]!).spot = z) ?_ ?_
        · (refine Sat.region_k fun k hk => ?_; simp -implicitDefEqProofs only [evr, id, reduceCtorEq, reduceIte, Nat.reduceMul, Nat.reduceAdd, Nat.reduceLT, Nat.reduceLeDiff, Nat.reduceEqDiff, Int.reduceLT, Int.reduceBEq, Int.reduceBNe, Nat.reduceBEq, res_one, List.append_nil, Int.toNat_zero, Nat.sub_self, Int.reduceToNat, resRow, res_ro, epRow, ep_one])
          refine ⟨fun v hv => hk _ ?_, fun hv => hk _ ?_⟩
          · simp only [thenK]
            refine ⟨some v, hv, ?_⟩
            simp only [Option.isSome_some, Option.getD_some]
            simp -implicitDefEqProofs only [evr, id, reduceCtorEq, reduceIte, Nat.reduceMul, Nat.reduceAdd, Nat.reduceLT, Nat.reduceLeDiff, Nat.reduceEqDiff, Int.reduceLT, Int.reduceBEq, Int.reduceBNe, Nat.reduceBEq, res_one, List.append_nil, Int.toNat_zero, Nat.sub_self, Int.reduceToNat, resRow, res_ro, epRow, ep_one, evl]
            try rfl
          · simp only [thenK]
            refine ⟨none, hv, ?_⟩
            simp only [Option.isSome_none, Option.getD_none]
            simp -implicitDefEqProofs only [evr, id, reduceCtorEq, reduceIte, Nat.reduceMul, Nat.reduceAdd, Nat.reduceLT, Nat.reduceLeDiff, Nat.reduceEqDiff, Int.reduceLT, Int.reduceBEq, Int.reduceBNe, Nat.reduceBEq, res_one, List.append_nil, Int.toNat_zero, Nat.sub_self, Int.reduceToNat, resRow, res_ro, epRow, ep_one, evl]
            try rfl
        intro z hz2
        simp only [thenK]
        (repeat refine Sat.seq ?_)
        refine Sat.at ⟨86, [(62, .b (z.isSome && (z.getD 0 != (ys.toArray[i]!).from_))), (9, .op 3 b3 0), (8, .i .i64 i), (7, .mp 2 b1), (6, .i .i64 f0), (5, .os 1 a l.length c), (4, .sl ra ys.length rc 17 (resRd ys.toArray))],
          [.gone, .row a 57 l.length c 2 (epRd l), .mp b1 false [.i64, .u32, .i64, .i64, .i64] .u32 f, .box b3 68 [.i .i64 (ys.toArray[i]!).vantage, .i .u32 (ys.toArray[i]!).dst, .i .i64 (ys.toArray[i]!).proto, .i .i64 (ys.toArray[i]!).flow, .i .i64 (ys.toArray[i]!).ttl]]⟩ ?_ ?_
        · (refine Sat.region_k fun k hk => ?_; simp -implicitDefEqProofs only [evr, id, reduceCtorEq, reduceIte, Nat.reduceMul, Nat.reduceAdd, Nat.reduceLT, Nat.reduceLeDiff, Nat.reduceEqDiff, Int.reduceLT, Int.reduceBEq, Int.reduceBNe, Nat.reduceBEq, res_one, List.append_nil, Int.toNat_zero, Nat.sub_self, Int.reduceToNat, resRow, res_ro, epRow, ep_one])
          simp -implicitDefEqProofs only [evr, id, reduceCtorEq, reduceIte, Nat.reduceMul, Nat.reduceAdd, Nat.reduceLT, Nat.reduceLeDiff, Nat.reduceEqDiff, Int.reduceLT, Int.reduceBEq, Int.reduceBNe, Nat.reduceBEq, res_one, List.append_nil, Int.toNat_zero, Nat.sub_self, Int.reduceToNat, resRow, res_ro, epRow, ep_one, res_11]
          refine ⟨fun h3 => ⟨by omega, hk _ ?_⟩, fun h3 => hk _ ?_⟩
          · simp only [thenK, h3, Bool.true_and]
            simp -implicitDefEqProofs only [evr, id, reduceCtorEq, reduceIte, Nat.reduceMul, Nat.reduceAdd, Nat.reduceLT, Nat.reduceLeDiff, Nat.reduceEqDiff, Int.reduceLT, Int.reduceBEq, Int.reduceBNe, Nat.reduceBEq, res_one, List.append_nil, Int.toNat_zero, Nat.sub_self, Int.reduceToNat, resRow, res_ro, epRow, ep_one, evl]
          · simp only [thenK, h3, Bool.false_and]
            simp -implicitDefEqProofs only [evr, id, reduceCtorEq, reduceIte, Nat.reduceMul, Nat.reduceAdd, Nat.reduceLT, Nat.reduceLeDiff, Nat.reduceEqDiff, Int.reduceLT, Int.reduceBEq, Int.reduceBNe, Nat.reduceBEq, res_one, List.append_nil, Int.toNat_zero, Nat.sub_self, Int.reduceToNat, resRow, res_ro, epRow, ep_one, evl]
        simp only [thenK]
        (repeat refine Sat.seq ?_)
        refine Sat.cond_b rfl (fun h4 => ?_) (fun h4 => ?_)
        · simp only [Bool.and_eq_true, bne_iff_ne, ne_eq] at h4
          obtain ⟨v, rfl⟩ := Option.isSome_iff_exists.1 h4.1
          have hbad := hs.clash hp hz2 h4.2
          obtain ⟨w, hw1, hw2, _⟩ := hbad
          (repeat refine Sat.seq ?_)
          (refine Sat.region_k fun k hk => ?_; simp -implicitDefEqProofs only [evr, id, reduceCtorEq, reduceIte, Nat.reduceMul, Nat.reduceAdd, Nat.reduceLT, Nat.reduceLeDiff, Nat.reduceEqDiff, Int.reduceLT, Int.reduceBEq, Int.reduceBNe, Nat.reduceBEq, res_one, List.append_nil, Int.toNat_zero, Nat.sub_self, Int.reduceToNat, resRow, res_ro, epRow, ep_one])
          intro b4
          refine ⟨⟨by unfold maxLen; omega, by omega⟩, fun a2 cap2 => ?_⟩
          (refine hk _ ?_; clear hk k; try show Sat _ _ _ _ _)
          (repeat refine Sat.seq ?_)
          (refine Sat.region_k fun k hk => ?_; simp -implicitDefEqProofs only [evr, id, reduceCtorEq, reduceIte, Nat.reduceMul, Nat.reduceAdd, Nat.reduceLT, Nat.reduceLeDiff, Nat.reduceEqDiff, Int.reduceLT, Int.reduceBEq, Int.reduceBNe, Nat.reduceBEq, res_one, List.append_nil, Int.toNat_zero, Nat.sub_self, Int.reduceToNat, resRow, res_ro, epRow, ep_one]; refine hk _ ?_; clear hk k; try show Sat _ _ _ _ _)
          refine Sat.exit ?_
          simp only [thenK, blockK, reduceIte]
          refine ⟨(i, a2, cap2, l ++ [(f0, i)]), ⟨by simp only; omega, .snoc hpre (by omega) hseg (hs.clash hp hz2 h4.2), .inl (by simp only; omega)⟩, by simp only; omega, ?_⟩
          simp only [List.length_append, List.length_singleton]
          simp -implicitDefEqProofs only [evr, id, reduceCtorEq, reduceIte, Nat.reduceMul, Nat.reduceAdd, Nat.reduceLT, Nat.reduceLeDiff, Nat.reduceEqDiff, Int.reduceLT, Int.reduceBEq, Int.reduceBNe, Nat.reduceBEq, res_one, List.append_nil, Int.toNat_zero, Nat.sub_self, Int.reduceToNat, resRow, res_ro, epRow, ep_one, evl]
          exact ep_app rfl
        · refine Sat.skip ?_
          simp only [thenK]
          (refine Sat.region_tree (.keep [0, 2, 3, 4, 5, 6, 1, 7] [] (.one 8 .done)) (by kernel_rfl) (by kernel_rfl) (fun _ _ h => h) fun k hk => ?_; simp only [WOT, List.map_cons, List.map_nil, List.getD_cons_zero, List.getD_cons_succ]; simp -implicitDefEqProofs only [evr, id, reduceCtorEq, reduceIte, Nat.reduceMul, Nat.reduceAdd, Nat.reduceLT, Nat.reduceLeDiff, Nat.reduceEqDiff, Int.reduceLT, Int.reduceBEq, Int.reduceBNe, Nat.reduceBEq, res_one, List.append_nil, Int.toNat_zero, Nat.sub_self, Int.reduceToNat, resRow, res_ro, epRow, ep_one, WOT])
          simp -implicitDefEqProofs only [evr, id, reduceCtorEq, reduceIte, Nat.reduceMul, Nat.reduceAdd, Nat.reduceLT, Nat.reduceLeDiff, Nat.reduceEqDiff, Int.reduceLT, Int.reduceBEq, Int.reduceBNe, Nat.reduceBEq, res_one, List.append_nil, Int.toNat_zero, Nat.sub_self, Int.reduceToNat, resRow, res_ro, epRow, ep_one, res_11]
          refine ⟨by omega, ?_⟩
          (refine hk _ ?_; clear hk k; try show Sat _ _ _ _ _)
          refine Sat.region_k fun k hk => ?_
          simp -implicitDefEqProofs only [evr, id, reduceCtorEq, reduceIte, Nat.reduceMul, Nat.reduceAdd, Nat.reduceLT, Nat.reduceLeDiff, Nat.reduceEqDiff, Int.reduceLT, Int.reduceBEq, Int.reduceBNe, Nat.reduceBEq, res_one, List.append_nil, Int.toNat_zero, Nat.sub_self, Int.reduceToNat, resRow, res_ro, epRow, ep_one, e2]
          refine hk _ ?_
          simp only [thenK, blockK]
          have hn := hs.put hfi hp (fun x hx => by
            rw [hz2] at hx
            subst hx
            simpa using h4)
          refine ⟨(i + 1, fPut f (ys.toArray[i]!).spot (ys.toArray[i]!).from_), ⟨by simp only; omega, by simp only; omega, hn.1, hseg.snoc hn.2⟩, by simp only; omega, ?_⟩
          simp -implicitDefEqProofs only [evr, id, reduceCtorEq, reduceIte, Nat.reduceMul, Nat.reduceAdd, Nat.reduceLT, Nat.reduceLeDiff, Nat.reduceEqDiff, Int.reduceLT, Int.reduceBEq, Int.reduceBNe, Nat.reduceBEq, res_one, List.append_nil, Int.toNat_zero, Nat.sub_self, Int.reduceToNat, resRow, res_ro, epRow, ep_one, evl]
          exact fun _ => rfl
    · have h1 : i = ys.length := by simp only [decide_eq_false_iff_not] at h; omega
      refine Sat.exit ?_
      simp only [thenK, blockK, reduceIte]
      (repeat refine Sat.seq ?_)
      (refine Sat.region_k fun k hk => ?_; simp -implicitDefEqProofs only [evr, id, reduceCtorEq, reduceIte, Nat.reduceMul, Nat.reduceAdd, Nat.reduceLT, Nat.reduceLeDiff, Nat.reduceEqDiff, Int.reduceLT, Int.reduceBEq, Int.reduceBNe, Nat.reduceBEq, res_one, List.append_nil, Int.toNat_zero, Nat.sub_self, Int.reduceToNat, resRow, res_ro, epRow, ep_one])
      intro b4
      refine ⟨⟨by unfold maxLen; omega, by omega⟩, fun a2 cap2 => ?_⟩
      (refine hk _ ?_; clear hk k; try show Sat _ _ _ _ _)
      refine Sat.exit ?_
      simp only [thenK, blockK, reduceIte]
      (repeat refine Sat.seq ?_)
      (refine Sat.region_k fun k hk => ?_; simp -implicitDefEqProofs only [evr, id, reduceCtorEq, reduceIte, Nat.reduceMul, Nat.reduceAdd, Nat.reduceLT, Nat.reduceLeDiff, Nat.reduceEqDiff, Int.reduceLT, Int.reduceBEq, Int.reduceBNe, Nat.reduceBEq, res_one, List.append_nil, Int.toNat_zero, Nat.sub_self, Int.reduceToNat, resRow, res_ro, epRow, ep_one]; refine hk _ ?_; clear hk k; try show Sat _ _ _ _ _)
      refine Sat.le (st' := ⟨86, [(3, .i .i64 0), (2, .os 1 a2 (l ++ [(f0, ys.length)]).length cap2)], [.gone, epRow a2 cap2 (l ++ [(f0, ys.length)])]⟩) ?_ ?_
      · refine Sat.ret ?_
        simp only [scopeK, thenK, Try.results18, evr, id, reduceCtorEq, reduceIte, Nat.reduceMul, Nat.reduceAdd, Nat.reduceLT, Nat.reduceLeDiff, Nat.reduceEqDiff, Int.reduceLT, Int.reduceBEq, Int.reduceBNe, Nat.reduceBEq, res_one, List.append_nil, Int.toNat_zero, Nat.sub_self, Int.reduceToNat, resRow, res_ro, epRow, ep_one]
        exact ⟨a2, cap2, l ++ [(f0, ys.length)], 0, .inr ⟨hval, ys, ho, .inr (.inr ⟨rfl, hn, h1t, .inr ⟨l, f0, hpre, h0, h1 ▸ hseg, rfl⟩⟩)⟩, by simp; omega, rfl⟩
      · simp only [epRow]
        simp -implicitDefEqProofs only [evr, id, reduceCtorEq, reduceIte, Nat.reduceMul, Nat.reduceAdd, Nat.reduceLT, Nat.reduceLeDiff, Nat.reduceEqDiff, Int.reduceLT, Int.reduceBEq, Int.reduceBNe, Nat.reduceBEq, res_one, List.append_nil, Int.toNat_zero, Nat.sub_self, Int.reduceToNat, resRow, res_ro, epRow, ep_one, evl]
        exact ⟨by simp, by simp, ep_app rfl⟩
  · refine Sat.exit ?_
    simp only [thenK, blockK, reduceIte]
    (repeat refine Sat.seq ?_)
    (refine Sat.region_k fun k hk => ?_; simp -implicitDefEqProofs only [evr, id, reduceCtorEq, reduceIte, Nat.reduceMul, Nat.reduceAdd, Nat.reduceLT, Nat.reduceLeDiff, Nat.reduceEqDiff, Int.reduceLT, Int.reduceBEq, Int.reduceBNe, Nat.reduceBEq, res_one, List.append_nil, Int.toNat_zero, Nat.sub_self, Int.reduceToNat, resRow, res_ro, epRow, ep_one]; refine hk _ ?_; clear hk k; try show Sat _ _ _ _ _)
    refine Sat.ret ?_
    simp only [scopeK, thenK, Try.results18, evr, id, reduceCtorEq, reduceIte, Nat.reduceMul, Nat.reduceAdd, Nat.reduceLT, Nat.reduceLeDiff, Nat.reduceEqDiff, Int.reduceLT, Int.reduceBEq, Int.reduceBNe, Nat.reduceBEq, res_one, List.append_nil, Int.toNat_zero, Nat.sub_self, Int.reduceToNat, resRow, res_ro, epRow, ep_one]
    have h0 : f0 = 0 ∧ ys.length = 0 := by
      simp only [decide_eq_false_iff_not] at h
      omega
    have hl0 : l = [] := List.eq_nil_of_length_eq_zero (by omega)
    exact ⟨a, c, l, 0, .inr ⟨hval, ys, ho, .inr (.inr ⟨rfl, hn, h1t, .inl ⟨h0.2, hl0⟩⟩)⟩, by omega, rfl⟩
theorem cut_ok {a : Option Addr} {n cap : Nat} {rd : Nat → Nat → SV} {e : Int} : True := trivial
set_option maxRecDepth 100000 in
theorem fewestC (F : Frm) (ad : Option Addr) (cap : Nat) (xs : List Res) (hl : xs.length ≤ 1000000000) (hin : ∀ r ∈ xs, RgR r) :
    Contract F Try.prog 14 [.sl ad xs.length cap 17 (resRd xs.toArray)] (fun r => ∃ (l : List (Nat × Nat)) (e : Int), CutRes xs l e ∧ l.length ≤ 1000 ∧ r = tupL [.i .i64 (l.length : Nat), .i .i64 e]) := by
  refine contract_of Try.func14 rfl (by kernel_rfl) ?_
  simp only [Try.ntmps14, argEnv]
  (repeat refine Sat.seq ?_)
  (refine Sat.region_k fun k hk => ?_; simp -implicitDefEqProofs only [evr, id, reduceCtorEq, reduceIte, Nat.reduceMul, Nat.reduceAdd, Nat.reduceLT, Nat.reduceLeDiff, Nat.reduceEqDiff, Int.reduceLT, Int.reduceBEq, Int.reduceBNe, Nat.reduceBEq, res_one, List.append_nil, Int.toNat_zero, Nat.sub_self, Int.reduceToNat, resRow, res_ro, epRow, ep_one]; refine hk _ ?_; clear hk k; try show Sat _ _ _ _ _)
  (repeat refine Sat.seq ?_)
  (refine Sat.region_k fun k hk => ?_; simp -implicitDefEqProofs only [evr, id, reduceCtorEq, reduceIte, Nat.reduceMul, Nat.reduceAdd, Nat.reduceLT, Nat.reduceLeDiff, Nat.reduceEqDiff, Int.reduceLT, Int.reduceBEq, Int.reduceBNe, Nat.reduceBEq, res_one, List.append_nil, Int.toNat_zero, Nat.sub_self, Int.reduceToNat, resRow, res_ro, epRow, ep_one])
  refine wcall_slice (cutC F ad cap xs hl hin) rfl (by simp -implicitDefEqProofs only [evr, id, reduceCtorEq, reduceIte, Nat.reduceMul, Nat.reduceAdd, Nat.reduceLT, Nat.reduceLeDiff, Nat.reduceEqDiff, Int.reduceLT, Int.reduceBEq, Int.reduceBNe, Nat.reduceBEq, res_one, List.append_nil, Int.toNat_zero, Nat.sub_self, Int.reduceToNat, resRow, res_ro, epRow, ep_one]) ?_
  rintro r ⟨a, c, l, e, hc, hll, rfl⟩
  simp -implicitDefEqProofs only [evr, id, reduceCtorEq, reduceIte, Nat.reduceMul, Nat.reduceAdd, Nat.reduceLT, Nat.reduceLeDiff, Nat.reduceEqDiff, Int.reduceLT, Int.reduceBEq, Int.reduceBNe, Nat.reduceBEq, res_one, List.append_nil, Int.toNat_zero, Nat.sub_self, Int.reduceToNat, resRow, res_ro, epRow, ep_one]
  (refine hk _ ?_; clear hk k; try show Sat _ _ _ _ _)
  (repeat refine Sat.seq ?_)
  (refine Sat.region_k fun k hk => ?_; simp -implicitDefEqProofs only [evr, id, reduceCtorEq, reduceIte, Nat.reduceMul, Nat.reduceAdd, Nat.reduceLT, Nat.reduceLeDiff, Nat.reduceEqDiff, Int.reduceLT, Int.reduceBEq, Int.reduceBNe, Nat.reduceBEq, res_one, List.append_nil, Int.toNat_zero, Nat.sub_self, Int.reduceToNat, resRow, res_ro, epRow, ep_one]; refine hk _ ?_; clear hk k; try show Sat _ _ _ _ _)
  refine Sat.ret ?_
  simp only [Try.results14, evr, id, reduceCtorEq, reduceIte, Nat.reduceMul, Nat.reduceAdd, Nat.reduceLT, Nat.reduceLeDiff, Nat.reduceEqDiff, Int.reduceLT, Int.reduceBEq, Int.reduceBNe, Nat.reduceBEq, res_one, List.append_nil, Int.toNat_zero, Nat.sub_self, Int.reduceToNat, resRow, res_ro, epRow, ep_one]
  exact ⟨l, e, hc, hll, rfl⟩
def partL (ys : List Res) (a b : Int) : List Res := if 0 ≤ a ∧ a ≤ b ∧ b ≤ ys.length then (ys.take b.toNat).drop a.toNat else []
theorem part_rd {ys : List Res} {a b : Int} (h : 0 ≤ a ∧ a ≤ b ∧ b ≤ ys.length) : rdEq (b.toNat - a.toNat) 17 (fun i j => resRd ys.toArray (a.toNat + i) j) (resRd (partL ys a b).toArray) := by
  intro i j hi hj
  unfold resRd partL
  rw [if_pos h]
  have h1 : a.toNat + i < b.toNat := by omega
  have h2 : a.toNat + i < ys.length := by omega
  have h3 : i < ((ys.take b.toNat).drop a.toNat).length := by rw [List.length_drop, List.length_take]; omega
  show (Res.cs ys.toArray[a.toNat + i]!).getD j default = _
  rw [getB h2, getB h3, List.getElem_drop, List.getElem_take]
theorem ContractN.of_sim {F : Frm} {P : Program} {f : FuncId} {args args' : List SV} {post : Own → Prop} (h : ContractN F P f args' post) (hs : simA args args') : ContractN F P f args post :=
  ⟨h.enters, fun R w h1 h2 h3 => by rw [simA_den hs]; exact h.calls R w h1 (simA_ok hs h2) h3⟩
set_option maxRecDepth 100000 in
theorem partC (F : Frm) (ad : Option Addr) (cap : Nat) (xs : List Res) (hl : xs.length ≤ 1000000000) (hin : ∀ r ∈ xs, RgR r) (a b : Int) :
    ContractN F Try.prog 19 [.sl ad xs.length cap 17 (resRd xs.toArray), .agg 2 fun j => [SV.i .i64 a, .i .i64 b].getD j default] (fun o => ∃ a' cap ys, OrdOf xs ys ∧ o = resRow a' (partL ys a b).length cap (partL ys a b).toArray) := by
  refine contractN_of Try.func19 rfl (by kernel_rfl) ?_
  simp only [Try.ntmps19, argEnv]
  (repeat refine Sat.seq ?_)
  (refine Sat.region_k fun k hk => ?_; simp -implicitDefEqProofs only [evr, id, reduceCtorEq, reduceIte, Nat.reduceMul, Nat.reduceAdd, Nat.reduceLT, Nat.reduceLeDiff, Nat.reduceEqDiff, Int.reduceLT, Int.reduceBEq, Int.reduceBNe, Nat.reduceBEq, res_one, List.append_nil, Int.toNat_zero, Nat.sub_self, Int.reduceToNat, resRow, res_ro, epRow, ep_one])
  intro b1
  (refine hk _ ?_; clear hk k; try show Sat _ _ _ _ _)
  (repeat refine Sat.seq ?_)
  (refine Sat.region_k fun k hk => ?_; simp -implicitDefEqProofs only [evr, id, reduceCtorEq, reduceIte, Nat.reduceMul, Nat.reduceAdd, Nat.reduceLT, Nat.reduceLeDiff, Nat.reduceEqDiff, Int.reduceLT, Int.reduceBEq, Int.reduceBNe, Nat.reduceBEq, res_one, List.append_nil, Int.toNat_zero, Nat.sub_self, Int.reduceToNat, resRow, res_ro, epRow, ep_one])
  refine wcall_new (orderC F ad cap xs hl hin) rfl rfl ?_
  rintro ra ty len rc sz rrd ⟨a1, c, ys, ho, hyl, e⟩
  simp only [resRow, Own.row.injEq] at e
  obtain ⟨rfl, rfl, rfl, rfl, rfl, rfl⟩ := e
  simp -implicitDefEqProofs only [evr, id, reduceCtorEq, reduceIte, Nat.reduceMul, Nat.reduceAdd, Nat.reduceLT, Nat.reduceLeDiff, Nat.reduceEqDiff, Int.reduceLT, Int.reduceBEq, Int.reduceBNe, Nat.reduceBEq, res_one, List.append_nil, Int.toNat_zero, Nat.sub_self, Int.reduceToNat, resRow, res_ro, epRow, ep_one]
  (refine hk _ ?_; clear hk k; try show Sat _ _ _ _ _)
  refine Sat.settle2 5 rfl rfl ?_
  simp -implicitDefEqProofs only [evr, id, reduceCtorEq, reduceIte, Nat.reduceMul, Nat.reduceAdd, Nat.reduceLT, Nat.reduceLeDiff, Nat.reduceEqDiff, Int.reduceLT, Int.reduceBEq, Int.reduceBNe, Nat.reduceBEq, res_one, List.append_nil, Int.toNat_zero, Nat.sub_self, Int.reduceToNat, resRow, res_ro, epRow, ep_one]
  (repeat refine Sat.seq ?_)
  refine Sat.at ⟨32, [(24, .b (!decide (0 ≤ a ∧ a ≤ b ∧ b ≤ ys.length))), (5, .sl ra ys.length rc 17 (resRd ys.toArray)), (3, .op 0 b1 0), (4, .sl none 0 0 0 (fun _ _ => .v undef))], [.box b1 57 [.i .i64 a, .i .i64 b]]⟩ ?_ ?_
  · (refine Sat.region_k fun k hk => ?_; simp -implicitDefEqProofs only [evr, id, reduceCtorEq, reduceIte, Nat.reduceMul, Nat.reduceAdd, Nat.reduceLT, Nat.reduceLeDiff, Nat.reduceEqDiff, Int.reduceLT, Int.reduceBEq, Int.reduceBNe, Nat.reduceBEq, res_one, List.append_nil, Int.toNat_zero, Nat.sub_self, Int.reduceToNat, resRow, res_ro, epRow, ep_one])
    refine ⟨fun q1 => hk _ ?_, fun q1 => ⟨fun q2 => hk _ ?_, fun q2 => hk _ ?_⟩⟩
    · have e : decide (0 ≤ a ∧ a ≤ b ∧ b ≤ (ys.length : Int)) = false := decide_eq_false (by omega)
      simp only [thenK, e, Bool.not_false]
      simp -implicitDefEqProofs only [evr, id, reduceCtorEq, reduceIte, Nat.reduceMul, Nat.reduceAdd, Nat.reduceLT, Nat.reduceLeDiff, Nat.reduceEqDiff, Int.reduceLT, Int.reduceBEq, Int.reduceBNe, Nat.reduceBEq, res_one, List.append_nil, Int.toNat_zero, Nat.sub_self, Int.reduceToNat, resRow, res_ro, epRow, ep_one, evl]
    · have e : decide (0 ≤ a ∧ a ≤ b ∧ b ≤ (ys.length : Int)) = false := decide_eq_false (by omega)
      simp only [thenK, e, Bool.not_false]
      simp -implicitDefEqProofs only [evr, id, reduceCtorEq, reduceIte, Nat.reduceMul, Nat.reduceAdd, Nat.reduceLT, Nat.reduceLeDiff, Nat.reduceEqDiff, Int.reduceLT, Int.reduceBEq, Int.reduceBNe, Nat.reduceBEq, res_one, List.append_nil, Int.toNat_zero, Nat.sub_self, Int.reduceToNat, resRow, res_ro, epRow, ep_one, evl]
    · have e : decide ((ys.length : Int) < b) = !decide (0 ≤ a ∧ a ≤ b ∧ b ≤ (ys.length : Int)) := by
        by_cases h : (ys.length : Int) < b
        · rw [decide_eq_true h, decide_eq_false (by omega)]; rfl
        · rw [decide_eq_false h, decide_eq_true (by omega)]; rfl
      simp only [thenK, e]
      simp -implicitDefEqProofs only [evr, id, reduceCtorEq, reduceIte, Nat.reduceMul, Nat.reduceAdd, Nat.reduceLT, Nat.reduceLeDiff, Nat.reduceEqDiff, Int.reduceLT, Int.reduceBEq, Int.reduceBNe, Nat.reduceBEq, res_one, List.append_nil, Int.toNat_zero, Nat.sub_self, Int.reduceToNat, resRow, res_ro, epRow, ep_one, evl]
  simp only [thenK]
  (repeat refine Sat.seq ?_)
  refine Sat.cond_b rfl (fun h => ?_) (fun h => ?_)
  · have hno : ¬ (0 ≤ a ∧ a ≤ b ∧ b ≤ ys.length) := by
      intro hh
      rw [decide_eq_true hh] at h
      cases h
    (repeat refine Sat.seq ?_)
    (refine Sat.region_k fun k hk => ?_; simp -implicitDefEqProofs only [evr, id, reduceCtorEq, reduceIte, Nat.reduceMul, Nat.reduceAdd, Nat.reduceLT, Nat.reduceLeDiff, Nat.reduceEqDiff, Int.reduceLT, Int.reduceBEq, Int.reduceBNe, Nat.reduceBEq, res_one, List.append_nil, Int.toNat_zero, Nat.sub_self, Int.reduceToNat, resRow, res_ro, epRow, ep_one]; refine hk _ ?_; clear hk k; try show Sat _ _ _ _ _)
    refine Sat.adopt 4 39 17 (resRd #[]) rfl ?_
    refine Sat.ret ?_
    simp only [Try.results19, evr, id, reduceCtorEq, reduceIte, Nat.reduceMul, Nat.reduceAdd, Nat.reduceLT, Nat.reduceLeDiff, Nat.reduceEqDiff, Int.reduceLT, Int.reduceBEq, Int.reduceBNe, Nat.reduceBEq, res_one, List.append_nil, Int.toNat_zero, Nat.sub_self, Int.reduceToNat, resRow, res_ro, epRow, ep_one, retN, retNK, newRow]
    have e0 : partL ys a b = [] := if_neg hno
    exact ⟨⟨rfl, rfl, rfl⟩, _, _, ys, ho, by rw [e0]; rfl⟩
  · have hyes : 0 ≤ a ∧ a ≤ b ∧ b ≤ ys.length := by
      apply Classical.byContradiction
      intro hh
      rw [decide_eq_false hh] at h
      cases h
    refine Sat.skip ?_
    simp only [thenK]
    (repeat refine Sat.seq ?_)
    (refine Sat.region_k fun k hk => ?_; simp -implicitDefEqProofs only [evr, id, reduceCtorEq, reduceIte, Nat.reduceMul, Nat.reduceAdd, Nat.reduceLT, Nat.reduceLeDiff, Nat.reduceEqDiff, Int.reduceLT, Int.reduceBEq, Int.reduceBNe, Nat.reduceBEq, res_one, List.append_nil, Int.toNat_zero, Nat.sub_self, Int.reduceToNat, resRow, res_ro, epRow, ep_one])
    refine ⟨by omega, ?_⟩
    have hlen : (partL ys a b).length = b.toNat - a.toNat := by
      unfold partL
      rw [if_pos hyes, List.length_drop, List.length_take]
      omega
    have hcl := cloneC F (if rc = a.toNat then ra else Option.map (fun x => x.add (a.toNat * 17)) ra) (rc - a.toNat) (partL ys a b) (by omega)
    rw [hlen] at hcl
    refine wcall_new (ContractN.of_sim (args := [SV.sl (if rc = a.toNat then ra else Option.map (fun x => x.add (a.toNat * 17)) ra) (b.toNat - a.toNat) (rc - a.toNat) 17 fun i j => resRd ys.toArray (a.toNat + i) j]) hcl ⟨sim_sl (part_rd hyes), trivial⟩) rfl (by simp -implicitDefEqProofs only [evr, id, reduceCtorEq, reduceIte, Nat.reduceMul, Nat.reduceAdd, Nat.reduceLT, Nat.reduceLeDiff, Nat.reduceEqDiff, Int.reduceLT, Int.reduceBEq, Int.reduceBNe, Nat.reduceBEq, res_one, List.append_nil, Int.toNat_zero, Nat.sub_self, Int.reduceToNat, resRow, res_ro, epRow, ep_one]) ?_
    rintro ra2 ty len rc2 sz rrd ⟨a2, c2, e⟩
    simp only [resRow, Own.row.injEq] at e
    obtain ⟨rfl, rfl, rfl, rfl, rfl, rfl⟩ := e
    simp -implicitDefEqProofs only [evr, id, reduceCtorEq, reduceIte, Nat.reduceMul, Nat.reduceAdd, Nat.reduceLT, Nat.reduceLeDiff, Nat.reduceEqDiff, Int.reduceLT, Int.reduceBEq, Int.reduceBNe, Nat.reduceBEq, res_one, List.append_nil, Int.toNat_zero, Nat.sub_self, Int.reduceToNat, resRow, res_ro, epRow, ep_one]
    (refine hk _ ?_; clear hk k; try show Sat _ _ _ _ _)
    refine Sat.ret ?_
    simp only [Try.results19, evr, id, reduceCtorEq, reduceIte, Nat.reduceMul, Nat.reduceAdd, Nat.reduceLT, Nat.reduceLeDiff, Nat.reduceEqDiff, Int.reduceLT, Int.reduceBEq, Int.reduceBNe, Nat.reduceBEq, res_one, List.append_nil, Int.toNat_zero, Nat.sub_self, Int.reduceToNat, resRow, res_ro, epRow, ep_one, retN, retNK, newRow]
    exact ⟨⟨rfl, rfl, rfl⟩, _, _, ys, ho, by rw [hlen]⟩
end Go.Proofs.Ytkpmihaaijiihaa
