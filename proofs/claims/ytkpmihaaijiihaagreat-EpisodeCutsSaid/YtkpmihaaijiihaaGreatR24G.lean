/- The reference's traces and results of a trace, by the evaluator: CompareTrace, Traces (any traces), Of. -/
import Derived.Test.YtkpmihaaijiihaaGreatR24F
import Derived.Test.YtkpmihaaijiihaaGreatTrsE
set_option linter.unusedSimpArgs false
set_option linter.unusedVariables false
namespace Go.Proofs.YtkpmihaaijiihaaGreat
open Go.Sort Eng
def pairC3 (x y : Tre) : List SV := [.i .i64 x.van, .i .i64 y.van, .i .i64 (w64i x.dst), .i .i64 (w64i y.dst), .i .i64 x.pro, .i .i64 y.pro]
def pairR3 (x y : Tre) : Nat → SV := fun j => (pairC3 x y).getD j default
def Tre.wk (t : Tre) : List Int := [t.van, w64i t.dst, t.pro]
def ctI (x y : Tre) : Int := cmpL x.wk y.wk
theorem pair_get3 (x y : Tre) (i : Nat) (h : i < 3) : pairR3 x y (i * 2) = .i .i64 (x.wk.getD i 0) ∧ pairR3 x y (i * 2 + 1) = .i .i64 (y.wk.getD i 0) := by
  rcases (show i = 0 ∨ i = 1 ∨ i = 2 by omega) with rfl | rfl | rfl <;> exact ⟨rfl, rfl⟩
set_option maxRecDepth 100000 in
theorem ctraceG (F : Frm) (x y : Tre) : Contract F Tryz.prog 50 [treAg x, treAg y] (fun r => r = .i .i64 (ctI x y)) := by
  refine contract_of Tryz.func50 rfl (by kernel_rfl) ?_
  simp only [Tryz.ntmps50, argEnv, treAg, Tre.cs]
  (repeat refine Sat.seq ?_)
  (refine Sat.region_k fun k hk => ?_; simp -implicitDefEqProofs only [evr, id, reduceCtorEq, reduceIte, Nat.reduceMul, Nat.reduceAdd, Nat.reduceLT, Nat.reduceLeDiff, Nat.reduceEqDiff, Int.reduceLT, Int.reduceBEq, Int.reduceBNe, Nat.reduceBEq, res_one, Int.reduceToNat, resRow, res_ro, treRow, tre_one, tre_ro, tre_eqr, evn])
  intro blk1 blk2
  (refine hk _ ?_; clear hk k; try show Sat _ _ _ _ _)
  (repeat refine Sat.seq ?_)
  (refine Sat.region_k fun k hk => ?_; simp -implicitDefEqProofs only [evr, id, reduceCtorEq, reduceIte, Nat.reduceMul, Nat.reduceAdd, Nat.reduceLT, Nat.reduceLeDiff, Nat.reduceEqDiff, Int.reduceLT, Int.reduceBEq, Int.reduceBNe, Nat.reduceBEq, res_one, Int.reduceToNat, resRow, res_ro, treRow, tre_one, tre_ro, tre_eqr, evn]; refine hk _ ?_; clear hk k; try show Sat _ _ _ _ _)
  (repeat refine Sat.seq ?_)
  refine Sat.block ?_
  refine Sat.loop (ι := Nat) (fun i => ⟨39, [(25, .i .i64 i), (24, .agg 6 (pairR3 x y)), (4, .i .i64 0)], []⟩)
    (fun i => i ≤ 3 ∧ cmpL (x.wk.drop i) (y.wk.drop i) = ctI x y) (fun i => 3 - i) 0 ⟨Nat.zero_le _, rfl⟩ (by simp -implicitDefEqProofs only [evr, id, reduceCtorEq, reduceIte, Nat.reduceMul, Nat.reduceAdd, Nat.reduceLT, Nat.reduceLeDiff, Nat.reduceEqDiff, Int.reduceLT, Int.reduceBEq, Int.reduceBNe, Nat.reduceBEq, res_one, Int.reduceToNat, resRow, res_ro, treRow, tre_one, tre_ro, tre_eqr, evl, evn]; exact ⟨rfl, rfl⟩) ?_
  rintro i ⟨hi, ho⟩
  (repeat refine Sat.seq ?_)
  (refine Sat.region_k fun k hk => ?_; simp -implicitDefEqProofs only [evr, id, reduceCtorEq, reduceIte, Nat.reduceMul, Nat.reduceAdd, Nat.reduceLT, Nat.reduceLeDiff, Nat.reduceEqDiff, Int.reduceLT, Int.reduceBEq, Int.reduceBNe, Nat.reduceBEq, res_one, Int.reduceToNat, resRow, res_ro, treRow, tre_one, tre_ro, tre_eqr, evn]; refine hk _ ?_; clear hk k; try show Sat _ _ _ _ _)
  (repeat refine Sat.seq ?_)
  refine Sat.cond_b rfl (fun h => ?_) (fun h => ?_)
  · have h1 : i < 3 := by simp only [decide_eq_true_eq] at h; omega
    obtain ⟨e0, e1⟩ := pair_get3 x y i h1
    have e2 : IntKind.i64.wrap ((i : Int) + 1) = ((i + 1 : Nat) : Int) := by rw [w64 (by omega)]; omega
    refine Sat.skip ?_
    simp only [thenK]
    (repeat refine Sat.seq ?_)
    refine Sat.block ?_
    (repeat refine Sat.seq ?_)
    refine Sat.region_k fun k hk => ?_
    simp -implicitDefEqProofs only [evr, id, reduceCtorEq, reduceIte, Nat.reduceMul, Nat.reduceAdd, Nat.reduceLT, Nat.reduceLeDiff, Nat.reduceEqDiff, Int.reduceLT, Int.reduceBEq, Int.reduceBNe, Nat.reduceBEq, res_one, Int.reduceToNat, resRow, res_ro, treRow, tre_one, tre_ro, tre_eqr, e0, e1, evn]
    refine ⟨by omega, by omega, fun b4 => ?_⟩
    (refine hk _ ?_; clear hk k; try show Sat _ _ _ _ _)
    (repeat refine Sat.seq ?_)
    (refine Sat.region_k fun k hk => ?_; simp -implicitDefEqProofs only [evr, id, reduceCtorEq, reduceIte, Nat.reduceMul, Nat.reduceAdd, Nat.reduceLT, Nat.reduceLeDiff, Nat.reduceEqDiff, Int.reduceLT, Int.reduceBEq, Int.reduceBNe, Nat.reduceBEq, res_one, Int.reduceToNat, resRow, res_ro, treRow, tre_one, tre_ro, tre_eqr, evn])
    refine ⟨by omega, by omega, ?_⟩
    (refine hk _ ?_; clear hk k; try show Sat _ _ _ _ _)
    (repeat refine Sat.seq ?_)
    refine Sat.cond_b rfl (fun h2 => ?_) (fun h2 => ?_)
    · have h3 : ordI (x.wk.getD i 0) (y.wk.getD i 0) ≠ 0 := fun h => by
        rw [ordI_zero] at h
        simp only [bne_iff_ne, ne_eq] at h2
        exact h2 h
      (repeat refine Sat.seq ?_)
      (refine Sat.region_k fun k hk => ?_; simp -implicitDefEqProofs only [evr, id, reduceCtorEq, reduceIte, Nat.reduceMul, Nat.reduceAdd, Nat.reduceLT, Nat.reduceLeDiff, Nat.reduceEqDiff, Int.reduceLT, Int.reduceBEq, Int.reduceBNe, Nat.reduceBEq, res_one, Int.reduceToNat, resRow, res_ro, treRow, tre_one, tre_ro, tre_eqr, evn])
      refine ⟨by omega, by omega, ?_⟩
      refine wcall_plain (lessG F (x.wk.getD i 0) (y.wk.getD i 0)) rfl (by rintro _ rfl; exact ok_plain rfl) ?_
      rintro r rfl
      simp -implicitDefEqProofs only [evr, id, reduceCtorEq, reduceIte, Nat.reduceMul, Nat.reduceAdd, Nat.reduceLT, Nat.reduceLeDiff, Nat.reduceEqDiff, Int.reduceLT, Int.reduceBEq, Int.reduceBNe, Nat.reduceBEq, res_one, Int.reduceToNat, resRow, res_ro, treRow, tre_one, tre_ro, tre_eqr, evn]
      (refine hk _ ?_; clear hk k; try show Sat _ _ _ _ _)
      refine Sat.ret ?_
      simp only [Tryz.results50, evr, id, reduceCtorEq, reduceIte, Nat.reduceMul, Nat.reduceAdd, Nat.reduceLT, Nat.reduceLeDiff, Nat.reduceEqDiff, Int.reduceLT, Int.reduceBEq, Int.reduceBNe, Nat.reduceBEq, res_one, List.append_nil, Int.toNat_zero, Nat.sub_self, Int.reduceToNat, resRow, res_ro, treRow, tre_one, tre_ro, tre_eqr]
      rw [← ho, cmpL_drop _ _ i (by exact h1) (by exact h1), if_pos h3]
    · have h3 : ordI (x.wk.getD i 0) (y.wk.getD i 0) = 0 := by
        rw [ordI_zero]
        simpa using h2
      refine Sat.skip ?_
      simp only [thenK, blockK]
      refine Sat.region_k fun k hk => ?_
      simp -implicitDefEqProofs only [evr, id, reduceCtorEq, reduceIte, Nat.reduceMul, Nat.reduceAdd, Nat.reduceLT, Nat.reduceLeDiff, Nat.reduceEqDiff, Int.reduceLT, Int.reduceBEq, Int.reduceBNe, Nat.reduceBEq, res_one, Int.reduceToNat, resRow, res_ro, treRow, tre_one, tre_ro, tre_eqr, e2, evn]
      refine hk _ ?_
      simp only [thenK, blockK]
      refine ⟨i + 1, ⟨by omega, ?_⟩, by omega, ?_⟩
      · rw [← ho, cmpL_drop _ _ i (by exact h1) (by exact h1), if_neg (by rw [h3]; decide)]
      · simp -implicitDefEqProofs only [evr, id, reduceCtorEq, reduceIte, Nat.reduceMul, Nat.reduceAdd, Nat.reduceLT, Nat.reduceLeDiff, Nat.reduceEqDiff, Int.reduceLT, Int.reduceBEq, Int.reduceBNe, Nat.reduceBEq, res_one, Int.reduceToNat, resRow, res_ro, treRow, tre_one, tre_ro, tre_eqr, evl, evn]
  · have h1 : i = 3 := by simp only [decide_eq_false_iff_not] at h; omega
    subst h1
    refine Sat.exit ?_
    simp only [thenK, blockK, reduceIte]
    (repeat refine Sat.seq ?_)
    (refine Sat.region_k fun k hk => ?_; simp -implicitDefEqProofs only [evr, id, reduceCtorEq, reduceIte, Nat.reduceMul, Nat.reduceAdd, Nat.reduceLT, Nat.reduceLeDiff, Nat.reduceEqDiff, Int.reduceLT, Int.reduceBEq, Int.reduceBNe, Nat.reduceBEq, res_one, Int.reduceToNat, resRow, res_ro, treRow, tre_one, tre_ro, tre_eqr, evn]; refine hk _ ?_; clear hk k; try show Sat _ _ _ _ _)
    refine Sat.ret ?_
    simp only [Tryz.results50, evr, id, reduceCtorEq, reduceIte, Nat.reduceMul, Nat.reduceAdd, Nat.reduceLT, Nat.reduceLeDiff, Nat.reduceEqDiff, Int.reduceLT, Int.reduceBEq, Int.reduceBNe, Nat.reduceBEq, res_one, List.append_nil, Int.toNat_zero, Nat.sub_self, Int.reduceToNat, resRow, res_ro, treRow, tre_one, tre_ro, tre_eqr]
    rw [← ho]; rfl
theorem tre_eqb (d : Array Tre) (i : Nat) (a b c : Int) : aggEq Tryz.prog 63 3 (fun q => treRd d i q) 3 (fun j => [SV.i .i64 a, SV.i .u32 b, SV.i .i64 c].getD j default) = some (decide (d[i]! = ⟨a, b, c⟩)) := tre_eq d[i]! ⟨a, b, c⟩
set_option maxRecDepth 100000 in
theorem tracesG (F : Frm) (ad : Option Addr) (cap : Nat) (xs : List Res) (hl : xs.length ≤ 1000000000) :
    ContractN F Tryz.prog 28 [.sl ad xs.length cap 17 (resRd xs.toArray)] (fun o => ∃ (a : Option Addr) (cap : Nat) (ts : List Tre), ts.length ≤ xs.length ∧ o = treRow a ts.length cap ts.toArray) := by
  refine contractN_of Tryz.func28 rfl (by kernel_rfl) ?_
  simp only [Tryz.ntmps28, argEnv]
  (repeat refine Sat.seq ?_)
  (refine Sat.region_k fun k hk => ?_; simp -implicitDefEqProofs only [evr, id, reduceCtorEq, reduceIte, Nat.reduceMul, Nat.reduceAdd, Nat.reduceLT, Nat.reduceLeDiff, Nat.reduceEqDiff, Int.reduceLT, Int.reduceBEq, Int.reduceBNe, Nat.reduceBEq, res_one, Int.reduceToNat, resRow, res_ro, treRow, tre_one, tre_ro, tre_eqr, evn]; refine hk _ ?_; clear hk k; try show Sat _ _ _ _ _)
  (repeat refine Sat.seq ?_)
  (refine Sat.region_k fun k hk => ?_; simp -implicitDefEqProofs only [evr, id, reduceCtorEq, reduceIte, Nat.reduceMul, Nat.reduceAdd, Nat.reduceLT, Nat.reduceLeDiff, Nat.reduceEqDiff, Int.reduceLT, Int.reduceBEq, Int.reduceBNe, Nat.reduceBEq, res_one, Int.reduceToNat, resRow, res_ro, treRow, tre_one, tre_ro, tre_eqr, evn]; refine hk _ ?_; clear hk k; try show Sat _ _ _ _ _)
  (repeat refine Sat.seq ?_)
  (refine Sat.region_k fun k hk => ?_; simp -implicitDefEqProofs only [evr, id, reduceCtorEq, reduceIte, Nat.reduceMul, Nat.reduceAdd, Nat.reduceLT, Nat.reduceLeDiff, Nat.reduceEqDiff, Int.reduceLT, Int.reduceBEq, Int.reduceBNe, Nat.reduceBEq, res_one, Int.reduceToNat, resRow, res_ro, treRow, tre_one, tre_ro, tre_eqr, evn]; refine hk _ ?_; clear hk k; try show Sat _ _ _ _ _)
  refine Sat.adopt 3 63 3 (treRd #[]) rfl ?_
  (repeat refine Sat.seq ?_)
  refine Sat.block ?_
  refine Sat.loop (ι := Nat × Option Addr × Nat × List Tre) (fun z => ⟨68, [(4, .i .i64 z.1), (0, .sl ad xs.length cap 17 (resRd xs.toArray)), (3, .os 0 z.2.1 z.2.2.2.length z.2.2.1)], [treRow z.2.1 z.2.2.2.length z.2.2.1 z.2.2.2.toArray]⟩)
    (fun z => z.1 ≤ xs.length ∧ z.2.2.2.length ≤ z.1) (fun z => xs.length - z.1) (0, none, 0, []) ⟨Nat.zero_le _, Nat.le_refl _⟩ (by simp -implicitDefEqProofs only [evr, id, reduceCtorEq, reduceIte, Nat.reduceMul, Nat.reduceAdd, Nat.reduceLT, Nat.reduceLeDiff, Nat.reduceEqDiff, Int.reduceLT, Int.reduceBEq, Int.reduceBNe, Nat.reduceBEq, res_one, Int.reduceToNat, resRow, res_ro, treRow, tre_one, tre_ro, tre_eqr, evl, evn]; first | rfl | trace_state) ?_
  rintro ⟨i, a, c, ts⟩ ⟨hi, hyl⟩
  simp only [treRow] at hi hyl ⊢
  (repeat refine Sat.seq ?_)
  (refine Sat.region_k fun k hk => ?_; simp -implicitDefEqProofs only [evr, id, reduceCtorEq, reduceIte, Nat.reduceMul, Nat.reduceAdd, Nat.reduceLT, Nat.reduceLeDiff, Nat.reduceEqDiff, Int.reduceLT, Int.reduceBEq, Int.reduceBNe, Nat.reduceBEq, res_one, Int.reduceToNat, resRow, res_ro, treRow, tre_one, tre_ro, tre_eqr, evn]; refine hk _ ?_; clear hk k; try show Sat _ _ _ _ _)
  (repeat refine Sat.seq ?_)
  refine Sat.cond_b rfl (fun h => ?_) (fun h => ?_)
  · have h1 : i < xs.length := by simp only [decide_eq_true_eq] at h; omega
    have e2 : IntKind.i64.wrap ((i : Int) + 1) = ((i + 1 : Nat) : Int) := by rw [w64 (by omega)]; omega
    obtain ⟨t, ht⟩ : ∃ t, t = (xs.toArray[i]!).tre := ⟨_, rfl⟩
    refine Sat.skip ?_
    simp only [thenK]
    (repeat refine Sat.seq ?_)
    refine Sat.block ?_
    (repeat refine Sat.seq ?_)
    (refine Sat.region_k fun k hk => ?_; simp -implicitDefEqProofs only [evr, id, reduceCtorEq, reduceIte, Nat.reduceMul, Nat.reduceAdd, Nat.reduceLT, Nat.reduceLeDiff, Nat.reduceEqDiff, Int.reduceLT, Int.reduceBEq, Int.reduceBNe, Nat.reduceBEq, res_one, Int.reduceToNat, resRow, res_ro, treRow, tre_one, tre_ro, tre_eqr, evn])
    refine ⟨by omega, ?_⟩
    refine wcall_plain (validG F xs.toArray[i]!) rfl (by rintro _ rfl; exact ok_plain rfl) ?_
    rintro r0 rfl
    simp -implicitDefEqProofs only [evr, id, reduceCtorEq, reduceIte, Nat.reduceMul, Nat.reduceAdd, Nat.reduceLT, Nat.reduceLeDiff, Nat.reduceEqDiff, Int.reduceLT, Int.reduceBEq, Int.reduceBNe, Nat.reduceBEq, res_one, Int.reduceToNat, resRow, res_ro, treRow, tre_one, tre_ro, tre_eqr, evn]
    (refine hk _ ?_; clear hk k; try show Sat _ _ _ _ _)
    (repeat refine Sat.seq ?_)
    refine Sat.cond_b rfl (fun h2 => ?_) (fun h2 => ?_)
    · refine Sat.exit ?_
      simp only [blockK, thenK, reduceIte]
      refine Sat.region_k fun k hk => ?_
      simp -implicitDefEqProofs only [evr, id, reduceCtorEq, reduceIte, Nat.reduceMul, Nat.reduceAdd, Nat.reduceLT, Nat.reduceLeDiff, Nat.reduceEqDiff, Int.reduceLT, Int.reduceBEq, Int.reduceBNe, Nat.reduceBEq, res_one, Int.reduceToNat, resRow, res_ro, treRow, tre_one, tre_ro, tre_eqr, e2, evn]
      refine hk _ ?_
      simp only [thenK, blockK]
      refine ⟨(i + 1, a, c, ts), ⟨by simp only; omega, by simp only; omega⟩, by simp only; omega, ?_⟩
      simp -implicitDefEqProofs only [evr, id, reduceCtorEq, reduceIte, Nat.reduceMul, Nat.reduceAdd, Nat.reduceLT, Nat.reduceLeDiff, Nat.reduceEqDiff, Int.reduceLT, Int.reduceBEq, Int.reduceBNe, Nat.reduceBEq, res_one, Int.reduceToNat, resRow, res_ro, treRow, tre_one, tre_ro, tre_eqr, evl, evn]
    refine Sat.skip ?_
    simp only [thenK]
    (repeat refine Sat.seq ?_)
    (refine Sat.region_k fun k hk => ?_; simp -implicitDefEqProofs only [evr, id, reduceCtorEq, reduceIte, Nat.reduceMul, Nat.reduceAdd, Nat.reduceLT, Nat.reduceLeDiff, Nat.reduceEqDiff, Int.reduceLT, Int.reduceBEq, Int.reduceBNe, Nat.reduceBEq, res_one, Int.reduceToNat, resRow, res_ro, treRow, tre_one, tre_ro, tre_eqr, evn])
    refine ⟨by omega, ?_⟩
    refine wcall_plain (traceOfG F xs.toArray[i]!) rfl (by rintro _ rfl; exact trcAg_ok _) ?_
    rintro r0 rfl
    simp only [trcAg, evr, id, reduceCtorEq, reduceIte, Nat.reduceMul, Nat.reduceAdd, Nat.reduceLT, Nat.reduceLeDiff, Nat.reduceEqDiff, Int.reduceLT, Int.reduceBEq, Int.reduceBNe, Nat.reduceBEq, res_one, List.append_nil, Int.toNat_zero, Nat.sub_self, Int.reduceToNat, resRow, res_ro, treRow, tre_one, tre_ro, tre_eqr]
    intro b5
    (refine hk _ ?_; clear hk k; try show Sat _ _ _ _ _)
    (repeat refine Sat.seq ?_)
    (refine Sat.region_k fun k hk => ?_; simp -implicitDefEqProofs only [evr, id, reduceCtorEq, reduceIte, Nat.reduceMul, Nat.reduceAdd, Nat.reduceLT, Nat.reduceLeDiff, Nat.reduceEqDiff, Int.reduceLT, Int.reduceBEq, Int.reduceBNe, Nat.reduceBEq, res_one, Int.reduceToNat, resRow, res_ro, treRow, tre_one, tre_ro, tre_eqr, evn]; refine hk _ ?_; clear hk k; try show Sat _ _ _ _ _)
    (repeat refine Sat.seq ?_)
    refine Sat.block ?_
    refine Sat.loop (ι := Nat) (fun k => ⟨68, [(6, .i .i64 k), (5, .op 1 b5 0), (4, .i .i64 i), (0, .sl ad xs.length cap 17 (resRd xs.toArray)), (3, .os 0 a ts.length c)], [treRow a ts.length c ts.toArray, .box b5 63 (Tre.cs t)]⟩)
      (fun k => k ≤ ts.length) (fun k => ts.length - k) 0 (Nat.zero_le _) (by subst ht; simp -implicitDefEqProofs only [evr, id, reduceCtorEq, reduceIte, Nat.reduceMul, Nat.reduceAdd, Nat.reduceLT, Nat.reduceLeDiff, Nat.reduceEqDiff, Int.reduceLT, Int.reduceBEq, Int.reduceBNe, Nat.reduceBEq, res_one, Int.reduceToNat, resRow, res_ro, treRow, tre_one, tre_ro, tre_eqr, evl, evn]; first | exact ⟨rfl, rfl⟩ | rfl | trace_state) ?_
    rintro k0 hk0
    simp only [treRow, Tre.cs]
    (repeat refine Sat.seq ?_)
    refine Sat.atF (ι := Bool) (fun b => ⟨68, [(36, .b b), (6, .i .i64 k0), (5, .op 1 b5 0), (4, .i .i64 i), (0, .sl ad xs.length cap 17 (resRd xs.toArray)), (3, .os 0 a ts.length c)], [treRow a ts.length c ts.toArray, .box b5 63 (Tre.cs t)]⟩) (fun b => b = true → k0 < ts.length) ?_ ?_
    · (refine Sat.region_qk (by kernel_rfl) (by kernel_rfl) fun k hk => ?_; simp -implicitDefEqProofs only [evr, id, reduceCtorEq, reduceIte, Nat.reduceMul, Nat.reduceAdd, Nat.reduceLT, Nat.reduceLeDiff, Nat.reduceEqDiff, Int.reduceLT, Int.reduceBEq, Int.reduceBNe, Nat.reduceBEq, res_one, Int.reduceToNat, resRow, res_ro, treRow, tre_one, tre_ro, tre_eqr, evn])
      refine ⟨fun h3 => ⟨by omega, by omega, ?_⟩, fun h3 => hk _ ?_⟩
      · refine qcall (ctraceG Frm.nil ts.toArray[k0]! t) rfl (ok_plain rfl) ?_
        simp -implicitDefEqProofs only [evr, id, reduceCtorEq, reduceIte, Nat.reduceMul, Nat.reduceAdd, Nat.reduceLT, Nat.reduceLeDiff, Nat.reduceEqDiff, Int.reduceLT, Int.reduceBEq, Int.reduceBNe, Nat.reduceBEq, res_one, Int.reduceToNat, resRow, res_ro, treRow, tre_one, tre_ro, tre_eqr, evn]
        refine hk _ ?_
        simp only [thenK, treRow, Tre.cs]
        refine ⟨decide (ctI ts.toArray[k0]! t < 0), fun _ => by omega, ?_⟩
        simp -implicitDefEqProofs only [evr, id, reduceCtorEq, reduceIte, Nat.reduceMul, Nat.reduceAdd, Nat.reduceLT, Nat.reduceLeDiff, Nat.reduceEqDiff, Int.reduceLT, Int.reduceBEq, Int.reduceBNe, Nat.reduceBEq, res_one, Int.reduceToNat, resRow, res_ro, treRow, tre_one, tre_ro, tre_eqr, evl, evn]
      · simp only [thenK, treRow, Tre.cs]
        refine ⟨false, fun h => (by cases h), ?_⟩
        simp -implicitDefEqProofs only [evr, id, reduceCtorEq, reduceIte, Nat.reduceMul, Nat.reduceAdd, Nat.reduceLT, Nat.reduceLeDiff, Nat.reduceEqDiff, Int.reduceLT, Int.reduceBEq, Int.reduceBNe, Nat.reduceBEq, res_one, Int.reduceToNat, resRow, res_ro, treRow, tre_one, tre_ro, tre_eqr, evl, evn]
    rintro b hb
    simp only [thenK, treRow, Tre.cs]
    refine Sat.cond_b rfl (fun h3 => ?_) (fun h3 => ?_)
    · have hk1 := hb h3
      have e3 : IntKind.i64.wrap ((k0 : Int) + 1) = ((k0 + 1 : Nat) : Int) := by rw [w64 (by omega)]; omega
      refine Sat.skip ?_
      simp only [thenK]
      (repeat refine Sat.seq ?_)
      refine Sat.block ?_
      refine Sat.region_k fun k hk => ?_
      simp -implicitDefEqProofs only [evr, id, reduceCtorEq, reduceIte, Nat.reduceMul, Nat.reduceAdd, Nat.reduceLT, Nat.reduceLeDiff, Nat.reduceEqDiff, Int.reduceLT, Int.reduceBEq, Int.reduceBNe, Nat.reduceBEq, res_one, Int.reduceToNat, resRow, res_ro, treRow, tre_one, tre_ro, tre_eqr, e3, evn]
      refine hk _ ?_
      simp only [thenK, blockK]
      refine ⟨k0 + 1, by omega, by omega, ?_⟩
      simp -implicitDefEqProofs only [evr, id, reduceCtorEq, reduceIte, Nat.reduceMul, Nat.reduceAdd, Nat.reduceLT, Nat.reduceLeDiff, Nat.reduceEqDiff, Int.reduceLT, Int.reduceBEq, Int.reduceBNe, Nat.reduceBEq, res_one, Int.reduceToNat, resRow, res_ro, treRow, tre_one, tre_ro, tre_eqr, evl, evn]
    refine Sat.exit ?_
    simp only [thenK, blockK, reduceIte]
    (repeat refine Sat.seq ?_)
    refine Sat.atF (ι := Bool) (fun b => ⟨68, [(50, .b b), (6, .i .i64 k0), (5, .op 1 b5 0), (4, .i .i64 i), (0, .sl ad xs.length cap 17 (resRd xs.toArray)), (3, .os 0 a ts.length c)], [treRow a ts.length c ts.toArray, .box b5 63 (Tre.cs t)]⟩) (fun _ => True) ?_ ?_
    · (refine Sat.region_qk (by kernel_rfl) (by kernel_rfl) fun k hk => ?_; simp -implicitDefEqProofs only [evr, id, reduceCtorEq, reduceIte, Nat.reduceMul, Nat.reduceAdd, Nat.reduceLT, Nat.reduceLeDiff, Nat.reduceEqDiff, Int.reduceLT, Int.reduceBEq, Int.reduceBNe, Nat.reduceBEq, res_one, Int.reduceToNat, resRow, res_ro, treRow, tre_one, tre_ro, tre_eqr, evn])
      simp -implicitDefEqProofs only [evr, id, reduceCtorEq, reduceIte, Nat.reduceMul, Nat.reduceAdd, Nat.reduceLT, Nat.reduceLeDiff, Nat.reduceEqDiff, Int.reduceLT, Int.reduceBEq, Int.reduceBNe, Nat.reduceBEq, res_one, Int.reduceToNat, resRow, res_ro, treRow, tre_one, tre_ro, tre_eqr, tre_eqb, evn]
      refine ⟨fun h3 => ⟨by omega, by omega, hk _ ?_⟩, fun h3 => hk _ ?_⟩
      · simp only [thenK, treRow, Tre.cs]
        refine ⟨decide (ts.toArray[k0]! = (⟨t.van, t.dst, t.pro⟩ : Tre)), trivial, ?_⟩
        simp -implicitDefEqProofs only [evr, id, reduceCtorEq, reduceIte, Nat.reduceMul, Nat.reduceAdd, Nat.reduceLT, Nat.reduceLeDiff, Nat.reduceEqDiff, Int.reduceLT, Int.reduceBEq, Int.reduceBNe, Nat.reduceBEq, res_one, Int.reduceToNat, resRow, res_ro, treRow, tre_one, tre_ro, tre_eqr, evl, evn]
      · simp only [thenK, treRow, Tre.cs]
        refine ⟨false, trivial, ?_⟩
        simp -implicitDefEqProofs only [evr, id, reduceCtorEq, reduceIte, Nat.reduceMul, Nat.reduceAdd, Nat.reduceLT, Nat.reduceLeDiff, Nat.reduceEqDiff, Int.reduceLT, Int.reduceBEq, Int.reduceBNe, Nat.reduceBEq, res_one, Int.reduceToNat, resRow, res_ro, treRow, tre_one, tre_ro, tre_eqr, evl, evn]
    rintro b4 _
    simp only [thenK, treRow, Tre.cs]
    refine Sat.cond_b rfl (fun h3 => ?_) (fun h3 => ?_)
    · refine Sat.exit ?_
      simp only [blockK, thenK, reduceIte]
      refine Sat.region_k fun k hk => ?_
      simp -implicitDefEqProofs only [evr, id, reduceCtorEq, reduceIte, Nat.reduceMul, Nat.reduceAdd, Nat.reduceLT, Nat.reduceLeDiff, Nat.reduceEqDiff, Int.reduceLT, Int.reduceBEq, Int.reduceBNe, Nat.reduceBEq, res_one, Int.reduceToNat, resRow, res_ro, treRow, tre_one, tre_ro, tre_eqr, e2, evn]
      refine hk _ ?_
      simp only [thenK, blockK]
      refine ⟨(i + 1, a, c, ts), ⟨by simp only; omega, by simp only; omega⟩, by simp only; omega, ?_⟩
      simp -implicitDefEqProofs only [evr, id, reduceCtorEq, reduceIte, Nat.reduceMul, Nat.reduceAdd, Nat.reduceLT, Nat.reduceLeDiff, Nat.reduceEqDiff, Int.reduceLT, Int.reduceBEq, Int.reduceBNe, Nat.reduceBEq, res_one, Int.reduceToNat, resRow, res_ro, treRow, tre_one, tre_ro, tre_eqr, evl, evn]
    refine Sat.skip ?_
    simp only [thenK]
    (repeat refine Sat.seq ?_)
    (refine Sat.region_k fun k hk => ?_; simp -implicitDefEqProofs only [evr, id, reduceCtorEq, reduceIte, Nat.reduceMul, Nat.reduceAdd, Nat.reduceLT, Nat.reduceLeDiff, Nat.reduceEqDiff, Int.reduceLT, Int.reduceBEq, Int.reduceBNe, Nat.reduceBEq, res_one, Int.reduceToNat, resRow, res_ro, treRow, tre_one, tre_ro, tre_eqr, evn])
    intro b6
    refine ⟨⟨by unfold maxLen; omega, by omega⟩, fun a2 cap2 => ?_⟩
    (refine hk _ ?_; clear hk k; try show Sat _ _ _ _ _)
    refine Sat.know_row 0 rfl fun hcap => ?_
    have e6 : IntKind.i64.wrap ((k0 : Int) + 1) = ((k0 + 1 : Nat) : Int) := by rw [w64 (by omega)]; omega
    (repeat refine Sat.seq ?_)
    refine Sat.at ⟨68, [(6, .i .i64 k0), (5, .op 1 b5 0), (4, .i .i64 i), (0, .sl ad xs.length cap 17 (resRd xs.toArray)), (3, .os 0 a2 (ts.length + 1) cap2)],
      [.row a2 63 (ts.length + 1) cap2 3 (rdMove (k0 + 1) k0 (ts.length - k0) (rdCat ts.length (treRd ts.toArray) (rdL (Tre.cs t) 3))), .box b5 63 (Tre.cs t)]⟩ ?_ ?_
    · (refine Sat.region_tree (.keep [0, 1, 2, 4, 5] [] (.alt 3 (.one 6 (.one 7 .done)) (.alt 6 (.one 3 (.one 7 .done)) .none))) (by kernel_rfl) (by kernel_rfl) (fun _ _ h => h) fun k hk => ?_; simp only [WOT, List.map_cons, List.map_nil, List.getD_cons_zero, List.getD_cons_succ]; simp -implicitDefEqProofs only [evr, id, reduceCtorEq, reduceIte, Nat.reduceMul, Nat.reduceAdd, Nat.reduceLT, Nat.reduceLeDiff, Nat.reduceEqDiff, Int.reduceLT, Int.reduceBEq, Int.reduceBNe, Nat.reduceBEq, res_one, Int.reduceToNat, resRow, res_ro, treRow, tre_one, tre_ro, tre_eqr, WOT, evn])
      simp -implicitDefEqProofs only [evr, id, reduceCtorEq, reduceIte, Nat.reduceMul, Nat.reduceAdd, Nat.reduceLT, Nat.reduceLeDiff, Nat.reduceEqDiff, Int.reduceLT, Int.reduceBEq, Int.reduceBNe, Nat.reduceBEq, res_one, Int.reduceToNat, resRow, res_ro, treRow, tre_one, tre_ro, tre_eqr, e6, evn]
      repeat' (with_reducible refine And.intro ?_ ?_)
      all_goals first | omega | skip
      all_goals
        refine hk _ ?_
        simp only [thenK, show min (ts.length + 1 - k0) (ts.length + 1 - (k0 + 1)) = ts.length - k0 by omega, show min (ts.length + 1 - k0) (ts.length - k0) = ts.length - k0 by omega, Tre.cs]
        simp -implicitDefEqProofs only [evr, id, reduceCtorEq, reduceIte, Nat.reduceMul, Nat.reduceAdd, Nat.reduceLT, Nat.reduceLeDiff, Nat.reduceEqDiff, Int.reduceLT, Int.reduceBEq, Int.reduceBNe, Nat.reduceBEq, res_one, Int.reduceToNat, resRow, res_ro, treRow, tre_one, tre_ro, tre_eqr, evl, evn]
    simp only [thenK, Tre.cs]
    (refine Sat.region_k fun k hk => ?_; simp -implicitDefEqProofs only [evr, id, reduceCtorEq, reduceIte, Nat.reduceMul, Nat.reduceAdd, Nat.reduceLT, Nat.reduceLeDiff, Nat.reduceEqDiff, Int.reduceLT, Int.reduceBEq, Int.reduceBNe, Nat.reduceBEq, res_one, Int.reduceToNat, resRow, res_ro, treRow, tre_one, tre_ro, tre_eqr, evn])
    refine ⟨by omega, by omega, ?_⟩
    (refine hk _ ?_; clear hk k; try show Sat _ _ _ _ _)
    refine Sat.region_k fun k hk => ?_
    simp -implicitDefEqProofs only [evr, id, reduceCtorEq, reduceIte, Nat.reduceMul, Nat.reduceAdd, Nat.reduceLT, Nat.reduceLeDiff, Nat.reduceEqDiff, Int.reduceLT, Int.reduceBEq, Int.reduceBNe, Nat.reduceBEq, res_one, Int.reduceToNat, resRow, res_ro, treRow, tre_one, tre_ro, tre_eqr, e2, evn]
    refine hk _ ?_
    simp only [thenK, blockK]
    have hil := insL_len (ys := ts) (r := t) hk0
    refine ⟨(i + 1, a2, cap2, insL ts k0 t), ⟨by simp only; omega, by simp only; omega⟩, by simp only; omega, ?_⟩
    simp only [hil]
    simp -implicitDefEqProofs only [evr, id, reduceCtorEq, reduceIte, Nat.reduceMul, Nat.reduceAdd, Nat.reduceLT, Nat.reduceLeDiff, Nat.reduceEqDiff, Int.reduceLT, Int.reduceBEq, Int.reduceBNe, Nat.reduceBEq, res_one, Int.reduceToNat, resRow, res_ro, treRow, tre_one, tre_ro, tre_eqr, evl, evn]
    exact ins_rd Tre.cs 3 (fun _ => rfl) hk0 rfl
  · have h1 : i = xs.length := by simp only [decide_eq_false_iff_not] at h; omega
    subst h1
    refine Sat.exit ?_
    simp only [thenK, blockK, reduceIte]
    (repeat refine Sat.seq ?_)
    (refine Sat.region_k fun k hk => ?_; simp -implicitDefEqProofs only [evr, id, reduceCtorEq, reduceIte, Nat.reduceMul, Nat.reduceAdd, Nat.reduceLT, Nat.reduceLeDiff, Nat.reduceEqDiff, Int.reduceLT, Int.reduceBEq, Int.reduceBNe, Nat.reduceBEq, res_one, Int.reduceToNat, resRow, res_ro, treRow, tre_one, tre_ro, tre_eqr, evn]; refine hk _ ?_; clear hk k; try show Sat _ _ _ _ _)
    refine Sat.ret ?_
    simp only [Tryz.results28, evr, id, reduceCtorEq, reduceIte, Nat.reduceMul, Nat.reduceAdd, Nat.reduceLT, Nat.reduceLeDiff, Nat.reduceEqDiff, Int.reduceLT, Int.reduceBEq, Int.reduceBNe, Nat.reduceBEq, res_one, List.append_nil, Int.toNat_zero, Nat.sub_self, Int.reduceToNat, resRow, res_ro, treRow, tre_one, tre_ro, tre_eqr, retN, retNK, newRow]
    exact ⟨⟨rfl, rfl, rfl⟩, a, c, ts, hyl, rfl⟩
end Go.Proofs.YtkpmihaaijiihaaGreat
