/- Ledgers, by the evaluator: the reference's comparison of ledgers. -/
import Derived.Test.YthhofjkbmnklmaaLedF
import Derived.Test.YthhofjkbmnklmaaCmpE
set_option linter.unusedSimpArgs false
set_option linter.unusedVariables false
namespace Go.Proofs.Ythhofjkbmnklmaa
open Go.Sort Eng

set_option maxRecDepth 100000 in
theorem sameResC (F : Frm) (a : Option Addr) (cap : Nat) (xs : List Res) (hl : xs.length ≤ 1000000000) (a2 : Option Addr) (cap2 : Nat) (ys : List Res) (hl2 : ys.length ≤ 1000000000) :
    Contract F Try.prog 44 [.sl a xs.length cap 17 (resRd xs.toArray), .sl a2 ys.length cap2 17 (resRd ys.toArray)] (fun r => r = .b (decide (xs = ys))) := by
  refine contract_of Try.func44 rfl (by kernel_rfl) ?_
  simp only [Try.ntmps44, argEnv]
  (repeat refine Sat.seq ?_)
  (refine Sat.region_k fun k hk => ?_; simp -implicitDefEqProofs only [evr, id, reduceCtorEq, reduceIte, Nat.reduceMul, Nat.reduceAdd, Nat.reduceLT, Nat.reduceLeDiff, Nat.reduceEqDiff, Int.reduceLT, Int.reduceBEq, Int.reduceBNe, Nat.reduceBEq, res_one, List.append_nil, Int.toNat_zero, Nat.sub_self, resRow, res_eqr, cft_one, cft_0, cft_1, cft_2, cft_3]; refine hk _ ?_; clear hk k; try show Sat _ _ _ _ _)
  (repeat refine Sat.seq ?_)
  (refine Sat.region_k fun k hk => ?_; simp -implicitDefEqProofs only [evr, id, reduceCtorEq, reduceIte, Nat.reduceMul, Nat.reduceAdd, Nat.reduceLT, Nat.reduceLeDiff, Nat.reduceEqDiff, Int.reduceLT, Int.reduceBEq, Int.reduceBNe, Nat.reduceBEq, res_one, List.append_nil, Int.toNat_zero, Nat.sub_self, resRow, res_eqr, cft_one, cft_0, cft_1, cft_2, cft_3]; refine hk _ ?_; clear hk k; try show Sat _ _ _ _ _)
  (repeat refine Sat.seq ?_)
  refine Sat.cond_b rfl (fun h => ?_) (fun h => ?_)
  · have hne : xs.length ≠ ys.length := by simp only [bne_iff_ne, ne_eq] at h; omega
    (repeat refine Sat.seq ?_)
    (refine Sat.region_k fun k hk => ?_; simp -implicitDefEqProofs only [evr, id, reduceCtorEq, reduceIte, Nat.reduceMul, Nat.reduceAdd, Nat.reduceLT, Nat.reduceLeDiff, Nat.reduceEqDiff, Int.reduceLT, Int.reduceBEq, Int.reduceBNe, Nat.reduceBEq, res_one, List.append_nil, Int.toNat_zero, Nat.sub_self, resRow, res_eqr, cft_one, cft_0, cft_1, cft_2, cft_3]; refine hk _ ?_; clear hk k; try show Sat _ _ _ _ _)
    refine Sat.ret ?_
    simp only [Try.results44, evr, id, reduceCtorEq, reduceIte, Nat.reduceMul, Nat.reduceAdd, Nat.reduceLT, Nat.reduceLeDiff, Nat.reduceEqDiff, Int.reduceLT, Int.reduceBEq, Int.reduceBNe, Nat.reduceBEq, res_one, List.append_nil, Int.toNat_zero, Nat.sub_self, resRow, res_eqr, cft_one, cft_0, cft_1, cft_2, cft_3]
    rw [decide_eq_false (fun e => hne (by rw [e]))]
  · have heq : xs.length = ys.length := by simp only [bne_eq_false_iff_eq] at h; omega
    refine Sat.skip ?_
    simp only [thenK]
    (repeat refine Sat.seq ?_)
    (refine Sat.region_k fun k hk => ?_; simp -implicitDefEqProofs only [evr, id, reduceCtorEq, reduceIte, Nat.reduceMul, Nat.reduceAdd, Nat.reduceLT, Nat.reduceLeDiff, Nat.reduceEqDiff, Int.reduceLT, Int.reduceBEq, Int.reduceBNe, Nat.reduceBEq, res_one, List.append_nil, Int.toNat_zero, Nat.sub_self, resRow, res_eqr, cft_one, cft_0, cft_1, cft_2, cft_3]; refine hk _ ?_; clear hk k; try show Sat _ _ _ _ _)
    (repeat refine Sat.seq ?_)
    refine Sat.block ?_
    refine Sat.loop (ι := Nat) (fun i => ⟨26, [(5, .i .i64 i), (0, .sl a xs.length cap 17 (resRd xs.toArray)), (1, .sl a2 ys.length cap2 17 (resRd ys.toArray))], []⟩)
      (fun i => i ≤ xs.length ∧ ∀ q, q < i → xs[q]! = ys[q]!) (fun i => xs.length - i) 0 ⟨Nat.zero_le _, fun q hq => absurd hq (Nat.not_lt_zero _)⟩ (by simp -implicitDefEqProofs only [evr, id, reduceCtorEq, reduceIte, Nat.reduceMul, Nat.reduceAdd, Nat.reduceLT, Nat.reduceLeDiff, Nat.reduceEqDiff, Int.reduceLT, Int.reduceBEq, Int.reduceBNe, Nat.reduceBEq, res_one, List.append_nil, Int.toNat_zero, Nat.sub_self, resRow, res_eqr, cft_one, cft_0, cft_1, cft_2, cft_3, evl]; rfl) ?_
    rintro i ⟨hi, hq⟩
    (repeat refine Sat.seq ?_)
    (refine Sat.region_k fun k hk => ?_; simp -implicitDefEqProofs only [evr, id, reduceCtorEq, reduceIte, Nat.reduceMul, Nat.reduceAdd, Nat.reduceLT, Nat.reduceLeDiff, Nat.reduceEqDiff, Int.reduceLT, Int.reduceBEq, Int.reduceBNe, Nat.reduceBEq, res_one, List.append_nil, Int.toNat_zero, Nat.sub_self, resRow, res_eqr, cft_one, cft_0, cft_1, cft_2, cft_3]; refine hk _ ?_; clear hk k; try show Sat _ _ _ _ _)
    (repeat refine Sat.seq ?_)
    refine Sat.cond_b rfl (fun h => ?_) (fun h => ?_)
    · have h1 : i < xs.length := by simp only [decide_eq_true_eq] at h; omega
      have e3 : IntKind.i64.wrap ((i : Int) + 1) = ((i + 1 : Nat) : Int) := by rw [w64 (by omega)]; omega
      refine Sat.skip ?_
      simp only [thenK]
      (repeat refine Sat.seq ?_)
      refine Sat.block ?_
      (repeat refine Sat.seq ?_)
      refine Sat.region_qk (by kernel_rfl) (by kernel_rfl) fun k hk => ?_
      simp -implicitDefEqProofs only [evr, id, reduceCtorEq, reduceIte, Nat.reduceMul, Nat.reduceAdd, Nat.reduceLT, Nat.reduceLeDiff, Nat.reduceEqDiff, Int.reduceLT, Int.reduceBEq, Int.reduceBNe, Nat.reduceBEq, res_one, List.append_nil, Int.toNat_zero, Nat.sub_self, resRow, res_eqr, cft_one, cft_0, cft_1, cft_2, cft_3, List.getElem!_toArray]
      refine ⟨by omega, by omega, ?_⟩
      (refine hk _ ?_; clear hk k; try show Sat _ _ _ _ _)
      refine Sat.cond_b rfl (fun h3 => ?_) (fun h3 => ?_)
      · simp only [Bool.not_eq_true', decide_eq_false_iff_not] at h3
        (repeat refine Sat.seq ?_)
        (refine Sat.region_k fun k hk => ?_; simp -implicitDefEqProofs only [evr, id, reduceCtorEq, reduceIte, Nat.reduceMul, Nat.reduceAdd, Nat.reduceLT, Nat.reduceLeDiff, Nat.reduceEqDiff, Int.reduceLT, Int.reduceBEq, Int.reduceBNe, Nat.reduceBEq, res_one, List.append_nil, Int.toNat_zero, Nat.sub_self, resRow, res_eqr, cft_one, cft_0, cft_1, cft_2, cft_3]; refine hk _ ?_; clear hk k; try show Sat _ _ _ _ _)
        refine Sat.ret ?_
        simp only [Try.results44, evr, id, reduceCtorEq, reduceIte, Nat.reduceMul, Nat.reduceAdd, Nat.reduceLT, Nat.reduceLeDiff, Nat.reduceEqDiff, Int.reduceLT, Int.reduceBEq, Int.reduceBNe, Nat.reduceBEq, res_one, List.append_nil, Int.toNat_zero, Nat.sub_self, resRow, res_eqr, cft_one, cft_0, cft_1, cft_2, cft_3]
        rw [decide_eq_false (fun e => h3 (by rw [e]))]
      · simp only [Bool.not_eq_false', decide_eq_true_eq] at h3
        refine Sat.skip ?_
        simp only [thenK, blockK]
        refine Sat.region_k fun k hk => ?_
        simp -implicitDefEqProofs only [evr, id, reduceCtorEq, reduceIte, Nat.reduceMul, Nat.reduceAdd, Nat.reduceLT, Nat.reduceLeDiff, Nat.reduceEqDiff, Int.reduceLT, Int.reduceBEq, Int.reduceBNe, Nat.reduceBEq, res_one, List.append_nil, Int.toNat_zero, Nat.sub_self, resRow, res_eqr, cft_one, cft_0, cft_1, cft_2, cft_3, e3]
        refine hk _ ?_
        simp only [thenK, blockK]
        refine ⟨i + 1, ⟨by omega, fun q hq2 => ?_⟩, by omega, ?_⟩
        · by_cases e : q = i
          · subst e; exact h3
          · exact hq q (by omega)
        · simp -implicitDefEqProofs only [evr, id, reduceCtorEq, reduceIte, Nat.reduceMul, Nat.reduceAdd, Nat.reduceLT, Nat.reduceLeDiff, Nat.reduceEqDiff, Int.reduceLT, Int.reduceBEq, Int.reduceBNe, Nat.reduceBEq, res_one, List.append_nil, Int.toNat_zero, Nat.sub_self, resRow, res_eqr, cft_one, cft_0, cft_1, cft_2, cft_3, evl]
    · have h1 : i = xs.length := by simp only [decide_eq_false_iff_not] at h; omega
      subst h1
      refine Sat.exit ?_
      simp only [thenK, blockK, reduceIte]
      (repeat refine Sat.seq ?_)
      (refine Sat.region_k fun k hk => ?_; simp -implicitDefEqProofs only [evr, id, reduceCtorEq, reduceIte, Nat.reduceMul, Nat.reduceAdd, Nat.reduceLT, Nat.reduceLeDiff, Nat.reduceEqDiff, Int.reduceLT, Int.reduceBEq, Int.reduceBNe, Nat.reduceBEq, res_one, List.append_nil, Int.toNat_zero, Nat.sub_self, resRow, res_eqr, cft_one, cft_0, cft_1, cft_2, cft_3]; refine hk _ ?_; clear hk k; try show Sat _ _ _ _ _)
      refine Sat.ret ?_
      simp only [Try.results44, evr, id, reduceCtorEq, reduceIte, Nat.reduceMul, Nat.reduceAdd, Nat.reduceLT, Nat.reduceLeDiff, Nat.reduceEqDiff, Int.reduceLT, Int.reduceBEq, Int.reduceBNe, Nat.reduceBEq, res_one, List.append_nil, Int.toNat_zero, Nat.sub_self, resRow, res_eqr, cft_one, cft_0, cft_1, cft_2, cft_3]
      rw [decide_eq_true]
      refine List.ext_getElem heq fun q h1 h2 => ?_
      have := hq q h1
      simpa [getElem!_def, h1, h2] using this

/-- two conflicts that are equal -/
theorem cft_ext {x y : Cft} : x = y ↔ x.vantage = y.vantage ∧ x.run = y.run ∧ x.number = y.number ∧ x.l = y.l := by
  cases x; cases y; simp

set_option maxRecDepth 100000 in
theorem sameC (F : Frm) (p q : LedP) (hp : p.led.size ≤ 1000000000) (hq : q.led.size ≤ 1000000000) (hcp : p.cs.length ≤ 1000000000) (hcq : q.cs.length ≤ 1000000000) :
    Contract F Try.prog 16 [ledS p, ledS q] (fun r => r = .b (decide (p.led = q.led))) := by
  rw [size_eq] at hp hq
  have hled : (p.led = q.led) ↔ p.rs = q.rs ∧ p.cs.map (·.c) = q.cs.map (·.c) := by unfold LedP.led; simp
  refine contract_of Try.func16 rfl (by kernel_rfl) ?_
  simp only [Try.ntmps16, argEnv, ledS]
  (repeat refine Sat.seq ?_)
  (refine Sat.region_k fun k hk => ?_; simp -implicitDefEqProofs only [evr, id, reduceCtorEq, reduceIte, Nat.reduceMul, Nat.reduceAdd, Nat.reduceLT, Nat.reduceLeDiff, Nat.reduceEqDiff, Int.reduceLT, Int.reduceBEq, Int.reduceBNe, Nat.reduceBEq, res_one, List.append_nil, Int.toNat_zero, Nat.sub_self, resRow, res_eqr, cft_one, cft_0, cft_1, cft_2, cft_3])
  intro blk2 blk3
  (refine hk _ ?_; clear hk k; try show Sat _ _ _ _ _)
  (repeat refine Sat.seq ?_)
  refine Sat.region_at ⟨67, [(22, .b (!(decide (p.rs = q.rs) && decide (p.cs.length = q.cs.length)))), (2, .op 0 blk2 0), (3, .op 1 blk3 0)],
    [.box blk2 30 [.sl p.a0 p.rs.length p.c0 17 (resRd p.rs.toArray), .sl p.a1 p.cs.length p.c1 4 (cftRd p.cs)], .box blk3 30 [.sl q.a0 q.rs.length q.c0 17 (resRd q.rs.toArray), .sl q.a1 q.cs.length q.c1 4 (cftRd q.cs)]]⟩ (fun k hk => ?_) ?_
  · simp -implicitDefEqProofs only [evr, id, reduceCtorEq, reduceIte, Nat.reduceMul, Nat.reduceAdd, Nat.reduceLT, Nat.reduceLeDiff, Nat.reduceEqDiff, Int.reduceLT, Int.reduceBEq, Int.reduceBNe, Nat.reduceBEq, res_one, List.append_nil, Int.toNat_zero, Nat.sub_self, resRow, res_eqr, cft_one, cft_0, cft_1, cft_2, cft_3]
    refine wcall_plain (sameResC F p.a0 p.c0 p.rs (by omega) q.a0 q.c0 q.rs (by omega)) rfl (by rintro _ rfl; exact ok_plain rfl) ?_
    rintro r rfl
    simp -implicitDefEqProofs only [evr, id, reduceCtorEq, reduceIte, Nat.reduceMul, Nat.reduceAdd, Nat.reduceLT, Nat.reduceLeDiff, Nat.reduceEqDiff, Int.reduceLT, Int.reduceBEq, Int.reduceBNe, Nat.reduceBEq, res_one, List.append_nil, Int.toNat_zero, Nat.sub_self, resRow, res_eqr, cft_one, cft_0, cft_1, cft_2, cft_3]
    refine ⟨fun h => ?_, fun h => ?_⟩
    · refine hk _ ?_
      have e : (!(decide (p.rs = q.rs) && decide (p.cs.length = q.cs.length))) = true := by
        have : ¬ p.rs = q.rs := by simpa using h
        simp [this]
      simp only [e]
      simp -implicitDefEqProofs only [evr, id, reduceCtorEq, reduceIte, Nat.reduceMul, Nat.reduceAdd, Nat.reduceLT, Nat.reduceLeDiff, Nat.reduceEqDiff, Int.reduceLT, Int.reduceBEq, Int.reduceBNe, Nat.reduceBEq, res_one, List.append_nil, Int.toNat_zero, Nat.sub_self, resRow, res_eqr, cft_one, cft_0, cft_1, cft_2, cft_3, evl]
    · refine hk _ ?_
      have e : (!(decide (p.rs = q.rs) && decide (p.cs.length = q.cs.length))) = ((p.cs.length : Int) != (q.cs.length : Int)) := by
        have : p.rs = q.rs := by simpa using h
        simp only [this, decide_true, Bool.true_and]
        apply Bool.eq_iff_iff.2
        simp only [Bool.not_eq_true', decide_eq_false_iff_not, bne_iff_ne, ne_eq]
        omega
      simp only [e]
      simp -implicitDefEqProofs only [evr, id, reduceCtorEq, reduceIte, Nat.reduceMul, Nat.reduceAdd, Nat.reduceLT, Nat.reduceLeDiff, Nat.reduceEqDiff, Int.reduceLT, Int.reduceBEq, Int.reduceBNe, Nat.reduceBEq, res_one, List.append_nil, Int.toNat_zero, Nat.sub_self, resRow, res_eqr, cft_one, cft_0, cft_1, cft_2, cft_3, evl]
  simp only [thenK]
  refine Sat.cond_b rfl (fun h => ?_) (fun h => ?_)
  · have hne : ¬ (p.led = q.led) := by
      rw [hled]
      rintro ⟨h1, h2⟩
      have h3 := congrArg List.length h2
      simp only [List.length_map] at h3
      simp [h1, h3] at h
    (repeat refine Sat.seq ?_)
    (refine Sat.region_k fun k hk => ?_; simp -implicitDefEqProofs only [evr, id, reduceCtorEq, reduceIte, Nat.reduceMul, Nat.reduceAdd, Nat.reduceLT, Nat.reduceLeDiff, Nat.reduceEqDiff, Int.reduceLT, Int.reduceBEq, Int.reduceBNe, Nat.reduceBEq, res_one, List.append_nil, Int.toNat_zero, Nat.sub_self, resRow, res_eqr, cft_one, cft_0, cft_1, cft_2, cft_3]; refine hk _ ?_; clear hk k; try show Sat _ _ _ _ _)
    refine Sat.ret ?_
    simp only [Try.results16, evr, id, reduceCtorEq, reduceIte, Nat.reduceMul, Nat.reduceAdd, Nat.reduceLT, Nat.reduceLeDiff, Nat.reduceEqDiff, Int.reduceLT, Int.reduceBEq, Int.reduceBNe, Nat.reduceBEq, res_one, List.append_nil, Int.toNat_zero, Nat.sub_self, resRow, res_eqr, cft_one, cft_0, cft_1, cft_2, cft_3]
    rw [decide_eq_false hne]
  · have h1 : p.rs = q.rs ∧ p.cs.length = q.cs.length := by simpa using h
    refine Sat.skip ?_
    simp only [thenK]
    (repeat refine Sat.seq ?_)
    (refine Sat.region_k fun k hk => ?_; simp -implicitDefEqProofs only [evr, id, reduceCtorEq, reduceIte, Nat.reduceMul, Nat.reduceAdd, Nat.reduceLT, Nat.reduceLeDiff, Nat.reduceEqDiff, Int.reduceLT, Int.reduceBEq, Int.reduceBNe, Nat.reduceBEq, res_one, List.append_nil, Int.toNat_zero, Nat.sub_self, resRow, res_eqr, cft_one, cft_0, cft_1, cft_2, cft_3]; refine hk _ ?_; clear hk k; try show Sat _ _ _ _ _)
    (repeat refine Sat.seq ?_)
    refine Sat.block ?_
    refine Sat.loop (ι := Nat) (fun i => ⟨67, [(5, .i .i64 i), (2, .op 0 blk2 0), (3, .op 1 blk3 0)],
      [.box blk2 30 [.sl p.a0 p.rs.length p.c0 17 (resRd p.rs.toArray), .sl p.a1 p.cs.length p.c1 4 (cftRd p.cs)], .box blk3 30 [.sl q.a0 q.rs.length q.c0 17 (resRd q.rs.toArray), .sl q.a1 q.cs.length q.c1 4 (cftRd q.cs)]]⟩)
      (fun i => i ≤ p.cs.length ∧ ∀ j, j < i → (p.cs.getD j default).c = (q.cs.getD j default).c) (fun i => p.cs.length - i) 0 ⟨Nat.zero_le _, fun j hj => absurd hj (Nat.not_lt_zero _)⟩ (by simp -implicitDefEqProofs only [evr, id, reduceCtorEq, reduceIte, Nat.reduceMul, Nat.reduceAdd, Nat.reduceLT, Nat.reduceLeDiff, Nat.reduceEqDiff, Int.reduceLT, Int.reduceBEq, Int.reduceBNe, Nat.reduceBEq, res_one, List.append_nil, Int.toNat_zero, Nat.sub_self, resRow, res_eqr, cft_one, cft_0, cft_1, cft_2, cft_3, evl]; rfl) ?_
    rintro i ⟨hi, hj⟩
    (repeat refine Sat.seq ?_)
    (refine Sat.region_k fun k hk => ?_; simp -implicitDefEqProofs only [evr, id, reduceCtorEq, reduceIte, Nat.reduceMul, Nat.reduceAdd, Nat.reduceLT, Nat.reduceLeDiff, Nat.reduceEqDiff, Int.reduceLT, Int.reduceBEq, Int.reduceBNe, Nat.reduceBEq, res_one, List.append_nil, Int.toNat_zero, Nat.sub_self, resRow, res_eqr, cft_one, cft_0, cft_1, cft_2, cft_3]; refine hk _ ?_; clear hk k; try show Sat _ _ _ _ _)
    (repeat refine Sat.seq ?_)
    refine Sat.cond_b rfl (fun h2 => ?_) (fun h2 => ?_)
    · have h3 : i < p.cs.length := by simp only [decide_eq_true_eq] at h2; omega
      have e3 : IntKind.i64.wrap ((i : Int) + 1) = ((i + 1 : Nat) : Int) := by rw [w64 (by omega)]; omega
      have hlx : (p.cs.getD i default).c.l.length ≤ 1000000000 := by
        have g1 := lens_succ p.cs i h3
        have g2 := lens_le p.cs (i + 1)
        omega
      have hly : (q.cs.getD i default).c.l.length ≤ 1000000000 := by
        have g1 := lens_succ q.cs i (by omega)
        have g2 := lens_le q.cs (i + 1)
        omega
      generalize hx : p.cs.getD i default = x at hlx
      generalize hy : q.cs.getD i default = y at hly
      refine Sat.skip ?_
      simp only [thenK]
      (repeat refine Sat.seq ?_)
      refine Sat.block ?_
      (repeat refine Sat.seq ?_)
      refine Sat.region_treeR (.keep [0, 2, 5, 7, 1, 6, 3, 8, 4, 9] [10, 11, 12] (.alt 10 (.one 11 (.one 12 (.one 13 .done))) (.alt 11 (.one 10 (.one 12 (.one 13 .done))) .none))) (by kernel_rfl) (by kernel_rfl) (fun _ _ h => h)
        (fun b : Nat × Nat => ⟨67, [(6, .op 2 b.1 0), (7, .op 3 b.2 0), (5, .i .i64 i), (2, .op 0 blk2 0), (3, .op 1 blk3 0)], [.box blk2 30 [.sl p.a0 p.rs.length p.c0 17 (resRd p.rs.toArray), .sl p.a1 p.cs.length p.c1 4 (cftRd p.cs)], .box blk3 30 [.sl q.a0 q.rs.length q.c0 17 (resRd q.rs.toArray), .sl q.a1 q.cs.length q.c1 4 (cftRd q.cs)], .box b.1 59 (cftCs x), .box b.2 59 (cftCs y)]⟩) (fun k hk => ?_) ?_
      · simp only [WOT, List.map_cons, List.map_nil, List.getD_cons_zero, List.getD_cons_succ]
        simp -implicitDefEqProofs only [evr, id, reduceCtorEq, reduceIte, Nat.reduceMul, Nat.reduceAdd, Nat.reduceLT, Nat.reduceLeDiff, Nat.reduceEqDiff, Int.reduceLT, Int.reduceBEq, Int.reduceBNe, Nat.reduceBEq, res_one, List.append_nil, Int.toNat_zero, Nat.sub_self, resRow, res_eqr, cft_one, cft_0, cft_1, cft_2, cft_3, WOT, hx, hy]
        refine ⟨by omega, by omega, fun b1 b2 => hk _ (b1, b2) [0, 1, 2, 3] ⟨rfl, ?_, by decide, ?_⟩, fun b1 b2 => hk _ (b2, b1) [0, 1, 3, 2] ⟨rfl, ?_, by decide, ?_⟩⟩
        all_goals simp only [cftCs]
        all_goals simp -implicitDefEqProofs only [evr, id, reduceCtorEq, reduceIte, Nat.reduceMul, Nat.reduceAdd, Nat.reduceLT, Nat.reduceLeDiff, Nat.reduceEqDiff, Int.reduceLT, Int.reduceBEq, Int.reduceBNe, Nat.reduceBEq, res_one, List.append_nil, Int.toNat_zero, Nat.sub_self, resRow, res_eqr, cft_one, cft_0, cft_1, cft_2, cft_3, Res.cs, evl]
      rintro ⟨blk6, blk7⟩
      simp only [thenK, cftCs]
      (repeat refine Sat.seq ?_)
      refine Sat.region_at ⟨67, [(66, .b (!decide (x.c = y.c))), (5, .i .i64 i), (2, .op 0 blk2 0), (3, .op 1 blk3 0)],
        [.box blk2 30 [.sl p.a0 p.rs.length p.c0 17 (resRd p.rs.toArray), .sl p.a1 p.cs.length p.c1 4 (cftRd p.cs)], .box blk3 30 [.sl q.a0 q.rs.length q.c0 17 (resRd q.rs.toArray), .sl q.a1 q.cs.length q.c1 4 (cftRd q.cs)]]⟩ (fun k hk => ?_) ?_
      · simp -implicitDefEqProofs only [evr, id, reduceCtorEq, reduceIte, Nat.reduceMul, Nat.reduceAdd, Nat.reduceLT, Nat.reduceLeDiff, Nat.reduceEqDiff, Int.reduceLT, Int.reduceBEq, Int.reduceBNe, Nat.reduceBEq, res_one, List.append_nil, Int.toNat_zero, Nat.sub_self, resRow, res_eqr, cft_one, cft_0, cft_1, cft_2, cft_3]
        refine ⟨fun g1 => ?_, fun g1 => ⟨fun g2 => ?_, fun g2 => ⟨fun g3 => ?_, fun g3 => ?_⟩⟩⟩
        · refine hk _ ?_
          have e : (!decide (x.c = y.c)) = true := by
            have : ¬ x.c.vantage = y.c.vantage := by simpa using g1
            simp [cft_ext, this]
          simp only [e]
          simp -implicitDefEqProofs only [evr, id, reduceCtorEq, reduceIte, Nat.reduceMul, Nat.reduceAdd, Nat.reduceLT, Nat.reduceLeDiff, Nat.reduceEqDiff, Int.reduceLT, Int.reduceBEq, Int.reduceBNe, Nat.reduceBEq, res_one, List.append_nil, Int.toNat_zero, Nat.sub_self, resRow, res_eqr, cft_one, cft_0, cft_1, cft_2, cft_3, evl]
        · refine hk _ ?_
          have e : (!decide (x.c = y.c)) = true := by
            have : ¬ x.c.run = y.c.run := by simpa using g2
            simp [cft_ext, this]
          simp only [e]
          simp -implicitDefEqProofs only [evr, id, reduceCtorEq, reduceIte, Nat.reduceMul, Nat.reduceAdd, Nat.reduceLT, Nat.reduceLeDiff, Nat.reduceEqDiff, Int.reduceLT, Int.reduceBEq, Int.reduceBNe, Nat.reduceBEq, res_one, List.append_nil, Int.toNat_zero, Nat.sub_self, resRow, res_eqr, cft_one, cft_0, cft_1, cft_2, cft_3, evl]
        · refine hk _ ?_
          have e : (!decide (x.c = y.c)) = true := by
            have : ¬ x.c.number = y.c.number := by simpa using g3
            simp [cft_ext, this]
          simp only [e]
          simp -implicitDefEqProofs only [evr, id, reduceCtorEq, reduceIte, Nat.reduceMul, Nat.reduceAdd, Nat.reduceLT, Nat.reduceLeDiff, Nat.reduceEqDiff, Int.reduceLT, Int.reduceBEq, Int.reduceBNe, Nat.reduceBEq, res_one, List.append_nil, Int.toNat_zero, Nat.sub_self, resRow, res_eqr, cft_one, cft_0, cft_1, cft_2, cft_3, evl]
        · refine wcall_plain (sameResC F x.a x.cap x.c.l hlx y.a y.cap y.c.l hly) rfl (by rintro _ rfl; exact ok_plain rfl) ?_
          rintro r rfl
          simp -implicitDefEqProofs only [evr, id, reduceCtorEq, reduceIte, Nat.reduceMul, Nat.reduceAdd, Nat.reduceLT, Nat.reduceLeDiff, Nat.reduceEqDiff, Int.reduceLT, Int.reduceBEq, Int.reduceBNe, Nat.reduceBEq, res_one, List.append_nil, Int.toNat_zero, Nat.sub_self, resRow, res_eqr, cft_one, cft_0, cft_1, cft_2, cft_3]
          refine hk _ ?_
          have e : (!decide (x.c = y.c)) = (!decide (x.c.l = y.c.l)) := by
            have e1 : x.c.vantage = y.c.vantage := by simpa using g1
            have e2 : x.c.run = y.c.run := by simpa using g2
            have e3 : x.c.number = y.c.number := by simpa using g3
            simp [cft_ext, e1, e2, e3]
          simp only [e]
          simp -implicitDefEqProofs only [evr, id, reduceCtorEq, reduceIte, Nat.reduceMul, Nat.reduceAdd, Nat.reduceLT, Nat.reduceLeDiff, Nat.reduceEqDiff, Int.reduceLT, Int.reduceBEq, Int.reduceBNe, Nat.reduceBEq, res_one, List.append_nil, Int.toNat_zero, Nat.sub_self, resRow, res_eqr, cft_one, cft_0, cft_1, cft_2, cft_3, evl]
      simp only [thenK]
      refine Sat.cond_b rfl (fun g => ?_) (fun g => ?_)
      · have hne : ¬ (p.led = q.led) := by
          rw [hled]
          rintro ⟨_, h5⟩
          have h6 : x.c = y.c := by
            have g1 : (p.cs.map (·.c))[i]? = (q.cs.map (·.c))[i]? := by rw [h5]
            have hq3 : i < q.cs.length := by omega
            simp only [List.getElem?_map, List.getElem?_eq_getElem h3, List.getElem?_eq_getElem hq3, Option.map_some, Option.some.injEq] at g1
            rw [← hx, ← hy]
            simpa [List.getD, h3, hq3] using g1
          simp [h6] at g
        (repeat refine Sat.seq ?_)
        (refine Sat.region_k fun k hk => ?_; simp -implicitDefEqProofs only [evr, id, reduceCtorEq, reduceIte, Nat.reduceMul, Nat.reduceAdd, Nat.reduceLT, Nat.reduceLeDiff, Nat.reduceEqDiff, Int.reduceLT, Int.reduceBEq, Int.reduceBNe, Nat.reduceBEq, res_one, List.append_nil, Int.toNat_zero, Nat.sub_self, resRow, res_eqr, cft_one, cft_0, cft_1, cft_2, cft_3]; refine hk _ ?_; clear hk k; try show Sat _ _ _ _ _)
        refine Sat.ret ?_
        simp only [Try.results16, evr, id, reduceCtorEq, reduceIte, Nat.reduceMul, Nat.reduceAdd, Nat.reduceLT, Nat.reduceLeDiff, Nat.reduceEqDiff, Int.reduceLT, Int.reduceBEq, Int.reduceBNe, Nat.reduceBEq, res_one, List.append_nil, Int.toNat_zero, Nat.sub_self, resRow, res_eqr, cft_one, cft_0, cft_1, cft_2, cft_3]
        rw [decide_eq_false hne]
      · have h6 : x.c = y.c := by simpa using g
        refine Sat.skip ?_
        simp only [thenK, blockK]
        refine Sat.region_k fun k hk => ?_
        simp -implicitDefEqProofs only [evr, id, reduceCtorEq, reduceIte, Nat.reduceMul, Nat.reduceAdd, Nat.reduceLT, Nat.reduceLeDiff, Nat.reduceEqDiff, Int.reduceLT, Int.reduceBEq, Int.reduceBNe, Nat.reduceBEq, res_one, List.append_nil, Int.toNat_zero, Nat.sub_self, resRow, res_eqr, cft_one, cft_0, cft_1, cft_2, cft_3, e3]
        refine hk _ ?_
        simp only [thenK, blockK]
        refine ⟨i + 1, ⟨by omega, fun j hj2 => ?_⟩, by omega, ?_⟩
        · by_cases e : j = i
          · subst e; rw [hx, hy]; exact h6
          · exact hj j (by omega)
        · simp -implicitDefEqProofs only [evr, id, reduceCtorEq, reduceIte, Nat.reduceMul, Nat.reduceAdd, Nat.reduceLT, Nat.reduceLeDiff, Nat.reduceEqDiff, Int.reduceLT, Int.reduceBEq, Int.reduceBNe, Nat.reduceBEq, res_one, List.append_nil, Int.toNat_zero, Nat.sub_self, resRow, res_eqr, cft_one, cft_0, cft_1, cft_2, cft_3, evl]
    · have h3 : i = p.cs.length := by simp only [decide_eq_false_iff_not] at h2; omega
      subst h3
      refine Sat.exit ?_
      simp only [thenK, blockK, reduceIte]
      (repeat refine Sat.seq ?_)
      (refine Sat.region_k fun k hk => ?_; simp -implicitDefEqProofs only [evr, id, reduceCtorEq, reduceIte, Nat.reduceMul, Nat.reduceAdd, Nat.reduceLT, Nat.reduceLeDiff, Nat.reduceEqDiff, Int.reduceLT, Int.reduceBEq, Int.reduceBNe, Nat.reduceBEq, res_one, List.append_nil, Int.toNat_zero, Nat.sub_self, resRow, res_eqr, cft_one, cft_0, cft_1, cft_2, cft_3]; refine hk _ ?_; clear hk k; try show Sat _ _ _ _ _)
      refine Sat.ret ?_
      simp only [Try.results16, evr, id, reduceCtorEq, reduceIte, Nat.reduceMul, Nat.reduceAdd, Nat.reduceLT, Nat.reduceLeDiff, Nat.reduceEqDiff, Int.reduceLT, Int.reduceBEq, Int.reduceBNe, Nat.reduceBEq, res_one, List.append_nil, Int.toNat_zero, Nat.sub_self, resRow, res_eqr, cft_one, cft_0, cft_1, cft_2, cft_3]
      rw [decide_eq_true]
      rw [hled]
      refine ⟨h1.1, List.ext_getElem (by simpa using h1.2) fun j g1 g2 => ?_⟩
      have g1' : j < p.cs.length := by simpa using g1
      have := hj j g1'
      simpa [List.getD, g1', show j < q.cs.length by omega] using this
end Go.Proofs.Ythhofjkbmnklmaa
