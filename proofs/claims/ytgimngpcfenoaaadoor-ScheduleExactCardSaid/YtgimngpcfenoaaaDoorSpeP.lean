/- The reference's kinds of addresses. -/
import Derived.Test.YtgimngpcfenoaaaDoorSpdP
set_option linter.unusedSimpArgs false
set_option linter.unusedVariables false
namespace Go.Proofs.YtgimngpcfenoaaaDoor
open Go.Sort Eng
theorem u32_64 {n : Nat} (h : n < 2 ^ 32) : IntKind.i64.wrap (n : Int) = n := w64 (by omega)
theorem cont_blk (i a : Nat) (hv : vld (blkP i) = true) : cont (blkP i) a = decide (a / 2 ^ (blkP i).k * 2 ^ (blkP i).k = (blkP i).addr) := by unfold cont; rw [hv, Bool.true_and]
def spX (x y : Int) : Int :=
  if x = 0 then 1 else if x = 127 then 2 else if x = 10 ∨ (x = 172 ∧ 16 ≤ y ∧ y < 32) ∨ (x = 192 ∧ y = 168) then 3 else if x = 169 ∧ y = 254 then 4 else if 224 ≤ x ∧ x < 240 then 5 else if 240 ≤ x then 6 else 0
theorem spc_eq (a : Nat) (ha : a < 2 ^ 32) : spc a = spX ((a / 16777216 : Nat) : Int) ((a / 65536 % 256 : Nat) : Int) := by
  have h0 : cont (blkP 0) a = decide (a / 16777216 * 16777216 = 0) := cont_blk 0 a (by decide)
  have h1 : cont (blkP 1) a = decide (a / 16777216 * 16777216 = 2130706432) := cont_blk 1 a (by decide)
  have h2 : cont (blkP 2) a = decide (a / 16777216 * 16777216 = 167772160) := cont_blk 2 a (by decide)
  have h3 : cont (blkP 3) a = decide (a / 1048576 * 1048576 = 2886729728) := cont_blk 3 a (by decide)
  have h4 : cont (blkP 4) a = decide (a / 65536 * 65536 = 3232235520) := cont_blk 4 a (by decide)
  have h5 : cont (blkP 5) a = decide (a / 65536 * 65536 = 2851995648) := cont_blk 5 a (by decide)
  have h6 : cont (blkP 6) a = decide (a / 268435456 * 268435456 = 3758096384) := cont_blk 6 a (by decide)
  have h7 : cont (blkP 7) a = decide (a / 268435456 * 268435456 = 4026531840) := cont_blk 7 a (by decide)
  have e : spc a = if cont (blkP 0) a = true then 1 else if cont (blkP 1) a = true then 2 else if cont (blkP 2) a = true then 3 else if cont (blkP 3) a = true then 3 else if cont (blkP 4) a = true then 3 else if cont (blkP 5) a = true then 4 else if cont (blkP 6) a = true then 5 else if cont (blkP 7) a = true then 6 else 0 := rfl
  rw [e, h0, h1, h2, h3, h4, h5, h6, h7]
  simp only [decide_eq_true_eq]
  unfold spX
  repeat' split
  all_goals first | rfl | omega
theorem and255 {n : Nat} (hn : n < 2 ^ 32) : bits .and .i64 (n : Int) 255 = ((n % 256 : Nat) : Int) := by
  show IntKind.i64.wrap ((BitVec.ofInt 64 (n : Int) &&& BitVec.ofInt 64 255).toNat : Int) = _
  have e : (BitVec.ofInt 64 255).toNat = 2 ^ 8 - 1 := by decide
  have e2 : (BitVec.ofInt 64 (n : Int)).toNat = n := by
    rw [BitVec.toNat_ofInt]
    omega
  rw [BitVec.toNat_and, e2, e, Nat.and_two_pow_sub_one_eq_mod]
  exact w64 (by omega)
set_option maxRecDepth 100000 in
theorem rfSpecialC (F : Frm) (a : Nat) (ha : a < 2 ^ 32) : Contract F Tryd.prog 49 [.i .u32 a] (fun r => r = .i .i64 (spc a)) := by
  rw [spc_eq a ha]
  have ha2 := u32_64 ha
  have f1 : (a : Int).fdiv (2 ^ min (Int.toNat 24) IntKind.i64.bits) = ((a / 16777216 : Nat) : Int) := by
    show (a : Int).fdiv 16777216 = _
    rw [Int.fdiv_eq_ediv_of_nonneg _ (by decide)]
    omega
  have f2 : (a : Int).fdiv (2 ^ min (Int.toNat 16) IntKind.i64.bits) = ((a / 65536 : Nat) : Int) := by
    show (a : Int).fdiv 65536 = _
    rw [Int.fdiv_eq_ediv_of_nonneg _ (by decide)]
    omega
  have f3 : bits .and .i64 ((a / 65536 : Nat) : Int) 255 = ((a / 65536 % 256 : Nat) : Int) := and255 (by omega)
  refine contract_of Tryd.func49 rfl (by kernel_rfl) ?_
  simp only [Tryd.ntmps49, argEnv]
  (repeat refine Sat.seq ?_)
  (refine Sat.region_k fun k hk => ?_; simp -implicitDefEqProofs only [evr, id, reduceCtorEq, reduceIte, Nat.reduceMul, Nat.reduceAdd, Nat.reduceLT, Nat.reduceLeDiff, Nat.reduceEqDiff, Int.reduceLT, Int.reduceBEq, Int.reduceBNe, Nat.reduceBEq, Int.reduceNeg, evn]; refine hk _ ?_; clear hk k; try show Sat _ _ _ _ _)
  (repeat refine Sat.seq ?_)
  refine Sat.region_k fun k hk => ?_
  simp -implicitDefEqProofs only [evr, id, reduceCtorEq, reduceIte, Nat.reduceMul, Nat.reduceAdd, Nat.reduceLT, Nat.reduceLeDiff, Nat.reduceEqDiff, Int.reduceLT, Int.reduceBEq, Int.reduceBNe, Nat.reduceBEq, Int.reduceNeg, ha2, f1, f2, f3, evn]
  refine ⟨by decide, by decide, ?_⟩
  (refine hk _ ?_; clear hk k; try show Sat _ _ _ _ _)
  have hy : (((a / 65536 % 256 : Nat)) : Int) < 256 := by omega
  have hx : ((a / 16777216 : Nat) : Int) < 256 := by omega
  generalize ((a / 16777216 : Nat) : Int) = x at hx ⊢
  generalize ((a / 65536 % 256 : Nat) : Int) = y at hy ⊢
  refine Sat.le (st' := ⟨58, [(3, .i .i64 x), (4, .i .i64 y)], []⟩) ?_ (by simp -implicitDefEqProofs only [evr, id, reduceCtorEq, reduceIte, Nat.reduceMul, Nat.reduceAdd, Nat.reduceLT, Nat.reduceLeDiff, Nat.reduceEqDiff, Int.reduceLT, Int.reduceBEq, Int.reduceBNe, Nat.reduceBEq, Int.reduceNeg, evl, evn])
  (repeat refine Sat.seq ?_)
  refine Sat.block ?_
  (repeat refine Sat.seq ?_)
  (refine Sat.region_k fun k hk => ?_; simp -implicitDefEqProofs only [evr, id, reduceCtorEq, reduceIte, Nat.reduceMul, Nat.reduceAdd, Nat.reduceLT, Nat.reduceLeDiff, Nat.reduceEqDiff, Int.reduceLT, Int.reduceBEq, Int.reduceBNe, Nat.reduceBEq, Int.reduceNeg, evn]; refine hk _ ?_; clear hk k; try show Sat _ _ _ _ _)
  (repeat refine Sat.seq ?_)
  refine Sat.cond_b rfl (fun h0 => ?_) (fun h0 => ?_)
  · simp only [beq_iff_eq] at h0
    (repeat refine Sat.seq ?_)
    (refine Sat.region_k fun k hk => ?_; simp -implicitDefEqProofs only [evr, id, reduceCtorEq, reduceIte, Nat.reduceMul, Nat.reduceAdd, Nat.reduceLT, Nat.reduceLeDiff, Nat.reduceEqDiff, Int.reduceLT, Int.reduceBEq, Int.reduceBNe, Nat.reduceBEq, Int.reduceNeg, evn]; refine hk _ ?_; clear hk k; try show Sat _ _ _ _ _)
    refine Sat.ret ?_
    simp only [blockK, thenK, Tryd.results49, evr, id, reduceCtorEq, reduceIte, Nat.reduceMul, Nat.reduceAdd, Nat.reduceLT, Nat.reduceLeDiff, Nat.reduceEqDiff, Int.reduceLT, Int.reduceBEq, Int.reduceBNe, Nat.reduceBEq, List.append_nil, Int.toNat_zero, Nat.sub_self, Int.reduceNeg]
    unfold spX
    rw [if_pos h0]
  simp only [beq_eq_false_iff_ne, ne_eq] at h0
  (repeat refine Sat.seq ?_)
  (refine Sat.region_k fun k hk => ?_; simp -implicitDefEqProofs only [evr, id, reduceCtorEq, reduceIte, Nat.reduceMul, Nat.reduceAdd, Nat.reduceLT, Nat.reduceLeDiff, Nat.reduceEqDiff, Int.reduceLT, Int.reduceBEq, Int.reduceBNe, Nat.reduceBEq, Int.reduceNeg, evn]; refine hk _ ?_; clear hk k; try show Sat _ _ _ _ _)
  (repeat refine Sat.seq ?_)
  refine Sat.cond_b rfl (fun h1 => ?_) (fun h1 => ?_)
  · simp only [beq_iff_eq] at h1
    (repeat refine Sat.seq ?_)
    (refine Sat.region_k fun k hk => ?_; simp -implicitDefEqProofs only [evr, id, reduceCtorEq, reduceIte, Nat.reduceMul, Nat.reduceAdd, Nat.reduceLT, Nat.reduceLeDiff, Nat.reduceEqDiff, Int.reduceLT, Int.reduceBEq, Int.reduceBNe, Nat.reduceBEq, Int.reduceNeg, evn]; refine hk _ ?_; clear hk k; try show Sat _ _ _ _ _)
    refine Sat.ret ?_
    simp only [blockK, thenK, Tryd.results49, evr, id, reduceCtorEq, reduceIte, Nat.reduceMul, Nat.reduceAdd, Nat.reduceLT, Nat.reduceLeDiff, Nat.reduceEqDiff, Int.reduceLT, Int.reduceBEq, Int.reduceBNe, Nat.reduceBEq, List.append_nil, Int.toNat_zero, Nat.sub_self, Int.reduceNeg]
    unfold spX
    rw [if_neg h0, if_pos h1]
  simp only [beq_eq_false_iff_ne, ne_eq] at h1
  (repeat refine Sat.seq ?_)
  refine Sat.region_at ⟨58, [(18, .b (decide (x = 10 ∨ (x = 172 ∧ 16 ≤ y ∧ y < 32) ∨ (x = 192 ∧ y = 168)))), (3, .i .i64 x), (4, .i .i64 y)], []⟩ (fun k hk => ?_) ?_
  · simp -implicitDefEqProofs only [evr, id, reduceCtorEq, reduceIte, Nat.reduceMul, Nat.reduceAdd, Nat.reduceLT, Nat.reduceLeDiff, Nat.reduceEqDiff, Int.reduceLT, Int.reduceBEq, Int.reduceBNe, Nat.reduceBEq, Int.reduceNeg, beq_iff_eq, beq_eq_false_iff_ne, ne_eq, evn]
    repeat' (first
      | (refine ⟨fun _ => ?_, fun _ => ?_⟩)
      | (refine hk _ ?_; clear hk; have e : decide (x = 10 ∨ (x = 172 ∧ 16 ≤ y ∧ y < 32) ∨ (x = 192 ∧ y = 168)) = true := decide_eq_true (by omega); simp only [e]; simp -implicitDefEqProofs only [evr, id, reduceCtorEq, reduceIte, Nat.reduceMul, Nat.reduceAdd, Nat.reduceLT, Nat.reduceLeDiff, Nat.reduceEqDiff, Int.reduceLT, Int.reduceBEq, Int.reduceBNe, Nat.reduceBEq, Int.reduceNeg, evl, evn]; done)
      | (refine hk _ ?_; clear hk; have e : decide (x = 10 ∨ (x = 172 ∧ 16 ≤ y ∧ y < 32) ∨ (x = 192 ∧ y = 168)) = false := decide_eq_false (by omega); simp only [e]; simp -implicitDefEqProofs only [evr, id, reduceCtorEq, reduceIte, Nat.reduceMul, Nat.reduceAdd, Nat.reduceLT, Nat.reduceLeDiff, Nat.reduceEqDiff, Int.reduceLT, Int.reduceBEq, Int.reduceBNe, Nat.reduceBEq, Int.reduceNeg, evl, evn]; done)
      | (refine hk _ ?_; clear hk; simp -implicitDefEqProofs only [evr, id, reduceCtorEq, reduceIte, Nat.reduceMul, Nat.reduceAdd, Nat.reduceLT, Nat.reduceLeDiff, Nat.reduceEqDiff, Int.reduceLT, Int.reduceBEq, Int.reduceBNe, Nat.reduceBEq, Int.reduceNeg, evl, evn]; refine .inl ?_; apply Bool.eq_iff_iff.2; simp only [beq_iff_eq, decide_eq_true_eq]; omega))
  try simp only [thenK]
  refine Sat.cond_b rfl (fun h2 => ?_) (fun h2 => ?_)
  · simp only [decide_eq_true_eq] at h2
    (repeat refine Sat.seq ?_)
    (refine Sat.region_k fun k hk => ?_; simp -implicitDefEqProofs only [evr, id, reduceCtorEq, reduceIte, Nat.reduceMul, Nat.reduceAdd, Nat.reduceLT, Nat.reduceLeDiff, Nat.reduceEqDiff, Int.reduceLT, Int.reduceBEq, Int.reduceBNe, Nat.reduceBEq, Int.reduceNeg, evn]; refine hk _ ?_; clear hk k; try show Sat _ _ _ _ _)
    refine Sat.ret ?_
    simp only [blockK, thenK, Tryd.results49, evr, id, reduceCtorEq, reduceIte, Nat.reduceMul, Nat.reduceAdd, Nat.reduceLT, Nat.reduceLeDiff, Nat.reduceEqDiff, Int.reduceLT, Int.reduceBEq, Int.reduceBNe, Nat.reduceBEq, List.append_nil, Int.toNat_zero, Nat.sub_self, Int.reduceNeg]
    unfold spX
    rw [if_neg h0, if_neg h1, if_pos h2]
  simp only [decide_eq_false_iff_not] at h2
  (repeat refine Sat.seq ?_)
  refine Sat.region_at ⟨58, [(41, .b (decide (x = 169 ∧ y = 254))), (3, .i .i64 x), (4, .i .i64 y)], []⟩ (fun k hk => ?_) ?_
  · simp -implicitDefEqProofs only [evr, id, reduceCtorEq, reduceIte, Nat.reduceMul, Nat.reduceAdd, Nat.reduceLT, Nat.reduceLeDiff, Nat.reduceEqDiff, Int.reduceLT, Int.reduceBEq, Int.reduceBNe, Nat.reduceBEq, Int.reduceNeg, beq_iff_eq, beq_eq_false_iff_ne, ne_eq, evn]
    repeat' (first
      | (refine ⟨fun _ => ?_, fun _ => ?_⟩)
      | (refine hk _ ?_; clear hk; have e : decide (x = 169 ∧ y = 254) = true := decide_eq_true (by omega); simp only [e]; simp -implicitDefEqProofs only [evr, id, reduceCtorEq, reduceIte, Nat.reduceMul, Nat.reduceAdd, Nat.reduceLT, Nat.reduceLeDiff, Nat.reduceEqDiff, Int.reduceLT, Int.reduceBEq, Int.reduceBNe, Nat.reduceBEq, Int.reduceNeg, evl, evn]; done)
      | (refine hk _ ?_; clear hk; have e : decide (x = 169 ∧ y = 254) = false := decide_eq_false (by omega); simp only [e]; simp -implicitDefEqProofs only [evr, id, reduceCtorEq, reduceIte, Nat.reduceMul, Nat.reduceAdd, Nat.reduceLT, Nat.reduceLeDiff, Nat.reduceEqDiff, Int.reduceLT, Int.reduceBEq, Int.reduceBNe, Nat.reduceBEq, Int.reduceNeg, evl, evn]; done)
      | (refine hk _ ?_; clear hk; simp -implicitDefEqProofs only [evr, id, reduceCtorEq, reduceIte, Nat.reduceMul, Nat.reduceAdd, Nat.reduceLT, Nat.reduceLeDiff, Nat.reduceEqDiff, Int.reduceLT, Int.reduceBEq, Int.reduceBNe, Nat.reduceBEq, Int.reduceNeg, evl, evn]; refine .inl ?_; apply Bool.eq_iff_iff.2; simp only [beq_iff_eq, decide_eq_true_eq]; omega))
  try simp only [thenK]
  refine Sat.cond_b rfl (fun h3 => ?_) (fun h3 => ?_)
  · simp only [decide_eq_true_eq] at h3
    (repeat refine Sat.seq ?_)
    (refine Sat.region_k fun k hk => ?_; simp -implicitDefEqProofs only [evr, id, reduceCtorEq, reduceIte, Nat.reduceMul, Nat.reduceAdd, Nat.reduceLT, Nat.reduceLeDiff, Nat.reduceEqDiff, Int.reduceLT, Int.reduceBEq, Int.reduceBNe, Nat.reduceBEq, Int.reduceNeg, evn]; refine hk _ ?_; clear hk k; try show Sat _ _ _ _ _)
    refine Sat.ret ?_
    simp only [blockK, thenK, Tryd.results49, evr, id, reduceCtorEq, reduceIte, Nat.reduceMul, Nat.reduceAdd, Nat.reduceLT, Nat.reduceLeDiff, Nat.reduceEqDiff, Int.reduceLT, Int.reduceBEq, Int.reduceBNe, Nat.reduceBEq, List.append_nil, Int.toNat_zero, Nat.sub_self, Int.reduceNeg]
    unfold spX
    rw [if_neg h0, if_neg h1, if_neg h2, if_pos h3]
  simp only [decide_eq_false_iff_not] at h3
  (repeat refine Sat.seq ?_)
  refine Sat.region_at ⟨58, [(48, .b (decide (224 ≤ x ∧ x < 240))), (3, .i .i64 x), (4, .i .i64 y)], []⟩ (fun k hk => ?_) ?_
  · simp -implicitDefEqProofs only [evr, id, reduceCtorEq, reduceIte, Nat.reduceMul, Nat.reduceAdd, Nat.reduceLT, Nat.reduceLeDiff, Nat.reduceEqDiff, Int.reduceLT, Int.reduceBEq, Int.reduceBNe, Nat.reduceBEq, Int.reduceNeg, beq_iff_eq, beq_eq_false_iff_ne, ne_eq, evn]
    repeat' (first
      | (refine ⟨fun _ => ?_, fun _ => ?_⟩)
      | (refine hk _ ?_; clear hk; have e : decide (224 ≤ x ∧ x < 240) = true := decide_eq_true (by omega); simp only [e]; simp -implicitDefEqProofs only [evr, id, reduceCtorEq, reduceIte, Nat.reduceMul, Nat.reduceAdd, Nat.reduceLT, Nat.reduceLeDiff, Nat.reduceEqDiff, Int.reduceLT, Int.reduceBEq, Int.reduceBNe, Nat.reduceBEq, Int.reduceNeg, evl, evn]; done)
      | (refine hk _ ?_; clear hk; have e : decide (224 ≤ x ∧ x < 240) = false := decide_eq_false (by omega); simp only [e]; simp -implicitDefEqProofs only [evr, id, reduceCtorEq, reduceIte, Nat.reduceMul, Nat.reduceAdd, Nat.reduceLT, Nat.reduceLeDiff, Nat.reduceEqDiff, Int.reduceLT, Int.reduceBEq, Int.reduceBNe, Nat.reduceBEq, Int.reduceNeg, evl, evn]; done)
      | (refine hk _ ?_; clear hk; simp -implicitDefEqProofs only [evr, id, reduceCtorEq, reduceIte, Nat.reduceMul, Nat.reduceAdd, Nat.reduceLT, Nat.reduceLeDiff, Nat.reduceEqDiff, Int.reduceLT, Int.reduceBEq, Int.reduceBNe, Nat.reduceBEq, Int.reduceNeg, evl, evn]; refine .inl ?_; apply Bool.eq_iff_iff.2; simp only [beq_iff_eq, decide_eq_true_eq]; omega))
  try simp only [thenK]
  refine Sat.cond_b rfl (fun h4 => ?_) (fun h4 => ?_)
  · simp only [decide_eq_true_eq] at h4
    (repeat refine Sat.seq ?_)
    (refine Sat.region_k fun k hk => ?_; simp -implicitDefEqProofs only [evr, id, reduceCtorEq, reduceIte, Nat.reduceMul, Nat.reduceAdd, Nat.reduceLT, Nat.reduceLeDiff, Nat.reduceEqDiff, Int.reduceLT, Int.reduceBEq, Int.reduceBNe, Nat.reduceBEq, Int.reduceNeg, evn]; refine hk _ ?_; clear hk k; try show Sat _ _ _ _ _)
    refine Sat.ret ?_
    simp only [blockK, thenK, Tryd.results49, evr, id, reduceCtorEq, reduceIte, Nat.reduceMul, Nat.reduceAdd, Nat.reduceLT, Nat.reduceLeDiff, Nat.reduceEqDiff, Int.reduceLT, Int.reduceBEq, Int.reduceBNe, Nat.reduceBEq, List.append_nil, Int.toNat_zero, Nat.sub_self, Int.reduceNeg]
    unfold spX
    rw [if_neg h0, if_neg h1, if_neg h2, if_neg h3, if_pos h4]
  simp only [decide_eq_false_iff_not] at h4
  (repeat refine Sat.seq ?_)
  (refine Sat.region_k fun k hk => ?_; simp -implicitDefEqProofs only [evr, id, reduceCtorEq, reduceIte, Nat.reduceMul, Nat.reduceAdd, Nat.reduceLT, Nat.reduceLeDiff, Nat.reduceEqDiff, Int.reduceLT, Int.reduceBEq, Int.reduceBNe, Nat.reduceBEq, Int.reduceNeg, evn]; refine hk _ ?_; clear hk k; try show Sat _ _ _ _ _)
  (repeat refine Sat.seq ?_)
  refine Sat.cond_b rfl (fun h5 => ?_) (fun h5 => ?_)
  · simp only [decide_eq_true_eq] at h5
    (repeat refine Sat.seq ?_)
    (refine Sat.region_k fun k hk => ?_; simp -implicitDefEqProofs only [evr, id, reduceCtorEq, reduceIte, Nat.reduceMul, Nat.reduceAdd, Nat.reduceLT, Nat.reduceLeDiff, Nat.reduceEqDiff, Int.reduceLT, Int.reduceBEq, Int.reduceBNe, Nat.reduceBEq, Int.reduceNeg, evn]; refine hk _ ?_; clear hk k; try show Sat _ _ _ _ _)
    refine Sat.ret ?_
    simp only [blockK, thenK, Tryd.results49, evr, id, reduceCtorEq, reduceIte, Nat.reduceMul, Nat.reduceAdd, Nat.reduceLT, Nat.reduceLeDiff, Nat.reduceEqDiff, Int.reduceLT, Int.reduceBEq, Int.reduceBNe, Nat.reduceBEq, List.append_nil, Int.toNat_zero, Nat.sub_self, Int.reduceNeg]
    unfold spX
    rw [if_neg h0, if_neg h1, if_neg h2, if_neg h3, if_neg h4, if_pos h5]
  simp only [decide_eq_false_iff_not] at h5
  refine Sat.skip ?_
  simp only [thenK, blockK, reduceIte]
  (repeat refine Sat.seq ?_)
  (refine Sat.region_k fun k hk => ?_; simp -implicitDefEqProofs only [evr, id, reduceCtorEq, reduceIte, Nat.reduceMul, Nat.reduceAdd, Nat.reduceLT, Nat.reduceLeDiff, Nat.reduceEqDiff, Int.reduceLT, Int.reduceBEq, Int.reduceBNe, Nat.reduceBEq, Int.reduceNeg, evn]; refine hk _ ?_; clear hk k; try show Sat _ _ _ _ _)
  refine Sat.ret ?_
  simp only [Tryd.results49, evr, id, reduceCtorEq, reduceIte, Nat.reduceMul, Nat.reduceAdd, Nat.reduceLT, Nat.reduceLeDiff, Nat.reduceEqDiff, Int.reduceLT, Int.reduceBEq, Int.reduceBNe, Nat.reduceBEq, List.append_nil, Int.toNat_zero, Nat.sub_self, Int.reduceNeg]
  unfold spX
  rw [if_neg h0, if_neg h1, if_neg h2, if_neg h3, if_neg h4, if_neg h5]
end Go.Proofs.YtgimngpcfenoaaaDoor
