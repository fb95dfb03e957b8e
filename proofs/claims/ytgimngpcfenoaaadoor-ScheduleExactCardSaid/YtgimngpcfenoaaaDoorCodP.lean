/- Choices of addresses, ints and plans, by the evaluator. -/
import Derived.Test.YtgimngpcfenoaaaDoorLimP
set_option linter.unusedSimpArgs false
set_option linter.unusedVariables false
namespace Go.Proofs.YtgimngpcfenoaaaDoor
open Go.Sort Eng
theorem plain_int (r : SV) (h : ∃ x : Int, r = .i .i64 x) : ∀ R w, r.ok R w := by
  obtain ⟨x, rfl⟩ := h; exact ok_plain rfl
def u32 (x : Int) : Prop := 0 ≤ x ∧ x < 4294967296
theorem u32_wrap (x : Int) : u32 (IntKind.u32.wrap x) := by
  simp only [u32, IntKind.wrap, IntKind.signed, IntKind.bits, Bool.false_and, Bool.false_eq_true, if_false]
  omega
theorem u32_keep {x : Int} (h : u32 x) : IntKind.i64.wrap x = x := by
  unfold u32 at h
  exact w64 (by omega)
theorem plain_addr (r : SV) (h : ∃ x : Int, r = .i .u32 x ∧ u32 x) : ∀ R w, r.ok R w := by
  obtain ⟨x, rfl, _⟩ := h; exact ok_plain rfl
set_option maxRecDepth 100000 in
theorem addressRC (cb : Nat) : Contract (Frm.codes cb) Tryd.prog 48 [ptr cb] (fun r => ∃ x : Int, r = .i .u32 x ∧ u32 x) := by
  refine contract_of Tryd.func48 rfl (by kernel_rfl) ?_
  simp only [Tryd.ntmps48, argEnv, ptr]
  (repeat refine Sat.seq ?_)
  (refine Sat.region_k fun k hk => ?_; simp -implicitDefEqProofs only [evr, id, reduceCtorEq, reduceIte, Nat.reduceMul, Nat.reduceAdd, Nat.reduceLT, Nat.reduceLeDiff, Nat.reduceEqDiff, Int.reduceLT, Int.reduceBEq, Int.reduceBNe, Nat.reduceBEq, ptr, due_one, dueRow, tsk_one, planC, evn]; refine hk _ ?_; clear hk k; try show Sat _ _ _ _ _)
  (repeat refine Sat.seq ?_)
  (refine Sat.region_k fun k hk => ?_; simp -implicitDefEqProofs only [evr, id, reduceCtorEq, reduceIte, Nat.reduceMul, Nat.reduceAdd, Nat.reduceLT, Nat.reduceLeDiff, Nat.reduceEqDiff, Int.reduceLT, Int.reduceBEq, Int.reduceBNe, Nat.reduceBEq, ptr, due_one, dueRow, tsk_one, planC, evn])
  refine wcall_plain (nextC cb 12 (by decide) (by decide)) rfl plain_next ?_
  rintro r ⟨x1, rfl, _⟩
  simp -implicitDefEqProofs only [evr, id, reduceCtorEq, reduceIte, Nat.reduceMul, Nat.reduceAdd, Nat.reduceLT, Nat.reduceLeDiff, Nat.reduceEqDiff, Int.reduceLT, Int.reduceBEq, Int.reduceBNe, Nat.reduceBEq, ptr, due_one, dueRow, tsk_one, planC, evn]
  (refine hk _ ?_; clear hk k; try show Sat _ _ _ _ _)
  (repeat refine Sat.seq ?_)
  refine Sat.cond_b rfl (fun _ => ?_) (fun _ => ?_)
  · (repeat refine Sat.seq ?_)
    (refine Sat.region_k fun k hk => ?_; simp -implicitDefEqProofs only [evr, id, reduceCtorEq, reduceIte, Nat.reduceMul, Nat.reduceAdd, Nat.reduceLT, Nat.reduceLeDiff, Nat.reduceEqDiff, Int.reduceLT, Int.reduceBEq, Int.reduceBNe, Nat.reduceBEq, ptr, due_one, dueRow, tsk_one, planC, evn])
    refine wcall_plain (nextC cb 65536 (by decide) (by decide)) rfl plain_next ?_
    rintro r ⟨x2, rfl, _⟩
    simp -implicitDefEqProofs only [evr, id, reduceCtorEq, reduceIte, Nat.reduceMul, Nat.reduceAdd, Nat.reduceLT, Nat.reduceLeDiff, Nat.reduceEqDiff, Int.reduceLT, Int.reduceBEq, Int.reduceBNe, Nat.reduceBEq, ptr, due_one, dueRow, tsk_one, planC, evn]
    refine ⟨by decide, ?_⟩
    refine wcall_plain (nextC cb 65536 (by decide) (by decide)) rfl plain_next ?_
    rintro r ⟨x3, rfl, _⟩
    simp -implicitDefEqProofs only [evr, id, reduceCtorEq, reduceIte, Nat.reduceMul, Nat.reduceAdd, Nat.reduceLT, Nat.reduceLeDiff, Nat.reduceEqDiff, Int.reduceLT, Int.reduceBEq, Int.reduceBNe, Nat.reduceBEq, ptr, due_one, dueRow, tsk_one, planC, evn]
    (refine hk _ ?_; clear hk k; try show Sat _ _ _ _ _)
    refine Sat.ret ?_
    simp only [Tryd.results48, evr, id, reduceCtorEq, reduceIte, Nat.reduceMul, Nat.reduceAdd, Nat.reduceLT, Nat.reduceLeDiff, Nat.reduceEqDiff, Int.reduceLT, Int.reduceBEq, Int.reduceBNe, Nat.reduceBEq, ptr, List.append_nil, Int.toNat_zero, Nat.sub_self, due_one, dueRow, tsk_one, planC]
    exact ⟨_, rfl, u32_wrap _⟩
  · refine Sat.skip ?_
    simp only [thenK]
    (repeat refine Sat.seq ?_)
    (refine Sat.region_k fun k hk => ?_; simp -implicitDefEqProofs only [evr, id, reduceCtorEq, reduceIte, Nat.reduceMul, Nat.reduceAdd, Nat.reduceLT, Nat.reduceLeDiff, Nat.reduceEqDiff, Int.reduceLT, Int.reduceBEq, Int.reduceBNe, Nat.reduceBEq, ptr, due_one, dueRow, tsk_one, planC, evn])
    refine wcall_plain (nextC cb 3 (by decide) (by decide)) rfl plain_next ?_
    rintro r ⟨x2, rfl, _⟩
    simp -implicitDefEqProofs only [evr, id, reduceCtorEq, reduceIte, Nat.reduceMul, Nat.reduceAdd, Nat.reduceLT, Nat.reduceLeDiff, Nat.reduceEqDiff, Int.reduceLT, Int.reduceBEq, Int.reduceBNe, Nat.reduceBEq, ptr, due_one, dueRow, tsk_one, planC, evn]
    refine ⟨by decide, ?_⟩
    refine wcall_plain (nextC cb 8 (by decide) (by decide)) rfl plain_next ?_
    rintro r ⟨x3, rfl, _⟩
    simp -implicitDefEqProofs only [evr, id, reduceCtorEq, reduceIte, Nat.reduceMul, Nat.reduceAdd, Nat.reduceLT, Nat.reduceLeDiff, Nat.reduceEqDiff, Int.reduceLT, Int.reduceBEq, Int.reduceBNe, Nat.reduceBEq, ptr, due_one, dueRow, tsk_one, planC, evn]
    (refine hk _ ?_; clear hk k; try show Sat _ _ _ _ _)
    refine Sat.ret ?_
    simp only [Tryd.results48, evr, id, reduceCtorEq, reduceIte, Nat.reduceMul, Nat.reduceAdd, Nat.reduceLT, Nat.reduceLeDiff, Nat.reduceEqDiff, Int.reduceLT, Int.reduceBEq, Int.reduceBNe, Nat.reduceBEq, ptr, List.append_nil, Int.toNat_zero, Nat.sub_self, due_one, dueRow, tsk_one, planC]
    exact ⟨_, rfl, u32_wrap _⟩
set_option maxRecDepth 100000 in
theorem intRC (cb : Nat) : Contract (Frm.codes cb) Tryd.prog 34 [ptr cb] (fun r => ∃ x : Int, r = .i .i64 x) := by
  refine contract_of Tryd.func34 rfl (by kernel_rfl) ?_
  simp only [Tryd.ntmps34, argEnv, ptr]
  (repeat refine Sat.seq ?_)
  (refine Sat.region_k fun k hk => ?_; simp -implicitDefEqProofs only [evr, id, reduceCtorEq, reduceIte, Nat.reduceMul, Nat.reduceAdd, Nat.reduceLT, Nat.reduceLeDiff, Nat.reduceEqDiff, Int.reduceLT, Int.reduceBEq, Int.reduceBNe, Nat.reduceBEq, ptr, due_one, dueRow, tsk_one, planC, evn]; refine hk _ ?_; clear hk k; try show Sat _ _ _ _ _)
  (repeat refine Sat.seq ?_)
  (refine Sat.region_k fun k hk => ?_; simp -implicitDefEqProofs only [evr, id, reduceCtorEq, reduceIte, Nat.reduceMul, Nat.reduceAdd, Nat.reduceLT, Nat.reduceLeDiff, Nat.reduceEqDiff, Int.reduceLT, Int.reduceBEq, Int.reduceBNe, Nat.reduceBEq, ptr, due_one, dueRow, tsk_one, planC, evn])
  refine wcall_plain (nextC cb 10 (by decide) (by decide)) rfl plain_next ?_
  rintro r ⟨x1, rfl, _⟩
  simp -implicitDefEqProofs only [evr, id, reduceCtorEq, reduceIte, Nat.reduceMul, Nat.reduceAdd, Nat.reduceLT, Nat.reduceLeDiff, Nat.reduceEqDiff, Int.reduceLT, Int.reduceBEq, Int.reduceBNe, Nat.reduceBEq, ptr, due_one, dueRow, tsk_one, planC, evn]
  (refine hk _ ?_; clear hk k; try show Sat _ _ _ _ _)
  (repeat refine Sat.seq ?_)
  refine Sat.block ?_
  (repeat refine Sat.seq ?_)
  (refine Sat.region_k fun k hk => ?_; simp -implicitDefEqProofs only [evr, id, reduceCtorEq, reduceIte, Nat.reduceMul, Nat.reduceAdd, Nat.reduceLT, Nat.reduceLeDiff, Nat.reduceEqDiff, Int.reduceLT, Int.reduceBEq, Int.reduceBNe, Nat.reduceBEq, ptr, due_one, dueRow, tsk_one, planC, evn]; refine hk _ ?_; clear hk k; try show Sat _ _ _ _ _)
  (repeat refine Sat.seq ?_)
  refine Sat.cond_b rfl (fun _ => ?_) (fun _ => ?_)
  · (repeat refine Sat.seq ?_)
    (refine Sat.region_k fun k hk => ?_; simp -implicitDefEqProofs only [evr, id, reduceCtorEq, reduceIte, Nat.reduceMul, Nat.reduceAdd, Nat.reduceLT, Nat.reduceLeDiff, Nat.reduceEqDiff, Int.reduceLT, Int.reduceBEq, Int.reduceBNe, Nat.reduceBEq, ptr, due_one, dueRow, tsk_one, planC, evn])
    refine wcall_plain (nextC cb 3 (by decide) (by decide)) rfl plain_next ?_
    rintro r ⟨x2, rfl, _⟩
    simp -implicitDefEqProofs only [evr, id, reduceCtorEq, reduceIte, Nat.reduceMul, Nat.reduceAdd, Nat.reduceLT, Nat.reduceLeDiff, Nat.reduceEqDiff, Int.reduceLT, Int.reduceBEq, Int.reduceBNe, Nat.reduceBEq, ptr, due_one, dueRow, tsk_one, planC, evn]
    (refine hk _ ?_; clear hk k; try show Sat _ _ _ _ _)
    refine Sat.ret ?_
    simp only [blockK, Tryd.results34, evr, id, reduceCtorEq, reduceIte, Nat.reduceMul, Nat.reduceAdd, Nat.reduceLT, Nat.reduceLeDiff, Nat.reduceEqDiff, Int.reduceLT, Int.reduceBEq, Int.reduceBNe, Nat.reduceBEq, ptr, List.append_nil, Int.toNat_zero, Nat.sub_self, due_one, dueRow, tsk_one, planC]
    exact ⟨_, rfl⟩
  · (repeat refine Sat.seq ?_)
    (refine Sat.region_k fun k hk => ?_; simp -implicitDefEqProofs only [evr, id, reduceCtorEq, reduceIte, Nat.reduceMul, Nat.reduceAdd, Nat.reduceLT, Nat.reduceLeDiff, Nat.reduceEqDiff, Int.reduceLT, Int.reduceBEq, Int.reduceBNe, Nat.reduceBEq, ptr, due_one, dueRow, tsk_one, planC, evn]; refine hk _ ?_; clear hk k; try show Sat _ _ _ _ _)
    refine Sat.cond_b rfl (fun _ => ?_) (fun _ => ?_)
    · (repeat refine Sat.seq ?_)
      (refine Sat.region_k fun k hk => ?_; simp -implicitDefEqProofs only [evr, id, reduceCtorEq, reduceIte, Nat.reduceMul, Nat.reduceAdd, Nat.reduceLT, Nat.reduceLeDiff, Nat.reduceEqDiff, Int.reduceLT, Int.reduceBEq, Int.reduceBNe, Nat.reduceBEq, ptr, due_one, dueRow, tsk_one, planC, evn])
      intro blk
      refine wcall_plain (nextC cb 14 (by decide) (by decide)) rfl plain_next ?_
      rintro r ⟨x, rfl, hx0, hx1⟩
      obtain ⟨i, rfl⟩ := Int.eq_ofNat_of_zero_le hx0
      have e := ints_at [9223372036854775807, -9223372036854775808, 1125899906842624, 1125899906842625, 65535, 65536, 255, 256, 1023, 1024, 65534, 65535, 4294967296, 4611686018427387905] i (by show i < 14; omega)
      simp only [List.map_cons, List.map_nil] at e
      simp -implicitDefEqProofs only [evr, id, reduceCtorEq, reduceIte, Nat.reduceMul, Nat.reduceAdd, Nat.reduceLT, Nat.reduceLeDiff, Nat.reduceEqDiff, Int.reduceLT, Int.reduceBEq, Int.reduceBNe, Nat.reduceBEq, ptr, due_one, dueRow, tsk_one, planC, e, evn]
      refine ⟨by omega, by omega, ?_⟩
      (refine hk _ ?_; clear hk k; try show Sat _ _ _ _ _)
      refine Sat.ret ?_
      simp only [blockK, Tryd.results34, evr, id, reduceCtorEq, reduceIte, Nat.reduceMul, Nat.reduceAdd, Nat.reduceLT, Nat.reduceLeDiff, Nat.reduceEqDiff, Int.reduceLT, Int.reduceBEq, Int.reduceBNe, Nat.reduceBEq, ptr, List.append_nil, Int.toNat_zero, Nat.sub_self, due_one, dueRow, tsk_one, planC]
      exact ⟨_, rfl⟩
    · (repeat refine Sat.seq ?_)
      (refine Sat.region_k fun k hk => ?_; simp -implicitDefEqProofs only [evr, id, reduceCtorEq, reduceIte, Nat.reduceMul, Nat.reduceAdd, Nat.reduceLT, Nat.reduceLeDiff, Nat.reduceEqDiff, Int.reduceLT, Int.reduceBEq, Int.reduceBNe, Nat.reduceBEq, ptr, due_one, dueRow, tsk_one, planC, evn]; refine hk _ ?_; clear hk k; try show Sat _ _ _ _ _)
      refine Sat.cond_b rfl (fun _ => ?_) (fun _ => ?_)
      · (repeat refine Sat.seq ?_)
        (refine Sat.region_k fun k hk => ?_; simp -implicitDefEqProofs only [evr, id, reduceCtorEq, reduceIte, Nat.reduceMul, Nat.reduceAdd, Nat.reduceLT, Nat.reduceLeDiff, Nat.reduceEqDiff, Int.reduceLT, Int.reduceBEq, Int.reduceBNe, Nat.reduceBEq, ptr, due_one, dueRow, tsk_one, planC, evn])
        refine wcall_plain (nextC cb 256 (by decide) (by decide)) rfl plain_next ?_
        rintro r ⟨x2, rfl, _⟩
        simp -implicitDefEqProofs only [evr, id, reduceCtorEq, reduceIte, Nat.reduceMul, Nat.reduceAdd, Nat.reduceLT, Nat.reduceLeDiff, Nat.reduceEqDiff, Int.reduceLT, Int.reduceBEq, Int.reduceBNe, Nat.reduceBEq, ptr, due_one, dueRow, tsk_one, planC, evn]
        refine wcall_plain (nextC cb 256 (by decide) (by decide)) rfl plain_next ?_
        rintro r ⟨x3, rfl, _⟩
        simp -implicitDefEqProofs only [evr, id, reduceCtorEq, reduceIte, Nat.reduceMul, Nat.reduceAdd, Nat.reduceLT, Nat.reduceLeDiff, Nat.reduceEqDiff, Int.reduceLT, Int.reduceBEq, Int.reduceBNe, Nat.reduceBEq, ptr, due_one, dueRow, tsk_one, planC, evn]
        (refine hk _ ?_; clear hk k; try show Sat _ _ _ _ _)
        refine Sat.ret ?_
        simp only [blockK, Tryd.results34, evr, id, reduceCtorEq, reduceIte, Nat.reduceMul, Nat.reduceAdd, Nat.reduceLT, Nat.reduceLeDiff, Nat.reduceEqDiff, Int.reduceLT, Int.reduceBEq, Int.reduceBNe, Nat.reduceBEq, ptr, List.append_nil, Int.toNat_zero, Nat.sub_self, due_one, dueRow, tsk_one, planC]
        exact ⟨_, rfl⟩
      · refine Sat.skip ?_
        simp only [thenK, blockK]
        (repeat refine Sat.seq ?_)
        (refine Sat.region_k fun k hk => ?_; simp -implicitDefEqProofs only [evr, id, reduceCtorEq, reduceIte, Nat.reduceMul, Nat.reduceAdd, Nat.reduceLT, Nat.reduceLeDiff, Nat.reduceEqDiff, Int.reduceLT, Int.reduceBEq, Int.reduceBNe, Nat.reduceBEq, ptr, due_one, dueRow, tsk_one, planC, evn])
        refine wcall_plain (nextC cb 40 (by decide) (by decide)) rfl plain_next ?_
        rintro r ⟨x2, rfl, _⟩
        simp -implicitDefEqProofs only [evr, id, reduceCtorEq, reduceIte, Nat.reduceMul, Nat.reduceAdd, Nat.reduceLT, Nat.reduceLeDiff, Nat.reduceEqDiff, Int.reduceLT, Int.reduceBEq, Int.reduceBNe, Nat.reduceBEq, ptr, due_one, dueRow, tsk_one, planC, evn]
        (refine hk _ ?_; clear hk k; try show Sat _ _ _ _ _)
        refine Sat.ret ?_
        simp only [Tryd.results34, evr, id, reduceCtorEq, reduceIte, Nat.reduceMul, Nat.reduceAdd, Nat.reduceLT, Nat.reduceLeDiff, Nat.reduceEqDiff, Int.reduceLT, Int.reduceBEq, Int.reduceBNe, Nat.reduceBEq, ptr, List.append_nil, Int.toNat_zero, Nat.sub_self, due_one, dueRow, tsk_one, planC]
        exact ⟨_, rfl⟩
def netS : SV := .agg 3 fun j => [SV.sl none 0 0 0 fun _ _ => .v undef, .sl none 0 0 0 fun _ _ => .v undef, .sl none 0 0 0 fun _ _ => .v undef].getD j default
set_option maxRecDepth 100000 in
theorem someC (cb : Nat) : Contract (Frm.codes cb) Tryd.prog 33 [ptr cb, netS] (fun r => ∃ x : Int, r = .i .u32 x ∧ u32 x) := by
  refine contract_of Tryd.func33 rfl (by kernel_rfl) ?_
  simp only [Tryd.ntmps33, argEnv, ptr, netS]
  (repeat refine Sat.seq ?_)
  (refine Sat.region_k fun k hk => ?_; simp -implicitDefEqProofs only [evr, id, reduceCtorEq, reduceIte, Nat.reduceMul, Nat.reduceAdd, Nat.reduceLT, Nat.reduceLeDiff, Nat.reduceEqDiff, Int.reduceLT, Int.reduceBEq, Int.reduceBNe, Nat.reduceBEq, ptr, due_one, dueRow, tsk_one, planC, evn])
  intro b3
  (refine hk _ ?_; clear hk k; try show Sat _ _ _ _ _)
  (repeat refine Sat.seq ?_)
  (refine Sat.region_k fun k hk => ?_; simp -implicitDefEqProofs only [evr, id, reduceCtorEq, reduceIte, Nat.reduceMul, Nat.reduceAdd, Nat.reduceLT, Nat.reduceLeDiff, Nat.reduceEqDiff, Int.reduceLT, Int.reduceBEq, Int.reduceBNe, Nat.reduceBEq, ptr, due_one, dueRow, tsk_one, planC, evn]; refine hk _ ?_; clear hk k; try show Sat _ _ _ _ _)
  refine Sat.cond_b rfl (fun _ => ?_) (fun h => absurd h (by decide))
  (repeat refine Sat.seq ?_)
  (refine Sat.region_k fun k hk => ?_; simp -implicitDefEqProofs only [evr, id, reduceCtorEq, reduceIte, Nat.reduceMul, Nat.reduceAdd, Nat.reduceLT, Nat.reduceLeDiff, Nat.reduceEqDiff, Int.reduceLT, Int.reduceBEq, Int.reduceBNe, Nat.reduceBEq, ptr, due_one, dueRow, tsk_one, planC, evn])
  refine wcall_plain (addressRC cb) rfl plain_addr ?_
  rintro r ⟨x, rfl, hx⟩
  simp -implicitDefEqProofs only [evr, id, reduceCtorEq, reduceIte, Nat.reduceMul, Nat.reduceAdd, Nat.reduceLT, Nat.reduceLeDiff, Nat.reduceEqDiff, Int.reduceLT, Int.reduceBEq, Int.reduceBNe, Nat.reduceBEq, ptr, due_one, dueRow, tsk_one, planC, evn]
  (refine hk _ ?_; clear hk k; try show Sat _ _ _ _ _)
  refine Sat.ret ?_
  simp only [Tryd.results33, evr, id, reduceCtorEq, reduceIte, Nat.reduceMul, Nat.reduceAdd, Nat.reduceLT, Nat.reduceLeDiff, Nat.reduceEqDiff, Int.reduceLT, Int.reduceBEq, Int.reduceBNe, Nat.reduceBEq, ptr, List.append_nil, Int.toNat_zero, Nat.sub_self, due_one, dueRow, tsk_one, planC]
  exact ⟨x, rfl, hx⟩
structure AnyP (p : PlanP) : Prop where
  len : p.ts.length ≤ 4
  ts : ∀ t ∈ p.ts, u32 t.dst
set_option maxRecDepth 100000 in
theorem drawPlanC0 (cb : Nat) : Contract (Frm.codes cb) Tryd.prog 14 [ptr cb, netS] (fun r => ∃ (p : PlanP) (f : Nat → SV), AnyP p ∧ r = .agg 3 f ∧ sim (f 0) (.sl p.a p.ts.length p.cap 7 (tskRd p.ts)) ∧ f 1 = .i .i64 p.burst ∧ f 2 = .i .i64 p.every) := by
  refine contract_of Tryd.func14 rfl (by kernel_rfl) ?_
  simp only [Tryd.ntmps14, argEnv, ptr, netS]
  (repeat refine Sat.seq ?_)
  (refine Sat.region_k fun k hk => ?_; simp -implicitDefEqProofs only [evr, id, reduceCtorEq, reduceIte, Nat.reduceMul, Nat.reduceAdd, Nat.reduceLT, Nat.reduceLeDiff, Nat.reduceEqDiff, Int.reduceLT, Int.reduceBEq, Int.reduceBNe, Nat.reduceBEq, ptr, due_one, dueRow, tsk_one, planC, evn])
  intro b2 b3
  (refine hk _ ?_; clear hk k; try show Sat _ _ _ _ _)
  (repeat refine Sat.seq ?_)
  (refine Sat.region_k fun k hk => ?_; simp -implicitDefEqProofs only [evr, id, reduceCtorEq, reduceIte, Nat.reduceMul, Nat.reduceAdd, Nat.reduceLT, Nat.reduceLeDiff, Nat.reduceEqDiff, Int.reduceLT, Int.reduceBEq, Int.reduceBNe, Nat.reduceBEq, ptr, due_one, dueRow, tsk_one, planC, evn])
  refine wcall_plain (bucketC cb) rfl (by rintro _ ⟨b, e, _, rfl⟩; exact ok_aggL (l := [SV.i .i64 b, .i .i64 e]) rfl) ?_
  rintro r ⟨b, e, hbk, rfl⟩
  simp -implicitDefEqProofs only [evr, id, reduceCtorEq, reduceIte, Nat.reduceMul, Nat.reduceAdd, Nat.reduceLT, Nat.reduceLeDiff, Nat.reduceEqDiff, Int.reduceLT, Int.reduceBEq, Int.reduceBNe, Nat.reduceBEq, ptr, due_one, dueRow, tsk_one, planC, evn]
  intro b5
  (refine hk _ ?_; clear hk k; try show Sat _ _ _ _ _)
  refine Sat.adoptBox 2 0 56 7 (tskRd []) rfl rfl ?_
  simp -implicitDefEqProofs only [evr, id, reduceCtorEq, reduceIte, Nat.reduceMul, Nat.reduceAdd, Nat.reduceLT, Nat.reduceLeDiff, Nat.reduceEqDiff, Int.reduceLT, Int.reduceBEq, Int.reduceBNe, Nat.reduceBEq, ptr, due_one, dueRow, tsk_one, planC, evn]
  (repeat refine Sat.seq ?_)
  (refine Sat.region_k fun k hk => ?_; simp -implicitDefEqProofs only [evr, id, reduceCtorEq, reduceIte, Nat.reduceMul, Nat.reduceAdd, Nat.reduceLT, Nat.reduceLeDiff, Nat.reduceEqDiff, Int.reduceLT, Int.reduceBEq, Int.reduceBNe, Nat.reduceBEq, ptr, due_one, dueRow, tsk_one, planC, evn])
  refine wcall_plain (nextC cb 5 (by decide) (by decide)) rfl plain_next ?_
  rintro r ⟨x, rfl, hx0, hx1⟩
  obtain ⟨m, rfl⟩ := Int.eq_ofNat_of_zero_le hx0
  simp -implicitDefEqProofs only [evr, id, reduceCtorEq, reduceIte, Nat.reduceMul, Nat.reduceAdd, Nat.reduceLT, Nat.reduceLeDiff, Nat.reduceEqDiff, Int.reduceLT, Int.reduceBEq, Int.reduceBNe, Nat.reduceBEq, ptr, due_one, dueRow, tsk_one, planC, evn]
  (refine hk _ ?_; clear hk k; try show Sat _ _ _ _ _)
  (repeat refine Sat.seq ?_)
  refine Sat.block ?_
  refine Sat.loop (ι := Nat × Option Addr × Nat × List Tsk) (fun x => ⟨55, [(6, .i .i64 x.1), (0, ptr cb), (3, .op 0 b2 0), (5, .op 2 b5 0), (4, .op 1 b3 0)],
      [.box b2 47 [.sl none 0 0 0 fun _ _ => .v undef, .sl none 0 0 0 fun _ _ => .v undef, .sl none 0 0 0 fun _ _ => .v undef], .box b3 28 [.sl none 0 0 0 fun _ _ => .v undef, .i .i64 0, .i .i64 0], .box b5 28 [.os 3 x.2.1 x.2.2.2.length x.2.2.1, .i .i64 b, .i .i64 e], .row x.2.1 56 x.2.2.2.length x.2.2.1 7 (tskRd x.2.2.2)]⟩)
    (fun x => x.1 + x.2.2.2.length ≤ 4 ∧ ∀ t ∈ x.2.2.2, u32 t.dst) (fun x => x.1) (m, none, 0, []) ⟨by show m + 0 ≤ 4; omega, fun t h => by cases h⟩ (by simp -implicitDefEqProofs only [evr, id, reduceCtorEq, reduceIte, Nat.reduceMul, Nat.reduceAdd, Nat.reduceLT, Nat.reduceLeDiff, Nat.reduceEqDiff, Int.reduceLT, Int.reduceBEq, Int.reduceBNe, Nat.reduceBEq, ptr, due_one, dueRow, tsk_one, planC, evl, evn]; repeat' (first | rfl | (refine And.intro ?_ ?_))) ?_
  rintro ⟨k', xa, xc, ts⟩ ⟨hk1, hts⟩
  simp only at hk1 hts ⊢
  (repeat refine Sat.seq ?_)
  (refine Sat.region_k fun k hk => ?_; simp -implicitDefEqProofs only [evr, id, reduceCtorEq, reduceIte, Nat.reduceMul, Nat.reduceAdd, Nat.reduceLT, Nat.reduceLeDiff, Nat.reduceEqDiff, Int.reduceLT, Int.reduceBEq, Int.reduceBNe, Nat.reduceBEq, ptr, due_one, dueRow, tsk_one, planC, evn]; refine hk _ ?_; clear hk k; try show Sat _ _ _ _ _)
  (repeat refine Sat.seq ?_)
  refine Sat.cond_b rfl (fun h => ?_) (fun h => ?_)
  · have h1 : 0 < k' := by simp only [decide_eq_true_eq] at h; omega
    have e3 : IntKind.i64.wrap ((k' : Int) - 1) = ((k' - 1 : Nat) : Int) := by rw [w64 (by omega)]; omega
    refine Sat.skip ?_
    simp only [thenK]
    (repeat refine Sat.seq ?_)
    refine Sat.block ?_
    (repeat refine Sat.seq ?_)
    (refine Sat.region_k fun k hk => ?_; simp -implicitDefEqProofs only [evr, id, reduceCtorEq, reduceIte, Nat.reduceMul, Nat.reduceAdd, Nat.reduceLT, Nat.reduceLeDiff, Nat.reduceEqDiff, Int.reduceLT, Int.reduceBEq, Int.reduceBNe, Nat.reduceBEq, ptr, due_one, dueRow, tsk_one, planC, evn])
    refine wcall_plain (someC cb) rfl plain_addr ?_
    rintro r ⟨ds, rfl, hds⟩
    simp -implicitDefEqProofs only [evr, id, reduceCtorEq, reduceIte, Nat.reduceMul, Nat.reduceAdd, Nat.reduceLT, Nat.reduceLeDiff, Nat.reduceEqDiff, Int.reduceLT, Int.reduceBEq, Int.reduceBNe, Nat.reduceBEq, ptr, due_one, dueRow, tsk_one, planC, evn]
    refine wcall_plain (protoC cb) rfl (by rintro _ ⟨x, rfl, _⟩; exact ok_plain rfl) ?_
    rintro r ⟨pr, rfl, hpr⟩
    simp -implicitDefEqProofs only [evr, id, reduceCtorEq, reduceIte, Nat.reduceMul, Nat.reduceAdd, Nat.reduceLT, Nat.reduceLeDiff, Nat.reduceEqDiff, Int.reduceLT, Int.reduceBEq, Int.reduceBNe, Nat.reduceBEq, ptr, due_one, dueRow, tsk_one, planC, evn]
    refine wcall_plain (nextC cb 4 (by decide) (by decide)) rfl plain_next ?_
    rintro r ⟨fl, rfl, hfl0, hfl1⟩
    simp -implicitDefEqProofs only [evr, id, reduceCtorEq, reduceIte, Nat.reduceMul, Nat.reduceAdd, Nat.reduceLT, Nat.reduceLeDiff, Nat.reduceEqDiff, Int.reduceLT, Int.reduceBEq, Int.reduceBNe, Nat.reduceBEq, ptr, due_one, dueRow, tsk_one, planC, evn]
    refine wcall_plain (nextC cb 7 (by decide) (by decide)) rfl plain_next ?_
    rintro r ⟨tt, rfl, htt0, htt1⟩
    have qtt : IntKind.i64.wrap (1 + tt) = 1 + tt := w64 (by omega)
    simp -implicitDefEqProofs only [evr, id, reduceCtorEq, reduceIte, Nat.reduceMul, Nat.reduceAdd, Nat.reduceLT, Nat.reduceLeDiff, Nat.reduceEqDiff, Int.reduceLT, Int.reduceBEq, Int.reduceBNe, Nat.reduceBEq, ptr, due_one, dueRow, tsk_one, planC, qtt, evn]
    refine wcall_plain (nextC cb 50 (by decide) (by decide)) rfl plain_next ?_
    rintro r ⟨st, rfl, hst0, hst1⟩
    simp -implicitDefEqProofs only [evr, id, reduceCtorEq, reduceIte, Nat.reduceMul, Nat.reduceAdd, Nat.reduceLT, Nat.reduceLeDiff, Nat.reduceEqDiff, Int.reduceLT, Int.reduceBEq, Int.reduceBNe, Nat.reduceBEq, ptr, due_one, dueRow, tsk_one, planC, evn]
    refine wcall_plain (nextC cb 30 (by decide) (by decide)) rfl plain_next ?_
    rintro r ⟨ev, rfl, hev0, hev1⟩
    have qev : IntKind.i64.wrap (1 + ev) = 1 + ev := w64 (by omega)
    simp -implicitDefEqProofs only [evr, id, reduceCtorEq, reduceIte, Nat.reduceMul, Nat.reduceAdd, Nat.reduceLT, Nat.reduceLeDiff, Nat.reduceEqDiff, Int.reduceLT, Int.reduceBEq, Int.reduceBNe, Nat.reduceBEq, ptr, due_one, dueRow, tsk_one, planC, qev, evn]
    refine wcall_plain (nextC cb 8 (by decide) (by decide)) rfl plain_next ?_
    rintro r ⟨ct, rfl, hct0, hct1⟩
    have qct : IntKind.i64.wrap (1 + ct) = 1 + ct := w64 (by omega)
    simp -implicitDefEqProofs only [evr, id, reduceCtorEq, reduceIte, Nat.reduceMul, Nat.reduceAdd, Nat.reduceLT, Nat.reduceLeDiff, Nat.reduceEqDiff, Int.reduceLT, Int.reduceBEq, Int.reduceBNe, Nat.reduceBEq, ptr, due_one, dueRow, tsk_one, planC, qct, evn]
    intro b7
    (refine hk _ ?_; clear hk k; try show Sat _ _ _ _ _)
    (repeat refine Sat.seq ?_)
    (refine Sat.region_k fun k hk => ?_; simp -implicitDefEqProofs only [evr, id, reduceCtorEq, reduceIte, Nat.reduceMul, Nat.reduceAdd, Nat.reduceLT, Nat.reduceLeDiff, Nat.reduceEqDiff, Int.reduceLT, Int.reduceBEq, Int.reduceBNe, Nat.reduceBEq, ptr, due_one, dueRow, tsk_one, planC, evn])
    refine wcall_plain (nextC cb 14 (by decide) (by decide)) rfl plain_next ?_
    rintro r ⟨y, rfl, _⟩
    simp -implicitDefEqProofs only [evr, id, reduceCtorEq, reduceIte, Nat.reduceMul, Nat.reduceAdd, Nat.reduceLT, Nat.reduceLeDiff, Nat.reduceEqDiff, Int.reduceLT, Int.reduceBEq, Int.reduceBNe, Nat.reduceBEq, ptr, due_one, dueRow, tsk_one, planC, evn]
    (refine hk _ ?_; clear hk k; try show Sat _ _ _ _ _)
    (repeat refine Sat.seq ?_)
    refine Sat.join (fun z : Int × Int × Int => ⟨55, [(7, .op 4 b7 0), (6, .i .i64 k'), (0, ptr cb), (3, .op 0 b2 0), (5, .op 2 b5 0), (4, .op 1 b3 0)],
      [.box b2 47 [.sl none 0 0 0 fun _ _ => .v undef, .sl none 0 0 0 fun _ _ => .v undef, .sl none 0 0 0 fun _ _ => .v undef], .box b3 28 [.sl none 0 0 0 fun _ _ => .v undef, .i .i64 0, .i .i64 0], .box b5 28 [.os 3 xa ts.length xc, .i .i64 b, .i .i64 e], .row xa 56 ts.length xc 7 (tskRd ts),
        .box b7 56 [.i .u32 ds, .i .i64 pr, .i .i64 z.1, .i .i64 (1 + tt), .i .i64 st, .i .i64 z.2.1, .i .i64 z.2.2]]⟩) (fun _ => True) ?_ (fun z _ => ?_)
    · refine Sat.cond_b rfl (fun _ => ?_) (fun _ => ?_)
      · (refine Sat.region_k fun k hk => ?_; simp -implicitDefEqProofs only [evr, id, reduceCtorEq, reduceIte, Nat.reduceMul, Nat.reduceAdd, Nat.reduceLT, Nat.reduceLeDiff, Nat.reduceEqDiff, Int.reduceLT, Int.reduceBEq, Int.reduceBNe, Nat.reduceBEq, ptr, due_one, dueRow, tsk_one, planC, evn])
        refine wcall_plain (intRC cb) rfl plain_int ?_
        rintro r ⟨z1, rfl⟩
        simp -implicitDefEqProofs only [evr, id, reduceCtorEq, reduceIte, Nat.reduceMul, Nat.reduceAdd, Nat.reduceLT, Nat.reduceLeDiff, Nat.reduceEqDiff, Int.reduceLT, Int.reduceBEq, Int.reduceBNe, Nat.reduceBEq, ptr, due_one, dueRow, tsk_one, planC, evn]
        refine wcall_plain (intRC cb) rfl plain_int ?_
        rintro r ⟨z2, rfl⟩
        simp -implicitDefEqProofs only [evr, id, reduceCtorEq, reduceIte, Nat.reduceMul, Nat.reduceAdd, Nat.reduceLT, Nat.reduceLeDiff, Nat.reduceEqDiff, Int.reduceLT, Int.reduceBEq, Int.reduceBNe, Nat.reduceBEq, ptr, due_one, dueRow, tsk_one, planC, evn]
        refine wcall_plain (intRC cb) rfl plain_int ?_
        rintro r ⟨z3, rfl⟩
        simp -implicitDefEqProofs only [evr, id, reduceCtorEq, reduceIte, Nat.reduceMul, Nat.reduceAdd, Nat.reduceLT, Nat.reduceLeDiff, Nat.reduceEqDiff, Int.reduceLT, Int.reduceBEq, Int.reduceBNe, Nat.reduceBEq, ptr, due_one, dueRow, tsk_one, planC, evn]
        refine hk _ ?_
        simp only [thenK]
        refine ⟨(z1, z2, z3), trivial, ?_⟩
        simp -implicitDefEqProofs only [evr, id, reduceCtorEq, reduceIte, Nat.reduceMul, Nat.reduceAdd, Nat.reduceLT, Nat.reduceLeDiff, Nat.reduceEqDiff, Int.reduceLT, Int.reduceBEq, Int.reduceBNe, Nat.reduceBEq, ptr, due_one, dueRow, tsk_one, planC, evl, evn]
        repeat' (first | rfl | (refine And.intro ?_ ?_))
      · refine Sat.skip ?_
        simp only [thenK]
        refine ⟨(fl, 1 + ev, 1 + ct), trivial, ?_⟩
        simp -implicitDefEqProofs only [evr, id, reduceCtorEq, reduceIte, Nat.reduceMul, Nat.reduceAdd, Nat.reduceLT, Nat.reduceLeDiff, Nat.reduceEqDiff, Int.reduceLT, Int.reduceBEq, Int.reduceBNe, Nat.reduceBEq, ptr, due_one, dueRow, tsk_one, planC, evl, evn]
        repeat' (first | rfl | (refine And.intro ?_ ?_))
    obtain ⟨z1, z2, z3⟩ := z
    simp only [ptr]
    refine Sat.region_k fun k hk => ?_
    simp -implicitDefEqProofs only [evr, id, reduceCtorEq, reduceIte, Nat.reduceMul, Nat.reduceAdd, Nat.reduceLT, Nat.reduceLeDiff, Nat.reduceEqDiff, Int.reduceLT, Int.reduceBEq, Int.reduceBNe, Nat.reduceBEq, ptr, due_one, dueRow, tsk_one, planC, evn]
    intro blk
    refine ⟨⟨by unfold maxLen; omega, by omega⟩, fun a2 cap2 => ?_⟩
    refine hk _ ?_
    simp only [thenK, blockK]
    refine Sat.region_k fun k hk => ?_
    simp -implicitDefEqProofs only [evr, id, reduceCtorEq, reduceIte, Nat.reduceMul, Nat.reduceAdd, Nat.reduceLT, Nat.reduceLeDiff, Nat.reduceEqDiff, Int.reduceLT, Int.reduceBEq, Int.reduceBNe, Nat.reduceBEq, ptr, due_one, dueRow, tsk_one, planC, e3, evn]
    refine hk _ ?_
    simp only [thenK, blockK]
    have ea := tsk_app ts ⟨ds, pr, z1, 1 + tt, st, z2, z3⟩
    refine ⟨(k' - 1, a2, cap2, ts ++ [⟨ds, pr, z1, 1 + tt, st, z2, z3⟩]), ⟨by simp only [List.length_append, List.length_cons, List.length_nil]; omega, fun t ht => ?_⟩, by simp only; omega, ?_⟩
    · simp only [List.mem_append, List.mem_cons, List.not_mem_nil, or_false] at ht
      rcases ht with ht | rfl
      · exact hts t ht
      · exact hds
    · simp only [List.length_append, List.length_cons, List.length_nil]
      simp -implicitDefEqProofs only [evr, id, reduceCtorEq, reduceIte, Nat.reduceMul, Nat.reduceAdd, Nat.reduceLT, Nat.reduceLeDiff, Nat.reduceEqDiff, Int.reduceLT, Int.reduceBEq, Int.reduceBNe, Nat.reduceBEq, ptr, due_one, dueRow, tsk_one, planC, evl, evn]
      repeat' (first | exact ea | rfl | (refine And.intro ?_ ?_))
  · refine Sat.exit ?_
    simp only [thenK, blockK, reduceIte]
    (repeat refine Sat.seq ?_)
    (refine Sat.region_k fun k hk => ?_; simp -implicitDefEqProofs only [evr, id, reduceCtorEq, reduceIte, Nat.reduceMul, Nat.reduceAdd, Nat.reduceLT, Nat.reduceLeDiff, Nat.reduceEqDiff, Int.reduceLT, Int.reduceBEq, Int.reduceBNe, Nat.reduceBEq, ptr, due_one, dueRow, tsk_one, planC, evn]; refine hk _ ?_; clear hk k; try show Sat _ _ _ _ _)
    refine Sat.ret ?_
    simp only [Tryd.results14, evr, id, reduceCtorEq, reduceIte, Nat.reduceMul, Nat.reduceAdd, Nat.reduceLT, Nat.reduceLeDiff, Nat.reduceEqDiff, Int.reduceLT, Int.reduceBEq, Int.reduceBNe, Nat.reduceBEq, ptr, List.append_nil, Int.toNat_zero, Nat.sub_self, due_one, dueRow, tsk_one, planC]
    refine ⟨⟨xa, xc, ts, b, e⟩, _, ⟨by simp only; omega, hts⟩, rfl, ?_, ?_, ?_⟩
    all_goals simp -implicitDefEqProofs only [evr, id, reduceCtorEq, reduceIte, Nat.reduceMul, Nat.reduceAdd, Nat.reduceLT, Nat.reduceLeDiff, Nat.reduceEqDiff, Int.reduceLT, Int.reduceBEq, Int.reduceBNe, Nat.reduceBEq, ptr, due_one, dueRow, tsk_one, planC, evn]
    exact sim_refl _
theorem drawPlanC (cb : Nat) : Contract (Frm.codes cb) Tryd.prog 14 [ptr cb, netS] (fun r => ∃ p : PlanP, AnyP p ∧ r = planS p) :=
  (drawPlanC0 cb).same fun r ⟨p, f, h1, h2, h3, h4, h5⟩ => ⟨planS p, by
    rw [h2]
    exact sim_agg3 h3 (by rw [h4]; exact sim_refl _) (by rw [h5]; exact sim_refl _), p, h1, rfl⟩
end Go.Proofs.YtgimngpcfenoaaaDoor
