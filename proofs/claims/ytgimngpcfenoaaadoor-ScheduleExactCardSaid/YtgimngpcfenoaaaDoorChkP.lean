/- The error of a plan: schedule.task, schedule.Check, bucket.Check, by the evaluator. -/
import Derived.Test.YtgimngpcfenoaaaDoorSpdP
import Derived.Test.YtgimngpcfenoaaaDoorLimM
set_option linter.unusedSimpArgs false
set_option linter.unusedVariables false
namespace Go.Proofs.YtgimngpcfenoaaaDoor
open Go.Sort Eng
namespace Eng
theorem useMF {P : Program} {F F' : Frm} {cb : Nat} {f : FuncId} {args : List SV} {post : SV → Prop} (hM : ∀ b, F'.M b ↔ b = cb) (h : Contract F' P f args post) : ContractM F P f args (.res cb F'.Inv) (fun r o1 => post r ∧ o1 = .gone) := by
  refine ⟨h.enters, fun R w ob hinv hobM hobw ho0 hargs hR => ?_⟩
  obtain ⟨h1, h2, h3, h4⟩ := ho0
  refine (h.calls R w (h4 w fun _ _ => rfl) hargs (fun b hb => ⟨(hR b hb).1, fun hm => by rw [hM] at hm; subst hm; exact h2 hb⟩)).mono ?_
  rintro e w' ⟨r, rfl, hpost, hrok, hevo, _⟩
  exact ⟨r, .gone, _, rfl, ⟨hpost, rfl⟩, fun b hb => .inl hb, fun b hb => hb, hrok, (fun b hb => by cases hb), trivial, ⟨hevo.os, hevo.tape, hevo.output, hevo.size, fun b hb hm => hevo.block b hb fun hf => hm (.inr (by rw [(hM b).1 hf]; rfl))⟩,
    F.stab w w' ob hinv hobM fun b hb => hevo.block b (by omega) fun hf => by have := (hM b).1 hf; omega⟩
end Eng
def tskS (t : Tsk) : SV := .agg 7 fun j => (Tsk.cs t).getD j default
def okProto (t : Tsk) : Prop := t.proto = 1 ∨ t.proto = 6 ∨ t.proto = 17
def okEnd (t : Tsk) : Prop := t.start + (t.count - 1) * t.every ≤ 1125899906842624
def okRange (t : Tsk) : Prop := (0 ≤ t.flow ∧ t.flow ≤ 1023) ∧ (1 ≤ t.ttl ∧ t.ttl ≤ 255) ∧ (0 ≤ t.start ∧ t.start ≤ 1125899906842624) ∧ (1 ≤ t.every ∧ t.every ≤ 1099511627776) ∧ (1 ≤ t.count ∧ t.count ≤ 1000) ∧ okEnd t
def okAddr (t : Tsk) : Prop := spc t.dst.toNat = 0 ∨ spc t.dst.toNat = 3
instance (t : Tsk) : Decidable (okProto t) := by unfold okProto; infer_instance
instance (t : Tsk) : Decidable (okEnd t) := by unfold okEnd; infer_instance
instance (t : Tsk) : Decidable (okRange t) := by unfold okRange; infer_instance
instance (t : Tsk) : Decidable (okAddr t) := by unfold okAddr; infer_instance
def taskErr (t : Tsk) : Int := if okProto t then if okRange t then if okAddr t then 0 else 10 else 1 else 16
def tasksErr : List Tsk → Int
  | [] => 0
  | t :: ts => if taskErr t ≠ 0 then taskErr t else tasksErr ts
def okBk (b e : Int) : Prop := (b = 0 ∧ e = 0) ∨ (1 ≤ b ∧ b ≤ 65536 ∧ 1 ≤ e ∧ e ≤ 1073741824)
instance (b e : Int) : Decidable (okBk b e) := by unfold okBk; infer_instance
def bkErr (b e : Int) : Int := if okBk b e then 0 else 1
def planErr (p : PlanP) : Int := if 64 < p.ts.length then 5 else if tasksErr p.ts ≠ 0 then tasksErr p.ts else bkErr p.burst p.every
set_option maxRecDepth 100000 in
theorem bkCheckC (F : Frm) (b e : Int) : Contract F Tryd.prog 32 [bkS b e] (fun r => r = .i .i64 (bkErr b e)) := by
  have hul := unlimC F b e
  refine contract_of Tryd.func32 rfl (by kernel_rfl) ?_
  simp only [Tryd.ntmps32, argEnv, bkS, bkL]
  (repeat refine Sat.seq ?_)
  (refine Sat.region_k fun k hk => ?_; simp -implicitDefEqProofs only [evr, id, reduceCtorEq, reduceIte, Nat.reduceMul, Nat.reduceAdd, Nat.reduceLT, Nat.reduceLeDiff, Nat.reduceEqDiff, Int.reduceLT, Int.reduceBEq, Int.reduceBNe, Nat.reduceBEq, planC, tsk_one, bk_eq, sh1, evn])
  intro b1
  (refine hk _ ?_; clear hk k; try show Sat _ _ _ _ _)
  (repeat refine Sat.seq ?_)
  refine Sat.region_at ⟨26, [(25, .b (decide (¬ okBk b e)))], []⟩ (fun k hk => ?_) ?_
  · simp -implicitDefEqProofs only [evr, id, reduceCtorEq, reduceIte, Nat.reduceMul, Nat.reduceAdd, Nat.reduceLT, Nat.reduceLeDiff, Nat.reduceEqDiff, Int.reduceLT, Int.reduceBEq, Int.reduceBNe, Nat.reduceBEq, planC, tsk_one, bk_eq, sh1, evn]
    refine wcall_plain hul rfl (by rintro _ rfl; exact ok_plain rfl) ?_
    rintro r rfl
    simp -implicitDefEqProofs only [evr, id, reduceCtorEq, reduceIte, Nat.reduceMul, Nat.reduceAdd, Nat.reduceLT, Nat.reduceLeDiff, Nat.reduceEqDiff, Int.reduceLT, Int.reduceBEq, Int.reduceBNe, Nat.reduceBEq, planC, tsk_one, bk_eq, sh1, evn]
    simp only [Bool.not_eq_true', Bool.not_eq_false', Bool.and_eq_true, Bool.and_eq_false_iff, beq_iff_eq, beq_eq_false_iff_ne]
    repeat' (first
      | (with_reducible refine And.intro ?_ ?_)
      | (with_reducible intro hh)
      | (with_reducible refine hk _ ?_
         first
         | (have e9 : decide (¬ okBk b e) = true := decide_eq_true (by unfold okBk; omega)
            simp only [e9]
            simp -implicitDefEqProofs only [evr, id, reduceCtorEq, reduceIte, Nat.reduceMul, Nat.reduceAdd, Nat.reduceLT, Nat.reduceLeDiff, Nat.reduceEqDiff, Int.reduceLT, Int.reduceBEq, Int.reduceBNe, Nat.reduceBEq, planC, tsk_one, bk_eq, sh1, evl, evn]
            done)
         | (have e9 : decide (¬ okBk b e) = false := decide_eq_false (by unfold okBk; omega)
            simp only [e9]
            simp -implicitDefEqProofs only [evr, id, reduceCtorEq, reduceIte, Nat.reduceMul, Nat.reduceAdd, Nat.reduceLT, Nat.reduceLeDiff, Nat.reduceEqDiff, Int.reduceLT, Int.reduceBEq, Int.reduceBNe, Nat.reduceBEq, planC, tsk_one, bk_eq, sh1, evl, evn]
            done)
         | (have e9 : decide (¬ okBk b e) = decide (1073741824 < e) := by
              unfold okBk
              by_cases h9 : 1073741824 < e
              · rw [decide_eq_true h9, decide_eq_true_eq]; omega
              · rw [decide_eq_false h9, decide_eq_false_iff_not]; omega
            simp only [e9]
            simp -implicitDefEqProofs only [evr, id, reduceCtorEq, reduceIte, Nat.reduceMul, Nat.reduceAdd, Nat.reduceLT, Nat.reduceLeDiff, Nat.reduceEqDiff, Int.reduceLT, Int.reduceBEq, Int.reduceBNe, Nat.reduceBEq, planC, tsk_one, bk_eq, sh1, evl, evn]
            done)))
  refine Sat.cond_b rfl (fun h => ?_) (fun h => ?_)
  · (repeat refine Sat.seq ?_)
    (refine Sat.region_k fun k hk => ?_; simp -implicitDefEqProofs only [evr, id, reduceCtorEq, reduceIte, Nat.reduceMul, Nat.reduceAdd, Nat.reduceLT, Nat.reduceLeDiff, Nat.reduceEqDiff, Int.reduceLT, Int.reduceBEq, Int.reduceBNe, Nat.reduceBEq, planC, tsk_one, bk_eq, sh1, evn]; refine hk _ ?_; clear hk k; try show Sat _ _ _ _ _)
    refine Sat.ret ?_
    simp only [Tryd.results32, evr, id, reduceCtorEq, reduceIte, Nat.reduceMul, Nat.reduceAdd, Nat.reduceLT, Nat.reduceLeDiff, Nat.reduceEqDiff, Int.reduceLT, Int.reduceBEq, Int.reduceBNe, Nat.reduceBEq, List.append_nil, Int.toNat_zero, Nat.sub_self, planC, tsk_one, bk_eq, sh1]
    unfold bkErr
    rw [if_neg (of_decide_eq_true h)]
  · refine Sat.skip ?_
    simp only [thenK]
    (repeat refine Sat.seq ?_)
    (refine Sat.region_k fun k hk => ?_; simp -implicitDefEqProofs only [evr, id, reduceCtorEq, reduceIte, Nat.reduceMul, Nat.reduceAdd, Nat.reduceLT, Nat.reduceLeDiff, Nat.reduceEqDiff, Int.reduceLT, Int.reduceBEq, Int.reduceBNe, Nat.reduceBEq, planC, tsk_one, bk_eq, sh1, evn]; refine hk _ ?_; clear hk k; try show Sat _ _ _ _ _)
    refine Sat.ret ?_
    simp only [Tryd.results32, evr, id, reduceCtorEq, reduceIte, Nat.reduceMul, Nat.reduceAdd, Nat.reduceLT, Nat.reduceLeDiff, Nat.reduceEqDiff, Int.reduceLT, Int.reduceBEq, Int.reduceBNe, Nat.reduceBEq, List.append_nil, Int.toNat_zero, Nat.sub_self, planC, tsk_one, bk_eq, sh1]
    unfold bkErr
    rw [if_pos (Decidable.not_not.1 (of_decide_eq_false h))]
set_option maxRecDepth 100000 in
theorem taskC (t : Tsk) (ht : 0 ≤ t.dst ∧ t.dst < 4294967296) : Contract FrT Tryd.prog 31 [tskS t] (fun r => r = .i .i64 (taskErr t)) := by
  have hsp := specialC t.dst.toNat (by omega)
  rw [show ((t.dst.toNat : Nat) : Int) = t.dst by omega] at hsp
  refine contract_of Tryd.func31 rfl (by kernel_rfl) ?_
  simp only [Tryd.ntmps31, argEnv, tskS, Tsk.cs]
  (repeat refine Sat.seq ?_)
  (refine Sat.region_k fun k hk => ?_; simp -implicitDefEqProofs only [evr, id, reduceCtorEq, reduceIte, Nat.reduceMul, Nat.reduceAdd, Nat.reduceLT, Nat.reduceLeDiff, Nat.reduceEqDiff, Int.reduceLT, Int.reduceBEq, Int.reduceBNe, Nat.reduceBEq, planC, tsk_one, bk_eq, sh1, evn])
  intro b1
  (refine hk _ ?_; clear hk k; try show Sat _ _ _ _ _)
  (repeat refine Sat.seq ?_)
  (refine Sat.region_k fun k hk => ?_; simp -implicitDefEqProofs only [evr, id, reduceCtorEq, reduceIte, Nat.reduceMul, Nat.reduceAdd, Nat.reduceLT, Nat.reduceLeDiff, Nat.reduceEqDiff, Int.reduceLT, Int.reduceBEq, Int.reduceBNe, Nat.reduceBEq, planC, tsk_one, bk_eq, sh1, evn]; refine hk _ ?_; clear hk k; try show Sat _ _ _ _ _)
  try refine Sat.seq ?_
  refine Sat.block ?_
  refine Sat.seq ?_
  refine Sat.join (fun _ : Unit => ⟨70, [(6, .b (decide (okProto t))), (2, .i .i64 0), (1, .op 0 b1 0)], [.box b1 56 [.i .u32 t.dst, .i .i64 t.proto, .i .i64 t.flow, .i .i64 t.ttl, .i .i64 t.start, .i .i64 t.every, .i .i64 t.count]]⟩) (fun _ => True) ?_ (fun _ _ => ?_)
  · (repeat refine Sat.seq ?_)
    (refine Sat.region_k fun k hk => ?_; simp -implicitDefEqProofs only [evr, id, reduceCtorEq, reduceIte, Nat.reduceMul, Nat.reduceAdd, Nat.reduceLT, Nat.reduceLeDiff, Nat.reduceEqDiff, Int.reduceLT, Int.reduceBEq, Int.reduceBNe, Nat.reduceBEq, planC, tsk_one, bk_eq, sh1, evn]; refine hk _ ?_; clear hk k; try show Sat _ _ _ _ _)
    refine Sat.cond_b rfl (fun h => ?_) (fun h => ?_)
    · simp only [beq_iff_eq] at h
      have e : decide (okProto t) = true := decide_eq_true (by unfold okProto; omega)
      refine Sat.skip ?_
      simp only [thenK]
      refine ⟨(), trivial, ?_⟩
      simp only [e]
      simp -implicitDefEqProofs only [evr, id, reduceCtorEq, reduceIte, Nat.reduceMul, Nat.reduceAdd, Nat.reduceLT, Nat.reduceLeDiff, Nat.reduceEqDiff, Int.reduceLT, Int.reduceBEq, Int.reduceBNe, Nat.reduceBEq, planC, tsk_one, bk_eq, sh1, evl, evn]
      exact .inl (by rw [h]; rfl)
    simp only [beq_eq_false_iff_ne] at h
    (repeat refine Sat.seq ?_)
    (refine Sat.region_k fun k hk => ?_; simp -implicitDefEqProofs only [evr, id, reduceCtorEq, reduceIte, Nat.reduceMul, Nat.reduceAdd, Nat.reduceLT, Nat.reduceLeDiff, Nat.reduceEqDiff, Int.reduceLT, Int.reduceBEq, Int.reduceBNe, Nat.reduceBEq, planC, tsk_one, bk_eq, sh1, evn]; refine hk _ ?_; clear hk k; try show Sat _ _ _ _ _)
    refine Sat.cond_b rfl (fun h2 => ?_) (fun h2 => ?_)
    · simp only [beq_iff_eq] at h2
      have e : decide (okProto t) = true := decide_eq_true (by unfold okProto; omega)
      refine Sat.skip ?_
      simp only [thenK]
      refine ⟨(), trivial, ?_⟩
      simp only [e]
      simp -implicitDefEqProofs only [evr, id, reduceCtorEq, reduceIte, Nat.reduceMul, Nat.reduceAdd, Nat.reduceLT, Nat.reduceLeDiff, Nat.reduceEqDiff, Int.reduceLT, Int.reduceBEq, Int.reduceBNe, Nat.reduceBEq, planC, tsk_one, bk_eq, sh1, evl, evn]
      exact .inl (by rw [h2]; rfl)
    simp only [beq_eq_false_iff_ne] at h2
    have e : decide (okProto t) = (t.proto == 17) := by
      apply Bool.eq_iff_iff.2
      simp only [decide_eq_true_eq, beq_iff_eq]
      unfold okProto
      omega
    refine Sat.region_k fun k hk => ?_
    simp -implicitDefEqProofs only [evr, id, reduceCtorEq, reduceIte, Nat.reduceMul, Nat.reduceAdd, Nat.reduceLT, Nat.reduceLeDiff, Nat.reduceEqDiff, Int.reduceLT, Int.reduceBEq, Int.reduceBNe, Nat.reduceBEq, planC, tsk_one, bk_eq, sh1, evn]
    refine hk _ ?_
    simp only [thenK]
    refine ⟨(), trivial, ?_⟩
    simp only [e]
    simp -implicitDefEqProofs only [evr, id, reduceCtorEq, reduceIte, Nat.reduceMul, Nat.reduceAdd, Nat.reduceLT, Nat.reduceLeDiff, Nat.reduceEqDiff, Int.reduceLT, Int.reduceBEq, Int.reduceBNe, Nat.reduceBEq, planC, tsk_one, bk_eq, sh1, evl, evn]
  refine Sat.cond_b rfl (fun hpr => ?_) (fun hpr => ?_)
  rotate_left
  · (repeat refine Sat.seq ?_)
    (refine Sat.region_k fun k hk => ?_; simp -implicitDefEqProofs only [evr, id, reduceCtorEq, reduceIte, Nat.reduceMul, Nat.reduceAdd, Nat.reduceLT, Nat.reduceLeDiff, Nat.reduceEqDiff, Int.reduceLT, Int.reduceBEq, Int.reduceBNe, Nat.reduceBEq, planC, tsk_one, bk_eq, sh1, evn]; refine hk _ ?_; clear hk k; try show Sat _ _ _ _ _)
    refine Sat.ret ?_
    simp only [thenK, blockK, Tryd.results31, evr, id, reduceCtorEq, reduceIte, Nat.reduceMul, Nat.reduceAdd, Nat.reduceLT, Nat.reduceLeDiff, Nat.reduceEqDiff, Int.reduceLT, Int.reduceBEq, Int.reduceBNe, Nat.reduceBEq, List.append_nil, Int.toNat_zero, Nat.sub_self, planC, tsk_one, bk_eq, sh1]
    unfold taskErr
    rw [if_neg (of_decide_eq_false hpr)]
  have hpr := of_decide_eq_true hpr
  refine Sat.skip ?_
  simp only [thenK, blockK]
  try refine Sat.seq ?_
  refine Sat.block ?_
  refine Sat.seq ?_
  refine Sat.join (fun _ : Unit => ⟨70, [(10, .b (decide (¬ okRange t))), (2, .i .i64 0), (1, .op 0 b1 0)], [.box b1 56 [.i .u32 t.dst, .i .i64 t.proto, .i .i64 t.flow, .i .i64 t.ttl, .i .i64 t.start, .i .i64 t.every, .i .i64 t.count]]⟩) (fun _ => True) ?_ (fun _ _ => ?_)
  · skip
    (repeat refine Sat.seq ?_)
    refine Sat.region_at ⟨70, [(10, .b (decide (¬ (0 ≤ t.flow ∧ t.flow ≤ 1023)))), (2, .i .i64 0), (1, .op 0 b1 0)], [.box b1 56 [.i .u32 t.dst, .i .i64 t.proto, .i .i64 t.flow, .i .i64 t.ttl, .i .i64 t.start, .i .i64 t.every, .i .i64 t.count]]⟩ (fun k hk => ?_) ?_
    · simp -implicitDefEqProofs only [evr, id, reduceCtorEq, reduceIte, Nat.reduceMul, Nat.reduceAdd, Nat.reduceLT, Nat.reduceLeDiff, Nat.reduceEqDiff, Int.reduceLT, Int.reduceBEq, Int.reduceBNe, Nat.reduceBEq, planC, tsk_one, bk_eq, sh1, evn]
      refine ⟨fun h => ?_, fun h => ?_⟩
      · have e : decide (¬ (0 ≤ t.flow ∧ t.flow ≤ 1023)) = true := decide_eq_true (by omega)
        refine hk _ ?_
        simp only [e]
        simp -implicitDefEqProofs only [evr, id, reduceCtorEq, reduceIte, Nat.reduceMul, Nat.reduceAdd, Nat.reduceLT, Nat.reduceLeDiff, Nat.reduceEqDiff, Int.reduceLT, Int.reduceBEq, Int.reduceBNe, Nat.reduceBEq, planC, tsk_one, bk_eq, sh1, evl, evn]
      · have e : decide (¬ (0 ≤ t.flow ∧ t.flow ≤ 1023)) = decide (1023 < t.flow) := by
          by_cases h9 : 1023 < t.flow
          · rw [decide_eq_true h9, decide_eq_true_eq]; omega
          · rw [decide_eq_false h9, decide_eq_false_iff_not]; omega
        refine hk _ ?_
        simp only [e]
        simp -implicitDefEqProofs only [evr, id, reduceCtorEq, reduceIte, Nat.reduceMul, Nat.reduceAdd, Nat.reduceLT, Nat.reduceLeDiff, Nat.reduceEqDiff, Int.reduceLT, Int.reduceBEq, Int.reduceBNe, Nat.reduceBEq, planC, tsk_one, bk_eq, sh1, evl, evn]
    refine Sat.cond_b rfl (fun h => ?_) (fun h0 => ?_)
    · have h := of_decide_eq_true h
      have e : decide (¬ okRange t) = true := decide_eq_true (by unfold okRange; omega)
      refine Sat.skip ?_
      simp only [thenK]
      refine ⟨(), trivial, ?_⟩
      simp only [e]
      simp -implicitDefEqProofs only [evr, id, reduceCtorEq, reduceIte, Nat.reduceMul, Nat.reduceAdd, Nat.reduceLT, Nat.reduceLeDiff, Nat.reduceEqDiff, Int.reduceLT, Int.reduceBEq, Int.reduceBNe, Nat.reduceBEq, planC, tsk_one, bk_eq, sh1, evl, evn]
      exact .inl h
    have h0 := of_decide_eq_false h0
    (repeat refine Sat.seq ?_)
    refine Sat.region_at ⟨70, [(10, .b (decide (¬ (1 ≤ t.ttl ∧ t.ttl ≤ 255)))), (2, .i .i64 0), (1, .op 0 b1 0)], [.box b1 56 [.i .u32 t.dst, .i .i64 t.proto, .i .i64 t.flow, .i .i64 t.ttl, .i .i64 t.start, .i .i64 t.every, .i .i64 t.count]]⟩ (fun k hk => ?_) ?_
    · simp -implicitDefEqProofs only [evr, id, reduceCtorEq, reduceIte, Nat.reduceMul, Nat.reduceAdd, Nat.reduceLT, Nat.reduceLeDiff, Nat.reduceEqDiff, Int.reduceLT, Int.reduceBEq, Int.reduceBNe, Nat.reduceBEq, planC, tsk_one, bk_eq, sh1, evn]
      refine ⟨fun h => ?_, fun h => ?_⟩
      · have e : decide (¬ (1 ≤ t.ttl ∧ t.ttl ≤ 255)) = true := decide_eq_true (by omega)
        refine hk _ ?_
        simp only [e]
        simp -implicitDefEqProofs only [evr, id, reduceCtorEq, reduceIte, Nat.reduceMul, Nat.reduceAdd, Nat.reduceLT, Nat.reduceLeDiff, Nat.reduceEqDiff, Int.reduceLT, Int.reduceBEq, Int.reduceBNe, Nat.reduceBEq, planC, tsk_one, bk_eq, sh1, evl, evn]
      · have e : decide (¬ (1 ≤ t.ttl ∧ t.ttl ≤ 255)) = decide (255 < t.ttl) := by
          by_cases h9 : 255 < t.ttl
          · rw [decide_eq_true h9, decide_eq_true_eq]; omega
          · rw [decide_eq_false h9, decide_eq_false_iff_not]; omega
        refine hk _ ?_
        simp only [e]
        simp -implicitDefEqProofs only [evr, id, reduceCtorEq, reduceIte, Nat.reduceMul, Nat.reduceAdd, Nat.reduceLT, Nat.reduceLeDiff, Nat.reduceEqDiff, Int.reduceLT, Int.reduceBEq, Int.reduceBNe, Nat.reduceBEq, planC, tsk_one, bk_eq, sh1, evl, evn]
    refine Sat.cond_b rfl (fun h => ?_) (fun h1 => ?_)
    · have h := of_decide_eq_true h
      have e : decide (¬ okRange t) = true := decide_eq_true (by unfold okRange; omega)
      refine Sat.skip ?_
      simp only [thenK]
      refine ⟨(), trivial, ?_⟩
      simp only [e]
      simp -implicitDefEqProofs only [evr, id, reduceCtorEq, reduceIte, Nat.reduceMul, Nat.reduceAdd, Nat.reduceLT, Nat.reduceLeDiff, Nat.reduceEqDiff, Int.reduceLT, Int.reduceBEq, Int.reduceBNe, Nat.reduceBEq, planC, tsk_one, bk_eq, sh1, evl, evn]
      exact .inl h
    have h1 := of_decide_eq_false h1
    (repeat refine Sat.seq ?_)
    refine Sat.region_at ⟨70, [(10, .b (decide (¬ (0 ≤ t.start ∧ t.start ≤ 1125899906842624)))), (2, .i .i64 0), (1, .op 0 b1 0)], [.box b1 56 [.i .u32 t.dst, .i .i64 t.proto, .i .i64 t.flow, .i .i64 t.ttl, .i .i64 t.start, .i .i64 t.every, .i .i64 t.count]]⟩ (fun k hk => ?_) ?_
    · simp -implicitDefEqProofs only [evr, id, reduceCtorEq, reduceIte, Nat.reduceMul, Nat.reduceAdd, Nat.reduceLT, Nat.reduceLeDiff, Nat.reduceEqDiff, Int.reduceLT, Int.reduceBEq, Int.reduceBNe, Nat.reduceBEq, planC, tsk_one, bk_eq, sh1, evn]
      refine ⟨fun h => ?_, fun h => ?_⟩
      · have e : decide (¬ (0 ≤ t.start ∧ t.start ≤ 1125899906842624)) = true := decide_eq_true (by omega)
        refine hk _ ?_
        simp only [e]
        simp -implicitDefEqProofs only [evr, id, reduceCtorEq, reduceIte, Nat.reduceMul, Nat.reduceAdd, Nat.reduceLT, Nat.reduceLeDiff, Nat.reduceEqDiff, Int.reduceLT, Int.reduceBEq, Int.reduceBNe, Nat.reduceBEq, planC, tsk_one, bk_eq, sh1, evl, evn]
      · have e : decide (¬ (0 ≤ t.start ∧ t.start ≤ 1125899906842624)) = decide (1125899906842624 < t.start) := by
          by_cases h9 : 1125899906842624 < t.start
          · rw [decide_eq_true h9, decide_eq_true_eq]; omega
          · rw [decide_eq_false h9, decide_eq_false_iff_not]; omega
        refine hk _ ?_
        simp only [e]
        simp -implicitDefEqProofs only [evr, id, reduceCtorEq, reduceIte, Nat.reduceMul, Nat.reduceAdd, Nat.reduceLT, Nat.reduceLeDiff, Nat.reduceEqDiff, Int.reduceLT, Int.reduceBEq, Int.reduceBNe, Nat.reduceBEq, planC, tsk_one, bk_eq, sh1, evl, evn]
    refine Sat.cond_b rfl (fun h => ?_) (fun h2 => ?_)
    · have h := of_decide_eq_true h
      have e : decide (¬ okRange t) = true := decide_eq_true (by unfold okRange; omega)
      refine Sat.skip ?_
      simp only [thenK]
      refine ⟨(), trivial, ?_⟩
      simp only [e]
      simp -implicitDefEqProofs only [evr, id, reduceCtorEq, reduceIte, Nat.reduceMul, Nat.reduceAdd, Nat.reduceLT, Nat.reduceLeDiff, Nat.reduceEqDiff, Int.reduceLT, Int.reduceBEq, Int.reduceBNe, Nat.reduceBEq, planC, tsk_one, bk_eq, sh1, evl, evn]
      exact .inl h
    have h2 := of_decide_eq_false h2
    (repeat refine Sat.seq ?_)
    refine Sat.region_at ⟨70, [(10, .b (decide (¬ (1 ≤ t.every ∧ t.every ≤ 1099511627776)))), (2, .i .i64 0), (1, .op 0 b1 0)], [.box b1 56 [.i .u32 t.dst, .i .i64 t.proto, .i .i64 t.flow, .i .i64 t.ttl, .i .i64 t.start, .i .i64 t.every, .i .i64 t.count]]⟩ (fun k hk => ?_) ?_
    · simp -implicitDefEqProofs only [evr, id, reduceCtorEq, reduceIte, Nat.reduceMul, Nat.reduceAdd, Nat.reduceLT, Nat.reduceLeDiff, Nat.reduceEqDiff, Int.reduceLT, Int.reduceBEq, Int.reduceBNe, Nat.reduceBEq, planC, tsk_one, bk_eq, sh1, evn]
      refine ⟨fun h => ?_, fun h => ?_⟩
      · have e : decide (¬ (1 ≤ t.every ∧ t.every ≤ 1099511627776)) = true := decide_eq_true (by omega)
        refine hk _ ?_
        simp only [e]
        simp -implicitDefEqProofs only [evr, id, reduceCtorEq, reduceIte, Nat.reduceMul, Nat.reduceAdd, Nat.reduceLT, Nat.reduceLeDiff, Nat.reduceEqDiff, Int.reduceLT, Int.reduceBEq, Int.reduceBNe, Nat.reduceBEq, planC, tsk_one, bk_eq, sh1, evl, evn]
      · have e : decide (¬ (1 ≤ t.every ∧ t.every ≤ 1099511627776)) = decide (1099511627776 < t.every) := by
          by_cases h9 : 1099511627776 < t.every
          · rw [decide_eq_true h9, decide_eq_true_eq]; omega
          · rw [decide_eq_false h9, decide_eq_false_iff_not]; omega
        refine hk _ ?_
        simp only [e]
        simp -implicitDefEqProofs only [evr, id, reduceCtorEq, reduceIte, Nat.reduceMul, Nat.reduceAdd, Nat.reduceLT, Nat.reduceLeDiff, Nat.reduceEqDiff, Int.reduceLT, Int.reduceBEq, Int.reduceBNe, Nat.reduceBEq, planC, tsk_one, bk_eq, sh1, evl, evn]
    refine Sat.cond_b rfl (fun h => ?_) (fun h3 => ?_)
    · have h := of_decide_eq_true h
      have e : decide (¬ okRange t) = true := decide_eq_true (by unfold okRange; omega)
      refine Sat.skip ?_
      simp only [thenK]
      refine ⟨(), trivial, ?_⟩
      simp only [e]
      simp -implicitDefEqProofs only [evr, id, reduceCtorEq, reduceIte, Nat.reduceMul, Nat.reduceAdd, Nat.reduceLT, Nat.reduceLeDiff, Nat.reduceEqDiff, Int.reduceLT, Int.reduceBEq, Int.reduceBNe, Nat.reduceBEq, planC, tsk_one, bk_eq, sh1, evl, evn]
      exact .inl h
    have h3 := of_decide_eq_false h3
    (repeat refine Sat.seq ?_)
    refine Sat.region_at ⟨70, [(10, .b (decide (¬ (1 ≤ t.count ∧ t.count ≤ 1000)))), (2, .i .i64 0), (1, .op 0 b1 0)], [.box b1 56 [.i .u32 t.dst, .i .i64 t.proto, .i .i64 t.flow, .i .i64 t.ttl, .i .i64 t.start, .i .i64 t.every, .i .i64 t.count]]⟩ (fun k hk => ?_) ?_
    · simp -implicitDefEqProofs only [evr, id, reduceCtorEq, reduceIte, Nat.reduceMul, Nat.reduceAdd, Nat.reduceLT, Nat.reduceLeDiff, Nat.reduceEqDiff, Int.reduceLT, Int.reduceBEq, Int.reduceBNe, Nat.reduceBEq, planC, tsk_one, bk_eq, sh1, evn]
      refine ⟨fun h => ?_, fun h => ?_⟩
      · have e : decide (¬ (1 ≤ t.count ∧ t.count ≤ 1000)) = true := decide_eq_true (by omega)
        refine hk _ ?_
        simp only [e]
        simp -implicitDefEqProofs only [evr, id, reduceCtorEq, reduceIte, Nat.reduceMul, Nat.reduceAdd, Nat.reduceLT, Nat.reduceLeDiff, Nat.reduceEqDiff, Int.reduceLT, Int.reduceBEq, Int.reduceBNe, Nat.reduceBEq, planC, tsk_one, bk_eq, sh1, evl, evn]
      · have e : decide (¬ (1 ≤ t.count ∧ t.count ≤ 1000)) = decide (1000 < t.count) := by
          by_cases h9 : 1000 < t.count
          · rw [decide_eq_true h9, decide_eq_true_eq]; omega
          · rw [decide_eq_false h9, decide_eq_false_iff_not]; omega
        refine hk _ ?_
        simp only [e]
        simp -implicitDefEqProofs only [evr, id, reduceCtorEq, reduceIte, Nat.reduceMul, Nat.reduceAdd, Nat.reduceLT, Nat.reduceLeDiff, Nat.reduceEqDiff, Int.reduceLT, Int.reduceBEq, Int.reduceBNe, Nat.reduceBEq, planC, tsk_one, bk_eq, sh1, evl, evn]
    refine Sat.cond_b rfl (fun h => ?_) (fun h4 => ?_)
    · have h := of_decide_eq_true h
      have e : decide (¬ okRange t) = true := decide_eq_true (by unfold okRange; omega)
      refine Sat.skip ?_
      simp only [thenK]
      refine ⟨(), trivial, ?_⟩
      simp only [e]
      simp -implicitDefEqProofs only [evr, id, reduceCtorEq, reduceIte, Nat.reduceMul, Nat.reduceAdd, Nat.reduceLT, Nat.reduceLeDiff, Nat.reduceEqDiff, Int.reduceLT, Int.reduceBEq, Int.reduceBNe, Nat.reduceBEq, planC, tsk_one, bk_eq, sh1, evl, evn]
      exact .inl h
    have h4 := of_decide_eq_false h4
    have hm : 0 ≤ (t.count - 1) * t.every := Int.mul_nonneg (by omega) (by omega)
    have hm2 : (t.count - 1) * t.every ≤ 999 * 1099511627776 := Int.mul_le_mul (by omega) (by omega) (by omega) (by omega)
    have e1 : IntKind.i64.wrap (t.count - 1) = t.count - 1 := w64 (by omega)
    have e2 : IntKind.i64.wrap ((t.count - 1) * t.every) = (t.count - 1) * t.every := w64 (by omega)
    have e3 : IntKind.i64.wrap (t.start + (t.count - 1) * t.every) = t.start + (t.count - 1) * t.every := w64 (by omega)
    have e : decide (¬ okRange t) = decide (1125899906842624 < t.start + (t.count - 1) * t.every) := by
      by_cases h9 : 1125899906842624 < t.start + (t.count - 1) * t.every
      · rw [decide_eq_true h9, decide_eq_true_eq]; unfold okRange okEnd; omega
      · rw [decide_eq_false h9, decide_eq_false_iff_not]; unfold okRange okEnd; omega
    refine Sat.region_k fun k hk => ?_
    simp -implicitDefEqProofs only [evr, id, reduceCtorEq, reduceIte, Nat.reduceMul, Nat.reduceAdd, Nat.reduceLT, Nat.reduceLeDiff, Nat.reduceEqDiff, Int.reduceLT, Int.reduceBEq, Int.reduceBNe, Nat.reduceBEq, planC, tsk_one, bk_eq, sh1, e1, e2, e3, evn]
    refine hk _ ?_
    simp only [thenK]
    refine ⟨(), trivial, ?_⟩
    simp only [e]
    simp -implicitDefEqProofs only [evr, id, reduceCtorEq, reduceIte, Nat.reduceMul, Nat.reduceAdd, Nat.reduceLT, Nat.reduceLeDiff, Nat.reduceEqDiff, Int.reduceLT, Int.reduceBEq, Int.reduceBNe, Nat.reduceBEq, planC, tsk_one, bk_eq, sh1, evl, evn]
  refine Sat.cond_b rfl (fun hr => ?_) (fun hr => ?_)
  · (repeat refine Sat.seq ?_)
    (refine Sat.region_k fun k hk => ?_; simp -implicitDefEqProofs only [evr, id, reduceCtorEq, reduceIte, Nat.reduceMul, Nat.reduceAdd, Nat.reduceLT, Nat.reduceLeDiff, Nat.reduceEqDiff, Int.reduceLT, Int.reduceBEq, Int.reduceBNe, Nat.reduceBEq, planC, tsk_one, bk_eq, sh1, evn]; refine hk _ ?_; clear hk k; try show Sat _ _ _ _ _)
    refine Sat.ret ?_
    simp only [thenK, blockK, Tryd.results31, evr, id, reduceCtorEq, reduceIte, Nat.reduceMul, Nat.reduceAdd, Nat.reduceLT, Nat.reduceLeDiff, Nat.reduceEqDiff, Int.reduceLT, Int.reduceBEq, Int.reduceBNe, Nat.reduceBEq, List.append_nil, Int.toNat_zero, Nat.sub_self, planC, tsk_one, bk_eq, sh1]
    unfold taskErr
    rw [if_pos hpr, if_neg (of_decide_eq_true hr)]
  have hr := Decidable.not_not.1 (of_decide_eq_false hr)
  refine Sat.skip ?_
  simp only [thenK, blockK]
  (repeat refine Sat.seq ?_)
  (refine Sat.region_k fun k hk => ?_; simp -implicitDefEqProofs only [evr, id, reduceCtorEq, reduceIte, Nat.reduceMul, Nat.reduceAdd, Nat.reduceLT, Nat.reduceLeDiff, Nat.reduceEqDiff, Int.reduceLT, Int.reduceBEq, Int.reduceBNe, Nat.reduceBEq, planC, tsk_one, bk_eq, sh1, evn])
  refine wcall_plain hsp rfl (by rintro _ rfl; exact ok_plain rfl) ?_
  rintro r rfl
  simp -implicitDefEqProofs only [evr, id, reduceCtorEq, reduceIte, Nat.reduceMul, Nat.reduceAdd, Nat.reduceLT, Nat.reduceLeDiff, Nat.reduceEqDiff, Int.reduceLT, Int.reduceBEq, Int.reduceBNe, Nat.reduceBEq, planC, tsk_one, bk_eq, sh1, evn]
  (refine hk _ ?_; clear hk k; try show Sat _ _ _ _ _)
  (repeat refine Sat.seq ?_)
  refine Sat.region_at ⟨70, [(69, .b (decide (¬ okAddr t))), (2, .i .i64 0), (1, .op 0 b1 0)], [.box b1 56 [.i .u32 t.dst, .i .i64 t.proto, .i .i64 t.flow, .i .i64 t.ttl, .i .i64 t.start, .i .i64 t.every, .i .i64 t.count]]⟩ (fun k hk => ?_) ?_
  · simp -implicitDefEqProofs only [evr, id, reduceCtorEq, reduceIte, Nat.reduceMul, Nat.reduceAdd, Nat.reduceLT, Nat.reduceLeDiff, Nat.reduceEqDiff, Int.reduceLT, Int.reduceBEq, Int.reduceBNe, Nat.reduceBEq, planC, tsk_one, bk_eq, sh1, evn]
    refine ⟨fun h => ?_, fun h => ?_⟩
    · have e : decide (¬ okAddr t) = (spc t.dst.toNat != 3) := by
        apply Bool.eq_iff_iff.2
        simp only [decide_eq_true_eq, bne_iff_ne] at h ⊢
        unfold okAddr
        omega
      refine hk _ ?_
      simp only [e]
      simp -implicitDefEqProofs only [evr, id, reduceCtorEq, reduceIte, Nat.reduceMul, Nat.reduceAdd, Nat.reduceLT, Nat.reduceLeDiff, Nat.reduceEqDiff, Int.reduceLT, Int.reduceBEq, Int.reduceBNe, Nat.reduceBEq, planC, tsk_one, bk_eq, sh1, evl, evn]
    · have e : decide (¬ okAddr t) = false := by
        rw [decide_eq_false_iff_not, Decidable.not_not]
        left
        simpa using h
      refine hk _ ?_
      simp only [e]
      simp -implicitDefEqProofs only [evr, id, reduceCtorEq, reduceIte, Nat.reduceMul, Nat.reduceAdd, Nat.reduceLT, Nat.reduceLeDiff, Nat.reduceEqDiff, Int.reduceLT, Int.reduceBEq, Int.reduceBNe, Nat.reduceBEq, planC, tsk_one, bk_eq, sh1, evl, evn]
  refine Sat.cond_b rfl (fun ha => ?_) (fun ha => ?_)
  · (repeat refine Sat.seq ?_)
    (refine Sat.region_k fun k hk => ?_; simp -implicitDefEqProofs only [evr, id, reduceCtorEq, reduceIte, Nat.reduceMul, Nat.reduceAdd, Nat.reduceLT, Nat.reduceLeDiff, Nat.reduceEqDiff, Int.reduceLT, Int.reduceBEq, Int.reduceBNe, Nat.reduceBEq, planC, tsk_one, bk_eq, sh1, evn]; refine hk _ ?_; clear hk k; try show Sat _ _ _ _ _)
    refine Sat.ret ?_
    simp only [Tryd.results31, evr, id, reduceCtorEq, reduceIte, Nat.reduceMul, Nat.reduceAdd, Nat.reduceLT, Nat.reduceLeDiff, Nat.reduceEqDiff, Int.reduceLT, Int.reduceBEq, Int.reduceBNe, Nat.reduceBEq, List.append_nil, Int.toNat_zero, Nat.sub_self, planC, tsk_one, bk_eq, sh1]
    unfold taskErr
    rw [if_pos hpr, if_pos hr, if_neg (of_decide_eq_true ha)]
  have ha := Decidable.not_not.1 (of_decide_eq_false ha)
  refine Sat.skip ?_
  simp only [thenK]
  (repeat refine Sat.seq ?_)
  (refine Sat.region_k fun k hk => ?_; simp -implicitDefEqProofs only [evr, id, reduceCtorEq, reduceIte, Nat.reduceMul, Nat.reduceAdd, Nat.reduceLT, Nat.reduceLeDiff, Nat.reduceEqDiff, Int.reduceLT, Int.reduceBEq, Int.reduceBNe, Nat.reduceBEq, planC, tsk_one, bk_eq, sh1, evn]; refine hk _ ?_; clear hk k; try show Sat _ _ _ _ _)
  refine Sat.ret ?_
  simp only [Tryd.results31, evr, id, reduceCtorEq, reduceIte, Nat.reduceMul, Nat.reduceAdd, Nat.reduceLT, Nat.reduceLeDiff, Nat.reduceEqDiff, Int.reduceLT, Int.reduceBEq, Int.reduceBNe, Nat.reduceBEq, List.append_nil, Int.toNat_zero, Nat.sub_self, planC, tsk_one, bk_eq, sh1]
  unfold taskErr
  rw [if_pos hpr, if_pos hr, if_pos ha]
theorem tasksErr_step (ts : List Tsk) (i : Nat) (hi : i < ts.length) : tasksErr (ts.drop i) = if taskErr (ts.getD i default) ≠ 0 then taskErr (ts.getD i default) else tasksErr (ts.drop (i + 1)) := by
  have e : ts.getD i default = ts[i] := by simp [List.getD, hi]
  rw [e, List.drop_eq_getElem_cons hi]
  rfl
theorem tsk_agg (ts : List Tsk) (i : Nat) : (SV.agg 7 fun j => tskRd ts i j) = tskS (ts.getD i default) := rfl
set_option maxRecDepth 100000 in
theorem checkC (p : PlanP) (ht : ∀ t ∈ p.ts, 0 ≤ t.dst ∧ t.dst < 4294967296) : Contract FrT Tryd.prog 11 [planS p] (fun r => r = .i .i64 (planErr p)) := by
  have hts : ∀ i, i < p.ts.length → _ := fun i hi => taskC (p.ts.getD i default) (ht _ (by
    have : p.ts.getD i default = p.ts[i] := by simp [List.getD, hi]
    rw [this]; exact List.getElem_mem _))
  have hbk := bkCheckC FrT p.burst p.every
  refine contract_of Tryd.func11 rfl (by kernel_rfl) ?_
  simp only [Tryd.ntmps11, argEnv, planS, planC]
  (repeat refine Sat.seq ?_)
  (refine Sat.region_k fun k hk => ?_; simp -implicitDefEqProofs only [evr, id, reduceCtorEq, reduceIte, Nat.reduceMul, Nat.reduceAdd, Nat.reduceLT, Nat.reduceLeDiff, Nat.reduceEqDiff, Int.reduceLT, Int.reduceBEq, Int.reduceBNe, Nat.reduceBEq, planC, tsk_one, bk_eq, sh1, evn])
  intro b1
  (refine hk _ ?_; clear hk k; try show Sat _ _ _ _ _)
  (repeat refine Sat.seq ?_)
  (refine Sat.region_k fun k hk => ?_; simp -implicitDefEqProofs only [evr, id, reduceCtorEq, reduceIte, Nat.reduceMul, Nat.reduceAdd, Nat.reduceLT, Nat.reduceLeDiff, Nat.reduceEqDiff, Int.reduceLT, Int.reduceBEq, Int.reduceBNe, Nat.reduceBEq, planC, tsk_one, bk_eq, sh1, evn]; refine hk _ ?_; clear hk k; try show Sat _ _ _ _ _)
  refine Sat.cond_b rfl (fun h => ?_) (fun h => ?_)
  · (repeat refine Sat.seq ?_)
    (refine Sat.region_k fun k hk => ?_; simp -implicitDefEqProofs only [evr, id, reduceCtorEq, reduceIte, Nat.reduceMul, Nat.reduceAdd, Nat.reduceLT, Nat.reduceLeDiff, Nat.reduceEqDiff, Int.reduceLT, Int.reduceBEq, Int.reduceBNe, Nat.reduceBEq, planC, tsk_one, bk_eq, sh1, evn]; refine hk _ ?_; clear hk k; try show Sat _ _ _ _ _)
    refine Sat.ret ?_
    simp only [Tryd.results11, evr, id, reduceCtorEq, reduceIte, Nat.reduceMul, Nat.reduceAdd, Nat.reduceLT, Nat.reduceLeDiff, Nat.reduceEqDiff, Int.reduceLT, Int.reduceBEq, Int.reduceBNe, Nat.reduceBEq, List.append_nil, Int.toNat_zero, Nat.sub_self, planC, tsk_one, bk_eq, sh1]
    unfold planErr
    simp only [decide_eq_true_eq] at h
    rw [if_pos (by omega)]
  have hlen : p.ts.length ≤ 64 := by simp only [decide_eq_false_iff_not] at h; omega
  clear h
  refine Sat.skip ?_
  simp only [thenK]
  (repeat refine Sat.seq ?_)
  (refine Sat.region_k fun k hk => ?_; simp -implicitDefEqProofs only [evr, id, reduceCtorEq, reduceIte, Nat.reduceMul, Nat.reduceAdd, Nat.reduceLT, Nat.reduceLeDiff, Nat.reduceEqDiff, Int.reduceLT, Int.reduceBEq, Int.reduceBNe, Nat.reduceBEq, planC, tsk_one, bk_eq, sh1, evn]; refine hk _ ?_; clear hk k; try show Sat _ _ _ _ _)
  (repeat refine Sat.seq ?_)
  refine Sat.block ?_
  refine Sat.loop (ι := Nat) (fun i => ⟨26, [(13, .i .i64 i), (12, .i .i64 p.ts.length), (11, .sl p.a p.ts.length p.cap 7 (tskRd p.ts)), (2, .i .i64 0), (1, .op 0 b1 0)], [.box b1 28 [.sl p.a p.ts.length p.cap 7 (tskRd p.ts), .i .i64 p.burst, .i .i64 p.every]]⟩) (fun i => i ≤ p.ts.length ∧ tasksErr p.ts = tasksErr (p.ts.drop i)) (fun i => p.ts.length - i) 0 ⟨Nat.zero_le _, rfl⟩ (by simp -implicitDefEqProofs only [evr, id, reduceCtorEq, reduceIte, Nat.reduceMul, Nat.reduceAdd, Nat.reduceLT, Nat.reduceLeDiff, Nat.reduceEqDiff, Int.reduceLT, Int.reduceBEq, Int.reduceBNe, Nat.reduceBEq, planC, tsk_one, bk_eq, sh1, evl, evn]; try rfl) ?_
  rintro i ⟨hi, hte⟩
  (repeat refine Sat.seq ?_)
  (refine Sat.region_k fun k hk => ?_; simp -implicitDefEqProofs only [evr, id, reduceCtorEq, reduceIte, Nat.reduceMul, Nat.reduceAdd, Nat.reduceLT, Nat.reduceLeDiff, Nat.reduceEqDiff, Int.reduceLT, Int.reduceBEq, Int.reduceBNe, Nat.reduceBEq, planC, tsk_one, bk_eq, sh1, evn]; refine hk _ ?_; clear hk k; try show Sat _ _ _ _ _)
  (repeat refine Sat.seq ?_)
  refine Sat.cond_b rfl (fun h => ?_) (fun h => ?_)
  · have h1 : i < p.ts.length := by simp only [decide_eq_true_eq] at h; omega
    have e3 : IntKind.i64.wrap ((i : Int) + 1) = ((i + 1 : Nat) : Int) := by rw [w64 (by omega)]; omega
    have hstep := tasksErr_step p.ts i h1
    have hT := hts i h1
    refine Sat.skip ?_
    simp only [thenK]
    (repeat refine Sat.seq ?_)
    refine Sat.block ?_
    (repeat refine Sat.seq ?_)
    (refine Sat.region_k fun k hk => ?_; simp -implicitDefEqProofs only [evr, id, reduceCtorEq, reduceIte, Nat.reduceMul, Nat.reduceAdd, Nat.reduceLT, Nat.reduceLeDiff, Nat.reduceEqDiff, Int.reduceLT, Int.reduceBEq, Int.reduceBNe, Nat.reduceBEq, planC, tsk_one, bk_eq, sh1, evn])
    refine ⟨by omega, ?_⟩
    intro b4
    (refine hk _ ?_; clear hk k; try show Sat _ _ _ _ _)
    (repeat refine Sat.seq ?_)
    (refine Sat.region_k fun k hk => ?_; simp -implicitDefEqProofs only [evr, id, reduceCtorEq, reduceIte, Nat.reduceMul, Nat.reduceAdd, Nat.reduceLT, Nat.reduceLeDiff, Nat.reduceEqDiff, Int.reduceLT, Int.reduceBEq, Int.reduceBNe, Nat.reduceBEq, planC, tsk_one, bk_eq, sh1, evn])
    refine wcall_plain hT rfl (by rintro _ rfl; exact ok_plain rfl) ?_
    rintro r rfl
    simp -implicitDefEqProofs only [evr, id, reduceCtorEq, reduceIte, Nat.reduceMul, Nat.reduceAdd, Nat.reduceLT, Nat.reduceLeDiff, Nat.reduceEqDiff, Int.reduceLT, Int.reduceBEq, Int.reduceBNe, Nat.reduceBEq, planC, tsk_one, bk_eq, sh1, evn]
    (refine hk _ ?_; clear hk k; try show Sat _ _ _ _ _)
    (repeat refine Sat.seq ?_)
    (refine Sat.region_k fun k hk => ?_; simp -implicitDefEqProofs only [evr, id, reduceCtorEq, reduceIte, Nat.reduceMul, Nat.reduceAdd, Nat.reduceLT, Nat.reduceLeDiff, Nat.reduceEqDiff, Int.reduceLT, Int.reduceBEq, Int.reduceBNe, Nat.reduceBEq, planC, tsk_one, bk_eq, sh1, evn]; refine hk _ ?_; clear hk k; try show Sat _ _ _ _ _)
    refine Sat.cond_b rfl (fun h => ?_) (fun h => ?_)
    · (repeat refine Sat.seq ?_)
      (refine Sat.region_k fun k hk => ?_; simp -implicitDefEqProofs only [evr, id, reduceCtorEq, reduceIte, Nat.reduceMul, Nat.reduceAdd, Nat.reduceLT, Nat.reduceLeDiff, Nat.reduceEqDiff, Int.reduceLT, Int.reduceBEq, Int.reduceBNe, Nat.reduceBEq, planC, tsk_one, bk_eq, sh1, evn]; refine hk _ ?_; clear hk k; try show Sat _ _ _ _ _)
      refine Sat.ret ?_
      simp only [Tryd.results11, evr, id, reduceCtorEq, reduceIte, Nat.reduceMul, Nat.reduceAdd, Nat.reduceLT, Nat.reduceLeDiff, Nat.reduceEqDiff, Int.reduceLT, Int.reduceBEq, Int.reduceBNe, Nat.reduceBEq, List.append_nil, Int.toNat_zero, Nat.sub_self, planC, tsk_one, bk_eq, sh1]
      simp only [bne_iff_ne] at h
      rw [if_pos h] at hstep
      unfold planErr
      rw [if_neg (by omega), hte, hstep, if_pos h]
    · simp only [bne_eq_false_iff_eq] at h
      rw [if_neg (fun h9 => h9 h)] at hstep
      refine Sat.skip ?_
      simp only [thenK, blockK]
      refine Sat.region_k fun k hk => ?_
      simp -implicitDefEqProofs only [evr, id, reduceCtorEq, reduceIte, Nat.reduceMul, Nat.reduceAdd, Nat.reduceLT, Nat.reduceLeDiff, Nat.reduceEqDiff, Int.reduceLT, Int.reduceBEq, Int.reduceBNe, Nat.reduceBEq, planC, tsk_one, bk_eq, sh1, e3, evn]
      refine hk _ ?_
      simp only [thenK, blockK]
      refine ⟨i + 1, ⟨by omega, by rw [hte, hstep]⟩, by omega, ?_⟩
      simp -implicitDefEqProofs only [evr, id, reduceCtorEq, reduceIte, Nat.reduceMul, Nat.reduceAdd, Nat.reduceLT, Nat.reduceLeDiff, Nat.reduceEqDiff, Int.reduceLT, Int.reduceBEq, Int.reduceBNe, Nat.reduceBEq, planC, tsk_one, bk_eq, sh1, evl, evn]
      try rfl
  · have h1 : i = p.ts.length := by simp only [decide_eq_false_iff_not] at h; omega
    subst h1
    have hz : tasksErr p.ts = 0 := by rw [hte, List.drop_length]; rfl
    refine Sat.exit ?_
    simp only [thenK, blockK, reduceIte]
    (repeat refine Sat.seq ?_)
    (refine Sat.region_k fun k hk => ?_; simp -implicitDefEqProofs only [evr, id, reduceCtorEq, reduceIte, Nat.reduceMul, Nat.reduceAdd, Nat.reduceLT, Nat.reduceLeDiff, Nat.reduceEqDiff, Int.reduceLT, Int.reduceBEq, Int.reduceBNe, Nat.reduceBEq, planC, tsk_one, bk_eq, sh1, evn])
    refine wcall_plain hbk rfl (by rintro _ rfl; exact ok_plain rfl) ?_
    rintro r rfl
    simp -implicitDefEqProofs only [evr, id, reduceCtorEq, reduceIte, Nat.reduceMul, Nat.reduceAdd, Nat.reduceLT, Nat.reduceLeDiff, Nat.reduceEqDiff, Int.reduceLT, Int.reduceBEq, Int.reduceBNe, Nat.reduceBEq, planC, tsk_one, bk_eq, sh1, evn]
    (refine hk _ ?_; clear hk k; try show Sat _ _ _ _ _)
    refine Sat.ret ?_
    simp only [Tryd.results11, evr, id, reduceCtorEq, reduceIte, Nat.reduceMul, Nat.reduceAdd, Nat.reduceLT, Nat.reduceLeDiff, Nat.reduceEqDiff, Int.reduceLT, Int.reduceBEq, Int.reduceBNe, Nat.reduceBEq, List.append_nil, Int.toNat_zero, Nat.sub_self, planC, tsk_one, bk_eq, sh1]
    unfold planErr
    rw [if_neg (by omega), if_neg (by simp [hz])]
set_option maxRecDepth 100000 in
theorem skippedC (F : Frm) (p : PlanP) (hn : p.ts.length ≤ 1000) (hok : ∀ t ∈ p.ts, tskOk t) (hb : 0 ≤ p.burst ∧ p.burst ≤ 65536) (he : 0 ≤ p.every ∧ p.every ≤ 1073741824)
    (L : List Due) (hL : ∀ L', Sched L' p.ts → L' = L) (hat : ∀ d ∈ L, 0 ≤ d.at_ ∧ d.at_ ≤ 1125899906842624) (hlen : L.length ≤ 1000000) :
    Contract F Tryd.prog 12 [planS p] (fun r => r = .i .i64 ((L.length : Int) - (sentG p.burst p.every ⟨p.burst * p.every, 0⟩ L).length)) := by
  have hs := (sentG_sub p.burst p.every ⟨p.burst * p.every, 0⟩ L).length_le
  have e1 : IntKind.i64.wrap ((L.length : Int) - (sentG p.burst p.every ⟨p.burst * p.every, 0⟩ L).length) = (L.length : Int) - (sentG p.burst p.every ⟨p.burst * p.every, 0⟩ L).length := w64 (by omega)
  refine contract_of Tryd.func12 rfl (by kernel_rfl) ?_
  simp only [Tryd.ntmps12, argEnv, planS, planC]
  (repeat refine Sat.seq ?_)
  (refine Sat.region_k fun k hk => ?_; simp -implicitDefEqProofs only [evr, id, reduceCtorEq, reduceIte, Nat.reduceMul, Nat.reduceAdd, Nat.reduceLT, Nat.reduceLeDiff, Nat.reduceEqDiff, Int.reduceLT, Int.reduceBEq, Int.reduceBNe, Nat.reduceBEq, planC, tsk_one, bk_eq, sh1, evn])
  intro b1
  (refine hk _ ?_; clear hk k; try show Sat _ _ _ _ _)
  (repeat refine Sat.seq ?_)
  (refine Sat.region_rows [⟨0, 4, 2, 1⟩, ⟨1, 5, 8, 2⟩, ⟨2, 6, 16, 0⟩, ⟨0, 7, 2, 1⟩, ⟨10, 8, 64, 2⟩, ⟨16, 9, 128, 0⟩, ⟨36, 10, 288, 0⟩, ⟨127, 3, 512, 0⟩] [0, 3] [(1, false), (2, true), (4, false), (5, false), (6, false), (7, false)] [1, 2] (by kernel_rfl) (by kernel_rfl) (fun _ _ h => h) fun k hk => ?_; simp only [List.map_cons, List.map_nil, List.getD_cons_zero, List.getD_cons_succ, btseq_cons, btseq_free, btseq_nil]; simp -implicitDefEqProofs only [evr, id, reduceCtorEq, reduceIte, Nat.reduceMul, Nat.reduceAdd, Nat.reduceLT, Nat.reduceLeDiff, Nat.reduceEqDiff, Int.reduceLT, Int.reduceBEq, Int.reduceBNe, Nat.reduceBEq, planC, tsk_one, bk_eq, sh1, evn])
  refine wcall_slice (allDueC F p hn hok) rfl rfl ?_
  rintro r ⟨a, cap, L', hS, rfl⟩
  obtain rfl := hL _ hS
  simp -implicitDefEqProofs only [evr, id, reduceCtorEq, reduceIte, Nat.reduceMul, Nat.reduceAdd, Nat.reduceLT, Nat.reduceLeDiff, Nat.reduceEqDiff, Int.reduceLT, Int.reduceBEq, Int.reduceBNe, Nat.reduceBEq, planC, tsk_one, bk_eq, sh1, evn]
  refine wcall_slice (sentC F p hn hok hb he L' hL hat hlen) rfl rfl ?_
  rintro r ⟨a2, cap2, rfl⟩
  simp -implicitDefEqProofs only [evr, id, reduceCtorEq, reduceIte, Nat.reduceMul, Nat.reduceAdd, Nat.reduceLT, Nat.reduceLeDiff, Nat.reduceEqDiff, Int.reduceLT, Int.reduceBEq, Int.reduceBNe, Nat.reduceBEq, planC, tsk_one, bk_eq, sh1, e1, evn]
  (refine hk _ ?_; clear hk k; try show Sat _ _ _ _ _)
  refine Sat.ret ?_
  simp only [Tryd.results12, evr, id, reduceCtorEq, reduceIte, Nat.reduceMul, Nat.reduceAdd, Nat.reduceLT, Nat.reduceLeDiff, Nat.reduceEqDiff, Int.reduceLT, Int.reduceBEq, Int.reduceBNe, Nat.reduceBEq, List.append_nil, Int.toNat_zero, Nat.sub_self, planC, tsk_one, bk_eq, sh1]
end Go.Proofs.YtgimngpcfenoaaaDoor
