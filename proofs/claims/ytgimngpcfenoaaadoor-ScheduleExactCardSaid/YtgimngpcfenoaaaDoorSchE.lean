/- The plans of the statements: Bucket, Proto, right, awake, by the evaluator. -/
import Derived.Test.YtgimngpcfenoaaaDoorAllE
import Derived.Test.YtgimngpcfenoaaaDoorPk3
import Derived.Test.YtgimngpcfenoaaaDoorDrwB
set_option linter.unusedSimpArgs false
set_option linter.unusedVariables false
namespace Go.Proofs.YtgimngpcfenoaaaDoor
open Go.Sort Eng
theorem due_eq (d : Array Due) (i : Nat) (a b c : Int) : aggEq Tryd.prog 36 3 (dueRd d i) 3 (fun j => [SV.i .i64 a, SV.i .i64 b, SV.i .i64 c].getD j default) = some ([d[i]!.task == a, d[i]!.round == b, d[i]!.at_ == c].all id) := by kernel_rfl
theorem plain_next {n : Int} (r : SV) (h : ∃ x : Int, r = .i .i64 x ∧ 0 ≤ x ∧ (x < n ∨ x = 0)) : ∀ R w, r.ok R w := by
  obtain ⟨x, rfl, _⟩ := h; exact ok_plain rfl
theorem ints_at (xs : List Int) (i : Nat) (h : i < xs.length) : rdL (xs.map (SV.i .i64)) 1 i 0 = .i .i64 (xs.getD i 0) := by simp [rdL, List.getD, h]
def protoOk (x : Int) : Prop := x = 17 ∨ x = 1 ∨ x = 6
set_option maxRecDepth 100000 in
theorem protoC (cb : Nat) : Contract (Frm.codes cb) Tryd.prog 24 [ptr cb] (fun r => ∃ x : Int, r = .i .i64 x ∧ protoOk x) := by
  refine contract_of Tryd.func24 rfl (by kernel_rfl) ?_
  simp only [Tryd.ntmps24, argEnv, ptr]
  (repeat refine Sat.seq ?_)
  (refine Sat.region_k fun k hk => ?_; simp -implicitDefEqProofs only [evr, id, reduceCtorEq, reduceIte, Nat.reduceMul, Nat.reduceAdd, Nat.reduceLT, Nat.reduceLeDiff, Nat.reduceEqDiff, Int.reduceLT, Int.reduceBEq, Int.reduceBNe, Nat.reduceBEq, ptr, due_one, dueRow, tsk_one, planC, due_eq, evn]; refine hk _ ?_; clear hk k; try show Sat _ _ _ _ _)
  (repeat refine Sat.seq ?_)
  (refine Sat.region_k fun k hk => ?_; simp -implicitDefEqProofs only [evr, id, reduceCtorEq, reduceIte, Nat.reduceMul, Nat.reduceAdd, Nat.reduceLT, Nat.reduceLeDiff, Nat.reduceEqDiff, Int.reduceLT, Int.reduceBEq, Int.reduceBNe, Nat.reduceBEq, ptr, due_one, dueRow, tsk_one, planC, due_eq, evn])
  intro blk
  refine wcall_plain (nextC cb 3 (by decide) (by decide)) rfl plain_next ?_
  rintro r ⟨x, rfl, hx0, hx1⟩
  obtain ⟨i, rfl⟩ := Int.eq_ofNat_of_zero_le hx0
  have e := ints_at [17, 1, 6] i (by show i < 3; omega)
  simp only [List.map_cons, List.map_nil] at e
  simp -implicitDefEqProofs only [evr, id, reduceCtorEq, reduceIte, Nat.reduceMul, Nat.reduceAdd, Nat.reduceLT, Nat.reduceLeDiff, Nat.reduceEqDiff, Int.reduceLT, Int.reduceBEq, Int.reduceBNe, Nat.reduceBEq, ptr, due_one, dueRow, tsk_one, planC, due_eq, e, evn]
  refine ⟨by omega, by omega, ?_⟩
  (refine hk _ ?_; clear hk k; try show Sat _ _ _ _ _)
  refine Sat.ret ?_
  simp only [Tryd.results24, evr, id, reduceCtorEq, reduceIte, Nat.reduceMul, Nat.reduceAdd, Nat.reduceLT, Nat.reduceLeDiff, Nat.reduceEqDiff, Int.reduceLT, Int.reduceBEq, Int.reduceBNe, Nat.reduceBEq, ptr, due_one, List.append_nil, Int.toNat_zero, Nat.sub_self, dueRow, tsk_one, planC, due_eq]
  refine ⟨_, rfl, ?_⟩
  unfold protoOk
  rcases (show i = 0 ∨ i = 1 ∨ i = 2 by omega) with rfl | rfl | rfl <;> simp
def buckOk (b e : Int) : Prop := (b = 0 ∧ e = 0) ∨ (1 ≤ b ∧ b ≤ 4 ∧ 1 ≤ e ∧ e ≤ 1000)
set_option maxRecDepth 100000 in
theorem bucketC (cb : Nat) : Contract (Frm.codes cb) Tryd.prog 23 [ptr cb] (fun r => ∃ b e : Int, buckOk b e ∧ r = .agg 2 fun j => [SV.i .i64 b, .i .i64 e].getD j default) := by
  refine contract_of Tryd.func23 rfl (by kernel_rfl) ?_
  simp only [Tryd.ntmps23, argEnv, ptr]
  (repeat refine Sat.seq ?_)
  (refine Sat.region_k fun k hk => ?_; simp -implicitDefEqProofs only [evr, id, reduceCtorEq, reduceIte, Nat.reduceMul, Nat.reduceAdd, Nat.reduceLT, Nat.reduceLeDiff, Nat.reduceEqDiff, Int.reduceLT, Int.reduceBEq, Int.reduceBNe, Nat.reduceBEq, ptr, due_one, dueRow, tsk_one, planC, due_eq, evn])
  intro b2
  (refine hk _ ?_; clear hk k; try show Sat _ _ _ _ _)
  (repeat refine Sat.seq ?_)
  (refine Sat.region_k fun k hk => ?_; simp -implicitDefEqProofs only [evr, id, reduceCtorEq, reduceIte, Nat.reduceMul, Nat.reduceAdd, Nat.reduceLT, Nat.reduceLeDiff, Nat.reduceEqDiff, Int.reduceLT, Int.reduceBEq, Int.reduceBNe, Nat.reduceBEq, ptr, due_one, dueRow, tsk_one, planC, due_eq, evn])
  refine wcall_plain (nextC cb 3 (by decide) (by decide)) rfl plain_next ?_
  rintro r ⟨x, rfl, hx0, hx1⟩
  simp -implicitDefEqProofs only [evr, id, reduceCtorEq, reduceIte, Nat.reduceMul, Nat.reduceAdd, Nat.reduceLT, Nat.reduceLeDiff, Nat.reduceEqDiff, Int.reduceLT, Int.reduceBEq, Int.reduceBNe, Nat.reduceBEq, ptr, due_one, dueRow, tsk_one, planC, due_eq, evn]
  (refine hk _ ?_; clear hk k; try show Sat _ _ _ _ _)
  refine Sat.cond_b rfl (fun _ => ?_) (fun _ => ?_)
  · (repeat refine Sat.seq ?_)
    (refine Sat.region_k fun k hk => ?_; simp -implicitDefEqProofs only [evr, id, reduceCtorEq, reduceIte, Nat.reduceMul, Nat.reduceAdd, Nat.reduceLT, Nat.reduceLeDiff, Nat.reduceEqDiff, Int.reduceLT, Int.reduceBEq, Int.reduceBNe, Nat.reduceBEq, ptr, due_one, dueRow, tsk_one, planC, due_eq, evn]; refine hk _ ?_; clear hk k; try show Sat _ _ _ _ _)
    refine Sat.ret ?_
    simp only [Tryd.results23, evr, id, reduceCtorEq, reduceIte, Nat.reduceMul, Nat.reduceAdd, Nat.reduceLT, Nat.reduceLeDiff, Nat.reduceEqDiff, Int.reduceLT, Int.reduceBEq, Int.reduceBNe, Nat.reduceBEq, ptr, due_one, List.append_nil, Int.toNat_zero, Nat.sub_self, dueRow, tsk_one, planC, due_eq]
    exact ⟨0, 0, .inl ⟨rfl, rfl⟩, rfl⟩
  refine Sat.skip ?_
  simp only [thenK]
  (repeat refine Sat.seq ?_)
  (refine Sat.region_k fun k hk => ?_; simp -implicitDefEqProofs only [evr, id, reduceCtorEq, reduceIte, Nat.reduceMul, Nat.reduceAdd, Nat.reduceLT, Nat.reduceLeDiff, Nat.reduceEqDiff, Int.reduceLT, Int.reduceBEq, Int.reduceBNe, Nat.reduceBEq, ptr, due_one, dueRow, tsk_one, planC, due_eq, evn])
  refine wcall_plain (nextC cb 4 (by decide) (by decide)) rfl plain_next ?_
  rintro r ⟨y, rfl, hy0, hy1⟩
  have e1 : IntKind.i64.wrap (1 + y) = 1 + y := w64 (by omega)
  simp -implicitDefEqProofs only [evr, id, reduceCtorEq, reduceIte, Nat.reduceMul, Nat.reduceAdd, Nat.reduceLT, Nat.reduceLeDiff, Nat.reduceEqDiff, Int.reduceLT, Int.reduceBEq, Int.reduceBNe, Nat.reduceBEq, ptr, due_one, dueRow, tsk_one, planC, due_eq, e1, evn]
  intro b10
  refine wcall_plain (nextC cb 4 (by decide) (by decide)) rfl plain_next ?_
  rintro r ⟨z, rfl, hz0, hz1⟩
  obtain ⟨i, rfl⟩ := Int.eq_ofNat_of_zero_le hz0
  have e := ints_at [1, 3, 10, 1000] i (by show i < 4; omega)
  simp only [List.map_cons, List.map_nil] at e
  simp -implicitDefEqProofs only [evr, id, reduceCtorEq, reduceIte, Nat.reduceMul, Nat.reduceAdd, Nat.reduceLT, Nat.reduceLeDiff, Nat.reduceEqDiff, Int.reduceLT, Int.reduceBEq, Int.reduceBNe, Nat.reduceBEq, ptr, due_one, dueRow, tsk_one, planC, due_eq, e, evn]
  refine ⟨by omega, by omega, ?_⟩
  (refine hk _ ?_; clear hk k; try show Sat _ _ _ _ _)
  refine Sat.ret ?_
  simp only [Tryd.results23, evr, id, reduceCtorEq, reduceIte, Nat.reduceMul, Nat.reduceAdd, Nat.reduceLT, Nat.reduceLeDiff, Nat.reduceEqDiff, Int.reduceLT, Int.reduceBEq, Int.reduceBNe, Nat.reduceBEq, ptr, due_one, List.append_nil, Int.toNat_zero, Nat.sub_self, dueRow, tsk_one, planC, due_eq]
  refine ⟨_, _, .inr ⟨by omega, by omega, ?_⟩, rfl⟩
  rcases (show i = 0 ∨ i = 1 ∨ i = 2 ∨ i = 3 by omega) with rfl | rfl | rfl | rfl <;> simp
def smallT (t : Tsk) : Prop := t.dst = 167772165 ∧ protoOk t.proto ∧ 0 ≤ t.flow ∧ t.flow < 9 ∧ 1 ≤ t.ttl ∧ t.ttl ≤ 9 ∧ 0 ≤ t.start ∧ t.start < 60 ∧ 1 ≤ t.every ∧ t.every ≤ 20 ∧ 1 ≤ t.count ∧ t.count ≤ 12
theorem smallT.ok {t : Tsk} (h : smallT t) : tskOk t := by
  obtain ⟨_, _, _, _, _, _, h1, h2, h3, h4, h5, h6⟩ := h
  have a : (t.count - 1) * t.every ≤ 11 * 20 := Int.mul_le_mul (by omega) h4 (by omega) (by omega)
  exact ⟨h1, h3, by omega, h5, by omega, by omega⟩
structure RightP (p : PlanP) : Prop where
  len : p.ts.length ≤ 5
  ts : ∀ t ∈ p.ts, smallT t
  buck : buckOk p.burst p.every
theorem sim_agg3 {f g : Nat → SV} (h0 : sim (f 0) (g 0)) (h1 : sim (f 1) (g 1)) (h2 : sim (f 2) (g 2)) : sim (.agg 3 f) (.agg 3 g) := by
  refine ⟨?_, fun R w h j hj => ?_⟩
  · simp only [SV.den]
    have : (List.range 3) = [0, 1, 2] := rfl
    rw [this]
    simp only [List.map_cons, List.map_nil, h0.1, h1.1, h2.1]
  · rcases (show j = 0 ∨ j = 1 ∨ j = 2 by omega) with rfl | rfl | rfl
    · exact h0.2 R w (h 0 (by omega))
    · exact h1.2 R w (h 1 (by omega))
    · exact h2.2 R w (h 2 (by omega))
theorem tsk_app (ts : List Tsk) (x : Tsk) : rdEq (ts.length + 1) 7 (rdCat ts.length (tskRd ts) (rdL (Tsk.cs x) 7)) (tskRd (ts ++ [x])) := by
  intro i j hi hj
  unfold rdCat tskRd
  split
  · rename_i h
    have : (ts ++ [x]).getD i default = ts.getD i default := by simp [List.getD, List.getElem?_append, h]
    rw [this]
  · rename_i h
    have e : i = ts.length := by omega
    subst e
    have : (ts ++ [x]).getD ts.length default = x := by simp [List.getD]
    rw [this, Nat.sub_self]
    rcases (show j = 0 ∨ j = 1 ∨ j = 2 ∨ j = 3 ∨ j = 4 ∨ j = 5 ∨ j = 6 by omega) with rfl | rfl | rfl | rfl | rfl | rfl | rfl <;> rfl
set_option maxRecDepth 100000 in
theorem rightC0 (cb : Nat) : Contract (Frm.codes cb) Tryd.prog 6 [ptr cb] (fun r => ∃ (p : PlanP) (f : Nat → SV), RightP p ∧ r = .agg 3 f ∧ sim (f 0) (.sl p.a p.ts.length p.cap 7 (tskRd p.ts)) ∧ f 1 = .i .i64 p.burst ∧ f 2 = .i .i64 p.every) := by
  refine contract_of Tryd.func6 rfl (by kernel_rfl) ?_
  simp only [Tryd.ntmps6, argEnv, ptr]
  (repeat refine Sat.seq ?_)
  (refine Sat.region_k fun k hk => ?_; simp -implicitDefEqProofs only [evr, id, reduceCtorEq, reduceIte, Nat.reduceMul, Nat.reduceAdd, Nat.reduceLT, Nat.reduceLeDiff, Nat.reduceEqDiff, Int.reduceLT, Int.reduceBEq, Int.reduceBNe, Nat.reduceBEq, ptr, due_one, dueRow, tsk_one, planC, due_eq, evn])
  intro b2
  (refine hk _ ?_; clear hk k; try show Sat _ _ _ _ _)
  (repeat refine Sat.seq ?_)
  (refine Sat.region_k fun k hk => ?_; simp -implicitDefEqProofs only [evr, id, reduceCtorEq, reduceIte, Nat.reduceMul, Nat.reduceAdd, Nat.reduceLT, Nat.reduceLeDiff, Nat.reduceEqDiff, Int.reduceLT, Int.reduceBEq, Int.reduceBNe, Nat.reduceBEq, ptr, due_one, dueRow, tsk_one, planC, due_eq, evn])
  refine wcall_plain (bucketC cb) rfl (by rintro _ ⟨b, e, _, rfl⟩; exact ok_aggL (l := [SV.i .i64 b, .i .i64 e]) rfl) ?_
  rintro r ⟨b, e, hbk, rfl⟩
  simp -implicitDefEqProofs only [evr, id, reduceCtorEq, reduceIte, Nat.reduceMul, Nat.reduceAdd, Nat.reduceLT, Nat.reduceLeDiff, Nat.reduceEqDiff, Int.reduceLT, Int.reduceBEq, Int.reduceBNe, Nat.reduceBEq, ptr, due_one, dueRow, tsk_one, planC, due_eq, evn]
  intro b3
  (refine hk _ ?_; clear hk k; try show Sat _ _ _ _ _)
  refine Sat.adoptBox 1 0 56 7 (tskRd []) rfl rfl ?_
  simp -implicitDefEqProofs only [evr, id, reduceCtorEq, reduceIte, Nat.reduceMul, Nat.reduceAdd, Nat.reduceLT, Nat.reduceLeDiff, Nat.reduceEqDiff, Int.reduceLT, Int.reduceBEq, Int.reduceBNe, Nat.reduceBEq, ptr, due_one, dueRow, tsk_one, planC, due_eq, evn]
  (repeat refine Sat.seq ?_)
  (refine Sat.region_k fun k hk => ?_; simp -implicitDefEqProofs only [evr, id, reduceCtorEq, reduceIte, Nat.reduceMul, Nat.reduceAdd, Nat.reduceLT, Nat.reduceLeDiff, Nat.reduceEqDiff, Int.reduceLT, Int.reduceBEq, Int.reduceBNe, Nat.reduceBEq, ptr, due_one, dueRow, tsk_one, planC, due_eq, evn])
  refine wcall_plain (nextC cb 6 (by decide) (by decide)) rfl plain_next ?_
  rintro r ⟨x, rfl, hx0, hx1⟩
  obtain ⟨m, rfl⟩ := Int.eq_ofNat_of_zero_le hx0
  simp -implicitDefEqProofs only [evr, id, reduceCtorEq, reduceIte, Nat.reduceMul, Nat.reduceAdd, Nat.reduceLT, Nat.reduceLeDiff, Nat.reduceEqDiff, Int.reduceLT, Int.reduceBEq, Int.reduceBNe, Nat.reduceBEq, ptr, due_one, dueRow, tsk_one, planC, due_eq, evn]
  (refine hk _ ?_; clear hk k; try show Sat _ _ _ _ _)
  (repeat refine Sat.seq ?_)
  refine Sat.block ?_
  refine Sat.loop (ι := Nat × Option Addr × Nat × List Tsk) (fun x => ⟨36, [(4, .i .i64 x.1), (0, ptr cb), (3, .op 1 b3 0), (2, .op 0 b2 0)],
      [.box b2 28 [.sl none 0 0 0 fun _ _ => .v undef, .i .i64 0, .i .i64 0], .box b3 28 [.os 2 x.2.1 x.2.2.2.length x.2.2.1, .i .i64 b, .i .i64 e], .row x.2.1 56 x.2.2.2.length x.2.2.1 7 (tskRd x.2.2.2)]⟩)
    (fun x => x.1 + x.2.2.2.length ≤ 5 ∧ ∀ t ∈ x.2.2.2, smallT t) (fun x => x.1) (m, none, 0, []) ⟨by show m + 0 ≤ 5; omega, fun t h => by cases h⟩ (by simp -implicitDefEqProofs only [evr, id, reduceCtorEq, reduceIte, Nat.reduceMul, Nat.reduceAdd, Nat.reduceLT, Nat.reduceLeDiff, Nat.reduceEqDiff, Int.reduceLT, Int.reduceBEq, Int.reduceBNe, Nat.reduceBEq, ptr, due_one, dueRow, tsk_one, planC, due_eq, evl, evn]; repeat' (first | rfl | (refine And.intro ?_ ?_))) ?_
  rintro ⟨k', xa, xc, ts⟩ ⟨hk1, hts⟩
  simp only at hk1 hts ⊢
  (repeat refine Sat.seq ?_)
  (refine Sat.region_k fun k hk => ?_; simp -implicitDefEqProofs only [evr, id, reduceCtorEq, reduceIte, Nat.reduceMul, Nat.reduceAdd, Nat.reduceLT, Nat.reduceLeDiff, Nat.reduceEqDiff, Int.reduceLT, Int.reduceBEq, Int.reduceBNe, Nat.reduceBEq, ptr, due_one, dueRow, tsk_one, planC, due_eq, evn]; refine hk _ ?_; clear hk k; try show Sat _ _ _ _ _)
  (repeat refine Sat.seq ?_)
  refine Sat.cond_b rfl (fun h => ?_) (fun h => ?_)
  · have h1 : 0 < k' := by simp only [decide_eq_true_eq] at h; omega
    have e3 : IntKind.i64.wrap ((k' : Int) - 1) = ((k' - 1 : Nat) : Int) := by rw [w64 (by omega)]; omega
    refine Sat.skip ?_
    simp only [thenK]
    (repeat refine Sat.seq ?_)
    refine Sat.block ?_
    (refine Sat.region_rows [⟨0, 15, 8, 0⟩, ⟨1, 16, 16384, 1⟩, ⟨0, 17, 1, 0⟩, ⟨4, 18, 65536, 2⟩, ⟨0, 19, 1, 0⟩, ⟨24, 20, 262144, 2⟩, ⟨0, 21, 1, 0⟩, ⟨96, 22, 1048576, 2⟩, ⟨128, 23, 2097152, 0⟩, ⟨0, 24, 1, 0⟩, ⟨640, 25, 8388608, 2⟩, ⟨0, 26, 1, 0⟩, ⟨3072, 27, 33554432, 2⟩, ⟨4096, 28, 67108864, 0⟩, ⟨0, 29, 1, 0⟩, ⟨20480, 30, 268435456, 2⟩, ⟨32768, 31, 536870912, 0⟩, ⟨75048, 32, 1229586432, 0⟩, ⟨131072, 33, 2147483648, 2⟩, ⟨294914, 34, 4295000064, 2⟩, ⟨1048575, 35, 8, 0⟩, ⟨2097151, 0, 25769803776, 2⟩] [0, 2, 4, 6, 9, 11, 14, 1] [(3, false), (5, false), (7, false), (8, true), (10, false), (12, false), (13, true), (15, false), (16, false), (17, false), (18, false), (19, false), (20, false), (21, false)] [3, 5, 7, 8, 10, 12, 13, 15, 16, 17, 18] (by kernel_rfl) (by kernel_rfl) (fun _ _ h => h) fun k hk => ?_; simp only [List.map_cons, List.map_nil, List.getD_cons_zero, List.getD_cons_succ, btseq_cons, btseq_free, btseq_nil]; simp -implicitDefEqProofs only [evr, id, reduceCtorEq, reduceIte, Nat.reduceMul, Nat.reduceAdd, Nat.reduceLT, Nat.reduceLeDiff, Nat.reduceEqDiff, Int.reduceLT, Int.reduceBEq, Int.reduceBNe, Nat.reduceBEq, ptr, due_one, dueRow, tsk_one, planC, due_eq, evn])
    refine wcall_plain (protoC cb) rfl (by rintro _ ⟨x, rfl, _⟩; exact ok_plain rfl) ?_
    rintro r ⟨pr, rfl, hpr⟩
    simp -implicitDefEqProofs only [evr, id, reduceCtorEq, reduceIte, Nat.reduceMul, Nat.reduceAdd, Nat.reduceLT, Nat.reduceLeDiff, Nat.reduceEqDiff, Int.reduceLT, Int.reduceBEq, Int.reduceBNe, Nat.reduceBEq, ptr, due_one, dueRow, tsk_one, planC, due_eq, evn]
    refine wcall_plain (nextC cb 9 (by decide) (by decide)) rfl plain_next ?_
    rintro r ⟨fl, rfl, hfl0, hfl1⟩
    simp -implicitDefEqProofs only [evr, id, reduceCtorEq, reduceIte, Nat.reduceMul, Nat.reduceAdd, Nat.reduceLT, Nat.reduceLeDiff, Nat.reduceEqDiff, Int.reduceLT, Int.reduceBEq, Int.reduceBNe, Nat.reduceBEq, ptr, due_one, dueRow, tsk_one, planC, due_eq, evn]
    refine wcall_plain (nextC cb 9 (by decide) (by decide)) rfl plain_next ?_
    rintro r ⟨tt, rfl, htt0, htt1⟩
    have q1 : IntKind.i64.wrap (1 + tt) = 1 + tt := w64 (by omega)
    simp -implicitDefEqProofs only [evr, id, reduceCtorEq, reduceIte, Nat.reduceMul, Nat.reduceAdd, Nat.reduceLT, Nat.reduceLeDiff, Nat.reduceEqDiff, Int.reduceLT, Int.reduceBEq, Int.reduceBNe, Nat.reduceBEq, ptr, due_one, dueRow, tsk_one, planC, due_eq, q1, evn]
    refine wcall_plain (nextC cb 60 (by decide) (by decide)) rfl plain_next ?_
    rintro r ⟨st, rfl, hst0, hst1⟩
    simp -implicitDefEqProofs only [evr, id, reduceCtorEq, reduceIte, Nat.reduceMul, Nat.reduceAdd, Nat.reduceLT, Nat.reduceLeDiff, Nat.reduceEqDiff, Int.reduceLT, Int.reduceBEq, Int.reduceBNe, Nat.reduceBEq, ptr, due_one, dueRow, tsk_one, planC, due_eq, evn]
    refine wcall_plain (nextC cb 20 (by decide) (by decide)) rfl plain_next ?_
    rintro r ⟨ev, rfl, hev0, hev1⟩
    have q2 : IntKind.i64.wrap (1 + ev) = 1 + ev := w64 (by omega)
    simp -implicitDefEqProofs only [evr, id, reduceCtorEq, reduceIte, Nat.reduceMul, Nat.reduceAdd, Nat.reduceLT, Nat.reduceLeDiff, Nat.reduceEqDiff, Int.reduceLT, Int.reduceBEq, Int.reduceBNe, Nat.reduceBEq, ptr, due_one, dueRow, tsk_one, planC, due_eq, q2, evn]
    refine wcall_plain (nextC cb 12 (by decide) (by decide)) rfl plain_next ?_
    rintro r ⟨ct, rfl, hct0, hct1⟩
    have q3 : IntKind.i64.wrap (1 + ct) = 1 + ct := w64 (by omega)
    simp -implicitDefEqProofs only [evr, id, reduceCtorEq, reduceIte, Nat.reduceMul, Nat.reduceAdd, Nat.reduceLT, Nat.reduceLeDiff, Nat.reduceEqDiff, Int.reduceLT, Int.reduceBEq, Int.reduceBNe, Nat.reduceBEq, ptr, due_one, dueRow, tsk_one, planC, due_eq, q3, evn]
    intro blk
    refine ⟨⟨by unfold maxLen; omega, by omega⟩, fun a2 cap2 => ?_⟩
    refine hk _ ?_
    simp only [thenK, blockK]
    refine Sat.region_k fun k hk => ?_
    simp -implicitDefEqProofs only [evr, id, reduceCtorEq, reduceIte, Nat.reduceMul, Nat.reduceAdd, Nat.reduceLT, Nat.reduceLeDiff, Nat.reduceEqDiff, Int.reduceLT, Int.reduceBEq, Int.reduceBNe, Nat.reduceBEq, ptr, due_one, dueRow, tsk_one, planC, due_eq, e3, evn]
    refine hk _ ?_
    simp only [thenK, blockK]
    have ea := tsk_app ts ⟨167772165, pr, fl, 1 + tt, st, 1 + ev, 1 + ct⟩
    refine ⟨(k' - 1, a2, cap2, ts ++ [⟨167772165, pr, fl, 1 + tt, st, 1 + ev, 1 + ct⟩]), ⟨by simp only [List.length_append, List.length_cons, List.length_nil]; omega, fun t ht => ?_⟩, by simp only; omega, ?_⟩
    · simp only [List.mem_append, List.mem_cons, List.not_mem_nil, or_false] at ht
      rcases ht with ht | rfl
      · exact hts t ht
      · exact ⟨rfl, hpr, by simp only; omega, by simp only; omega, by simp only; omega, by simp only; omega, by simp only; omega, by simp only; omega, by simp only; omega, by simp only; omega, by simp only; omega, by simp only; omega⟩
    · simp only [List.length_append, List.length_cons, List.length_nil]
      simp -implicitDefEqProofs only [evr, id, reduceCtorEq, reduceIte, Nat.reduceMul, Nat.reduceAdd, Nat.reduceLT, Nat.reduceLeDiff, Nat.reduceEqDiff, Int.reduceLT, Int.reduceBEq, Int.reduceBNe, Nat.reduceBEq, ptr, due_one, dueRow, tsk_one, planC, due_eq, evl, evn]
      repeat' (first | exact ea | rfl | (refine And.intro ?_ ?_))
  · refine Sat.exit ?_
    simp only [thenK, blockK, reduceIte]
    (repeat refine Sat.seq ?_)
    (refine Sat.region_k fun k hk => ?_; simp -implicitDefEqProofs only [evr, id, reduceCtorEq, reduceIte, Nat.reduceMul, Nat.reduceAdd, Nat.reduceLT, Nat.reduceLeDiff, Nat.reduceEqDiff, Int.reduceLT, Int.reduceBEq, Int.reduceBNe, Nat.reduceBEq, ptr, due_one, dueRow, tsk_one, planC, due_eq, evn]; refine hk _ ?_; clear hk k; try show Sat _ _ _ _ _)
    refine Sat.ret ?_
    simp only [Tryd.results6, evr, id, reduceCtorEq, reduceIte, Nat.reduceMul, Nat.reduceAdd, Nat.reduceLT, Nat.reduceLeDiff, Nat.reduceEqDiff, Int.reduceLT, Int.reduceBEq, Int.reduceBNe, Nat.reduceBEq, ptr, due_one, List.append_nil, Int.toNat_zero, Nat.sub_self, dueRow, tsk_one, planC, due_eq]
    refine ⟨⟨xa, xc, ts, b, e⟩, _, ⟨by simp only; omega, hts, hbk⟩, rfl, ?_, ?_, ?_⟩
    all_goals simp -implicitDefEqProofs only [evr, id, reduceCtorEq, reduceIte, Nat.reduceMul, Nat.reduceAdd, Nat.reduceLT, Nat.reduceLeDiff, Nat.reduceEqDiff, Int.reduceLT, Int.reduceBEq, Int.reduceBNe, Nat.reduceBEq, ptr, due_one, dueRow, tsk_one, planC, due_eq, evn]
    exact sim_refl _
theorem rightC (cb : Nat) : Contract (Frm.codes cb) Tryd.prog 6 [ptr cb] (fun r => ∃ p : PlanP, RightP p ∧ r = planS p) :=
  (rightC0 cb).same fun r ⟨p, f, h1, h2, h3, h4, h5⟩ => ⟨planS p, by
    rw [h2]
    exact sim_agg3 h3 (by rw [h4]; exact sim_refl _) (by rw [h5]; exact sim_refl _), p, h1, rfl⟩
/-! ### The sanity check -/
def awT : Tsk := ⟨167772160, 17, 0, 1, 0, 10, 2⟩
def awL : List Due := [⟨0, 0, 0⟩, ⟨1, 0, 0⟩, ⟨0, 1, 10⟩, ⟨1, 1, 10⟩]
theorem aw_sched {L : List Due} (h : Sched L [awT, awT]) : L = awL := by
  refine due_unique h.asc (by decide) fun r => (h.perm.mem_iff).trans ?_
  have e : gen [awT, awT] 2 = [⟨0, 0, 0⟩, ⟨0, 1, 10⟩, ⟨1, 0, 0⟩, ⟨1, 1, 10⟩] := by decide
  show r ∈ gen [awT, awT] 2 ↔ _
  rw [e]
  simp only [awL, List.mem_cons, List.not_mem_nil, or_false]
  constructor
  · rintro (h | h | h | h) <;> simp [h]
  · rintro (h | h | h | h) <;> simp [h]
set_option maxRecDepth 100000 in
theorem awakeC (F : Frm) : Contract F Tryd.prog 5 [] (fun r => r = .b true) := by
  refine contract_of Tryd.func5 rfl (by kernel_rfl) ?_
  simp only [Tryd.ntmps5, argEnv]
  (repeat refine Sat.seq ?_)
  (refine Sat.region_k fun k hk => ?_; simp -implicitDefEqProofs only [evr, id, reduceCtorEq, reduceIte, Nat.reduceMul, Nat.reduceAdd, Nat.reduceLT, Nat.reduceLeDiff, Nat.reduceEqDiff, Int.reduceLT, Int.reduceBEq, Int.reduceBNe, Nat.reduceBEq, ptr, due_one, dueRow, tsk_one, planC, due_eq, evn]; refine hk _ ?_; clear hk k; try show Sat _ _ _ _ _)
  (repeat refine Sat.seq ?_)
  (refine Sat.region_k fun k hk => ?_; simp -implicitDefEqProofs only [evr, id, reduceCtorEq, reduceIte, Nat.reduceMul, Nat.reduceAdd, Nat.reduceLT, Nat.reduceLeDiff, Nat.reduceEqDiff, Int.reduceLT, Int.reduceBEq, Int.reduceBNe, Nat.reduceBEq, ptr, due_one, dueRow, tsk_one, planC, due_eq, evn])
  intro b1
  (refine hk _ ?_; clear hk k; try show Sat _ _ _ _ _)
  (repeat refine Sat.seq ?_)
  (refine Sat.region_k fun k hk => ?_; simp -implicitDefEqProofs only [evr, id, reduceCtorEq, reduceIte, Nat.reduceMul, Nat.reduceAdd, Nat.reduceLT, Nat.reduceLeDiff, Nat.reduceEqDiff, Int.reduceLT, Int.reduceBEq, Int.reduceBNe, Nat.reduceBEq, ptr, due_one, dueRow, tsk_one, planC, due_eq, evn])
  intro b6
  have hp := allDueC F ⟨some ⟨b6, 0, none⟩, 2, [awT, awT], 0, 0⟩ (by show 2 ≤ 1000; decide) (fun t ht => by
    have : t = awT := by simpa using ht
    subst this
    exact ⟨by decide, by decide, by decide, by decide, by decide, by decide⟩)
  have e7 : ∀ i j, i < 2 → j < 7 → rdL [SV.i .u32 167772160, .i .i64 17, .i .i64 0, .i .i64 1, .i .i64 0, .i .i64 10, .i .i64 2, .i .u32 167772160, .i .i64 17, .i .i64 0, .i .i64 1, .i .i64 0, .i .i64 10, .i .i64 2] 7 i j = tskRd [awT, awT] i j := fun i j hi hj => by
    rcases (show i = 0 ∨ i = 1 by omega) with rfl | rfl <;> rcases (show j = 0 ∨ j = 1 ∨ j = 2 ∨ j = 3 ∨ j = 4 ∨ j = 5 ∨ j = 6 by omega) with rfl | rfl | rfl | rfl | rfl | rfl | rfl <;> rfl
  refine wcall_leaf [.os 1 (some ⟨b6, 0, none⟩) 2 2] rfl rfl (Contract.of_sim (args := [.agg 3 fun j => [SV.sl (some ⟨b6, 0, none⟩) 2 2 7 (rdL [SV.i .u32 167772160, .i .i64 17, .i .i64 0, .i .i64 1, .i .i64 0, .i .i64 10, .i .i64 2, .i .u32 167772160, .i .i64 17, .i .i64 0, .i .i64 1, .i .i64 0, .i .i64 10, .i .i64 2] 7), .i .i64 0, .i .i64 0].getD j default]) hp ⟨sim_agg3 (sim_sl e7) (sim_refl _) (sim_refl _), trivial⟩) ?_ ?_
  · show [SV.agg 3 _] = [SV.agg 3 _]
    congr 2
    funext j
    match j with
    | 0 => simp [roSl, asAny, asRead, frz, frzOne]
    | 1 => rfl
    | 2 => rfl
    | _ + 3 => rfl
  rintro r ⟨a, cap, L, hL, rfl⟩
  obtain rfl := aw_sched hL
  simp -implicitDefEqProofs only [evr, id, reduceCtorEq, reduceIte, Nat.reduceMul, Nat.reduceAdd, Nat.reduceLT, Nat.reduceLeDiff, Nat.reduceEqDiff, Int.reduceLT, Int.reduceBEq, Int.reduceBNe, Nat.reduceBEq, ptr, due_one, dueRow, tsk_one, planC, due_eq, evn]
  (refine hk _ ?_; clear hk k; try show Sat _ _ _ _ _)
  (repeat refine Sat.seq ?_)
  (refine Sat.region_k fun k hk => ?_; simp -implicitDefEqProofs only [evr, id, reduceCtorEq, reduceIte, Nat.reduceMul, Nat.reduceAdd, Nat.reduceLT, Nat.reduceLeDiff, Nat.reduceEqDiff, Int.reduceLT, Int.reduceBEq, Int.reduceBNe, Nat.reduceBEq, ptr, due_one, dueRow, tsk_one, planC, due_eq, evn])
  refine ⟨fun _ => ⟨⟨by decide, by decide⟩, fun _ => ⟨⟨by decide, by decide⟩, ?_⟩, fun h => absurd h (by decide)⟩, fun h => absurd h (by decide)⟩
  (refine hk _ ?_; clear hk k; try show Sat _ _ _ _ _)
  refine Sat.ret ?_
  simp only [Tryd.results5, evr, id, reduceCtorEq, reduceIte, Nat.reduceMul, Nat.reduceAdd, Nat.reduceLT, Nat.reduceLeDiff, Nat.reduceEqDiff, Int.reduceLT, Int.reduceBEq, Int.reduceBNe, Nat.reduceBEq, ptr, due_one, List.append_nil, Int.toNat_zero, Nat.sub_self, dueRow, tsk_one, planC, due_eq]
  try rfl
end Go.Proofs.YtgimngpcfenoaaaDoor
