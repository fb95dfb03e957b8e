/- schedule.All, by the evaluator. -/
import Derived.Test.YtgimngpcfenoaaaDoorPlanM
import Derived.Test.YtgimngpcfenoaaaDoorDueSrt7
import Derived.Test.YtgimngpcfenoaaaDoorCmpI
set_option linter.unusedSimpArgs false
set_option linter.unusedVariables false
namespace Go.Proofs.YtgimngpcfenoaaaDoor
open Go.Sort Eng
theorem tsk_0 (ts : List Tsk) (i : Nat) : tskRd ts i 0 = .i .u32 (ts.getD i default).dst := rfl
theorem tsk_1 (ts : List Tsk) (i : Nat) : tskRd ts i 1 = .i .i64 (ts.getD i default).proto := rfl
theorem tsk_2 (ts : List Tsk) (i : Nat) : tskRd ts i 2 = .i .i64 (ts.getD i default).flow := rfl
theorem tsk_3 (ts : List Tsk) (i : Nat) : tskRd ts i 3 = .i .i64 (ts.getD i default).ttl := rfl
theorem tsk_4 (ts : List Tsk) (i : Nat) : tskRd ts i 4 = .i .i64 (ts.getD i default).start := rfl
theorem tsk_5 (ts : List Tsk) (i : Nat) : tskRd ts i 5 = .i .i64 (ts.getD i default).every := rfl
theorem tsk_6 (ts : List Tsk) (i : Nat) : tskRd ts i 6 = .i .i64 (ts.getD i default).count := rfl
theorem tsk_one (ts : List Tsk) (i j : Nat) (h : j < 7) : oneS (tskRd ts i j) = true := by
  rcases (show j = 0 ∨ j = 1 ∨ j = 2 ∨ j = 3 ∨ j = 4 ∨ j = 5 ∨ j = 6 by omega) with rfl | rfl | rfl | rfl | rfl | rfl | rfl <;> rfl
theorem due_app (xs : List Due) (x : Due) : rdEq (xs.length + 1) 3 (rdCat xs.length (dueRd xs.toArray) (rdL (Due.cs x) 3)) (dueRd (xs ++ [x]).toArray) := by
  intro i j hi hj
  unfold rdCat dueRd
  split
  · rename_i h
    have : (xs ++ [x]).toArray[i]! = xs.toArray[i]! := by simp [getElem!_def, List.getElem?_append, h]
    rw [this]
  · rename_i h
    have e : i = xs.length := by omega
    subst e
    have : (xs ++ [x]).toArray[xs.length]! = x := by simp [getElem!_def]
    rw [this, Nat.sub_self]
    rcases (show j = 0 ∨ j = 1 ∨ j = 2 by omega) with rfl | rfl | rfl <;> rfl
set_option maxRecDepth 100000 in
theorem all1C (F : Frm) (x y : Due) : Contract F Tryd.prog 28 [dueAg x, dueAg y] (fun r => r = .i .i64 (dueCompare x y)) := by
  refine contract_of Tryd.func28 rfl (by kernel_rfl) ?_
  simp only [Tryd.ntmps28, argEnv, dueAg, Due.cs]
  (repeat refine Sat.seq ?_)
  (refine Sat.region_k fun k hk => ?_; simp -implicitDefEqProofs only [evr, id, reduceCtorEq, reduceIte, Nat.reduceMul, Nat.reduceAdd, Nat.reduceLT, Nat.reduceLeDiff, Nat.reduceEqDiff, Int.reduceLT, Int.reduceBEq, Int.reduceBNe, Nat.reduceBEq, due_one, dueRow, tsk_one, tsk_0, tsk_1, tsk_2, tsk_3, tsk_4, tsk_5, tsk_6, planC, evn])
  intro blk1 blk2
  (refine hk _ ?_; clear hk k; try show Sat _ _ _ _ _)
  (repeat refine Sat.seq ?_)
  (refine Sat.region_tree (OT.keep [0, 2, 5, 7, 10, 12, 1, 3, 6, 8, 11, 13] [4, 9] (BT.one 4 (BT.one 9 (BT.one 14 (BT.one 15 (BT.one 16 (BT.one 17 BT.done))))))) (by kernel_rfl) (by kernel_rfl) (fun _ _ h => h) fun k hk => ?_; simp only [WOT, List.map_cons, List.map_nil, List.getD_cons_zero, List.getD_cons_succ]; simp -implicitDefEqProofs only [evr, id, reduceCtorEq, reduceIte, Nat.reduceMul, Nat.reduceAdd, Nat.reduceLT, Nat.reduceLeDiff, Nat.reduceEqDiff, Int.reduceLT, Int.reduceBEq, Int.reduceBNe, Nat.reduceBEq, due_one, dueRow, tsk_one, tsk_0, tsk_1, tsk_2, tsk_3, tsk_4, tsk_5, tsk_6, planC, WOT, evn])
  refine wcall_plain (cmpC F x.at_ y.at_) rfl (by rintro _ rfl; exact ok_plain rfl) ?_
  rintro r rfl
  simp -implicitDefEqProofs only [evr, id, reduceCtorEq, reduceIte, Nat.reduceMul, Nat.reduceAdd, Nat.reduceLT, Nat.reduceLeDiff, Nat.reduceEqDiff, Int.reduceLT, Int.reduceBEq, Int.reduceBNe, Nat.reduceBEq, due_one, dueRow, tsk_one, tsk_0, tsk_1, tsk_2, tsk_3, tsk_4, tsk_5, tsk_6, planC, evn]
  refine wcall_plain (cmpC F x.task y.task) rfl (by rintro _ rfl; exact ok_plain rfl) ?_
  rintro r rfl
  simp -implicitDefEqProofs only [evr, id, reduceCtorEq, reduceIte, Nat.reduceMul, Nat.reduceAdd, Nat.reduceLT, Nat.reduceLeDiff, Nat.reduceEqDiff, Int.reduceLT, Int.reduceBEq, Int.reduceBNe, Nat.reduceBEq, due_one, dueRow, tsk_one, tsk_0, tsk_1, tsk_2, tsk_3, tsk_4, tsk_5, tsk_6, planC, evn]
  refine wcall_plain (cmpC F x.round y.round) rfl (by rintro _ rfl; exact ok_plain rfl) ?_
  rintro r rfl
  simp -implicitDefEqProofs only [evr, id, reduceCtorEq, reduceIte, Nat.reduceMul, Nat.reduceAdd, Nat.reduceLT, Nat.reduceLeDiff, Nat.reduceEqDiff, Int.reduceLT, Int.reduceBEq, Int.reduceBNe, Nat.reduceBEq, due_one, dueRow, tsk_one, tsk_0, tsk_1, tsk_2, tsk_3, tsk_4, tsk_5, tsk_6, planC, evn]
  intro blk3
  refine wcall_plain (orC F (some ⟨blk3, 0, none⟩) 3 [ordI x.at_ y.at_, ordI x.task y.task, ordI x.round y.round] (by simp)) (by simp -implicitDefEqProofs only [evr, id, reduceCtorEq, reduceIte, Nat.reduceMul, Nat.reduceAdd, Nat.reduceLT, Nat.reduceLeDiff, Nat.reduceEqDiff, Int.reduceLT, Int.reduceBEq, Int.reduceBNe, Nat.reduceBEq, due_one, dueRow, tsk_one, tsk_0, tsk_1, tsk_2, tsk_3, tsk_4, tsk_5, tsk_6, planC, intsRd, evn]) (by rintro _ rfl; exact ok_plain rfl) ?_
  rintro r rfl
  simp -implicitDefEqProofs only [evr, id, reduceCtorEq, reduceIte, Nat.reduceMul, Nat.reduceAdd, Nat.reduceLT, Nat.reduceLeDiff, Nat.reduceEqDiff, Int.reduceLT, Int.reduceBEq, Int.reduceBNe, Nat.reduceBEq, due_one, dueRow, tsk_one, tsk_0, tsk_1, tsk_2, tsk_3, tsk_4, tsk_5, tsk_6, planC, evn]
  (refine hk _ ?_; clear hk k; try show Sat _ _ _ _ _)
  refine Sat.ret ?_
  simp only [Tryd.results28, evr, id, reduceCtorEq, reduceIte, Nat.reduceMul, Nat.reduceAdd, Nat.reduceLT, Nat.reduceLeDiff, Nat.reduceEqDiff, Int.reduceLT, Int.reduceBEq, Int.reduceBNe, Nat.reduceBEq, due_one, List.append_nil, Int.toNat_zero, Nat.sub_self, dueRow, tsk_one, tsk_0, tsk_1, tsk_2, tsk_3, tsk_4, tsk_5, tsk_6, planC]
  rfl
theorem dueCmpAll : dueCmp 28 dueLt := fun x y => ⟨dueCompare x y, rfl, fun F => all1C F x y⟩
theorem sched_sorted {g : List Due} {N : Nat} {d' : Array Due} (hN : g.length = N) (hd : d'.size = N) (hn : g.Nodup) (hp : PermIn 0 N g.toArray d') (hs : SortedIn dueLt 0 N d') : d'.toList.Perm g ∧ d'.toList.Pairwise fun a b => dueLt a b = true := by
  subst hN
  have h := hp.2.2
  have e1 : (d'.extract 0 g.length) = d' := by rw [← hd]; simp
  have e2 : (g.toArray.extract 0 g.length) = g.toArray := by simp
  rw [e1, e2] at h
  have hperm : d'.toList.Perm g := by simpa using h
  refine ⟨hperm, sched_of hperm hn ?_⟩
  rw [List.pairwise_iff_getElem]
  intro i j hi hj hij
  have hi' : i < d'.size := by simpa using hi
  have hj' : j < d'.size := by simpa using hj
  have := hs i j (Nat.zero_le _) hij (by omega)
  simpa [getElem!_def, hi', hj'] using this
theorem round_le {t : Tsk} (h : tskOk t) {r : Nat} (hr : (r : Int) < t.count) : 0 ≤ (r : Int) * t.every ∧ (r : Int) * t.every ≤ 1125899906842624 ∧ 0 ≤ t.start + (r : Int) * t.every ∧ t.start + (r : Int) * t.every ≤ 1125899906842624 := by
  obtain ⟨h1, h2, h3, h4, h5, h6⟩ := h
  have a1 : 0 ≤ (r : Int) * t.every := Int.mul_nonneg (by omega) (by omega)
  have a2 : (r : Int) * t.every ≤ (t.count - 1) * t.every := Int.mul_le_mul_of_nonneg_right (by omega) (by omega)
  omega
set_option maxRecDepth 100000 in
theorem allDueC (F : Frm) (p : PlanP) (hn : p.ts.length ≤ 1000) (hok : ∀ t ∈ p.ts, tskOk t) :
    Contract F Tryd.prog 10 [planS p] (fun r => ∃ (a : Option Addr) (cap : Nat) (L : List Due), Sched L p.ts ∧ r = .sl a L.length cap 3 (dueRd L.toArray)) := by
  have hcnt : ∀ k, k ≤ p.ts.length → (gen p.ts k).length ≤ 1000000 := fun k hk => by
    rw [gen_len]
    have := cntT_le p.ts (fun t ht => (hok t ht).2.2.2.2.1) k hk
    have : 1000 * k ≤ 1000 * 1000 := Nat.mul_le_mul_left _ (by omega)
    omega
  refine contract_of Tryd.func10 rfl (by kernel_rfl) ?_
  simp only [Tryd.ntmps10, argEnv, planS, planC]
  (repeat refine Sat.seq ?_)
  (refine Sat.region_k fun k hk => ?_; simp -implicitDefEqProofs only [evr, id, reduceCtorEq, reduceIte, Nat.reduceMul, Nat.reduceAdd, Nat.reduceLT, Nat.reduceLeDiff, Nat.reduceEqDiff, Int.reduceLT, Int.reduceBEq, Int.reduceBNe, Nat.reduceBEq, due_one, dueRow, tsk_one, tsk_0, tsk_1, tsk_2, tsk_3, tsk_4, tsk_5, tsk_6, planC, evn])
  intro blk1
  (refine hk _ ?_; clear hk k; try show Sat _ _ _ _ _)
  (repeat refine Sat.seq ?_)
  (refine Sat.region_k fun k hk => ?_; simp -implicitDefEqProofs only [evr, id, reduceCtorEq, reduceIte, Nat.reduceMul, Nat.reduceAdd, Nat.reduceLT, Nat.reduceLeDiff, Nat.reduceEqDiff, Int.reduceLT, Int.reduceBEq, Int.reduceBNe, Nat.reduceBEq, due_one, dueRow, tsk_one, tsk_0, tsk_1, tsk_2, tsk_3, tsk_4, tsk_5, tsk_6, planC, evn]; refine hk _ ?_; clear hk k; try show Sat _ _ _ _ _)
  refine Sat.adopt 3 36 3 (dueRd #[]) rfl ?_
  simp -implicitDefEqProofs only [evr, id, reduceCtorEq, reduceIte, Nat.reduceMul, Nat.reduceAdd, Nat.reduceLT, Nat.reduceLeDiff, Nat.reduceEqDiff, Int.reduceLT, Int.reduceBEq, Int.reduceBNe, Nat.reduceBEq, due_one, dueRow, tsk_one, tsk_0, tsk_1, tsk_2, tsk_3, tsk_4, tsk_5, tsk_6, planC, evn]
  (repeat refine Sat.seq ?_)
  (refine Sat.region_k fun k hk => ?_; simp -implicitDefEqProofs only [evr, id, reduceCtorEq, reduceIte, Nat.reduceMul, Nat.reduceAdd, Nat.reduceLT, Nat.reduceLeDiff, Nat.reduceEqDiff, Int.reduceLT, Int.reduceBEq, Int.reduceBNe, Nat.reduceBEq, due_one, dueRow, tsk_one, tsk_0, tsk_1, tsk_2, tsk_3, tsk_4, tsk_5, tsk_6, planC, evn]; refine hk _ ?_; clear hk k; try show Sat _ _ _ _ _)
  (repeat refine Sat.seq ?_)
  refine Sat.block ?_
  refine Sat.loop (ι := Nat × Option Addr × Nat) (fun x => ⟨38, [(10, .i .i64 x.1), (9, .i .i64 p.ts.length), (8, .sl p.a p.ts.length p.cap 7 (tskRd p.ts)), (3, .os 1 x.2.1 (gen p.ts x.1).length x.2.2)], [.gone, dueRow x.2.1 (gen p.ts x.1).length x.2.2 (gen p.ts x.1).toArray]⟩)
    (fun x => x.1 ≤ p.ts.length) (fun x => p.ts.length - x.1) (0, none, 0) (Nat.zero_le _) (by simp -implicitDefEqProofs only [evr, id, reduceCtorEq, reduceIte, Nat.reduceMul, Nat.reduceAdd, Nat.reduceLT, Nat.reduceLeDiff, Nat.reduceEqDiff, Int.reduceLT, Int.reduceBEq, Int.reduceBNe, Nat.reduceBEq, due_one, dueRow, tsk_one, tsk_0, tsk_1, tsk_2, tsk_3, tsk_4, tsk_5, tsk_6, planC, evl, evn]; exact ⟨⟨rfl, rfl⟩, rfl, fun i j hi => absurd hi (Nat.not_lt_zero _)⟩) ?_
  rintro ⟨i, xa, xc⟩ hi
  simp only at hi ⊢
  (repeat refine Sat.seq ?_)
  (refine Sat.region_k fun k hk => ?_; simp -implicitDefEqProofs only [evr, id, reduceCtorEq, reduceIte, Nat.reduceMul, Nat.reduceAdd, Nat.reduceLT, Nat.reduceLeDiff, Nat.reduceEqDiff, Int.reduceLT, Int.reduceBEq, Int.reduceBNe, Nat.reduceBEq, due_one, dueRow, tsk_one, tsk_0, tsk_1, tsk_2, tsk_3, tsk_4, tsk_5, tsk_6, planC, evn]; refine hk _ ?_; clear hk k; try show Sat _ _ _ _ _)
  (repeat refine Sat.seq ?_)
  refine Sat.cond_b rfl (fun h => ?_) (fun h => ?_)
  · have h1 : i < p.ts.length := by simp only [decide_eq_true_eq] at h; omega
    have e3 : IntKind.i64.wrap ((i : Int) + 1) = ((i + 1 : Nat) : Int) := by rw [w64 (by omega)]; omega
    have hm : p.ts.getD i default ∈ p.ts := by
      have : p.ts.getD i default = p.ts[i] := by simp [List.getD, h1]
      rw [this]; exact List.getElem_mem _
    have hg : gen p.ts (i + 1) = gen p.ts i ++ duesT i (p.ts.getD i default) (p.ts.getD i default).count.toNat := rfl
    have hl1 := hcnt (i + 1) h1
    rw [hg] at hl1
    have ht := hok _ hm
    generalize hx : p.ts.getD i default = t at hg hl1 ht
    refine Sat.skip ?_
    simp only [thenK]
    (repeat refine Sat.seq ?_)
    refine Sat.block ?_
    (repeat refine Sat.seq ?_)
    refine Sat.region_k fun k hk => ?_
    simp -implicitDefEqProofs only [evr, id, reduceCtorEq, reduceIte, Nat.reduceMul, Nat.reduceAdd, Nat.reduceLT, Nat.reduceLeDiff, Nat.reduceEqDiff, Int.reduceLT, Int.reduceBEq, Int.reduceBNe, Nat.reduceBEq, due_one, dueRow, tsk_one, tsk_0, tsk_1, tsk_2, tsk_3, tsk_4, tsk_5, tsk_6, planC, hx, evn]
    refine ⟨by omega, ?_⟩
    intro blk5
    (refine hk _ ?_; clear hk k; try show Sat _ _ _ _ _)
    (repeat refine Sat.seq ?_)
    (refine Sat.region_k fun k hk => ?_; simp -implicitDefEqProofs only [evr, id, reduceCtorEq, reduceIte, Nat.reduceMul, Nat.reduceAdd, Nat.reduceLT, Nat.reduceLeDiff, Nat.reduceEqDiff, Int.reduceLT, Int.reduceBEq, Int.reduceBNe, Nat.reduceBEq, due_one, dueRow, tsk_one, tsk_0, tsk_1, tsk_2, tsk_3, tsk_4, tsk_5, tsk_6, planC, evn]; refine hk _ ?_; clear hk k; try show Sat _ _ _ _ _)
    (repeat refine Sat.seq ?_)
    refine Sat.block ?_
    refine Sat.loop (ι := Nat × Option Addr × Nat) (fun x => ⟨38, [(17, .i .i64 x.1), (16, .i .i64 t.count), (4, .i .i64 i), (5, .op 2 blk5 0), (10, .i .i64 i), (9, .i .i64 p.ts.length), (8, .sl p.a p.ts.length p.cap 7 (tskRd p.ts)), (3, .os 1 x.2.1 (gen p.ts i ++ duesT i t x.1).length x.2.2)],
        [.gone, dueRow x.2.1 (gen p.ts i ++ duesT i t x.1).length x.2.2 (gen p.ts i ++ duesT i t x.1).toArray, .box blk5 56 (Tsk.cs t)]⟩)
      (fun x => x.1 ≤ t.count.toNat) (fun x => t.count.toNat - x.1) (0, xa, xc) (Nat.zero_le _) (by
        have e0 : duesT i t 0 = [] := rfl
        simp only [e0, List.append_nil, Tsk.cs]
        simp -implicitDefEqProofs only [evr, id, reduceCtorEq, reduceIte, Nat.reduceMul, Nat.reduceAdd, Nat.reduceLT, Nat.reduceLeDiff, Nat.reduceEqDiff, Int.reduceLT, Int.reduceBEq, Int.reduceBNe, Nat.reduceBEq, due_one, dueRow, tsk_one, tsk_0, tsk_1, tsk_2, tsk_3, tsk_4, tsk_5, tsk_6, planC, evl, evn]
        try rfl) ?_
    rintro ⟨r, ya, yc⟩ hr
    simp only [Tsk.cs] at hr ⊢
    (repeat refine Sat.seq ?_)
    (refine Sat.region_k fun k hk => ?_; simp -implicitDefEqProofs only [evr, id, reduceCtorEq, reduceIte, Nat.reduceMul, Nat.reduceAdd, Nat.reduceLT, Nat.reduceLeDiff, Nat.reduceEqDiff, Int.reduceLT, Int.reduceBEq, Int.reduceBNe, Nat.reduceBEq, due_one, dueRow, tsk_one, tsk_0, tsk_1, tsk_2, tsk_3, tsk_4, tsk_5, tsk_6, planC, evn]; refine hk _ ?_; clear hk k; try show Sat _ _ _ _ _)
    (repeat refine Sat.seq ?_)
    refine Sat.cond_b rfl (fun h2 => ?_) (fun h2 => ?_)
    · have h3 : (r : Int) < t.count := by simpa using h2
      obtain ⟨b1, b2, b3, b4⟩ := round_le ht h3
      have hc5 := ht.2.2.2.2.1
      have e4 : IntKind.i64.wrap ((r : Int) + 1) = ((r + 1 : Nat) : Int) := by rw [w64 (by omega)]; omega
      have e5 : IntKind.i64.wrap ((r : Int) * t.every) = (r : Int) * t.every := w64 (by omega)
      have e6 : IntKind.i64.wrap (t.start + (r : Int) * t.every) = t.start + (r : Int) * t.every := w64 (by omega)
      have hlen : (gen p.ts i ++ duesT i t r).length ≤ 1000000 := by
        have : (duesT i t r).length ≤ (duesT i t t.count.toNat).length := by simp [duesT]; omega
        rw [List.length_append] at hl1 ⊢
        omega
      refine Sat.skip ?_
      simp only [thenK]
      (repeat refine Sat.seq ?_)
      refine Sat.block ?_
      (repeat refine Sat.seq ?_)
      (refine Sat.region_k fun k hk => ?_; simp -implicitDefEqProofs only [evr, id, reduceCtorEq, reduceIte, Nat.reduceMul, Nat.reduceAdd, Nat.reduceLT, Nat.reduceLeDiff, Nat.reduceEqDiff, Int.reduceLT, Int.reduceBEq, Int.reduceBNe, Nat.reduceBEq, due_one, dueRow, tsk_one, tsk_0, tsk_1, tsk_2, tsk_3, tsk_4, tsk_5, tsk_6, planC, evn]; refine hk _ ?_; clear hk k; try show Sat _ _ _ _ _)
      (repeat refine Sat.seq ?_)
      refine Sat.region_k fun k hk => ?_
      simp -implicitDefEqProofs only [evr, id, reduceCtorEq, reduceIte, Nat.reduceMul, Nat.reduceAdd, Nat.reduceLT, Nat.reduceLeDiff, Nat.reduceEqDiff, Int.reduceLT, Int.reduceBEq, Int.reduceBNe, Nat.reduceBEq, due_one, dueRow, tsk_one, tsk_0, tsk_1, tsk_2, tsk_3, tsk_4, tsk_5, tsk_6, planC, e5, e6, evn]
      intro blk
      refine ⟨⟨by unfold maxLen; omega, by omega⟩, fun a2 cap2 => ?_⟩
      refine hk _ ?_
      simp only [thenK, blockK]
      refine Sat.region_k fun k hk => ?_
      simp -implicitDefEqProofs only [evr, id, reduceCtorEq, reduceIte, Nat.reduceMul, Nat.reduceAdd, Nat.reduceLT, Nat.reduceLeDiff, Nat.reduceEqDiff, Int.reduceLT, Int.reduceBEq, Int.reduceBNe, Nat.reduceBEq, due_one, dueRow, tsk_one, tsk_0, tsk_1, tsk_2, tsk_3, tsk_4, tsk_5, tsk_6, planC, e4, evn]
      refine hk _ ?_
      simp only [thenK, blockK]
      refine ⟨(r + 1, a2, cap2), by simp only; omega, by simp only; omega, ?_⟩
      have ea := due_app (gen p.ts i ++ duesT i t r) (dueOf i t r)
      simp only [duesT_succ, ← List.append_assoc]
      generalize gen p.ts i ++ duesT i t r = xs at ea ⊢
      rw [List.length_append]
      simp -implicitDefEqProofs only [evr, id, reduceCtorEq, reduceIte, Nat.reduceMul, Nat.reduceAdd, Nat.reduceLT, Nat.reduceLeDiff, Nat.reduceEqDiff, Int.reduceLT, Int.reduceBEq, Int.reduceBNe, Nat.reduceBEq, due_one, dueRow, tsk_one, tsk_0, tsk_1, tsk_2, tsk_3, tsk_4, tsk_5, tsk_6, planC, evl, evn]
      repeat' (first | exact ea | rfl | (refine And.intro ?_ ?_))
    · have h3 : r = t.count.toNat := by have := of_decide_eq_false h2; omega
      subst h3
      refine Sat.exit ?_
      simp only [thenK, blockK, reduceIte]
      refine Sat.region_k fun k hk => ?_
      simp -implicitDefEqProofs only [evr, id, reduceCtorEq, reduceIte, Nat.reduceMul, Nat.reduceAdd, Nat.reduceLT, Nat.reduceLeDiff, Nat.reduceEqDiff, Int.reduceLT, Int.reduceBEq, Int.reduceBNe, Nat.reduceBEq, due_one, dueRow, tsk_one, tsk_0, tsk_1, tsk_2, tsk_3, tsk_4, tsk_5, tsk_6, planC, e3, evn]
      refine hk _ ?_
      simp only [thenK, blockK]
      refine ⟨(i + 1, ya, yc), by simp only; omega, by simp only; omega, ?_⟩
      simp only [hg]
      simp -implicitDefEqProofs only [evr, id, reduceCtorEq, reduceIte, Nat.reduceMul, Nat.reduceAdd, Nat.reduceLT, Nat.reduceLeDiff, Nat.reduceEqDiff, Int.reduceLT, Int.reduceBEq, Int.reduceBNe, Nat.reduceBEq, due_one, dueRow, tsk_one, tsk_0, tsk_1, tsk_2, tsk_3, tsk_4, tsk_5, tsk_6, planC, evl, evn]
      repeat' (first | rfl | (refine And.intro ?_ ?_))
  · have h1 : i = p.ts.length := by simp only [decide_eq_false_iff_not] at h; omega
    subst h1
    have hl := hcnt p.ts.length (Nat.le_refl _)
    refine Sat.exit ?_
    simp only [thenK, blockK, reduceIte]
    (repeat refine Sat.seq ?_)
    (refine Sat.region_k fun k hk => ?_; simp -implicitDefEqProofs only [evr, id, reduceCtorEq, reduceIte, Nat.reduceMul, Nat.reduceAdd, Nat.reduceLT, Nat.reduceLeDiff, Nat.reduceEqDiff, Int.reduceLT, Int.reduceBEq, Int.reduceBNe, Nat.reduceBEq, due_one, dueRow, tsk_one, tsk_0, tsk_1, tsk_2, tsk_3, tsk_4, tsk_5, tsk_6, planC, evn])
    refine wcall_mut 1 (dueSortC F dueLt_swo dueCmpAll xa xc (gen p.ts p.ts.length).length (by omega) (gen p.ts p.ts.length).toArray (by simp)) rfl rfl ?_
    rintro r o1 ⟨rfl, d', hd', ⟨hperm, hsort⟩, rfl⟩
    simp -implicitDefEqProofs only [evr, id, reduceCtorEq, reduceIte, Nat.reduceMul, Nat.reduceAdd, Nat.reduceLT, Nat.reduceLeDiff, Nat.reduceEqDiff, Int.reduceLT, Int.reduceBEq, Int.reduceBNe, Nat.reduceBEq, due_one, dueRow, tsk_one, tsk_0, tsk_1, tsk_2, tsk_3, tsk_4, tsk_5, tsk_6, planC, evn]
    (refine hk _ ?_; clear hk k; try show Sat _ _ _ _ _)
    obtain ⟨g1, g2⟩ := sched_sorted rfl hd' (gen_nodup _ _) hperm hsort
    (repeat refine Sat.seq ?_)
    (refine Sat.region_k fun k hk => ?_; simp -implicitDefEqProofs only [evr, id, reduceCtorEq, reduceIte, Nat.reduceMul, Nat.reduceAdd, Nat.reduceLT, Nat.reduceLeDiff, Nat.reduceEqDiff, Int.reduceLT, Int.reduceBEq, Int.reduceBNe, Nat.reduceBEq, due_one, dueRow, tsk_one, tsk_0, tsk_1, tsk_2, tsk_3, tsk_4, tsk_5, tsk_6, planC, evn]; refine hk _ ?_; clear hk k; try show Sat _ _ _ _ _)
    refine Sat.ret ?_
    simp only [Tryd.results10, evr, id, reduceCtorEq, reduceIte, Nat.reduceMul, Nat.reduceAdd, Nat.reduceLT, Nat.reduceLeDiff, Nat.reduceEqDiff, Int.reduceLT, Int.reduceBEq, Int.reduceBNe, Nat.reduceBEq, due_one, List.append_nil, Int.toNat_zero, Nat.sub_self, dueRow, tsk_one, tsk_0, tsk_1, tsk_2, tsk_3, tsk_4, tsk_5, tsk_6, planC]
    have hlen : d'.toList.length = (gen p.ts p.ts.length).length := by simpa using hd'
    refine ⟨xa, xc, d'.toList, ⟨g2, g1⟩, ?_⟩
    rw [hlen]
end Go.Proofs.YtgimngpcfenoaaaDoor
