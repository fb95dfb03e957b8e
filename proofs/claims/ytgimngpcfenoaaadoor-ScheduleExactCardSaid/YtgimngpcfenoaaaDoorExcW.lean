/- It is proved that the statement ScheduleExact holds for every input: all functions for plans, and Check for any plans, answer as the document's definition says. No conditions. -/
import Derived.Test.YtgimngpcfenoaaaDoorExcP
import Derived.Test.YtgimngpcfenoaaaDoorWalkE
import Derived.Test.YtgimngpcfenoaaaDoorPk3
import Derived.Test.YtgimngpcfenoaaaDoorShScheduleExact
set_option linter.unusedSimpArgs false
set_option linter.unusedVariables false
namespace Go.Proofs.YtgimngpcfenoaaaDoor
open Go.Sort Eng
theorem slB_bytesR (a : Option Addr) (cap : Nat) (z : List Int) (hz : ∀ n ∈ z, (Lit.int .u8 n).wf = true) : isBytes (slB a cap z) :=
  ⟨a, z.length, cap, _, rfl, fun i hi => ⟨z.getD i 0, by have := bounds_u8 (hz _ (getD_mem (d := 0) hi)); omega, by have := bounds_u8 (hz _ (getD_mem (d := 0) hi)); omega, rfl⟩⟩
abbrev FrC (cb : Nat) : Frm := Frm.codesT cb (0 + 1) BlkT blk_low
theorem btw_len (lo hi : Int) : ∀ xs : List Due, (btw lo hi xs).length ≤ xs.length
  | [] => Nat.le_refl _
  | x :: xs => by
    have ih := btw_len lo hi xs
    simp only [btw]
    split
    · simp
    · split
      · simp only [List.length_cons]; omega
      · simp only [List.length_cons]; omega
set_option maxHeartbeats 2000000 in
set_option maxRecDepth 100000 in
theorem exactC (a : Option Addr) (cap : Nat) (z : List Int) (hz : ∀ n ∈ z, (Lit.int .u8 n).wf = true) (raw : PlanP) (hraw : ∀ t ∈ raw.ts, u32 t.dst) (x1 x2 : Int) :
    Contract FrT Tryd.prog 4 [slB a cap z, planS raw, .i .i64 x1, .i .i64 x2] (fun r => r = .b true) := by
  have hb := slB_bytesR a cap z hz
  refine contract_of Tryd.func4 rfl (by kernel_rfl) ?_
  simp only [Tryd.ntmps4, argEnv]
  simp only [planS, planC]
  (repeat refine Sat.seq ?_)
  (refine Sat.region_k fun k hk => ?_; simp -implicitDefEqProofs only [evr, id, reduceCtorEq, reduceIte, Nat.reduceMul, Nat.reduceAdd, Nat.reduceLT, Nat.reduceLeDiff, Nat.reduceEqDiff, Int.reduceLT, Int.reduceBEq, Int.reduceBNe, Nat.reduceBEq, ptr, planC, tsk_one, sh1, evn])
  intro b5
  (refine hk _ ?_; clear hk k; try show Sat _ _ _ _ _)
  (repeat refine Sat.seq ?_)
  refine Sat.region_k fun k hk => ?_
  simp -implicitDefEqProofs only [evr, id, reduceCtorEq, reduceIte, Nat.reduceMul, Nat.reduceAdd, Nat.reduceLT, Nat.reduceLeDiff, Nat.reduceEqDiff, Int.reduceLT, Int.reduceBEq, Int.reduceBNe, Nat.reduceBEq, ptr, planC, tsk_one, sh1, evn]
  refine wcall_plain (awakeC FrT) rfl (by rintro _ rfl; exact ok_plain rfl) ?_
  rintro r rfl
  simp -implicitDefEqProofs only [evr, id, reduceCtorEq, reduceIte, Nat.reduceMul, Nat.reduceAdd, Nat.reduceLT, Nat.reduceLeDiff, Nat.reduceEqDiff, Int.reduceLT, Int.reduceBEq, Int.reduceBNe, Nat.reduceBEq, ptr, planC, tsk_one, sh1, evn]
  (refine hk _ ?_; clear hk k; try show Sat _ _ _ _ _)
  refine Sat.cond_b rfl (fun h => ?_) (fun h => ?_)
  · (repeat refine Sat.seq ?_)
    (refine Sat.region_k fun k hk => ?_; simp -implicitDefEqProofs only [evr, id, reduceCtorEq, reduceIte, Nat.reduceMul, Nat.reduceAdd, Nat.reduceLT, Nat.reduceLeDiff, Nat.reduceEqDiff, Int.reduceLT, Int.reduceBEq, Int.reduceBNe, Nat.reduceBEq, ptr, planC, tsk_one, sh1, evn]; refine hk _ ?_; clear hk k; try show Sat _ _ _ _ _)
    refine Sat.ret ?_
    simp only [Tryd.results4, evr, id, reduceCtorEq, reduceIte, Nat.reduceMul, Nat.reduceAdd, Nat.reduceLT, Nat.reduceLeDiff, Nat.reduceEqDiff, Int.reduceLT, Int.reduceBEq, Int.reduceBNe, Nat.reduceBEq, ptr, List.append_nil, Int.toNat_zero, Nat.sub_self, planC, tsk_one, sh1]
    rw [h]
  have hr100 : raw.ts.length ≤ 100 := by have := of_decide_eq_false h; omega
  clear h
  refine Sat.skip ?_
  simp only [thenK]
  refine Sat.settleBox 5 rfl rfl ?_
  simp -implicitDefEqProofs only [evr, id, reduceCtorEq, reduceIte, Nat.reduceMul, Nat.reduceAdd, Nat.reduceLT, Nat.reduceLeDiff, Nat.reduceEqDiff, Int.reduceLT, Int.reduceBEq, Int.reduceBNe, Nat.reduceBEq, ptr, planC, tsk_one, sh1, evn]
  (repeat refine Sat.seq ?_)
  (refine Sat.region_k fun k hk => ?_; simp -implicitDefEqProofs only [evr, id, reduceCtorEq, reduceIte, Nat.reduceMul, Nat.reduceAdd, Nat.reduceLT, Nat.reduceLeDiff, Nat.reduceEqDiff, Int.reduceLT, Int.reduceBEq, Int.reduceBNe, Nat.reduceBEq, ptr, planC, tsk_one, sh1, evn])
  refine wcall_make (newRC (slB a cap z) hb 200 (by decide)) ?_
  intro cb
  simp -implicitDefEqProofs only [evr, id, reduceCtorEq, reduceIte, Nat.reduceMul, Nat.reduceAdd, Nat.reduceLT, Nat.reduceLeDiff, Nat.reduceEqDiff, Int.reduceLT, Int.reduceBEq, Int.reduceBNe, Nat.reduceBEq, ptr, planC, tsk_one, sh1, evn]
  (refine hk _ ?_; clear hk k; try show Sat _ _ _ _ _)
  refine Sat.switchT (cb := cb) (id := 1) rfl ?_
  (repeat refine Sat.seq ?_)
  (refine Sat.region_k fun k hk => ?_; simp -implicitDefEqProofs only [evr, id, reduceCtorEq, reduceIte, Nat.reduceMul, Nat.reduceAdd, Nat.reduceLT, Nat.reduceLeDiff, Nat.reduceEqDiff, Int.reduceLT, Int.reduceBEq, Int.reduceBNe, Nat.reduceBEq, ptr, planC, tsk_one, sh1, evn])
  refine wcall_slice ((drawPlanC cb).codesT) rfl rfl ?_
  rintro r ⟨P, hP, rfl⟩
  simp -implicitDefEqProofs only [evr, id, reduceCtorEq, reduceIte, Nat.reduceMul, Nat.reduceAdd, Nat.reduceLT, Nat.reduceLeDiff, Nat.reduceEqDiff, Int.reduceLT, Int.reduceBEq, Int.reduceBNe, Nat.reduceBEq, ptr, planC, tsk_one, sh1, planS, evn]
  intro b10
  (refine hk _ ?_; clear hk k; try show Sat _ _ _ _ _)
  have ck1 : Contract (FrC cb) Tryd.prog 11 [planS P] (fun r => r = .i .i64 (planErr P)) := (checkC P (fun t ht => hP.ts t ht)).tabT
  have ck2 := rfCheckC (FrC cb) P (fun t ht => hP.ts t ht)
  have ck3 : Contract (FrC cb) Tryd.prog 11 [planS raw] (fun r => r = .i .i64 (planErr raw)) := (checkC raw (fun t ht => hraw t ht)).tabT
  have ck4 := rfCheckC (FrC cb) raw (fun t ht => hraw t ht)
  (repeat refine Sat.seq ?_)
  refine Sat.join2 (ι := Unit) (fun _ => ⟨110, [(43, .b false), (10, .op 0 b10 0), (9, ptr cb), (5, .el ⟨b5, 0, none⟩ 3 fun j => [SV.sl raw.a raw.ts.length raw.cap 7 (tskRd raw.ts), SV.i .i64 raw.burst, SV.i .i64 raw.every].getD j default), (2, .i .i64 x1), (3, .i .i64 x2)], [.box b10 28 [.sl P.a P.ts.length P.cap 7 (tskRd P.ts), .i .i64 P.burst, .i .i64 P.every]]⟩) (fun _ => True) (fun hrest => ?_) (fun _ _ => ?_)
  · (refine Sat.region_tree (.keep [0, 2] [1] (.one 1 (.one 3 (.one 4 (.one 5 (.alt 6 (.alt 7 (.one 8 (.one 9 (.one 10 (.one 11 .done)))) (.alt 8 (.one 7 (.one 9 (.one 10 (.one 11 .done)))) .none)) (.alt 8 (.one 6 (.one 7 (.one 9 (.one 10 (.one 11 .done))))) .none))))))) (by kernel_rfl) (by kernel_rfl) (fun _ _ h => h) fun k hk => ?_; simp only [WOT, List.map_cons, List.map_nil, List.getD_cons_zero, List.getD_cons_succ]; simp -implicitDefEqProofs only [evr, id, reduceCtorEq, reduceIte, Nat.reduceMul, Nat.reduceAdd, Nat.reduceLT, Nat.reduceLeDiff, Nat.reduceEqDiff, Int.reduceLT, Int.reduceBEq, Int.reduceBNe, Nat.reduceBEq, ptr, planC, tsk_one, sh1, WOT, evn])
    refine wcall_plain ck1 (by simp -implicitDefEqProofs only [evr, id, reduceCtorEq, reduceIte, Nat.reduceMul, Nat.reduceAdd, Nat.reduceLT, Nat.reduceLeDiff, Nat.reduceEqDiff, Int.reduceLT, Int.reduceBEq, Int.reduceBNe, Nat.reduceBEq, ptr, planC, tsk_one, sh1, planS, evn]) (by rintro _ rfl; exact ok_plain rfl) ?_
    rintro r rfl
    simp -implicitDefEqProofs only [evr, id, reduceCtorEq, reduceIte, Nat.reduceMul, Nat.reduceAdd, Nat.reduceLT, Nat.reduceLeDiff, Nat.reduceEqDiff, Int.reduceLT, Int.reduceBEq, Int.reduceBNe, Nat.reduceBEq, ptr, planC, tsk_one, sh1, evn]
    refine wcall_plain ck2 (by simp -implicitDefEqProofs only [evr, id, reduceCtorEq, reduceIte, Nat.reduceMul, Nat.reduceAdd, Nat.reduceLT, Nat.reduceLeDiff, Nat.reduceEqDiff, Int.reduceLT, Int.reduceBEq, Int.reduceBNe, Nat.reduceBEq, ptr, planC, tsk_one, sh1, planS, evn]) (by rintro _ rfl; exact ok_plain rfl) ?_
    rintro r rfl
    simp -implicitDefEqProofs only [evr, id, reduceCtorEq, reduceIte, Nat.reduceMul, Nat.reduceAdd, Nat.reduceLT, Nat.reduceLeDiff, Nat.reduceEqDiff, Int.reduceLT, Int.reduceBEq, Int.reduceBNe, Nat.reduceBEq, ptr, planC, tsk_one, sh1, bne_self_eq_false, evn]
    repeat' (first
      | (with_reducible refine And.intro ?_ ?_)
      | (with_reducible intro hh)
      | (with_reducible refine hk _ ?_
         simp only [thenK]
         refine Sat.le (hrest () trivial) ?_
         simp only [ptr]
         simp -implicitDefEqProofs only [evr, id, reduceCtorEq, reduceIte, Nat.reduceMul, Nat.reduceAdd, Nat.reduceLT, Nat.reduceLeDiff, Nat.reduceEqDiff, Int.reduceLT, Int.reduceBEq, Int.reduceBNe, Nat.reduceBEq, ptr, planC, tsk_one, sh1, evl, evn]
         repeat' (first | rfl | (refine And.intro ?_ ?_))
         done)
      | (refine wcall_plain ck3 (by simp -implicitDefEqProofs only [evr, id, reduceCtorEq, reduceIte, Nat.reduceMul, Nat.reduceAdd, Nat.reduceLT, Nat.reduceLeDiff, Nat.reduceEqDiff, Int.reduceLT, Int.reduceBEq, Int.reduceBNe, Nat.reduceBEq, ptr, planC, tsk_one, sh1, planS, evn]) (by rintro _ rfl; exact ok_plain rfl) ?_
         rintro r rfl
         simp -implicitDefEqProofs only [evr, id, reduceCtorEq, reduceIte, Nat.reduceMul, Nat.reduceAdd, Nat.reduceLT, Nat.reduceLeDiff, Nat.reduceEqDiff, Int.reduceLT, Int.reduceBEq, Int.reduceBNe, Nat.reduceBEq, ptr, planC, tsk_one, sh1, bne_self_eq_false, evn])
      | (refine wcall_plain ck4 (by simp -implicitDefEqProofs only [evr, id, reduceCtorEq, reduceIte, Nat.reduceMul, Nat.reduceAdd, Nat.reduceLT, Nat.reduceLeDiff, Nat.reduceEqDiff, Int.reduceLT, Int.reduceBEq, Int.reduceBNe, Nat.reduceBEq, ptr, planC, tsk_one, sh1, planS, evn]) (by rintro _ rfl; exact ok_plain rfl) ?_
         rintro r rfl
         simp -implicitDefEqProofs only [evr, id, reduceCtorEq, reduceIte, Nat.reduceMul, Nat.reduceAdd, Nat.reduceLT, Nat.reduceLeDiff, Nat.reduceEqDiff, Int.reduceLT, Int.reduceBEq, Int.reduceBNe, Nat.reduceBEq, ptr, planC, tsk_one, sh1, bne_self_eq_false, evn]))
  simp only [ptr]
  refine Sat.cond_b rfl (fun h => absurd h (by decide)) (fun _ => ?_)
  refine Sat.skip ?_
  simp only [thenK]
  (repeat refine Sat.seq ?_)
  (refine Sat.region_k fun k hk => ?_; simp -implicitDefEqProofs only [evr, id, reduceCtorEq, reduceIte, Nat.reduceMul, Nat.reduceAdd, Nat.reduceLT, Nat.reduceLeDiff, Nat.reduceEqDiff, Int.reduceLT, Int.reduceBEq, Int.reduceBNe, Nat.reduceBEq, ptr, planC, tsk_one, sh1, evn])
  intro blk
  (refine hk _ ?_; clear hk k; try show Sat _ _ _ _ _)
  have hrd : ∀ i, i < 2 → ∃ X : PlanP, (∀ t ∈ X.ts, u32 t.dst) ∧ X.ts.length ≤ 100 ∧ rdL [SV.sl P.a P.ts.length P.cap 7 (tskRd P.ts), SV.i .i64 P.burst, SV.i .i64 P.every, SV.sl raw.a raw.ts.length raw.cap 7 (tskRd raw.ts), SV.i .i64 raw.burst, SV.i .i64 raw.every] 3 i 0 = .sl X.a X.ts.length X.cap 7 (tskRd X.ts) ∧
      rdL [SV.sl P.a P.ts.length P.cap 7 (tskRd P.ts), SV.i .i64 P.burst, SV.i .i64 P.every, SV.sl raw.a raw.ts.length raw.cap 7 (tskRd raw.ts), SV.i .i64 raw.burst, SV.i .i64 raw.every] 3 i 1 = .i .i64 X.burst ∧
      rdL [SV.sl P.a P.ts.length P.cap 7 (tskRd P.ts), SV.i .i64 P.burst, SV.i .i64 P.every, SV.sl raw.a raw.ts.length raw.cap 7 (tskRd raw.ts), SV.i .i64 raw.burst, SV.i .i64 raw.every] 3 i 2 = .i .i64 X.every := by
    intro i hi
    rcases (show i = 0 ∨ i = 1 by omega) with rfl | rfl
    · exact ⟨P, hP.ts, by have := hP.len; omega, rfl, rfl, rfl⟩
    · exact ⟨raw, hraw, hr100, rfl, rfl, rfl⟩
  generalize rdL [SV.sl P.a P.ts.length P.cap 7 (tskRd P.ts), SV.i .i64 P.burst, SV.i .i64 P.every, SV.sl raw.a raw.ts.length raw.cap 7 (tskRd raw.ts), SV.i .i64 raw.burst, SV.i .i64 raw.every] 3 = rd at hrd ⊢
  clear ck1 ck2 ck3 ck4
  (repeat refine Sat.seq ?_)
  refine Sat.block ?_
  refine Sat.loop (ι := Nat) (fun i => ⟨110, [(48, .i .i64 i), (47, .i .i64 (2 : Nat)), (46, .os 1 (some ⟨blk, 0, none⟩) 2 2), (9, ptr cb), (2, .i .i64 x1), (3, .i .i64 x2)], [.gone, .row (some ⟨blk, 0, none⟩) 28 2 2 3 rd]⟩) (fun i => i ≤ 2) (fun i => 2 - i) 0 (by decide) (by
    simp only [ptr]
    simp -implicitDefEqProofs only [evr, id, reduceCtorEq, reduceIte, Nat.reduceMul, Nat.reduceAdd, Nat.reduceLT, Nat.reduceLeDiff, Nat.reduceEqDiff, Int.reduceLT, Int.reduceBEq, Int.reduceBNe, Nat.reduceBEq, ptr, planC, tsk_one, sh1, evl, evn]
    repeat' (first | rfl | (refine And.intro ?_ ?_))) ?_
  intro i hi
  simp only [ptr]
  (repeat refine Sat.seq ?_)
  (refine Sat.region_k fun k hk => ?_; simp -implicitDefEqProofs only [evr, id, reduceCtorEq, reduceIte, Nat.reduceMul, Nat.reduceAdd, Nat.reduceLT, Nat.reduceLeDiff, Nat.reduceEqDiff, Int.reduceLT, Int.reduceBEq, Int.reduceBNe, Nat.reduceBEq, ptr, planC, tsk_one, sh1, evn]; refine hk _ ?_; clear hk k; try show Sat _ _ _ _ _)
  (repeat refine Sat.seq ?_)
  refine Sat.cond_b rfl (fun h => ?_) (fun h => ?_)
  · have h1 : i < 2 := by simp only [decide_eq_true_eq] at h; omega
    clear h
    have e3 : IntKind.i64.wrap ((i : Int) + 1) = ((i + 1 : Nat) : Int) := by rw [w64 (by omega)]; omega
    obtain ⟨X, hX, hX1, r0, r1, r2⟩ := hrd i h1
    refine Sat.skip ?_
    simp only [thenK]
    (repeat refine Sat.seq ?_)
    refine Sat.block ?_
    (repeat refine Sat.seq ?_)
    refine Sat.region_k fun k hk => ?_
    simp -implicitDefEqProofs only [evr, id, reduceCtorEq, reduceIte, Nat.reduceMul, Nat.reduceAdd, Nat.reduceLT, Nat.reduceLeDiff, Nat.reduceEqDiff, Int.reduceLT, Int.reduceBEq, Int.reduceBNe, Nat.reduceBEq, ptr, planC, tsk_one, sh1, r0, r1, r2, evn]
    refine ⟨by omega, h1, fun b12 => ?_⟩
    (refine hk _ ?_; clear hk k; try show Sat _ _ _ _ _)
    have ck := rfCheckC (FrC cb) X (fun t ht => hX t ht)
    have sc := smallC (FrC cb) X (by omega)
    (repeat refine Sat.seq ?_)
    refine Sat.join2 (ι := Bool) (fun y => ⟨110, [(59, .b y), (12, .op 2 b12 0), (48, .i .i64 i), (47, .i .i64 (2 : Nat)), (46, .os 1 (some ⟨blk, 0, none⟩) 2 2), (9, ptr cb), (2, .i .i64 x1), (3, .i .i64 x2)], [.gone, .row (some ⟨blk, 0, none⟩) 28 2 2 3 rd, .box b12 28 [.sl X.a X.ts.length X.cap 7 (tskRd X.ts), .i .i64 X.burst, .i .i64 X.every]]⟩) (fun y => y = false → planErr X = 0) (fun hrest => ?_) (fun y hy => ?_)
    · (refine Sat.region_k fun k hk => ?_; simp -implicitDefEqProofs only [evr, id, reduceCtorEq, reduceIte, Nat.reduceMul, Nat.reduceAdd, Nat.reduceLT, Nat.reduceLeDiff, Nat.reduceEqDiff, Int.reduceLT, Int.reduceBEq, Int.reduceBNe, Nat.reduceBEq, ptr, planC, tsk_one, sh1, evn])
      refine wcall_plain ck (by simp -implicitDefEqProofs only [evr, id, reduceCtorEq, reduceIte, Nat.reduceMul, Nat.reduceAdd, Nat.reduceLT, Nat.reduceLeDiff, Nat.reduceEqDiff, Int.reduceLT, Int.reduceBEq, Int.reduceBNe, Nat.reduceBEq, ptr, planC, tsk_one, sh1, planS, evn]) (by rintro _ rfl; exact ok_plain rfl) ?_
      rintro r rfl
      simp -implicitDefEqProofs only [evr, id, reduceCtorEq, reduceIte, Nat.reduceMul, Nat.reduceAdd, Nat.reduceLT, Nat.reduceLeDiff, Nat.reduceEqDiff, Int.reduceLT, Int.reduceBEq, Int.reduceBNe, Nat.reduceBEq, ptr, planC, tsk_one, sh1, evn]
      refine ⟨fun hh => ?_, fun hh => ?_⟩
      · refine hk _ ?_
        simp only [thenK]
        refine Sat.le (hrest true (fun hf => by cases hf)) ?_
        simp only [ptr]
        simp -implicitDefEqProofs only [evr, id, reduceCtorEq, reduceIte, Nat.reduceMul, Nat.reduceAdd, Nat.reduceLT, Nat.reduceLeDiff, Nat.reduceEqDiff, Int.reduceLT, Int.reduceBEq, Int.reduceBNe, Nat.reduceBEq, ptr, planC, tsk_one, sh1, evl, evn]
        repeat' (first | rfl | exact .inl hh | (refine And.intro ?_ ?_))
      · have hz : planErr X = 0 := by simpa using hh
        refine wcall_plain sc (by simp -implicitDefEqProofs only [evr, id, reduceCtorEq, reduceIte, Nat.reduceMul, Nat.reduceAdd, Nat.reduceLT, Nat.reduceLeDiff, Nat.reduceEqDiff, Int.reduceLT, Int.reduceBEq, Int.reduceBNe, Nat.reduceBEq, ptr, planC, tsk_one, sh1, planS, evn]) (by rintro _ ⟨v, rfl⟩; exact ok_plain rfl) ?_
        rintro r ⟨v, rfl⟩
        simp -implicitDefEqProofs only [evr, id, reduceCtorEq, reduceIte, Nat.reduceMul, Nat.reduceAdd, Nat.reduceLT, Nat.reduceLeDiff, Nat.reduceEqDiff, Int.reduceLT, Int.reduceBEq, Int.reduceBNe, Nat.reduceBEq, ptr, planC, tsk_one, sh1, evn]
        refine hk _ ?_
        simp only [thenK]
        refine Sat.le (hrest (!v) (fun _ => hz)) ?_
        simp only [ptr]
        simp -implicitDefEqProofs only [evr, id, reduceCtorEq, reduceIte, Nat.reduceMul, Nat.reduceAdd, Nat.reduceLT, Nat.reduceLeDiff, Nat.reduceEqDiff, Int.reduceLT, Int.reduceBEq, Int.reduceBNe, Nat.reduceBEq, ptr, planC, tsk_one, sh1, evl, evn]
        repeat' (first | rfl | (refine And.intro ?_ ?_))
    simp only [ptr]
    refine Sat.cond_b rfl (fun h => ?_) (fun h => ?_)
    · refine Sat.exit ?_
      simp only [thenK, blockK, reduceIte]
      refine Sat.region_k fun k hk => ?_
      simp -implicitDefEqProofs only [evr, id, reduceCtorEq, reduceIte, Nat.reduceMul, Nat.reduceAdd, Nat.reduceLT, Nat.reduceLeDiff, Nat.reduceEqDiff, Int.reduceLT, Int.reduceBEq, Int.reduceBNe, Nat.reduceBEq, ptr, planC, tsk_one, sh1, e3, evn]
      refine hk _ ?_
      simp only [thenK, blockK]
      refine ⟨i + 1, by omega, by omega, ?_⟩
      try simp only [ptr]
      simp -implicitDefEqProofs only [evr, id, reduceCtorEq, reduceIte, Nat.reduceMul, Nat.reduceAdd, Nat.reduceLT, Nat.reduceLeDiff, Nat.reduceEqDiff, Int.reduceLT, Int.reduceBEq, Int.reduceBNe, Nat.reduceBEq, ptr, planC, tsk_one, sh1, evl, evn]
      repeat' (first | rfl | (refine And.intro ?_ ?_))
    obtain ⟨hn, hok, hbk⟩ := plan_ok (hy h)
    obtain ⟨L, hL, hat, hlen, hby⟩ := plan_listG X hn hok
    have hn' : X.ts.length ≤ 1000 := by omega
    have hbu : 0 ≤ X.burst ∧ X.burst ≤ 65536 := by rcases hbk with h | h <;> omega
    have hev : 0 ≤ X.every ∧ X.every ≤ 1073741824 := by rcases hbk with h | h <;> omega
    have c1 : Contract (FrC cb) Tryd.prog 10 [planS X] (fun r => ∃ a cap, r = .sl a L.length cap 3 (dueRd L.toArray)) := (allDueC (FrC cb) X hn' hok).mono fun r ⟨a, cap, L', hS, hr⟩ => ⟨a, cap, by rw [hr, hL L' hS]⟩
    have c2 : Contract (FrC cb) Tryd.prog 18 [planS X] (fun r => ∃ a cap, r = .sl a L.length cap 3 (dueRd L.toArray)) := (rfAllC (FrC cb) X hn' hok).mono fun r ⟨a, cap, L', hS, hr⟩ => ⟨a, cap, by rw [hr, hL L' hS]⟩
    have c3 := sentC (FrC cb) X hn' hok hbu hev L hL hat (by omega)
    have c4 := rfSentC (FrC cb) X hn' hok hbu hev L hL hat (by omega)
    have c5 := skippedC (FrC cb) X hn' hok hbu hev L hL hat (by omega)
    have c6 := rfSkippedC (FrC cb) X hn' hok hbu hev L hL hat (by omega)
    have c7 : ∀ lo hi : Int, _ := fun lo hi => betweenC (FrC cb) X lo hi hn' hok hbu hev L hL hat (by omega)
    have c8 : ∀ lo hi : Int, _ := fun lo hi => rfBetweenC (FrC cb) X lo hi hn' hok hbu hev L hL hat (by omega) hby
    have hSl := (sentG_sub X.burst X.every ⟨X.burst * X.every, 0⟩ L).length_le
    generalize sentG X.burst X.every ⟨X.burst * X.every, 0⟩ L = S at c3 c4 c5 c6 c7 c8 hSl
    have hBl : ∀ lo hi : Int, (btw lo hi S).length ≤ S.length := fun lo hi => btw_len lo hi S
    have s1 := sameC (FrC cb) L (by omega)
    have s2 := sameC (FrC cb) S (by omega)
    have s3 : ∀ lo hi : Int, _ := fun lo hi => sameC (FrC cb) (btw lo hi S) (by have := hBl lo hi; omega)
    refine Sat.skip ?_
    simp only [thenK]
    (repeat refine Sat.seq ?_)
    (refine Sat.region_k fun k hk => ?_; simp -implicitDefEqProofs only [evr, id, reduceCtorEq, reduceIte, Nat.reduceMul, Nat.reduceAdd, Nat.reduceLT, Nat.reduceLeDiff, Nat.reduceEqDiff, Int.reduceLT, Int.reduceBEq, Int.reduceBNe, Nat.reduceBEq, ptr, planC, tsk_one, sh1, evn])
    refine wcall_plain ((nextC cb 80 (by decide) (by decide)).codesT) rfl plain_next ?_
    rintro r ⟨y1, rfl, _⟩
    simp -implicitDefEqProofs only [evr, id, reduceCtorEq, reduceIte, Nat.reduceMul, Nat.reduceAdd, Nat.reduceLT, Nat.reduceLeDiff, Nat.reduceEqDiff, Int.reduceLT, Int.reduceBEq, Int.reduceBNe, Nat.reduceBEq, ptr, planC, tsk_one, sh1, evn]
    refine wcall_plain ((nextC cb 200 (by decide) (by decide)).codesT) rfl plain_next ?_
    rintro r ⟨y2, rfl, _⟩
    simp -implicitDefEqProofs only [evr, id, reduceCtorEq, reduceIte, Nat.reduceMul, Nat.reduceAdd, Nat.reduceLT, Nat.reduceLeDiff, Nat.reduceEqDiff, Int.reduceLT, Int.reduceBEq, Int.reduceBNe, Nat.reduceBEq, ptr, planC, tsk_one, sh1, evn]
    (refine hk _ ?_; clear hk k; try show Sat _ _ _ _ _)
    (repeat refine Sat.seq ?_)
    refine Sat.join2 (ι := Unit) (fun _ => ⟨110, [(108, .b false), (48, .i .i64 i), (47, .i .i64 (2 : Nat)), (46, .os 1 (some ⟨blk, 0, none⟩) 2 2), (9, ptr cb), (2, .i .i64 x1), (3, .i .i64 x2)], [.gone, .row (some ⟨blk, 0, none⟩) 28 2 2 3 rd]⟩) (fun _ => True) (fun hrest => ?_) (fun _ _ => ?_)
    · (refine Sat.region_bt [⟨0, 65, 4096, 1⟩, ⟨1, 66, 18446744073709551616, 2⟩, ⟨0, 67, 4096, 1⟩, ⟨6, 68, 73786976294838206464, 2⟩, ⟨10, 69, 184467440737095516160, 2⟩, ⟨16, 70, 295147905179352825856, 0⟩, ⟨48, 71, 590295810358705651712, 0⟩, ⟨64, 72, 1180591620717411307520, 1⟩, ⟨192, 73, 3541774862152233910272, 2⟩, ⟨64, 74, 1180591620717411307520, 1⟩, ⟨832, 75, 10625324586456701730816, 2⟩, ⟨1344, 76, 24792424035065637371904, 2⟩, ⟨2112, 77, 38959523483674573012992, 0⟩, ⟨4160, 78, 76738455346631734722560, 0⟩, ⟨10240, 79, 151115727451828646838272, 0⟩, ⟨16384, 80, 302231454903657293680640, 1⟩, ⟨49152, 81, 906694364710971881029632, 2⟩, ⟨16384, 82, 302231454903657293680640, 1⟩, ⟨212992, 83, 2720083094132915643088896, 2⟩, ⟨344064, 84, 6346860552976803167207424, 0⟩, ⟨540672, 85, 9973638011820690691325952, 0⟩, ⟨1310720, 86, 19342813113834066795298816, 0⟩, ⟨2097152, 87, 38685626227668133590601728, 1⟩, ⟨2097152, 88, 38685626227668133590605824, 0⟩, ⟨2097152, 89, 38685626227668133590614016, 0⟩, ⟨31457280, 90, 580284393415022003858964480, 2⟩, ⟨2097152, 91, 38685626227668133590601728, 1⟩, ⟨2097152, 92, 38685626227668133590605824, 0⟩, ⟨2097152, 93, 38685626227668133590614016, 0⟩, ⟨505413632, 94, 8704265901225330057884467200, 2⟩, ⟨572522496, 95, 10561175960153400470233153536, 2⟩, ⟨1075838976, 96, 19845726254793752531976585216, 0⟩, ⟨2149580800, 97, 39652766883359836930362572800, 0⟩, ⟨5368709120, 98, 79228162514264337593543950336, 0⟩, ⟨8589934592, 99, 158456325028528675187087904768, 1⟩, ⟨8589934592, 100, 158456325028528675187087900676, 0⟩, ⟨8589934592, 101, 158456325028528675187087900680, 0⟩, ⟨128849018880, 102, 2376844875427930127806318510080, 2⟩, ⟨8589934592, 103, 158456325028528675187087904768, 1⟩, ⟨8589934592, 104, 158456325028528675187087900676, 0⟩, ⟨8589934592, 105, 158456325028528675187087900680, 0⟩, ⟨2070174236672, 106, 35652673131418951917094777651200, 2⟩, ⟨2345052143616, 107, 43258576732788328326074996883456, 2⟩, ⟨4406636445696, 108, 81288094739635210370976093044736, 0⟩, ⟨8804682956800, 109, 162417733154241892066765098188800, 0⟩] [0, 2] (.one 1 (.one 3 (.one 4 (.one 5 (.one 6 (.alt 7 (.alt 8 (.one 9 (.one 10 (.one 11 (.one 12 (.one 13 (.one 14 (.alt 15 (.alt 16 (.one 17 (.one 18 (.one 19 (.one 20 (.one 21 (.free 23 (.free 24 (.free 27 (.free 28 (.alt 22 (.alt 25 (.one 26 (.one 29 (.one 30 (.one 31 (.one 32 (.one 33 (.free 35 (.free 36 (.free 39 (.free 40 (.alt 34 (.alt 37 (.one 38 (.one 41 (.one 42 (.one 43 (.one 44 .done))))) (.alt 38 (.one 37 (.one 41 (.one 42 (.one 43 (.one 44 .done))))) .none)) (.alt 38 (.one 34 (.one 37 (.one 41 (.one 42 (.one 43 (.one 44 .done)))))) .none)))))))))))) (.alt 26 (.one 25 (.one 29 (.one 30 (.one 31 (.one 32 (.one 33 (.free 35 (.free 36 (.free 39 (.free 40 (.alt 34 (.alt 37 (.one 38 (.one 41 (.one 42 (.one 43 (.one 44 .done))))) (.alt 38 (.one 37 (.one 41 (.one 42 (.one 43 (.one 44 .done))))) .none)) (.alt 38 (.one 34 (.one 37 (.one 41 (.one 42 (.one 43 (.one 44 .done)))))) .none)))))))))))) .none)) (.alt 26 (.one 22 (.one 25 (.one 29 (.one 30 (.one 31 (.one 32 (.one 33 (.free 35 (.free 36 (.free 39 (.free 40 (.alt 34 (.alt 37 (.one 38 (.one 41 (.one 42 (.one 43 (.one 44 .done))))) (.alt 38 (.one 37 (.one 41 (.one 42 (.one 43 (.one 44 .done))))) .none)) (.alt 38 (.one 34 (.one 37 (.one 41 (.one 42 (.one 43 (.one 44 .done)))))) .none))))))))))))) .none))))))))))) (.alt 17 (.one 16 (.one 18 (.one 19 (.one 20 (.one 21 (.free 23 (.free 24 (.free 27 (.free 28 (.alt 22 (.alt 25 (.one 26 (.one 29 (.one 30 (.one 31 (.one 32 (.one 33 (.free 35 (.free 36 (.free 39 (.free 40 (.alt 34 (.alt 37 (.one 38 (.one 41 (.one 42 (.one 43 (.one 44 .done))))) (.alt 38 (.one 37 (.one 41 (.one 42 (.one 43 (.one 44 .done))))) .none)) (.alt 38 (.one 34 (.one 37 (.one 41 (.one 42 (.one 43 (.one 44 .done)))))) .none)))))))))))) (.alt 26 (.one 25 (.one 29 (.one 30 (.one 31 (.one 32 (.one 33 (.free 35 (.free 36 (.free 39 (.free 40 (.alt 34 (.alt 37 (.one 38 (.one 41 (.one 42 (.one 43 (.one 44 .done))))) (.alt 38 (.one 37 (.one 41 (.one 42 (.one 43 (.one 44 .done))))) .none)) (.alt 38 (.one 34 (.one 37 (.one 41 (.one 42 (.one 43 (.one 44 .done)))))) .none)))))))))))) .none)) (.alt 26 (.one 22 (.one 25 (.one 29 (.one 30 (.one 31 (.one 32 (.one 33 (.free 35 (.free 36 (.free 39 (.free 40 (.alt 34 (.alt 37 (.one 38 (.one 41 (.one 42 (.one 43 (.one 44 .done))))) (.alt 38 (.one 37 (.one 41 (.one 42 (.one 43 (.one 44 .done))))) .none)) (.alt 38 (.one 34 (.one 37 (.one 41 (.one 42 (.one 43 (.one 44 .done)))))) .none))))))))))))) .none))))))))))) .none)) (.alt 17 (.one 15 (.one 16 (.one 18 (.one 19 (.one 20 (.one 21 (.free 23 (.free 24 (.free 27 (.free 28 (.alt 22 (.alt 25 (.one 26 (.one 29 (.one 30 (.one 31 (.one 32 (.one 33 (.free 35 (.free 36 (.free 39 (.free 40 (.alt 34 (.alt 37 (.one 38 (.one 41 (.one 42 (.one 43 (.one 44 .done))))) (.alt 38 (.one 37 (.one 41 (.one 42 (.one 43 (.one 44 .done))))) .none)) (.alt 38 (.one 34 (.one 37 (.one 41 (.one 42 (.one 43 (.one 44 .done)))))) .none)))))))))))) (.alt 26 (.one 25 (.one 29 (.one 30 (.one 31 (.one 32 (.one 33 (.free 35 (.free 36 (.free 39 (.free 40 (.alt 34 (.alt 37 (.one 38 (.one 41 (.one 42 (.one 43 (.one 44 .done))))) (.alt 38 (.one 37 (.one 41 (.one 42 (.one 43 (.one 44 .done))))) .none)) (.alt 38 (.one 34 (.one 37 (.one 41 (.one 42 (.one 43 (.one 44 .done)))))) .none)))))))))))) .none)) (.alt 26 (.one 22 (.one 25 (.one 29 (.one 30 (.one 31 (.one 32 (.one 33 (.free 35 (.free 36 (.free 39 (.free 40 (.alt 34 (.alt 37 (.one 38 (.one 41 (.one 42 (.one 43 (.one 44 .done))))) (.alt 38 (.one 37 (.one 41 (.one 42 (.one 43 (.one 44 .done))))) .none)) (.alt 38 (.one 34 (.one 37 (.one 41 (.one 42 (.one 43 (.one 44 .done)))))) .none))))))))))))) .none)))))))))))) .none)))))))) (.alt 9 (.one 8 (.one 10 (.one 11 (.one 12 (.one 13 (.one 14 (.alt 15 (.alt 16 (.one 17 (.one 18 (.one 19 (.one 20 (.one 21 (.free 23 (.free 24 (.free 27 (.free 28 (.alt 22 (.alt 25 (.one 26 (.one 29 (.one 30 (.one 31 (.one 32 (.one 33 (.free 35 (.free 36 (.free 39 (.free 40 (.alt 34 (.alt 37 (.one 38 (.one 41 (.one 42 (.one 43 (.one 44 .done))))) (.alt 38 (.one 37 (.one 41 (.one 42 (.one 43 (.one 44 .done))))) .none)) (.alt 38 (.one 34 (.one 37 (.one 41 (.one 42 (.one 43 (.one 44 .done)))))) .none)))))))))))) (.alt 26 (.one 25 (.one 29 (.one 30 (.one 31 (.one 32 (.one 33 (.free 35 (.free 36 (.free 39 (.free 40 (.alt 34 (.alt 37 (.one 38 (.one 41 (.one 42 (.one 43 (.one 44 .done))))) (.alt 38 (.one 37 (.one 41 (.one 42 (.one 43 (.one 44 .done))))) .none)) (.alt 38 (.one 34 (.one 37 (.one 41 (.one 42 (.one 43 (.one 44 .done)))))) .none)))))))))))) .none)) (.alt 26 (.one 22 (.one 25 (.one 29 (.one 30 (.one 31 (.one 32 (.one 33 (.free 35 (.free 36 (.free 39 (.free 40 (.alt 34 (.alt 37 (.one 38 (.one 41 (.one 42 (.one 43 (.one 44 .done))))) (.alt 38 (.one 37 (.one 41 (.one 42 (.one 43 (.one 44 .done))))) .none)) (.alt 38 (.one 34 (.one 37 (.one 41 (.one 42 (.one 43 (.one 44 .done)))))) .none))))))))))))) .none))))))))))) (.alt 17 (.one 16 (.one 18 (.one 19 (.one 20 (.one 21 (.free 23 (.free 24 (.free 27 (.free 28 (.alt 22 (.alt 25 (.one 26 (.one 29 (.one 30 (.one 31 (.one 32 (.one 33 (.free 35 (.free 36 (.free 39 (.free 40 (.alt 34 (.alt 37 (.one 38 (.one 41 (.one 42 (.one 43 (.one 44 .done))))) (.alt 38 (.one 37 (.one 41 (.one 42 (.one 43 (.one 44 .done))))) .none)) (.alt 38 (.one 34 (.one 37 (.one 41 (.one 42 (.one 43 (.one 44 .done)))))) .none)))))))))))) (.alt 26 (.one 25 (.one 29 (.one 30 (.one 31 (.one 32 (.one 33 (.free 35 (.free 36 (.free 39 (.free 40 (.alt 34 (.alt 37 (.one 38 (.one 41 (.one 42 (.one 43 (.one 44 .done))))) (.alt 38 (.one 37 (.one 41 (.one 42 (.one 43 (.one 44 .done))))) .none)) (.alt 38 (.one 34 (.one 37 (.one 41 (.one 42 (.one 43 (.one 44 .done)))))) .none)))))))))))) .none)) (.alt 26 (.one 22 (.one 25 (.one 29 (.one 30 (.one 31 (.one 32 (.one 33 (.free 35 (.free 36 (.free 39 (.free 40 (.alt 34 (.alt 37 (.one 38 (.one 41 (.one 42 (.one 43 (.one 44 .done))))) (.alt 38 (.one 37 (.one 41 (.one 42 (.one 43 (.one 44 .done))))) .none)) (.alt 38 (.one 34 (.one 37 (.one 41 (.one 42 (.one 43 (.one 44 .done)))))) .none))))))))))))) .none))))))))))) .none)) (.alt 17 (.one 15 (.one 16 (.one 18 (.one 19 (.one 20 (.one 21 (.free 23 (.free 24 (.free 27 (.free 28 (.alt 22 (.alt 25 (.one 26 (.one 29 (.one 30 (.one 31 (.one 32 (.one 33 (.free 35 (.free 36 (.free 39 (.free 40 (.alt 34 (.alt 37 (.one 38 (.one 41 (.one 42 (.one 43 (.one 44 .done))))) (.alt 38 (.one 37 (.one 41 (.one 42 (.one 43 (.one 44 .done))))) .none)) (.alt 38 (.one 34 (.one 37 (.one 41 (.one 42 (.one 43 (.one 44 .done)))))) .none)))))))))))) (.alt 26 (.one 25 (.one 29 (.one 30 (.one 31 (.one 32 (.one 33 (.free 35 (.free 36 (.free 39 (.free 40 (.alt 34 (.alt 37 (.one 38 (.one 41 (.one 42 (.one 43 (.one 44 .done))))) (.alt 38 (.one 37 (.one 41 (.one 42 (.one 43 (.one 44 .done))))) .none)) (.alt 38 (.one 34 (.one 37 (.one 41 (.one 42 (.one 43 (.one 44 .done)))))) .none)))))))))))) .none)) (.alt 26 (.one 22 (.one 25 (.one 29 (.one 30 (.one 31 (.one 32 (.one 33 (.free 35 (.free 36 (.free 39 (.free 40 (.alt 34 (.alt 37 (.one 38 (.one 41 (.one 42 (.one 43 (.one 44 .done))))) (.alt 38 (.one 37 (.one 41 (.one 42 (.one 43 (.one 44 .done))))) .none)) (.alt 38 (.one 34 (.one 37 (.one 41 (.one 42 (.one 43 (.one 44 .done)))))) .none))))))))))))) .none)))))))))))) .none)))))))) .none)) (.alt 9 (.one 7 (.one 8 (.one 10 (.one 11 (.one 12 (.one 13 (.one 14 (.alt 15 (.alt 16 (.one 17 (.one 18 (.one 19 (.one 20 (.one 21 (.free 23 (.free 24 (.free 27 (.free 28 (.alt 22 (.alt 25 (.one 26 (.one 29 (.one 30 (.one 31 (.one 32 (.one 33 (.free 35 (.free 36 (.free 39 (.free 40 (.alt 34 (.alt 37 (.one 38 (.one 41 (.one 42 (.one 43 (.one 44 .done))))) (.alt 38 (.one 37 (.one 41 (.one 42 (.one 43 (.one 44 .done))))) .none)) (.alt 38 (.one 34 (.one 37 (.one 41 (.one 42 (.one 43 (.one 44 .done)))))) .none)))))))))))) (.alt 26 (.one 25 (.one 29 (.one 30 (.one 31 (.one 32 (.one 33 (.free 35 (.free 36 (.free 39 (.free 40 (.alt 34 (.alt 37 (.one 38 (.one 41 (.one 42 (.one 43 (.one 44 .done))))) (.alt 38 (.one 37 (.one 41 (.one 42 (.one 43 (.one 44 .done))))) .none)) (.alt 38 (.one 34 (.one 37 (.one 41 (.one 42 (.one 43 (.one 44 .done)))))) .none)))))))))))) .none)) (.alt 26 (.one 22 (.one 25 (.one 29 (.one 30 (.one 31 (.one 32 (.one 33 (.free 35 (.free 36 (.free 39 (.free 40 (.alt 34 (.alt 37 (.one 38 (.one 41 (.one 42 (.one 43 (.one 44 .done))))) (.alt 38 (.one 37 (.one 41 (.one 42 (.one 43 (.one 44 .done))))) .none)) (.alt 38 (.one 34 (.one 37 (.one 41 (.one 42 (.one 43 (.one 44 .done)))))) .none))))))))))))) .none))))))))))) (.alt 17 (.one 16 (.one 18 (.one 19 (.one 20 (.one 21 (.free 23 (.free 24 (.free 27 (.free 28 (.alt 22 (.alt 25 (.one 26 (.one 29 (.one 30 (.one 31 (.one 32 (.one 33 (.free 35 (.free 36 (.free 39 (.free 40 (.alt 34 (.alt 37 (.one 38 (.one 41 (.one 42 (.one 43 (.one 44 .done))))) (.alt 38 (.one 37 (.one 41 (.one 42 (.one 43 (.one 44 .done))))) .none)) (.alt 38 (.one 34 (.one 37 (.one 41 (.one 42 (.one 43 (.one 44 .done)))))) .none)))))))))))) (.alt 26 (.one 25 (.one 29 (.one 30 (.one 31 (.one 32 (.one 33 (.free 35 (.free 36 (.free 39 (.free 40 (.alt 34 (.alt 37 (.one 38 (.one 41 (.one 42 (.one 43 (.one 44 .done))))) (.alt 38 (.one 37 (.one 41 (.one 42 (.one 43 (.one 44 .done))))) .none)) (.alt 38 (.one 34 (.one 37 (.one 41 (.one 42 (.one 43 (.one 44 .done)))))) .none)))))))))))) .none)) (.alt 26 (.one 22 (.one 25 (.one 29 (.one 30 (.one 31 (.one 32 (.one 33 (.free 35 (.free 36 (.free 39 (.free 40 (.alt 34 (.alt 37 (.one 38 (.one 41 (.one 42 (.one 43 (.one 44 .done))))) (.alt 38 (.one 37 (.one 41 (.one 42 (.one 43 (.one 44 .done))))) .none)) (.alt 38 (.one 34 (.one 37 (.one 41 (.one 42 (.one 43 (.one 44 .done)))))) .none))))))))))))) .none))))))))))) .none)) (.alt 17 (.one 15 (.one 16 (.one 18 (.one 19 (.one 20 (.one 21 (.free 23 (.free 24 (.free 27 (.free 28 (.alt 22 (.alt 25 (.one 26 (.one 29 (.one 30 (.one 31 (.one 32 (.one 33 (.free 35 (.free 36 (.free 39 (.free 40 (.alt 34 (.alt 37 (.one 38 (.one 41 (.one 42 (.one 43 (.one 44 .done))))) (.alt 38 (.one 37 (.one 41 (.one 42 (.one 43 (.one 44 .done))))) .none)) (.alt 38 (.one 34 (.one 37 (.one 41 (.one 42 (.one 43 (.one 44 .done)))))) .none)))))))))))) (.alt 26 (.one 25 (.one 29 (.one 30 (.one 31 (.one 32 (.one 33 (.free 35 (.free 36 (.free 39 (.free 40 (.alt 34 (.alt 37 (.one 38 (.one 41 (.one 42 (.one 43 (.one 44 .done))))) (.alt 38 (.one 37 (.one 41 (.one 42 (.one 43 (.one 44 .done))))) .none)) (.alt 38 (.one 34 (.one 37 (.one 41 (.one 42 (.one 43 (.one 44 .done)))))) .none)))))))))))) .none)) (.alt 26 (.one 22 (.one 25 (.one 29 (.one 30 (.one 31 (.one 32 (.one 33 (.free 35 (.free 36 (.free 39 (.free 40 (.alt 34 (.alt 37 (.one 38 (.one 41 (.one 42 (.one 43 (.one 44 .done))))) (.alt 38 (.one 37 (.one 41 (.one 42 (.one 43 (.one 44 .done))))) .none)) (.alt 38 (.one 34 (.one 37 (.one 41 (.one 42 (.one 43 (.one 44 .done)))))) .none))))))))))))) .none)))))))))))) .none))))))))) .none))))))) 43 [1] (by kernel_rfl) (by kernel_rfl) (fun _ _ h => h) fun k hk => ?_; simp only [List.map_cons, List.map_nil, List.getD_cons_zero, List.getD_cons_succ]; simp -implicitDefEqProofs only [evr, id, reduceCtorEq, reduceIte, Nat.reduceMul, Nat.reduceAdd, Nat.reduceLT, Nat.reduceLeDiff, Nat.reduceEqDiff, Int.reduceLT, Int.reduceBEq, Int.reduceBNe, Nat.reduceBEq, ptr, planC, tsk_one, sh1, evn])
      repeat' (first
        | (with_reducible refine and3_le ?_ ?_ (fun hB => ?_)
           rotate_left 2
           (focus (refine WCall.le hB ?_; simp -implicitDefEqProofs only [evr, id, reduceCtorEq, reduceIte, Nat.reduceMul, Nat.reduceAdd, Nat.reduceLT, Nat.reduceLeDiff, Nat.reduceEqDiff, Int.reduceLT, Int.reduceBEq, Int.reduceBNe, Nat.reduceBEq, ptr, planC, tsk_one, sh1, evl, evn]; done)))
        | (with_reducible refine And.intro ?_ ?_)
        | (with_reducible intro hh; exact absurd hh (by decide))
        | (with_reducible intro hh)
        | (with_reducible refine hk _ ?_
           simp only [thenK]
           refine Sat.le (hrest () trivial) ?_
           simp only [ptr]
           simp -implicitDefEqProofs only [evr, id, reduceCtorEq, reduceIte, Nat.reduceMul, Nat.reduceAdd, Nat.reduceLT, Nat.reduceLeDiff, Nat.reduceEqDiff, Int.reduceLT, Int.reduceBEq, Int.reduceBNe, Nat.reduceBEq, ptr, planC, tsk_one, sh1, evl, evn]
           repeat' (first | rfl | (refine And.intro ?_ ?_))
           done)
        | (refine wcall_slice c1 rfl ?_ ?_
           (focus (simp -implicitDefEqProofs only [evr, id, reduceCtorEq, reduceIte, Nat.reduceMul, Nat.reduceAdd, Nat.reduceLT, Nat.reduceLeDiff, Nat.reduceEqDiff, Int.reduceLT, Int.reduceBEq, Int.reduceBNe, Nat.reduceBEq, ptr, planC, tsk_one, sh1, planS, evn]; done))
           rintro r ⟨a1, k1, rfl⟩
           simp -implicitDefEqProofs only [evr, id, reduceCtorEq, reduceIte, Nat.reduceMul, Nat.reduceAdd, Nat.reduceLT, Nat.reduceLeDiff, Nat.reduceEqDiff, Int.reduceLT, Int.reduceBEq, Int.reduceBNe, Nat.reduceBEq, ptr, planC, tsk_one, sh1, evn])
        | (refine wcall_slice c2 rfl ?_ ?_
           (focus (simp -implicitDefEqProofs only [evr, id, reduceCtorEq, reduceIte, Nat.reduceMul, Nat.reduceAdd, Nat.reduceLT, Nat.reduceLeDiff, Nat.reduceEqDiff, Int.reduceLT, Int.reduceBEq, Int.reduceBNe, Nat.reduceBEq, ptr, planC, tsk_one, sh1, planS, evn]; done))
           rintro r ⟨a2, k2, rfl⟩
           simp -implicitDefEqProofs only [evr, id, reduceCtorEq, reduceIte, Nat.reduceMul, Nat.reduceAdd, Nat.reduceLT, Nat.reduceLeDiff, Nat.reduceEqDiff, Int.reduceLT, Int.reduceBEq, Int.reduceBNe, Nat.reduceBEq, ptr, planC, tsk_one, sh1, evn])
        | (refine wcall_plain (s1 _ _ _ _) rfl (by rintro _ rfl; exact ok_plain rfl) ?_
           rintro r rfl
           simp -implicitDefEqProofs only [evr, id, reduceCtorEq, reduceIte, Nat.reduceMul, Nat.reduceAdd, Nat.reduceLT, Nat.reduceLeDiff, Nat.reduceEqDiff, Int.reduceLT, Int.reduceBEq, Int.reduceBNe, Nat.reduceBEq, ptr, planC, tsk_one, sh1, evn])
        | (refine wcall_slice c3 rfl ?_ ?_
           (focus (simp -implicitDefEqProofs only [evr, id, reduceCtorEq, reduceIte, Nat.reduceMul, Nat.reduceAdd, Nat.reduceLT, Nat.reduceLeDiff, Nat.reduceEqDiff, Int.reduceLT, Int.reduceBEq, Int.reduceBNe, Nat.reduceBEq, ptr, planC, tsk_one, sh1, planS, evn]; done))
           rintro r ⟨a3, k3, rfl⟩
           simp -implicitDefEqProofs only [evr, id, reduceCtorEq, reduceIte, Nat.reduceMul, Nat.reduceAdd, Nat.reduceLT, Nat.reduceLeDiff, Nat.reduceEqDiff, Int.reduceLT, Int.reduceBEq, Int.reduceBNe, Nat.reduceBEq, ptr, planC, tsk_one, sh1, evn])
        | (refine wcall_slice c4 rfl ?_ ?_
           (focus (simp -implicitDefEqProofs only [evr, id, reduceCtorEq, reduceIte, Nat.reduceMul, Nat.reduceAdd, Nat.reduceLT, Nat.reduceLeDiff, Nat.reduceEqDiff, Int.reduceLT, Int.reduceBEq, Int.reduceBNe, Nat.reduceBEq, ptr, planC, tsk_one, sh1, planS, evn]; done))
           rintro r ⟨a4, k4, rfl⟩
           simp -implicitDefEqProofs only [evr, id, reduceCtorEq, reduceIte, Nat.reduceMul, Nat.reduceAdd, Nat.reduceLT, Nat.reduceLeDiff, Nat.reduceEqDiff, Int.reduceLT, Int.reduceBEq, Int.reduceBNe, Nat.reduceBEq, ptr, planC, tsk_one, sh1, evn])
        | (refine wcall_plain (s2 _ _ _ _) rfl (by rintro _ rfl; exact ok_plain rfl) ?_
           rintro r rfl
           simp -implicitDefEqProofs only [evr, id, reduceCtorEq, reduceIte, Nat.reduceMul, Nat.reduceAdd, Nat.reduceLT, Nat.reduceLeDiff, Nat.reduceEqDiff, Int.reduceLT, Int.reduceBEq, Int.reduceBNe, Nat.reduceBEq, ptr, planC, tsk_one, sh1, evn])
        | (refine wcall_plain c5 ?_ (by rintro _ rfl; exact ok_plain rfl) ?_
           (focus (simp -implicitDefEqProofs only [evr, id, reduceCtorEq, reduceIte, Nat.reduceMul, Nat.reduceAdd, Nat.reduceLT, Nat.reduceLeDiff, Nat.reduceEqDiff, Int.reduceLT, Int.reduceBEq, Int.reduceBNe, Nat.reduceBEq, ptr, planC, tsk_one, sh1, planS, evn]; done))
           rintro r rfl
           simp -implicitDefEqProofs only [evr, id, reduceCtorEq, reduceIte, Nat.reduceMul, Nat.reduceAdd, Nat.reduceLT, Nat.reduceLeDiff, Nat.reduceEqDiff, Int.reduceLT, Int.reduceBEq, Int.reduceBNe, Nat.reduceBEq, ptr, planC, tsk_one, sh1, evn])
        | (refine wcall_plain c6 ?_ (by rintro _ rfl; exact ok_plain rfl) ?_
           (focus (simp -implicitDefEqProofs only [evr, id, reduceCtorEq, reduceIte, Nat.reduceMul, Nat.reduceAdd, Nat.reduceLT, Nat.reduceLeDiff, Nat.reduceEqDiff, Int.reduceLT, Int.reduceBEq, Int.reduceBNe, Nat.reduceBEq, ptr, planC, tsk_one, sh1, planS, evn]; done))
           rintro r rfl
           simp -implicitDefEqProofs only [evr, id, reduceCtorEq, reduceIte, Nat.reduceMul, Nat.reduceAdd, Nat.reduceLT, Nat.reduceLeDiff, Nat.reduceEqDiff, Int.reduceLT, Int.reduceBEq, Int.reduceBNe, Nat.reduceBEq, ptr, planC, tsk_one, sh1, bne_self_eq_false, evn])
        | (refine wcall_slice (c7 y1 y2) rfl ?_ ?_
           (focus (simp -implicitDefEqProofs only [evr, id, reduceCtorEq, reduceIte, Nat.reduceMul, Nat.reduceAdd, Nat.reduceLT, Nat.reduceLeDiff, Nat.reduceEqDiff, Int.reduceLT, Int.reduceBEq, Int.reduceBNe, Nat.reduceBEq, ptr, planC, tsk_one, sh1, planS, evn]; done))
           rintro r ⟨a7, k7, rfl⟩
           simp -implicitDefEqProofs only [evr, id, reduceCtorEq, reduceIte, Nat.reduceMul, Nat.reduceAdd, Nat.reduceLT, Nat.reduceLeDiff, Nat.reduceEqDiff, Int.reduceLT, Int.reduceBEq, Int.reduceBNe, Nat.reduceBEq, ptr, planC, tsk_one, sh1, evn])
        | (refine wcall_slice (c7 x1 x2) rfl ?_ ?_
           (focus (simp -implicitDefEqProofs only [evr, id, reduceCtorEq, reduceIte, Nat.reduceMul, Nat.reduceAdd, Nat.reduceLT, Nat.reduceLeDiff, Nat.reduceEqDiff, Int.reduceLT, Int.reduceBEq, Int.reduceBNe, Nat.reduceBEq, ptr, planC, tsk_one, sh1, planS, evn]; done))
           rintro r ⟨a7, k7, rfl⟩
           simp -implicitDefEqProofs only [evr, id, reduceCtorEq, reduceIte, Nat.reduceMul, Nat.reduceAdd, Nat.reduceLT, Nat.reduceLeDiff, Nat.reduceEqDiff, Int.reduceLT, Int.reduceBEq, Int.reduceBNe, Nat.reduceBEq, ptr, planC, tsk_one, sh1, evn])
        | (refine wcall_slice (c8 y1 y2) rfl ?_ ?_
           (focus (simp -implicitDefEqProofs only [evr, id, reduceCtorEq, reduceIte, Nat.reduceMul, Nat.reduceAdd, Nat.reduceLT, Nat.reduceLeDiff, Nat.reduceEqDiff, Int.reduceLT, Int.reduceBEq, Int.reduceBNe, Nat.reduceBEq, ptr, planC, tsk_one, sh1, planS, evn]; done))
           rintro r ⟨a8, k8, rfl⟩
           simp -implicitDefEqProofs only [evr, id, reduceCtorEq, reduceIte, Nat.reduceMul, Nat.reduceAdd, Nat.reduceLT, Nat.reduceLeDiff, Nat.reduceEqDiff, Int.reduceLT, Int.reduceBEq, Int.reduceBNe, Nat.reduceBEq, ptr, planC, tsk_one, sh1, evn])
        | (refine wcall_slice (c8 x1 x2) rfl ?_ ?_
           (focus (simp -implicitDefEqProofs only [evr, id, reduceCtorEq, reduceIte, Nat.reduceMul, Nat.reduceAdd, Nat.reduceLT, Nat.reduceLeDiff, Nat.reduceEqDiff, Int.reduceLT, Int.reduceBEq, Int.reduceBNe, Nat.reduceBEq, ptr, planC, tsk_one, sh1, planS, evn]; done))
           rintro r ⟨a8, k8, rfl⟩
           simp -implicitDefEqProofs only [evr, id, reduceCtorEq, reduceIte, Nat.reduceMul, Nat.reduceAdd, Nat.reduceLT, Nat.reduceLeDiff, Nat.reduceEqDiff, Int.reduceLT, Int.reduceBEq, Int.reduceBNe, Nat.reduceBEq, ptr, planC, tsk_one, sh1, evn])
        | (refine wcall_plain (s3 _ _ _ _ _ _) rfl (by rintro _ rfl; exact ok_plain rfl) ?_
           rintro r rfl
           simp -implicitDefEqProofs only [evr, id, reduceCtorEq, reduceIte, Nat.reduceMul, Nat.reduceAdd, Nat.reduceLT, Nat.reduceLeDiff, Nat.reduceEqDiff, Int.reduceLT, Int.reduceBEq, Int.reduceBNe, Nat.reduceBEq, ptr, planC, tsk_one, sh1, evn]))
    simp only [ptr]
    refine Sat.cond_b rfl (fun h => absurd h (by decide)) (fun _ => ?_)
    refine Sat.skip ?_
    simp only [thenK, blockK]
    refine Sat.region_k fun k hk => ?_
    simp -implicitDefEqProofs only [evr, id, reduceCtorEq, reduceIte, Nat.reduceMul, Nat.reduceAdd, Nat.reduceLT, Nat.reduceLeDiff, Nat.reduceEqDiff, Int.reduceLT, Int.reduceBEq, Int.reduceBNe, Nat.reduceBEq, ptr, planC, tsk_one, sh1, e3, evn]
    refine hk _ ?_
    simp only [thenK, blockK]
    refine ⟨i + 1, by omega, by omega, ?_⟩
    try simp only [ptr]
    simp -implicitDefEqProofs only [evr, id, reduceCtorEq, reduceIte, Nat.reduceMul, Nat.reduceAdd, Nat.reduceLT, Nat.reduceLeDiff, Nat.reduceEqDiff, Int.reduceLT, Int.reduceBEq, Int.reduceBNe, Nat.reduceBEq, ptr, planC, tsk_one, sh1, evl, evn]
    repeat' (first | rfl | (refine And.intro ?_ ?_))
  · refine Sat.exit ?_
    simp only [thenK, blockK, reduceIte]
    (repeat refine Sat.seq ?_)
    (refine Sat.region_k fun k hk => ?_; simp -implicitDefEqProofs only [evr, id, reduceCtorEq, reduceIte, Nat.reduceMul, Nat.reduceAdd, Nat.reduceLT, Nat.reduceLeDiff, Nat.reduceEqDiff, Int.reduceLT, Int.reduceBEq, Int.reduceBNe, Nat.reduceBEq, ptr, planC, tsk_one, sh1, evn]; refine hk _ ?_; clear hk k; try show Sat _ _ _ _ _)
    refine Sat.ret ?_
    simp only [Tryd.results4, evr, id, reduceCtorEq, reduceIte, Nat.reduceMul, Nat.reduceAdd, Nat.reduceLT, Nat.reduceLeDiff, Nat.reduceEqDiff, Int.reduceLT, Int.reduceBEq, Int.reduceBNe, Nat.reduceBEq, ptr, List.append_nil, Int.toNat_zero, Nat.sub_self, planC, tsk_one, sh1]
open Go.RowKit Go.WideShapes Go.ChangeShapes in
theorem sh_fields {P : Program} {D : Nat} {t : TypeId} {ps : List (Nat × TypeId)} {l : List SV} (hu : P.underlying t = some (.struct (P.fieldsOf t))) (hm : (P.fieldsOf t).toList.map (fun f => (f.offset, f.type)) = ps) (h : Sh P (D + 1) t l) :
    l.length = P.cellsOf t ∧ ∀ p ∈ ps, Sh P D p.2 ((l.drop p.1).take (P.cellsOf p.2)) := by
  obtain ⟨h1, h2⟩ := sh_struct hu h
  refine ⟨h1, fun p hp => ?_⟩
  rw [← hm] at hp
  obtain ⟨f, hf, rfl⟩ := List.mem_map.1 hp
  exact h2 f hf
open Go.RowKit Go.WideShapes Go.ChangeShapes in
set_option maxRecDepth 100000 in
theorem tsk_of_sh {D : Nat} {l : List SV} (h : Sh Tryd.prog (D + 2) 56 l) : ∃ t : Tsk, l = t.cs ∧ u32 t.dst := by
  obtain ⟨h1, h2⟩ := sh_fields (ps := [(0, 54), (1, 3), (2, 3), (3, 3), (4, 3), (5, 3), (6, 3)]) (by kernel_rfl) (by kernel_rfl) h
  have hc : Tryd.prog.cellsOf 56 = 7 := by kernel_rfl
  have c1 : Tryd.prog.cellsOf 3 = 1 := by kernel_rfl
  have c2 : Tryd.prog.cellsOf 54 = 1 := by kernel_rfl
  rw [hc] at h1
  match l, h1 with
  | [x0, x1, x2, x3, x4, x5, x6], _ =>
    have g0 := h2 (0, 54) (by simp)
    have g1 := h2 (1, 3) (by simp)
    have g2 := h2 (2, 3) (by simp)
    have g3 := h2 (3, 3) (by simp)
    have g4 := h2 (4, 3) (by simp)
    have g5 := h2 (5, 3) (by simp)
    have g6 := h2 (6, 3) (by simp)
    simp only [c1, c2] at g0 g1 g2 g3 g4 g5 g6
    obtain ⟨n0, e0, w0⟩ := sh_int (k := .u32) (by kernel_rfl) g0
    obtain ⟨n1, e1, w1⟩ := sh_int (k := .i64) (by kernel_rfl) g1
    obtain ⟨n2, e2, w2⟩ := sh_int (k := .i64) (by kernel_rfl) g2
    obtain ⟨n3, e3, w3⟩ := sh_int (k := .i64) (by kernel_rfl) g3
    obtain ⟨n4, e4, w4⟩ := sh_int (k := .i64) (by kernel_rfl) g4
    obtain ⟨n5, e5, w5⟩ := sh_int (k := .i64) (by kernel_rfl) g5
    obtain ⟨n6, e6, w6⟩ := sh_int (k := .i64) (by kernel_rfl) g6
    simp at e0 e1 e2 e3 e4 e5 e6
    subst e0 e1 e2 e3 e4 e5 e6
    exact ⟨⟨n0, n1, n2, n3, n4, n5, n6⟩, rfl, by have := bounds_u32 w0; show u32 n0; unfold u32; omega⟩
open Go.RowKit Go.WideShapes Go.ChangeShapes in
set_option maxRecDepth 100000 in
theorem exact_walk : scheduleExact.Walk := by
  intro w hL l0 l1 l2 l3 c0 s0 o0 c1 s1 o1 c2 s2 o2 c3 s3 o3
  obtain ⟨a, cap, z, rd, rfl, hz, hrd⟩ := sh_ints (e := 5) (k := .u8) (by kernel_rfl) (by kernel_rfl) (by kernel_rfl) s0
  obtain ⟨n2, rfl, w2⟩ := sh_int (k := .i64) (by kernel_rfl) s2
  obtain ⟨n3, rfl, w3⟩ := sh_int (k := .i64) (by kernel_rfl) s3
  obtain ⟨ra, rc, raw, rrd, b, e, rfl, hraw, hrr⟩ : ∃ (ra : Option Addr) (rc : Nat) (raw : List Tsk) (rrd : Nat → Nat → SV) (b e : Int), l1 = [.sl ra raw.length rc 7 rrd, .i .i64 b, .i .i64 e] ∧ (∀ t ∈ raw, u32 t.dst) ∧ rdEq raw.length 7 rrd (tskRd raw) := by
    obtain ⟨h1, h2⟩ := sh_fields (ps := [(0, 24), (1, 26)]) (by kernel_rfl) (by kernel_rfl) s1
    have hc : Tryd.prog.cellsOf 28 = 3 := by kernel_rfl
    have q1 : Tryd.prog.cellsOf 24 = 1 := by kernel_rfl
    have q2 : Tryd.prog.cellsOf 26 = 2 := by kernel_rfl
    have q3 : Tryd.prog.cellsOf 3 = 1 := by kernel_rfl
    rw [hc] at h1
    match l1, h1 with
    | [x0, x1, x2], _ =>
      have g0 := h2 (0, 24) (by simp)
      have g1 := h2 (1, 26) (by simp)
      simp only [q1, q2] at g0 g1
      obtain ⟨ra, rc, raw, rrd, e0, hraw, hrr⟩ := sh_slice Tsk.cs (fun t => u32 t.dst) (sz := 7) (e := 56) (by kernel_rfl) (by kernel_rfl) (fun l h => tsk_of_sh h) g0
      obtain ⟨k1, k2⟩ := sh_fields (ps := [(0, 3), (1, 3)]) (by kernel_rfl) (by kernel_rfl) g1
      have m0 := k2 (0, 3) (by simp)
      have m1 := k2 (1, 3) (by simp)
      simp only [q3] at m0 m1
      obtain ⟨b, e1, _⟩ := sh_int (k := .i64) (by kernel_rfl) m0
      obtain ⟨e, e2, _⟩ := sh_int (k := .i64) (by kernel_rfl) m1
      simp at e0 e1 e2
      subst e0 e1 e2
      exact ⟨ra, rc, raw, rrd, b, e, rfl, hraw, hrr⟩
  rw [valS_one (by kernel_rfl)] at o0 o2 o3
  have e2 : valS Tryd.prog 28 [.sl ra raw.length rc 7 rrd, .i .i64 b, .i .i64 e] = .agg 3 fun j => [SV.sl ra raw.length rc 7 rrd, .i .i64 b, .i .i64 e].getD j default := by kernel_rfl
  rw [valS_one (by kernel_rfl), valS_one (by kernel_rfl), valS_one (by kernel_rfl)]
  rw [e2] at o1 ⊢
  obtain ⟨hT, hN⟩ := blk_of_laid hL (by decide +kernel) (by simp [Rows.scheduleExactRow]; rfl)
  have hc := exactC a cap z hz ⟨ra, rc, raw, b, e⟩ hraw n2 n3
  have hc' : Contract FrT Tryd.prog 4 [.sl a z.length cap 1 rd, .agg 3 fun j => [SV.sl ra raw.length rc 7 rrd, .i .i64 b, .i .i64 e].getD j default, .i .i64 n2, .i .i64 n3] (fun r => r = .b true) :=
    Contract.of_sim hc ⟨sim_sl hrd, sim_agg3 (sim_sl hrr) (sim_refl _) (sim_refl _), sim_refl _, sim_refl _, trivial⟩
  exact walk_ofT hc' hN hT (by
    intro s hs
    simp only [List.mem_cons, List.mem_singleton, List.not_mem_nil, or_false] at hs
    rcases hs with rfl | rfl | rfl | rfl <;> assumption)
theorem exact_holds : Rows.ScheduleExactCardSaid := scheduleExact.card_of_walk exact_walk
end Go.Proofs.YtgimngpcfenoaaaDoor
