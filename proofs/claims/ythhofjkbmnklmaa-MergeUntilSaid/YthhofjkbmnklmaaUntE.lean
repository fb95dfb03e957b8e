/- It is proved that the statement MergeUntil holds for every input: what was known at a time grows with time, and does not depend on when it was merged. No conditions. -/
import Derived.Test.YthhofjkbmnklmaaPk1
set_option linter.unusedSimpArgs false
set_option linter.unusedVariables false
namespace Go.Proofs.Ythhofjkbmnklmaa
open Go.Sort Eng

theorem slB_bytesR (a : Option Addr) (cap : Nat) (z : List Int) (hz : ∀ n ∈ z, (Lit.int .u8 n).wf = true) : isBytes (slB a cap z) :=
  ⟨a, z.length, cap, _, rfl, fun i hi => ⟨z.getD i 0, by have := bounds_u8 (hz _ (getD_mem (d := 0) hi)); omega, by have := bounds_u8 (hz _ (getD_mem (d := 0) hi)); omega, rfl⟩⟩

theorem chk_back {x : Res} (h : chk x = 0) : x.back ≤ 2251799813685248 := by
  have hb : ¬ badRange x = true := fun e => by unfold chk at h; rw [if_pos e] at h; cases h
  rcases (show 2251799813685248 < x.back ∨ x.back ≤ 2251799813685248 by omega) with h2 | h2
  · exact absurd (by simp [badRange, h2]) hb
  · exact h2
def ledB (p : LedP) : List SV := [.sl p.a0 p.rs.length p.c0 17 (resRd p.rs.toArray), .sl p.a1 p.cs.length p.c1 4 (cftRd p.cs)]
set_option maxHeartbeats 2000000 in
set_option maxRecDepth 100000 in
theorem untilsC (a : Option Addr) (cap : Nat) (z : List Int) (hz : ∀ n ∈ z, (Lit.int .u8 n).wf = true) (s y : Int) (hs : 0 ≤ s ∧ s < 256) (hy : 0 ≤ y ∧ y < 256) : Contract Frm.nil Try.prog 6 [slB a cap z, .i .u8 s, .i .u8 y] (fun r => r = .b true) := by
  have hb := slB_bytesR a cap z hz
  refine contract_of Try.func6 rfl (by kernel_rfl) ?_
  simp only [Try.ntmps6, argEnv]
  (repeat refine Sat.seq ?_)
  (refine Sat.region_k fun k hk => ?_; simp -implicitDefEqProofs only [evr, id, reduceCtorEq, reduceIte, Nat.reduceMul, Nat.reduceAdd, Nat.reduceLT, Nat.reduceLeDiff, Nat.reduceEqDiff, Int.reduceLT, Int.reduceBEq, Int.reduceBNe, Nat.reduceBEq, ptr, res_one, res_ro, List.append_nil, Int.toNat_zero, Nat.sub_self, resRow, ledB]; refine hk _ ?_; clear hk k; try show Sat _ _ _ _ _)
  (repeat refine Sat.seq ?_)
  (refine Sat.region_k fun k hk => ?_; simp -implicitDefEqProofs only [evr, id, reduceCtorEq, reduceIte, Nat.reduceMul, Nat.reduceAdd, Nat.reduceLT, Nat.reduceLeDiff, Nat.reduceEqDiff, Int.reduceLT, Int.reduceBEq, Int.reduceBNe, Nat.reduceBEq, ptr, res_one, res_ro, List.append_nil, Int.toNat_zero, Nat.sub_self, resRow, ledB])
  refine wcall_plain (awakeC Frm.nil) rfl (by rintro _ rfl; exact ok_plain rfl) ?_
  rintro r rfl
  simp -implicitDefEqProofs only [evr, id, reduceCtorEq, reduceIte, Nat.reduceMul, Nat.reduceAdd, Nat.reduceLT, Nat.reduceLeDiff, Nat.reduceEqDiff, Int.reduceLT, Int.reduceBEq, Int.reduceBNe, Nat.reduceBEq, ptr, res_one, res_ro, List.append_nil, Int.toNat_zero, Nat.sub_self, resRow, ledB]
  (refine hk _ ?_; clear hk k; try show Sat _ _ _ _ _)
  (repeat refine Sat.seq ?_)
  refine Sat.cond_b rfl (fun h => absurd h (by decide)) (fun _ => ?_)
  refine Sat.skip ?_
  simp only [thenK]
  refine Sat.seq ?_
  (refine Sat.region_k fun k hk => ?_; simp -implicitDefEqProofs only [evr, id, reduceCtorEq, reduceIte, Nat.reduceMul, Nat.reduceAdd, Nat.reduceLT, Nat.reduceLeDiff, Nat.reduceEqDiff, Int.reduceLT, Int.reduceBEq, Int.reduceBNe, Nat.reduceBEq, ptr, res_one, res_ro, List.append_nil, Int.toNat_zero, Nat.sub_self, resRow, ledB])
  refine wcall_make (newRC (slB a cap z) hb 600 (by decide)) ?_
  intro cb
  simp -implicitDefEqProofs only [evr, id, reduceCtorEq, reduceIte, Nat.reduceMul, Nat.reduceAdd, Nat.reduceLT, Nat.reduceLeDiff, Nat.reduceEqDiff, Int.reduceLT, Int.reduceBEq, Int.reduceBNe, Nat.reduceBEq, ptr, res_one, res_ro, List.append_nil, Int.toNat_zero, Nat.sub_self, resRow, ledB]
  (refine hk _ ?_; clear hk k; try show Sat _ _ _ _ _)
  refine Sat.switch (cb := cb) (id := 0) (F' := Frm.codes cb) (fun b => Iff.rfl) rfl ?_
  (repeat refine Sat.seq ?_)
  (refine Sat.region_k fun k hk => ?_; simp -implicitDefEqProofs only [evr, id, reduceCtorEq, reduceIte, Nat.reduceMul, Nat.reduceAdd, Nat.reduceLT, Nat.reduceLeDiff, Nat.reduceEqDiff, Int.reduceLT, Int.reduceBEq, Int.reduceBNe, Nat.reduceBEq, ptr, res_one, res_ro, List.append_nil, Int.toNat_zero, Nat.sub_self, resRow, ledB])
  refine wcall_new (resultsC cb 8 (by decide)) rfl rfl ?_
  rintro ra ty len rc sz rrd ⟨ra', rc', lx, hlx, hwx, e⟩
  simp only [resRow, Own.row.injEq] at e
  obtain ⟨rfl, rfl, rfl, rfl, rfl, rfl⟩ := e
  simp -implicitDefEqProofs only [evr, id, reduceCtorEq, reduceIte, Nat.reduceMul, Nat.reduceAdd, Nat.reduceLT, Nat.reduceLeDiff, Nat.reduceEqDiff, Int.reduceLT, Int.reduceBEq, Int.reduceBNe, Nat.reduceBEq, ptr, res_one, res_ro, List.append_nil, Int.toNat_zero, Nat.sub_self, resRow, ledB]
  refine wcall_slice (ofL (Frm.codes cb) ra rc lx (by omega) (fun x hx => (hwx x hx).2)) rfl (by simp -implicitDefEqProofs only [evr, id, reduceCtorEq, reduceIte, Nat.reduceMul, Nat.reduceAdd, Nat.reduceLT, Nat.reduceLeDiff, Nat.reduceEqDiff, Int.reduceLT, Int.reduceBEq, Int.reduceBNe, Nat.reduceBEq, ptr, res_one, res_ro, List.append_nil, Int.toNat_zero, Nat.sub_self, resRow, ledB]) ?_
  rintro r ⟨p, hp, rfl⟩
  simp -implicitDefEqProofs only [evr, id, reduceCtorEq, reduceIte, Nat.reduceMul, Nat.reduceAdd, Nat.reduceLT, Nat.reduceLeDiff, Nat.reduceEqDiff, Int.reduceLT, Int.reduceBEq, Int.reduceBNe, Nat.reduceBEq, ptr, res_one, res_ro, List.append_nil, Int.toNat_zero, Nat.sub_self, resRow, ledB, ledS]
  refine wcall_new (resultsC cb 8 (by decide)) rfl rfl ?_
  rintro ra ty len rc sz rrd ⟨ra', rc', ly, hly, hwy, e⟩
  simp only [resRow, Own.row.injEq] at e
  obtain ⟨rfl, rfl, rfl, rfl, rfl, rfl⟩ := e
  simp -implicitDefEqProofs only [evr, id, reduceCtorEq, reduceIte, Nat.reduceMul, Nat.reduceAdd, Nat.reduceLT, Nat.reduceLeDiff, Nat.reduceEqDiff, Int.reduceLT, Int.reduceBEq, Int.reduceBNe, Nat.reduceBEq, ptr, res_one, res_ro, List.append_nil, Int.toNat_zero, Nat.sub_self, resRow, ledB]
  refine wcall_slice (ofL (Frm.codes cb) ra rc ly (by omega) (fun x hx => (hwy x hx).2)) rfl (by simp -implicitDefEqProofs only [evr, id, reduceCtorEq, reduceIte, Nat.reduceMul, Nat.reduceAdd, Nat.reduceLT, Nat.reduceLeDiff, Nat.reduceEqDiff, Int.reduceLT, Int.reduceBEq, Int.reduceBNe, Nat.reduceBEq, ptr, res_one, res_ro, List.append_nil, Int.toNat_zero, Nat.sub_self, resRow, ledB]) ?_
  rintro r ⟨q, hq, rfl⟩
  simp -implicitDefEqProofs only [evr, id, reduceCtorEq, reduceIte, Nat.reduceMul, Nat.reduceAdd, Nat.reduceLT, Nat.reduceLeDiff, Nat.reduceEqDiff, Int.reduceLT, Int.reduceBEq, Int.reduceBNe, Nat.reduceBEq, ptr, res_one, res_ro, List.append_nil, Int.toNat_zero, Nat.sub_self, resRow, ledB, ledS]
  intro bx byy
  (refine hk _ ?_; clear hk k; try show Sat _ _ _ _ _)
  have es : IntKind.i64.wrap s = s := w64 (by omega)
  have ey : IntKind.i64.wrap y = y := w64 (by omega)
  have esy : IntKind.i64.wrap (s + y) = s + y := w64 (by omega)
  (repeat refine Sat.seq ?_)
  refine Sat.region_k fun k hk => ?_
  simp -implicitDefEqProofs only [evr, id, reduceCtorEq, reduceIte, Nat.reduceMul, Nat.reduceAdd, Nat.reduceLT, Nat.reduceLeDiff, Nat.reduceEqDiff, Int.reduceLT, Int.reduceBEq, Int.reduceBNe, Nat.reduceBEq, ptr, res_one, res_ro, List.append_nil, Int.toNat_zero, Nat.sub_self, resRow, ledB, es, ey, esy]
  (refine hk _ ?_; clear hk k; try show Sat _ _ _ _ _)
  (repeat refine Sat.seq ?_)
  (refine Sat.region_k fun k hk => ?_; simp -implicitDefEqProofs only [evr, id, reduceCtorEq, reduceIte, Nat.reduceMul, Nat.reduceAdd, Nat.reduceLT, Nat.reduceLeDiff, Nat.reduceEqDiff, Int.reduceLT, Int.reduceBEq, Int.reduceBNe, Nat.reduceBEq, ptr, res_one, res_ro, List.append_nil, Int.toNat_zero, Nat.sub_self, resRow, ledB])
  refine wcall_slice (unionL (Frm.codes cb) hp hq (by omega)) rfl (by simp -implicitDefEqProofs only [evr, id, reduceCtorEq, reduceIte, Nat.reduceMul, Nat.reduceAdd, Nat.reduceLT, Nat.reduceLeDiff, Nat.reduceEqDiff, Int.reduceLT, Int.reduceBEq, Int.reduceBNe, Nat.reduceBEq, ptr, res_one, res_ro, List.append_nil, Int.toNat_zero, Nat.sub_self, resRow, ledB]; rfl) ?_
  rintro r ⟨a1, ha, rfl⟩
  simp -implicitDefEqProofs only [evr, id, reduceCtorEq, reduceIte, Nat.reduceMul, Nat.reduceAdd, Nat.reduceLT, Nat.reduceLeDiff, Nat.reduceEqDiff, Int.reduceLT, Int.reduceBEq, Int.reduceBNe, Nat.reduceBEq, ptr, res_one, res_ro, List.append_nil, Int.toNat_zero, Nat.sub_self, resRow, ledB, ledS]
  intro ba
  (refine hk _ ?_; clear hk k; try show Sat _ _ _ _ _)
  (repeat refine Sat.seq ?_)
  refine Sat.le (st' := ⟨89, [(13, .i .i64 0), (12, .op 4 ba 0), (11, .i .i64 (s + y)), (10, .i .i64 s), (9, .op 3 byy 0), (8, .op 2 bx 0)], [.gone, .gone, .box bx 30 (ledB p), .box byy 30 (ledB q), .box ba 30 (ledB a1)]⟩) ?_ (by simp -implicitDefEqProofs only [evr, id, reduceCtorEq, reduceIte, Nat.reduceMul, Nat.reduceAdd, Nat.reduceLT, Nat.reduceLeDiff, Nat.reduceEqDiff, Int.reduceLT, Int.reduceBEq, Int.reduceBNe, Nat.reduceBEq, ptr, res_one, res_ro, List.append_nil, Int.toNat_zero, Nat.sub_self, resRow, ledB, evl]; try exact ⟨rfl, rfl, rfl⟩)
  refine Sat.region_treeR (.keep [1, 4, 0, 3] [2, 5, 6, 7, 8, 9, 10] (.alt 10 (.one 2 (.one 5 (.one 6 (.one 7 (.free 8 (.free 9 (.one 11 (.one 12 .done)))))))) (.alt 2 (.alt 10 (.one 5 (.one 6 (.one 7 (.free 8 (.free 9 (.one 11 (.one 12 .done))))))) (.alt 5 (.alt 10 (.one 6 (.one 7 (.free 8 (.free 9 (.one 11 (.one 12 .done)))))) (.alt 6 (.free 7 (.free 8 (.free 9 (.one 10 (.one 11 (.one 12 .done)))))) .none)) .none)) .none))) (by kernel_rfl) (by kernel_rfl) (fun _ _ h => h)
    (fun x : { x : Nat × LedP // IsL x.2 (upTo lx s ++ upTo ly s) (lx.length + ly.length) } => ⟨89, [(15, .i .i64 0), (14, .op 5 x.1.1 0), (13, .i .i64 0), (12, .op 4 ba 0), (11, .i .i64 (s + y)), (10, .i .i64 s), (9, .op 3 byy 0), (8, .op 2 bx 0)], [.gone, .gone, .box bx 30 (ledB p), .box byy 30 (ledB q), .box ba 30 (ledB a1), .box x.1.1 30 (ledB x.1.2)]⟩) (fun k hk => ?_) ?_
  · simp only [WOT, List.map_cons, List.map_nil, List.getD_cons_zero, List.getD_cons_succ]
    simp -implicitDefEqProofs only [evr, id, reduceCtorEq, reduceIte, Nat.reduceMul, Nat.reduceAdd, Nat.reduceLT, Nat.reduceLeDiff, Nat.reduceEqDiff, Int.reduceLT, Int.reduceBEq, Int.reduceBNe, Nat.reduceBEq, ptr, res_one, res_ro, List.append_nil, Int.toNat_zero, Nat.sub_self, resRow, ledB, WOT]
    repeat' (first
      | (refine wcall_slice (untilL (Frm.codes cb) hp (by omega) s) rfl (by simp -implicitDefEqProofs only [evr, id, reduceCtorEq, reduceIte, Nat.reduceMul, Nat.reduceAdd, Nat.reduceLT, Nat.reduceLeDiff, Nat.reduceEqDiff, Int.reduceLT, Int.reduceBEq, Int.reduceBNe, Nat.reduceBEq, ptr, res_one, res_ro, List.append_nil, Int.toNat_zero, Nat.sub_self, resRow, ledB]; rfl) ?_; rintro r ⟨u, hu, rfl⟩; simp -implicitDefEqProofs only [evr, id, reduceCtorEq, reduceIte, Nat.reduceMul, Nat.reduceAdd, Nat.reduceLT, Nat.reduceLeDiff, Nat.reduceEqDiff, Int.reduceLT, Int.reduceBEq, Int.reduceBNe, Nat.reduceBEq, ptr, res_one, res_ro, List.append_nil, Int.toNat_zero, Nat.sub_self, resRow, ledB, ledS])
      | (refine wcall_slice (untilL (Frm.codes cb) hq (by omega) s) rfl (by simp -implicitDefEqProofs only [evr, id, reduceCtorEq, reduceIte, Nat.reduceMul, Nat.reduceAdd, Nat.reduceLT, Nat.reduceLeDiff, Nat.reduceEqDiff, Int.reduceLT, Int.reduceBEq, Int.reduceBNe, Nat.reduceBEq, ptr, res_one, res_ro, List.append_nil, Int.toNat_zero, Nat.sub_self, resRow, ledB]; rfl) ?_; rintro r ⟨v, hv, rfl⟩; simp -implicitDefEqProofs only [evr, id, reduceCtorEq, reduceIte, Nat.reduceMul, Nat.reduceAdd, Nat.reduceLT, Nat.reduceLeDiff, Nat.reduceEqDiff, Int.reduceLT, Int.reduceBEq, Int.reduceBNe, Nat.reduceBEq, ptr, res_one, res_ro, List.append_nil, Int.toNat_zero, Nat.sub_self, resRow, ledB, ledS])
      | (refine wcall_slice (unionL (Frm.codes cb) hu hv (by omega)) rfl (by simp -implicitDefEqProofs only [evr, id, reduceCtorEq, reduceIte, Nat.reduceMul, Nat.reduceAdd, Nat.reduceLT, Nat.reduceLeDiff, Nat.reduceEqDiff, Int.reduceLT, Int.reduceBEq, Int.reduceBNe, Nat.reduceBEq, ptr, res_one, res_ro, List.append_nil, Int.toNat_zero, Nat.sub_self, resRow, ledB]; rfl) ?_; rintro r ⟨b1, hb1, rfl⟩; simp -implicitDefEqProofs only [evr, id, reduceCtorEq, reduceIte, Nat.reduceMul, Nat.reduceAdd, Nat.reduceLT, Nat.reduceLeDiff, Nat.reduceEqDiff, Int.reduceLT, Int.reduceBEq, Int.reduceBNe, Nat.reduceBEq, ptr, res_one, res_ro, List.append_nil, Int.toNat_zero, Nat.sub_self, resRow, ledB, ledS])
      | (intro blk)
      | (refine And.intro ?_ ?_))
    all_goals first | (refine hk _ ⟨(blk, b1), hb1⟩ [0, 1, 2, 3, 4, 5] ⟨rfl, ?_, by decide, ?_⟩ <;> simp -implicitDefEqProofs only [evr, id, reduceCtorEq, reduceIte, Nat.reduceMul, Nat.reduceAdd, Nat.reduceLT, Nat.reduceLeDiff, Nat.reduceEqDiff, Int.reduceLT, Int.reduceBEq, Int.reduceBNe, Nat.reduceBEq, ptr, res_one, res_ro, List.append_nil, Int.toNat_zero, Nat.sub_self, resRow, ledB, Res.cs, evl]) | trace_state
  rintro ⟨⟨bb, b1⟩, hb1⟩
  simp only at hb1
  simp only [thenK, ledB]
  (repeat refine Sat.seq ?_)
  (refine Sat.region_rows [⟨0, 50, 8192, 0⟩, ⟨1, 51, 562949953421312, 0⟩, ⟨2, 52, 1125899906842624, 0⟩, ⟨4, 53, 2251799813718016, 0⟩, ⟨12, 54, 6755399441055744, 0⟩, ⟨20, 55, 11258999068426240, 0⟩, ⟨36, 56, 18014398509481984, 0⟩, ⟨64, 57, 36028797018968064, 1⟩, ⟨64, 58, 36028797018964992, 0⟩, ⟨448, 59, 252201579132747776, 2⟩, ⟨64, 60, 36028797018980352, 1⟩, ⟨1600, 61, 900719925474099200, 2⟩, ⟨2112, 62, 1188950301625810944, 0⟩, ⟨4160, 63, 2341871806232657920, 0⟩] [0, 1, 2, 3, 4, 5, 6, 8, 7, 10] [(9, false), (11, false), (12, false), (13, false)] [9] (by kernel_rfl) (by kernel_rfl) (fun _ _ h => h) fun k hk => ?_; simp only [List.map_cons, List.map_nil, List.getD_cons_zero, List.getD_cons_succ, btseq_cons, btseq_free, btseq_nil]; simp -implicitDefEqProofs only [evr, id, reduceCtorEq, reduceIte, Nat.reduceMul, Nat.reduceAdd, Nat.reduceLT, Nat.reduceLeDiff, Nat.reduceEqDiff, Int.reduceLT, Int.reduceBEq, Int.reduceBNe, Nat.reduceBEq, ptr, res_one, res_ro, List.append_nil, Int.toNat_zero, Nat.sub_self, resRow, ledB])
  refine wcall_slice (untilL (Frm.codes cb) ha (by omega) s) rfl (by simp -implicitDefEqProofs only [evr, id, reduceCtorEq, reduceIte, Nat.reduceMul, Nat.reduceAdd, Nat.reduceLT, Nat.reduceLeDiff, Nat.reduceEqDiff, Int.reduceLT, Int.reduceBEq, Int.reduceBNe, Nat.reduceBEq, ptr, res_one, res_ro, List.append_nil, Int.toNat_zero, Nat.sub_self, resRow, ledB]; rfl) ?_
  rintro r ⟨us, hus, rfl⟩
  simp -implicitDefEqProofs only [evr, id, reduceCtorEq, reduceIte, Nat.reduceMul, Nat.reduceAdd, Nat.reduceLT, Nat.reduceLeDiff, Nat.reduceEqDiff, Int.reduceLT, Int.reduceBEq, Int.reduceBNe, Nat.reduceBEq, ptr, res_one, res_ro, List.append_nil, Int.toNat_zero, Nat.sub_self, resRow, ledB, ledS]
  refine wcall_plain (sameL (Frm.codes cb) hus hb1 (by omega) (by omega) (fun r => by simp only [List.mem_append, upTo_mem]; constructor <;> (rintro (h | h) <;> simp_all))) (by simp -implicitDefEqProofs only [evr, id, reduceCtorEq, reduceIte, Nat.reduceMul, Nat.reduceAdd, Nat.reduceLT, Nat.reduceLeDiff, Nat.reduceEqDiff, Int.reduceLT, Int.reduceBEq, Int.reduceBNe, Nat.reduceBEq, ptr, res_one, res_ro, List.append_nil, Int.toNat_zero, Nat.sub_self, resRow, ledB]; rfl) (by rintro _ rfl; exact ok_plain rfl) ?_
  rintro r rfl
  simp -implicitDefEqProofs only [evr, id, reduceCtorEq, reduceIte, Nat.reduceMul, Nat.reduceAdd, Nat.reduceLT, Nat.reduceLeDiff, Nat.reduceEqDiff, Int.reduceLT, Int.reduceBEq, Int.reduceBNe, Nat.reduceBEq, ptr, res_one, res_ro, List.append_nil, Int.toNat_zero, Nat.sub_self, resRow, ledB]
  (refine hk _ ?_; clear hk k; try show Sat _ _ _ _ _)
  refine Sat.cond_b rfl (fun h => absurd h (by decide)) (fun _ => ?_)
  refine Sat.skip ?_
  simp only [thenK]
  have hsy : s ≤ s + y := by omega
  have hbk : ∀ r, r ∈ lx ++ ly → r.back ≤ 2251799813685248 := fun r hr => by
    have hck : chk r = 0 := by
      rcases List.mem_append.1 hr with h | h
      · exact (hwx r h).1
      · exact (hwy r h).1
    exact chk_back hck
  (repeat refine Sat.seq ?_)
  (refine Sat.region_tree (.keep [1, 3, 6, 0, 5] [2, 4, 7] (.one 2 (.one 4 (.one 7 (.one 8 (.one 9 (.free 11 (.free 15 (.alt 10 (.alt 12 (.alt 13 (.one 14 (.one 16 (.one 17 (.one 18 (.one 19 (.one 20 (.alt 21 (.alt 22 (.one 23 (.one 24 (.one 25 (.one 26 .done)))) (.alt 23 (.one 22 (.one 24 (.one 25 (.one 26 .done)))) .none)) (.alt 23 (.one 21 (.one 22 (.one 24 (.one 25 (.one 26 .done))))) .none)))))))) (.alt 14 (.one 13 (.one 16 (.one 17 (.one 18 (.one 19 (.one 20 (.alt 21 (.alt 22 (.one 23 (.one 24 (.one 25 (.one 26 .done)))) (.alt 23 (.one 22 (.one 24 (.one 25 (.one 26 .done)))) .none)) (.alt 23 (.one 21 (.one 22 (.one 24 (.one 25 (.one 26 .done))))) .none)))))))) .none)) (.alt 14 (.one 12 (.one 13 (.one 16 (.one 17 (.one 18 (.one 19 (.one 20 (.alt 21 (.alt 22 (.one 23 (.one 24 (.one 25 (.one 26 .done)))) (.alt 23 (.one 22 (.one 24 (.one 25 (.one 26 .done)))) .none)) (.alt 23 (.one 21 (.one 22 (.one 24 (.one 25 (.one 26 .done))))) .none))))))))) .none)) (.alt 14 (.one 10 (.one 12 (.one 13 (.one 16 (.one 17 (.one 18 (.one 19 (.one 20 (.alt 21 (.alt 22 (.one 23 (.one 24 (.one 25 (.one 26 .done)))) (.alt 23 (.one 22 (.one 24 (.one 25 (.one 26 .done)))) .none)) (.alt 23 (.one 21 (.one 22 (.one 24 (.one 25 (.one 26 .done))))) .none)))))))))) .none)))))))))) (by kernel_rfl) (by kernel_rfl) (fun _ _ h => h) fun k hk => ?_; simp only [WOT, List.map_cons, List.map_nil, List.getD_cons_zero, List.getD_cons_succ]; simp -implicitDefEqProofs only [evr, id, reduceCtorEq, reduceIte, Nat.reduceMul, Nat.reduceAdd, Nat.reduceLT, Nat.reduceLeDiff, Nat.reduceEqDiff, Int.reduceLT, Int.reduceBEq, Int.reduceBNe, Nat.reduceBEq, ptr, res_one, res_ro, List.append_nil, Int.toNat_zero, Nat.sub_self, resRow, ledB, WOT])
  repeat' (first
    | (refine wcall_slice (untilL (Frm.codes cb) ha (by omega) (s + y)) rfl (by simp -implicitDefEqProofs only [evr, id, reduceCtorEq, reduceIte, Nat.reduceMul, Nat.reduceAdd, Nat.reduceLT, Nat.reduceLeDiff, Nat.reduceEqDiff, Int.reduceLT, Int.reduceBEq, Int.reduceBNe, Nat.reduceBEq, ptr, res_one, res_ro, List.append_nil, Int.toNat_zero, Nat.sub_self, resRow, ledB]; rfl) ?_; rintro r ⟨ut, hut, rfl⟩; simp -implicitDefEqProofs only [evr, id, reduceCtorEq, reduceIte, Nat.reduceMul, Nat.reduceAdd, Nat.reduceLT, Nat.reduceLeDiff, Nat.reduceEqDiff, Int.reduceLT, Int.reduceBEq, Int.reduceBNe, Nat.reduceBEq, ptr, res_one, res_ro, List.append_nil, Int.toNat_zero, Nat.sub_self, resRow, ledB, ledS])
    | (refine wcall_slice (untilL (Frm.codes cb) hut (by omega) s) rfl (by simp -implicitDefEqProofs only [evr, id, reduceCtorEq, reduceIte, Nat.reduceMul, Nat.reduceAdd, Nat.reduceLT, Nat.reduceLeDiff, Nat.reduceEqDiff, Int.reduceLT, Int.reduceBEq, Int.reduceBNe, Nat.reduceBEq, ptr, res_one, res_ro, List.append_nil, Int.toNat_zero, Nat.sub_self, resRow, ledB]; rfl) ?_; rintro r ⟨uts, huts, rfl⟩; simp -implicitDefEqProofs only [evr, id, reduceCtorEq, reduceIte, Nat.reduceMul, Nat.reduceAdd, Nat.reduceLT, Nat.reduceLeDiff, Nat.reduceEqDiff, Int.reduceLT, Int.reduceBEq, Int.reduceBNe, Nat.reduceBEq, ptr, res_one, res_ro, List.append_nil, Int.toNat_zero, Nat.sub_self, resRow, ledB, ledS])
    | (refine wcall_slice (untilL (Frm.codes cb) ha (by omega) s) rfl (by simp -implicitDefEqProofs only [evr, id, reduceCtorEq, reduceIte, Nat.reduceMul, Nat.reduceAdd, Nat.reduceLT, Nat.reduceLeDiff, Nat.reduceEqDiff, Int.reduceLT, Int.reduceBEq, Int.reduceBNe, Nat.reduceBEq, ptr, res_one, res_ro, List.append_nil, Int.toNat_zero, Nat.sub_self, resRow, ledB]; rfl) ?_; rintro r ⟨us2, hus2, rfl⟩; simp -implicitDefEqProofs only [evr, id, reduceCtorEq, reduceIte, Nat.reduceMul, Nat.reduceAdd, Nat.reduceLT, Nat.reduceLeDiff, Nat.reduceEqDiff, Int.reduceLT, Int.reduceBEq, Int.reduceBNe, Nat.reduceBEq, ptr, res_one, res_ro, List.append_nil, Int.toNat_zero, Nat.sub_self, resRow, ledB, ledS])
    | (refine wcall_plain (sameL (Frm.codes cb) huts hus2 (by omega) (by omega) (fun r => by simp only [List.mem_append, upTo_mem]; constructor <;> (rintro h; refine ⟨?_, ?_⟩ <;> first | exact h.1 | exact h.2 | exact h.1.1 | exact ⟨h.1, by omega⟩))) (by simp -implicitDefEqProofs only [evr, id, reduceCtorEq, reduceIte, Nat.reduceMul, Nat.reduceAdd, Nat.reduceLT, Nat.reduceLeDiff, Nat.reduceEqDiff, Int.reduceLT, Int.reduceBEq, Int.reduceBNe, Nat.reduceBEq, ptr, res_one, res_ro, List.append_nil, Int.toNat_zero, Nat.sub_self, resRow, ledB]; rfl) (by rintro _ rfl; exact ok_plain rfl) ?_; rintro r rfl; simp -implicitDefEqProofs only [evr, id, reduceCtorEq, reduceIte, Nat.reduceMul, Nat.reduceAdd, Nat.reduceLT, Nat.reduceLeDiff, Nat.reduceEqDiff, Int.reduceLT, Int.reduceBEq, Int.reduceBNe, Nat.reduceBEq, ptr, res_one, res_ro, List.append_nil, Int.toNat_zero, Nat.sub_self, resRow, ledB])
    | (refine wcall_plain (sizeL (Frm.codes cb) hus2 (by omega)) (by simp -implicitDefEqProofs only [evr, id, reduceCtorEq, reduceIte, Nat.reduceMul, Nat.reduceAdd, Nat.reduceLT, Nat.reduceLeDiff, Nat.reduceEqDiff, Int.reduceLT, Int.reduceBEq, Int.reduceBNe, Nat.reduceBEq, ptr, res_one, res_ro, List.append_nil, Int.toNat_zero, Nat.sub_self, resRow, ledB]; rfl) (by rintro _ rfl; exact ok_plain rfl) ?_; rintro r rfl; simp -implicitDefEqProofs only [evr, id, reduceCtorEq, reduceIte, Nat.reduceMul, Nat.reduceAdd, Nat.reduceLT, Nat.reduceLeDiff, Nat.reduceEqDiff, Int.reduceLT, Int.reduceBEq, Int.reduceBNe, Nat.reduceBEq, ptr, res_one, res_ro, List.append_nil, Int.toNat_zero, Nat.sub_self, resRow, ledB])
    | (refine wcall_plain (sizeL (Frm.codes cb) hut (by omega)) (by simp -implicitDefEqProofs only [evr, id, reduceCtorEq, reduceIte, Nat.reduceMul, Nat.reduceAdd, Nat.reduceLT, Nat.reduceLeDiff, Nat.reduceEqDiff, Int.reduceLT, Int.reduceBEq, Int.reduceBNe, Nat.reduceBEq, ptr, res_one, res_ro, List.append_nil, Int.toNat_zero, Nat.sub_self, resRow, ledB]; rfl) (by rintro _ rfl; exact ok_plain rfl) ?_; rintro r rfl; simp -implicitDefEqProofs only [evr, id, reduceCtorEq, reduceIte, Nat.reduceMul, Nat.reduceAdd, Nat.reduceLT, Nat.reduceLeDiff, Nat.reduceEqDiff, Int.reduceLT, Int.reduceBEq, Int.reduceBNe, Nat.reduceBEq, ptr, res_one, res_ro, List.append_nil, Int.toNat_zero, Nat.sub_self, resRow, ledB])
    | (refine wcall_slice (untilL (Frm.codes cb) ha (by omega) 2251799813685248) rfl (by simp -implicitDefEqProofs only [evr, id, reduceCtorEq, reduceIte, Nat.reduceMul, Nat.reduceAdd, Nat.reduceLT, Nat.reduceLeDiff, Nat.reduceEqDiff, Int.reduceLT, Int.reduceBEq, Int.reduceBNe, Nat.reduceBEq, ptr, res_one, res_ro, List.append_nil, Int.toNat_zero, Nat.sub_self, resRow, ledB]; rfl) ?_; rintro r ⟨u3, hu3, rfl⟩; simp -implicitDefEqProofs only [evr, id, reduceCtorEq, reduceIte, Nat.reduceMul, Nat.reduceAdd, Nat.reduceLT, Nat.reduceLeDiff, Nat.reduceEqDiff, Int.reduceLT, Int.reduceBEq, Int.reduceBNe, Nat.reduceBEq, ptr, res_one, res_ro, List.append_nil, Int.toNat_zero, Nat.sub_self, resRow, ledB, ledS])
    | (refine wcall_plain (sameL (Frm.codes cb) hu3 ha (by omega) (by omega) (fun r => by rw [upTo_mem]; exact ⟨fun h => h.1, fun h => ⟨h, hbk r h⟩⟩)) (by simp -implicitDefEqProofs only [evr, id, reduceCtorEq, reduceIte, Nat.reduceMul, Nat.reduceAdd, Nat.reduceLT, Nat.reduceLeDiff, Nat.reduceEqDiff, Int.reduceLT, Int.reduceBEq, Int.reduceBNe, Nat.reduceBEq, ptr, res_one, res_ro, List.append_nil, Int.toNat_zero, Nat.sub_self, resRow, ledB]; rfl) (by rintro _ rfl; exact ok_plain rfl) ?_; rintro r rfl; simp -implicitDefEqProofs only [evr, id, reduceCtorEq, reduceIte, Nat.reduceMul, Nat.reduceAdd, Nat.reduceLT, Nat.reduceLeDiff, Nat.reduceEqDiff, Int.reduceLT, Int.reduceBEq, Int.reduceBNe, Nat.reduceBEq, ptr, res_one, res_ro, List.append_nil, Int.toNat_zero, Nat.sub_self, resRow, ledB])
    | (refine And.intro ?_ ?_)
    | (intro hle; exact absurd (Int.ofNat_le.2 (hus2.size_le hut (fun r hr => by rw [upTo_mem] at hr ⊢; exact ⟨hr.1, by omega⟩))) hle)
    | (intro hle))
  all_goals (refine hk _ ?_; clear hk; refine Sat.ret ?_; simp only [Try.results6, evr, id, reduceCtorEq, reduceIte, Nat.reduceMul, Nat.reduceAdd, Nat.reduceLT, Nat.reduceLeDiff, Nat.reduceEqDiff, Int.reduceLT, Int.reduceBEq, Int.reduceBNe, Nat.reduceBEq, ptr, res_one, res_ro, List.append_nil, Int.toNat_zero, Nat.sub_self, resRow, ledB])
  all_goals try rfl
theorem until_holds : Rows.MergeUntilSaid := mergeUntil.of_walk fun a0 z0 s y w ⟨h, hz⟩ hs hy => by
  obtain ⟨a, cap, rfl, hok⟩ := slB_of h
  exact walk_of (untilsC a cap z0 hz s y (by have := bounds_u8 hs; omega) (by have := bounds_u8 hy; omega)) (fun s hs => by
    simp only [List.mem_cons, List.not_mem_nil, or_false] at hs
    rcases hs with rfl | rfl | rfl
    · exact hok
    · trivial
    · trivial)
end Go.Proofs.Ythhofjkbmnklmaa
