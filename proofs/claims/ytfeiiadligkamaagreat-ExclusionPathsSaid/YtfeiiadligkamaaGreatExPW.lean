/- ExclusionPaths: two addresses of the path of a flow are excluded exactly if they differ. The law holds of every input. -/
import Derived.Test.YtfeiiadligkamaaGreatPk4
import Derived.Test.YtfeiiadligkamaaGreatPk5
import Derived.Test.YtfeiiadligkamaaGreatWalkE
import Derived.Test.YtfeiiadligkamaaGreatShExclusionPaths
set_option linter.unusedSimpArgs false
set_option linter.unusedVariables false
namespace Go.Proofs.YtfeiiadligkamaaGreat
open Go.Sort Eng
theorem cnd_key {a b : Res} (ha : validR a = true) (hb : validR b = true) : cndP a b = (a.answered && (b.answered && (!a.doubled && (!b.doubled && ((a.kind == 1) && ((b.kind == 1) && (decide (a.tre = b.tre) && ((a.flow == b.flow) && ((a.ttl != b.ttl) && decide (a.from_ < b.from_)))))))))) := by
  apply Bool.eq_iff_iff.2
  rw [cnd_iff ha hb]
  simp only [Bool.and_eq_true, Bool.not_eq_true', beq_iff_eq, bne_iff_ne, decide_eq_true_eq, ne_eq]
set_option maxHeartbeats 2000000 in
set_option maxRecDepth 100000 in
theorem pathsC (a : Option Addr) (cap : Nat) (z : List Int) (hz : ∀ n ∈ z, (Lit.int .u8 n).wf = true) : Contract Frm.nil Tryz.prog 5 [slB a cap z] (fun r => r = .b true) := by
  have hb : isBytes (slB a cap z) := ⟨a, z.length, cap, _, rfl, fun i hi => ⟨z.getD i 0, by have := bounds_u8 (hz _ (getD_mem (d := 0) hi)); omega, by have := bounds_u8 (hz _ (getD_mem (d := 0) hi)); omega, rfl⟩⟩
  refine contract_of Tryz.func5 rfl (by kernel_rfl) ?_
  simp only [Tryz.ntmps5, argEnv]
  (repeat refine Sat.seq ?_)
  (refine Sat.region_k fun k hk => ?_; simp -implicitDefEqProofs only [evr, id, reduceCtorEq, reduceIte, Nat.reduceMul, Nat.reduceAdd, Nat.reduceLT, Nat.reduceLeDiff, Nat.reduceEqDiff, Int.reduceLT, Int.reduceBEq, Int.reduceBNe, Nat.reduceBEq, treEqs, ptr, ev_one, exc_one, res_one, par_one, idn_one, idn_0, idn_1, idn_2, Int.reduceToNat, resRow, res_ro, rExtract_tup, evn]; refine hk _ ?_; clear hk k; try show Sat _ _ _ _ _)
  (repeat refine Sat.seq ?_)
  (refine Sat.region_k fun k hk => ?_; simp -implicitDefEqProofs only [evr, id, reduceCtorEq, reduceIte, Nat.reduceMul, Nat.reduceAdd, Nat.reduceLT, Nat.reduceLeDiff, Nat.reduceEqDiff, Int.reduceLT, Int.reduceBEq, Int.reduceBNe, Nat.reduceBEq, treEqs, ptr, ev_one, exc_one, res_one, par_one, idn_one, idn_0, idn_1, idn_2, Int.reduceToNat, resRow, res_ro, rExtract_tup, evn])
  refine wcall_plain (awakeC Frm.nil) rfl (by rintro _ rfl; exact ok_plain rfl) ?_
  rintro r rfl
  simp -implicitDefEqProofs only [evr, id, reduceCtorEq, reduceIte, Nat.reduceMul, Nat.reduceAdd, Nat.reduceLT, Nat.reduceLeDiff, Nat.reduceEqDiff, Int.reduceLT, Int.reduceBEq, Int.reduceBNe, Nat.reduceBEq, treEqs, ptr, ev_one, exc_one, res_one, par_one, idn_one, idn_0, idn_1, idn_2, Int.reduceToNat, resRow, res_ro, rExtract_tup, evn]
  (refine hk _ ?_; clear hk k; try show Sat _ _ _ _ _)
  refine Sat.cond_b rfl (fun h => absurd h (by decide)) (fun _ => ?_)
  refine Sat.skip ?_
  simp only [thenK]
  refine Sat.seq ?_
  (refine Sat.region_k fun k hk => ?_; simp -implicitDefEqProofs only [evr, id, reduceCtorEq, reduceIte, Nat.reduceMul, Nat.reduceAdd, Nat.reduceLT, Nat.reduceLeDiff, Nat.reduceEqDiff, Int.reduceLT, Int.reduceBEq, Int.reduceBNe, Nat.reduceBEq, treEqs, ptr, ev_one, exc_one, res_one, par_one, idn_one, idn_0, idn_1, idn_2, Int.reduceToNat, resRow, res_ro, rExtract_tup, evn])
  refine wcall_make (rollC (slB a cap z) hb) ?_
  intro cb
  simp -implicitDefEqProofs only [evr, id, reduceCtorEq, reduceIte, Nat.reduceMul, Nat.reduceAdd, Nat.reduceLT, Nat.reduceLeDiff, Nat.reduceEqDiff, Int.reduceLT, Int.reduceBEq, Int.reduceBNe, Nat.reduceBEq, treEqs, ptr, ev_one, exc_one, res_one, par_one, idn_one, idn_0, idn_1, idn_2, Int.reduceToNat, resRow, res_ro, rExtract_tup, evn]
  (refine hk _ ?_; clear hk k; try show Sat _ _ _ _ _)
  refine Sat.switch (cb := cb) (id := 0) (F' := Frm.codes cb) (fun b => Iff.rfl) (fun _ h => h) rfl ?_
  (repeat refine Sat.seq ?_)
  (refine Sat.region_k fun k hk => ?_; simp -implicitDefEqProofs only [evr, id, reduceCtorEq, reduceIte, Nat.reduceMul, Nat.reduceAdd, Nat.reduceLT, Nat.reduceLeDiff, Nat.reduceEqDiff, Int.reduceLT, Int.reduceBEq, Int.reduceBNe, Nat.reduceBEq, treEqs, ptr, ev_one, exc_one, res_one, par_one, idn_one, idn_0, idn_1, idn_2, Int.reduceToNat, resRow, res_ro, rExtract_tup, evn])
  refine wcall_new (calmC cb 24 (by omega)) rfl (by simp -implicitDefEqProofs only [evr, id, reduceCtorEq, reduceIte, Nat.reduceMul, Nat.reduceAdd, Nat.reduceLT, Nat.reduceLeDiff, Nat.reduceEqDiff, Int.reduceLT, Int.reduceBEq, Int.reduceBNe, Nat.reduceBEq, treEqs, ptr, ev_one, exc_one, res_one, par_one, idn_one, idn_0, idn_1, idn_2, Int.reduceToNat, resRow, res_ro, rExtract_tup, evn]; try rfl) ?_
  rintro xa ty len xc sz rrd ⟨a1, c1, xs, hC, hV, hxl, e⟩
  simp only [resRow, Own.row.injEq] at e
  obtain ⟨rfl, rfl, rfl, rfl, rfl, rfl⟩ := e
  simp -implicitDefEqProofs only [evr, id, reduceCtorEq, reduceIte, Nat.reduceMul, Nat.reduceAdd, Nat.reduceLT, Nat.reduceLeDiff, Nat.reduceEqDiff, Int.reduceLT, Int.reduceBEq, Int.reduceBNe, Nat.reduceBEq, treEqs, ptr, ev_one, exc_one, res_one, par_one, idn_one, idn_0, idn_1, idn_2, Int.reduceToNat, resRow, res_ro, rExtract_tup, evn]
  (refine hk _ ?_; clear hk k; try show Sat _ _ _ _ _)
  refine Sat.settleLastRow [] 4 rfl ?_
  have hbad : xs.any (fun x => !validR x) = false := by
    rw [List.any_eq_false]
    intro x hx
    rw [(hV x hx).2]
    decide
  (repeat refine Sat.seq ?_)
  (refine Sat.region_k fun k hk => ?_; simp -implicitDefEqProofs only [evr, id, reduceCtorEq, reduceIte, Nat.reduceMul, Nat.reduceAdd, Nat.reduceLT, Nat.reduceLeDiff, Nat.reduceEqDiff, Int.reduceLT, Int.reduceBEq, Int.reduceBNe, Nat.reduceBEq, treEqs, ptr, ev_one, exc_one, res_one, par_one, idn_one, idn_0, idn_1, idn_2, Int.reduceToNat, resRow, res_ro, rExtract_tup, evn])
  refine wcall_slice (exPairsC (Frm.codes cb) xa xc xs (by omega) fun r hr => (hV r hr).1) rfl rfl ?_
  rintro r (⟨h9, _⟩ | ⟨_, a2, c2, es, hes, hel, rfl⟩)
  · rw [hbad] at h9; cases h9
  simp -implicitDefEqProofs only [evr, id, reduceCtorEq, reduceIte, Nat.reduceMul, Nat.reduceAdd, Nat.reduceLT, Nat.reduceLeDiff, Nat.reduceEqDiff, Int.reduceLT, Int.reduceBEq, Int.reduceBNe, Nat.reduceBEq, treEqs, ptr, ev_one, exc_one, res_one, par_one, idn_one, idn_0, idn_1, idn_2, Int.reduceToNat, resRow, res_ro, rExtract_tup, evn]
  (refine hk _ ?_; clear hk k; try show Sat _ _ _ _ _)
  (repeat refine Sat.seq ?_)
  (refine Sat.region_k fun k hk => ?_; simp -implicitDefEqProofs only [evr, id, reduceCtorEq, reduceIte, Nat.reduceMul, Nat.reduceAdd, Nat.reduceLT, Nat.reduceLeDiff, Nat.reduceEqDiff, Int.reduceLT, Int.reduceBEq, Int.reduceBNe, Nat.reduceBEq, treEqs, ptr, ev_one, exc_one, res_one, par_one, idn_one, idn_0, idn_1, idn_2, Int.reduceToNat, resRow, res_ro, rExtract_tup, evn]; refine hk _ ?_; clear hk k; try show Sat _ _ _ _ _)
  (repeat refine Sat.seq ?_)
  refine Sat.cond_b rfl (fun h => absurd h (by decide)) (fun _ => ?_)
  refine Sat.skip ?_
  simp only [thenK]
  (repeat refine Sat.seq ?_)
  (refine Sat.region_k fun k hk => ?_; simp -implicitDefEqProofs only [evr, id, reduceCtorEq, reduceIte, Nat.reduceMul, Nat.reduceAdd, Nat.reduceLT, Nat.reduceLeDiff, Nat.reduceEqDiff, Int.reduceLT, Int.reduceBEq, Int.reduceBNe, Nat.reduceBEq, treEqs, ptr, ev_one, exc_one, res_one, par_one, idn_one, idn_0, idn_1, idn_2, Int.reduceToNat, resRow, res_ro, rExtract_tup, evn]; refine hk _ ?_; clear hk k; try show Sat _ _ _ _ _)
  (repeat refine Sat.seq ?_)
  (refine Sat.region_k fun k hk => ?_; simp -implicitDefEqProofs only [evr, id, reduceCtorEq, reduceIte, Nat.reduceMul, Nat.reduceAdd, Nat.reduceLT, Nat.reduceLeDiff, Nat.reduceEqDiff, Int.reduceLT, Int.reduceBEq, Int.reduceBNe, Nat.reduceBEq, treEqs, ptr, ev_one, exc_one, res_one, par_one, idn_one, idn_0, idn_1, idn_2, Int.reduceToNat, resRow, res_ro, rExtract_tup, evn]; refine hk _ ?_; clear hk k; try show Sat _ _ _ _ _)
  (repeat refine Sat.seq ?_)
  refine Sat.block ?_
  have hbnd : ∀ i k, i ≤ 24 → k ≤ 24 → cntA (xs.take i) xs + k ≤ 1000 := fun i k h1 h2 => by
    have h3 := cntA_le (xs.take i) xs
    have h4 : (xs.take i).length * xs.length ≤ 24 * 24 := Nat.mul_le_mul (by rw [List.length_take]; omega) (by omega)
    omega
  refine Sat.loop (ι := Nat) (fun i => ⟨138, [(30, .i .i64 i), (29, .i .i64 xs.length), (7, .i .i64 (cntA (xs.take i) xs)), (5, .sl a2 es.length c2 8 (excRd es.toArray)), (4, .sl xa xs.length xc 17 (resRd xs.toArray))], []⟩)
    (fun i => i ≤ xs.length) (fun i => xs.length - i) 0 (Nat.zero_le _) (by simp -implicitDefEqProofs only [evr, id, reduceCtorEq, reduceIte, Nat.reduceMul, Nat.reduceAdd, Nat.reduceLT, Nat.reduceLeDiff, Nat.reduceEqDiff, Int.reduceLT, Int.reduceBEq, Int.reduceBNe, Nat.reduceBEq, treEqs, ptr, ev_one, exc_one, res_one, par_one, idn_one, idn_0, idn_1, idn_2, Int.reduceToNat, resRow, res_ro, rExtract_tup, evl, evn]; first | done | rfl | exact ⟨rfl, rfl⟩ | trace_state) ?_
  rintro i hi
  (repeat refine Sat.seq ?_)
  (refine Sat.region_k fun k hk => ?_; simp -implicitDefEqProofs only [evr, id, reduceCtorEq, reduceIte, Nat.reduceMul, Nat.reduceAdd, Nat.reduceLT, Nat.reduceLeDiff, Nat.reduceEqDiff, Int.reduceLT, Int.reduceBEq, Int.reduceBNe, Nat.reduceBEq, treEqs, ptr, ev_one, exc_one, res_one, par_one, idn_one, idn_0, idn_1, idn_2, Int.reduceToNat, resRow, res_ro, rExtract_tup, evn]; refine hk _ ?_; clear hk k; try show Sat _ _ _ _ _)
  (repeat refine Sat.seq ?_)
  refine Sat.cond_b rfl (fun h => ?_) (fun h => ?_)
  · have h1 : i < xs.length := by simp only [decide_eq_true_eq] at h; omega
    have e1 : IntKind.i64.wrap ((i : Int) + 1) = ((i + 1 : Nat) : Int) := by rw [w64 (by omega)]; omega
    obtain ⟨a, ha⟩ : ∃ a, a = xs.toArray[i]! := ⟨_, rfl⟩
    have hai : xs[i] = a := by rw [ha, getB h1]
    have ham : a ∈ xs := by rw [← hai]; exact List.getElem_mem h1
    have hct := cntA_take (xs := xs) h1
    have hag : xs.getD i default = a := by rw [List.getD_eq_getElem?_getD, List.getElem?_eq_getElem h1, ← hai]; rfl
    rw [hag] at hct
    refine Sat.skip ?_
    simp only [thenK]
    (repeat refine Sat.seq ?_)
    refine Sat.block ?_
    (repeat refine Sat.seq ?_)
    (refine Sat.region_k fun k hk => ?_; simp -implicitDefEqProofs only [evr, id, reduceCtorEq, reduceIte, Nat.reduceMul, Nat.reduceAdd, Nat.reduceLT, Nat.reduceLeDiff, Nat.reduceEqDiff, Int.reduceLT, Int.reduceBEq, Int.reduceBNe, Nat.reduceBEq, treEqs, ptr, ev_one, exc_one, res_one, par_one, idn_one, idn_0, idn_1, idn_2, Int.reduceToNat, resRow, res_ro, rExtract_tup, evn]; refine hk _ ?_; clear hk k; try show Sat _ _ _ _ _)
    (repeat refine Sat.seq ?_)
    (refine Sat.region_k fun k hk => ?_; simp -implicitDefEqProofs only [evr, id, reduceCtorEq, reduceIte, Nat.reduceMul, Nat.reduceAdd, Nat.reduceLT, Nat.reduceLeDiff, Nat.reduceEqDiff, Int.reduceLT, Int.reduceBEq, Int.reduceBNe, Nat.reduceBEq, treEqs, ptr, ev_one, exc_one, res_one, par_one, idn_one, idn_0, idn_1, idn_2, Int.reduceToNat, resRow, res_ro, rExtract_tup, evn]; refine hk _ ?_; clear hk k; try show Sat _ _ _ _ _)
    (repeat refine Sat.seq ?_)
    refine Sat.block ?_
    refine Sat.loop (ι := Nat) (fun m => ⟨138, [(35, .i .i64 m), (34, .i .i64 xs.length), (8, .i .i64 i), (30, .i .i64 i), (29, .i .i64 xs.length), (7, .i .i64 ((cntA (xs.take i) xs + cntB a (xs.take m) : Nat) : Int)), (5, .sl a2 es.length c2 8 (excRd es.toArray)), (4, .sl xa xs.length xc 17 (resRd xs.toArray))], []⟩)
      (fun m => m ≤ xs.length) (fun m => xs.length - m) 0 (Nat.zero_le _) (by simp -implicitDefEqProofs only [evr, id, reduceCtorEq, reduceIte, Nat.reduceMul, Nat.reduceAdd, Nat.reduceLT, Nat.reduceLeDiff, Nat.reduceEqDiff, Int.reduceLT, Int.reduceBEq, Int.reduceBNe, Nat.reduceBEq, treEqs, ptr, ev_one, exc_one, res_one, par_one, idn_one, idn_0, idn_1, idn_2, Int.reduceToNat, resRow, res_ro, rExtract_tup, evl, evn]; first | done | rfl | exact ⟨rfl, rfl⟩ | trace_state) ?_
    rintro m hm
    (repeat refine Sat.seq ?_)
    (refine Sat.region_k fun k hk => ?_; simp -implicitDefEqProofs only [evr, id, reduceCtorEq, reduceIte, Nat.reduceMul, Nat.reduceAdd, Nat.reduceLT, Nat.reduceLeDiff, Nat.reduceEqDiff, Int.reduceLT, Int.reduceBEq, Int.reduceBNe, Nat.reduceBEq, treEqs, ptr, ev_one, exc_one, res_one, par_one, idn_one, idn_0, idn_1, idn_2, Int.reduceToNat, resRow, res_ro, rExtract_tup, evn]; refine hk _ ?_; clear hk k; try show Sat _ _ _ _ _)
    (repeat refine Sat.seq ?_)
    refine Sat.cond_b rfl (fun h2 => ?_) (fun h2 => ?_)
    · have h3 : m < xs.length := by simp only [decide_eq_true_eq] at h2; omega
      have e2 : IntKind.i64.wrap ((m : Int) + 1) = ((m + 1 : Nat) : Int) := by rw [w64 (by omega)]; omega
      obtain ⟨b, hb⟩ : ∃ b, b = xs.toArray[m]! := ⟨_, rfl⟩
      have hbk : xs[m] = b := by rw [hb, getB h3]
      have hbm : b ∈ xs := by rw [← hbk]; exact List.getElem_mem h3
      have hcb := cntB_take (a := a) h3
      have hbg : xs.getD m default = b := by rw [List.getD_eq_getElem?_getD, List.getElem?_eq_getElem h3, ← hbk]; rfl
      rw [hbg] at hcb
      have key := cnd_key (hV a ham).2 (hV b hbm).2
      refine Sat.skip ?_
      simp only [thenK]
      (repeat refine Sat.seq ?_)
      refine Sat.block ?_
      (repeat refine Sat.seq ?_)
      (refine Sat.region_k fun k hk => ?_; simp -implicitDefEqProofs only [evr, id, reduceCtorEq, reduceIte, Nat.reduceMul, Nat.reduceAdd, Nat.reduceLT, Nat.reduceLeDiff, Nat.reduceEqDiff, Int.reduceLT, Int.reduceBEq, Int.reduceBNe, Nat.reduceBEq, treEqs, ptr, ev_one, exc_one, res_one, par_one, idn_one, idn_0, idn_1, idn_2, Int.reduceToNat, resRow, res_ro, rExtract_tup, evn]; refine hk _ ?_; clear hk k; try show Sat _ _ _ _ _)
      (repeat refine Sat.seq ?_)
      refine Sat.joinK (ι := Nat × Nat) (fun z => ⟨138, [(10, .el ⟨z.1, 0, none⟩ 17 fun j => (Res.cs a).getD j default), (11, .el ⟨z.2, 0, none⟩ 17 fun j => (Res.cs b).getD j default), (9, .i .i64 m), (35, .i .i64 m), (34, .i .i64 xs.length), (8, .i .i64 i), (30, .i .i64 i), (29, .i .i64 xs.length), (7, .i .i64 ((cntA (xs.take i) xs + cntB a (xs.take m) : Nat) : Int)), (5, .sl a2 es.length c2 8 (excRd es.toArray)), (4, .sl xa xs.length xc 17 (resRd xs.toArray))], []⟩) (fun _ => True) (fun hrest => ?_) ?_
      · (refine Sat.region_tree (.keep [0, 1, 2, 4, 5, 6, 3] [7, 8, 9] (.alt 7 (.alt 8 (.one 9 (.one 10 (.one 11 .done))) (.alt 9 (.one 8 (.one 10 (.one 11 .done))) .none)) (.alt 8 (.alt 7 (.one 9 (.one 10 (.one 11 .done))) (.alt 9 (.alt 7 (.one 10 (.one 11 .done)) (.alt 10 (.one 7 (.one 11 .done)) .none)) .none)) (.alt 9 (.alt 7 (.one 8 (.one 10 (.one 11 .done))) (.alt 8 (.alt 7 (.one 10 (.one 11 .done)) (.alt 10 (.one 7 (.one 11 .done)) .none)) .none)) .none)))) (by kernel_rfl) (by kernel_rfl) (fun _ _ h => h) fun k hk => ?_; simp only [WOT, List.map_cons, List.map_nil, List.getD_cons_zero, List.getD_cons_succ]; simp -implicitDefEqProofs only [evr, id, reduceCtorEq, reduceIte, Nat.reduceMul, Nat.reduceAdd, Nat.reduceLT, Nat.reduceLeDiff, Nat.reduceEqDiff, Int.reduceLT, Int.reduceBEq, Int.reduceBNe, Nat.reduceBEq, treEqs, ptr, ev_one, exc_one, res_one, par_one, idn_one, idn_0, idn_1, idn_2, Int.reduceToNat, resRow, res_ro, rExtract_tup, WOT, evn])
        repeat' (first
          | (with_reducible refine And.intro ?_ ?_)
          | omega
          | (with_reducible intro))
        all_goals
          rename_i c1 c2
          refine hk _ ?_
          simp only [thenK]
          refine Sat.settleBoxG 10 rfl rfl ?_
          refine Sat.settleBoxG 11 rfl rfl ?_
          simp -implicitDefEqProofs only [evr, id, reduceCtorEq, reduceIte, Nat.reduceMul, Nat.reduceAdd, Nat.reduceLT, Nat.reduceLeDiff, Nat.reduceEqDiff, Int.reduceLT, Int.reduceBEq, Int.reduceBNe, Nat.reduceBEq, treEqs, ptr, ev_one, exc_one, res_one, par_one, idn_one, idn_0, idn_1, idn_2, Int.reduceToNat, resRow, res_ro, rExtract_tup, evn]
          first
          | (refine (hrest (c1, c2) trivial).le ?_
             simp -implicitDefEqProofs only [evr, id, reduceCtorEq, reduceIte, Nat.reduceMul, Nat.reduceAdd, Nat.reduceLT, Nat.reduceLeDiff, Nat.reduceEqDiff, Int.reduceLT, Int.reduceBEq, Int.reduceBNe, Nat.reduceBEq, treEqs, ptr, ev_one, exc_one, res_one, par_one, idn_one, idn_0, idn_1, idn_2, Int.reduceToNat, resRow, res_ro, rExtract_tup, evl, evn]
             first | exact ⟨by rw [ha]; rfl, by rw [hb]; rfl⟩ | exact ⟨by rw [hb]; rfl, by rw [ha]; rfl⟩)
          | (refine (hrest (c2, c1) trivial).le ?_
             simp -implicitDefEqProofs only [evr, id, reduceCtorEq, reduceIte, Nat.reduceMul, Nat.reduceAdd, Nat.reduceLT, Nat.reduceLeDiff, Nat.reduceEqDiff, Int.reduceLT, Int.reduceBEq, Int.reduceBNe, Nat.reduceBEq, treEqs, ptr, ev_one, exc_one, res_one, par_one, idn_one, idn_0, idn_1, idn_2, Int.reduceToNat, resRow, res_ro, rExtract_tup, evl, evn]
             first | exact ⟨by rw [ha]; rfl, by rw [hb]; rfl⟩ | exact ⟨by rw [hb]; rfl, by rw [ha]; rfl⟩)
      rintro ⟨b10, b11⟩ -
      simp only [Res.cs]
      (repeat refine Sat.seq ?_)
      have hq1 : Contract Frm.nil Tryz.prog 35 [resAg a] (fun r => r = trcAg a) := traceOfG Frm.nil a
      have hq2 : Contract Frm.nil Tryz.prog 35 [resAg b] (fun r => r = trcAg b) := traceOfG Frm.nil b
      refine Sat.at ⟨138, [(103, .b (!cndP a b)), (10, .el ⟨b10, 0, none⟩ 17 fun j => (Res.cs a).getD j default), (11, .el ⟨b11, 0, none⟩ 17 fun j => (Res.cs b).getD j default), (9, .i .i64 m), (35, .i .i64 m), (34, .i .i64 xs.length), (8, .i .i64 i), (30, .i .i64 i), (29, .i .i64 xs.length), (7, .i .i64 ((cntA (xs.take i) xs + cntB a (xs.take m) : Nat) : Int)), (5, .sl a2 es.length c2 8 (excRd es.toArray)), (4, .sl xa xs.length xc 17 (resRd xs.toArray))], []⟩ ?_ ?_
      · clear hb ha
        (refine Sat.region_qk (by kernel_rfl) (by kernel_rfl) fun k hk => ?_; simp -implicitDefEqProofs only [evr, id, reduceCtorEq, reduceIte, Nat.reduceMul, Nat.reduceAdd, Nat.reduceLT, Nat.reduceLeDiff, Nat.reduceEqDiff, Int.reduceLT, Int.reduceBEq, Int.reduceBNe, Nat.reduceBEq, treEqs, ptr, ev_one, exc_one, res_one, par_one, idn_one, idn_0, idn_1, idn_2, Int.reduceToNat, resRow, res_ro, rExtract_tup, evn])
        refine ⟨fun g1 => ?_, fun g1 => ⟨fun g2 => ?_, fun g2 => ⟨fun g3 => ?_, fun g3 => ⟨fun g4 => ?_, fun g4 => ⟨fun g5 => ?_, fun g5 => ⟨fun g6 => ?_, fun g6 => ?_⟩⟩⟩⟩⟩⟩
        · refine hk _ ?_
          have e : (!cndP a b) = true := by rw [key]; simp at g1; simp [g1]
          simp only [thenK, e, Res.cs]
          simp -implicitDefEqProofs only [evr, id, reduceCtorEq, reduceIte, Nat.reduceMul, Nat.reduceAdd, Nat.reduceLT, Nat.reduceLeDiff, Nat.reduceEqDiff, Int.reduceLT, Int.reduceBEq, Int.reduceBNe, Nat.reduceBEq, treEqs, ptr, ev_one, exc_one, res_one, par_one, idn_one, idn_0, idn_1, idn_2, Int.reduceToNat, resRow, res_ro, rExtract_tup, evl, evn]
        · refine hk _ ?_
          have e : (!cndP a b) = true := by rw [key]; simp at g2; simp [g2]
          simp only [thenK, e, Res.cs]
          simp -implicitDefEqProofs only [evr, id, reduceCtorEq, reduceIte, Nat.reduceMul, Nat.reduceAdd, Nat.reduceLT, Nat.reduceLeDiff, Nat.reduceEqDiff, Int.reduceLT, Int.reduceBEq, Int.reduceBNe, Nat.reduceBEq, treEqs, ptr, ev_one, exc_one, res_one, par_one, idn_one, idn_0, idn_1, idn_2, Int.reduceToNat, resRow, res_ro, rExtract_tup, evl, evn]
        · refine hk _ ?_
          have e : (!cndP a b) = true := by rw [key]; simp [g3]
          simp only [thenK, e, Res.cs]
          simp -implicitDefEqProofs only [evr, id, reduceCtorEq, reduceIte, Nat.reduceMul, Nat.reduceAdd, Nat.reduceLT, Nat.reduceLeDiff, Nat.reduceEqDiff, Int.reduceLT, Int.reduceBEq, Int.reduceBNe, Nat.reduceBEq, treEqs, ptr, ev_one, exc_one, res_one, par_one, idn_one, idn_0, idn_1, idn_2, Int.reduceToNat, resRow, res_ro, rExtract_tup, evl, evn]
        · refine hk _ ?_
          have e : (!cndP a b) = true := by rw [key]; simp [g4]
          simp only [thenK, e, Res.cs]
          simp -implicitDefEqProofs only [evr, id, reduceCtorEq, reduceIte, Nat.reduceMul, Nat.reduceAdd, Nat.reduceLT, Nat.reduceLeDiff, Nat.reduceEqDiff, Int.reduceLT, Int.reduceBEq, Int.reduceBNe, Nat.reduceBEq, treEqs, ptr, ev_one, exc_one, res_one, par_one, idn_one, idn_0, idn_1, idn_2, Int.reduceToNat, resRow, res_ro, rExtract_tup, evl, evn]
        · refine hk _ ?_
          have e : (!cndP a b) = true := by rw [key]; simp at g5; simp [g5]
          simp only [thenK, e, Res.cs]
          simp -implicitDefEqProofs only [evr, id, reduceCtorEq, reduceIte, Nat.reduceMul, Nat.reduceAdd, Nat.reduceLT, Nat.reduceLeDiff, Nat.reduceEqDiff, Int.reduceLT, Int.reduceBEq, Int.reduceBNe, Nat.reduceBEq, treEqs, ptr, ev_one, exc_one, res_one, par_one, idn_one, idn_0, idn_1, idn_2, Int.reduceToNat, resRow, res_ro, rExtract_tup, evl, evn]
        · refine hk _ ?_
          have e : (!cndP a b) = true := by rw [key]; simp at g6; simp [g6]
          simp only [thenK, e, Res.cs]
          simp -implicitDefEqProofs only [evr, id, reduceCtorEq, reduceIte, Nat.reduceMul, Nat.reduceAdd, Nat.reduceLT, Nat.reduceLeDiff, Nat.reduceEqDiff, Int.reduceLT, Int.reduceBEq, Int.reduceBNe, Nat.reduceBEq, treEqs, ptr, ev_one, exc_one, res_one, par_one, idn_one, idn_0, idn_1, idn_2, Int.reduceToNat, resRow, res_ro, rExtract_tup, evl, evn]
        refine qcall hq1 rfl (trcAg_ok _) ?_
        simp only [trcAg, evr, id, reduceCtorEq, reduceIte, Nat.reduceMul, Nat.reduceAdd, Nat.reduceLT, Nat.reduceLeDiff, Nat.reduceEqDiff, Int.reduceLT, Int.reduceBEq, Int.reduceBNe, Nat.reduceBEq, treEqs, ptr, ev_one, exc_one, res_one, par_one, idn_one, idn_0, idn_1, idn_2, List.append_nil, Int.toNat_zero, Nat.sub_self, Int.reduceToNat, resRow, res_ro, rExtract_tup]
        refine qcall hq2 rfl (trcAg_ok _) ?_
        simp only [trcAg, evr, id, reduceCtorEq, reduceIte, Nat.reduceMul, Nat.reduceAdd, Nat.reduceLT, Nat.reduceLeDiff, Nat.reduceEqDiff, Int.reduceLT, Int.reduceBEq, Int.reduceBNe, Nat.reduceBEq, treEqs, ptr, ev_one, exc_one, res_one, par_one, idn_one, idn_0, idn_1, idn_2, List.append_nil, Int.toNat_zero, Nat.sub_self, Int.reduceToNat, resRow, res_ro, rExtract_tup]
        rw [treEq_dec]
        refine ⟨fun g7 => ?_, fun g7 => ⟨fun g8 => ?_, fun g8 => ⟨fun g9 => ?_, fun g9 => ?_⟩⟩⟩
        · refine hk _ ?_
          have e : (!cndP a b) = true := by rw [key]; simp at g7; simp [g7]
          simp only [thenK, e, Res.cs]
          simp -implicitDefEqProofs only [evr, id, reduceCtorEq, reduceIte, Nat.reduceMul, Nat.reduceAdd, Nat.reduceLT, Nat.reduceLeDiff, Nat.reduceEqDiff, Int.reduceLT, Int.reduceBEq, Int.reduceBNe, Nat.reduceBEq, treEqs, ptr, ev_one, exc_one, res_one, par_one, idn_one, idn_0, idn_1, idn_2, Int.reduceToNat, resRow, res_ro, rExtract_tup, evl, evn]
        · refine hk _ ?_
          have e : (!cndP a b) = true := by rw [key]; simp at g8; simp [g8]
          simp only [thenK, e, Res.cs]
          simp -implicitDefEqProofs only [evr, id, reduceCtorEq, reduceIte, Nat.reduceMul, Nat.reduceAdd, Nat.reduceLT, Nat.reduceLeDiff, Nat.reduceEqDiff, Int.reduceLT, Int.reduceBEq, Int.reduceBNe, Nat.reduceBEq, treEqs, ptr, ev_one, exc_one, res_one, par_one, idn_one, idn_0, idn_1, idn_2, Int.reduceToNat, resRow, res_ro, rExtract_tup, evl, evn]
        · refine hk _ ?_
          have e : (!cndP a b) = true := by rw [key]; simp at g9; simp [g9]
          simp only [thenK, e, Res.cs]
          simp -implicitDefEqProofs only [evr, id, reduceCtorEq, reduceIte, Nat.reduceMul, Nat.reduceAdd, Nat.reduceLT, Nat.reduceLeDiff, Nat.reduceEqDiff, Int.reduceLT, Int.reduceBEq, Int.reduceBNe, Nat.reduceBEq, treEqs, ptr, ev_one, exc_one, res_one, par_one, idn_one, idn_0, idn_1, idn_2, Int.reduceToNat, resRow, res_ro, rExtract_tup, evl, evn]
        · refine hk _ ?_
          have e : (!cndP a b) = decide (b.from_ ≤ a.from_) := by
            rw [key, g3, g4]
            simp at g1 g2 g5 g6 g7 g8 g9
            rw [g1, g2, g5, g6, g8, decide_eq_true g7]
            apply Bool.eq_iff_iff.2
            simp [g9]
          simp only [thenK, e, Res.cs]
          simp -implicitDefEqProofs only [evr, id, reduceCtorEq, reduceIte, Nat.reduceMul, Nat.reduceAdd, Nat.reduceLT, Nat.reduceLeDiff, Nat.reduceEqDiff, Int.reduceLT, Int.reduceBEq, Int.reduceBNe, Nat.reduceBEq, treEqs, ptr, ev_one, exc_one, res_one, par_one, idn_one, idn_0, idn_1, idn_2, Int.reduceToNat, resRow, res_ro, rExtract_tup, evl, evn]
      simp only [thenK, Res.cs]
      have e3 : IntKind.i64.wrap (((cntA (xs.take i) xs + cntB a (xs.take m) : Nat) : Int) + 1) = ((cntA (xs.take i) xs + (cntB a (xs.take m) + 1) : Nat) : Int) := by
        have h8 := hbnd i m (by omega) (by omega)
        have h9 := cntB_le a (xs.take m)
        rw [List.length_take] at h9
        rw [w64 (by omega)]; omega
      (repeat refine Sat.seq ?_)
      refine Sat.cond_b rfl (fun h4 => ?_) (fun h4 => ?_)
      · have hf : cndP a b = false := by simpa using h4
        rw [hf] at hcb
        simp only [Bool.false_eq_true, if_false, Nat.add_zero] at hcb
        refine Sat.exit ?_
        simp only [thenK, blockK, reduceIte]
        refine Sat.region_k fun kk hk => ?_
        simp -implicitDefEqProofs only [evr, id, reduceCtorEq, reduceIte, Nat.reduceMul, Nat.reduceAdd, Nat.reduceLT, Nat.reduceLeDiff, Nat.reduceEqDiff, Int.reduceLT, Int.reduceBEq, Int.reduceBNe, Nat.reduceBEq, treEqs, ptr, ev_one, exc_one, res_one, par_one, idn_one, idn_0, idn_1, idn_2, Int.reduceToNat, resRow, res_ro, rExtract_tup, e2, evn]
        refine hk _ ?_
        simp only [thenK, blockK]
        refine ⟨m + 1, h3, by omega, ?_⟩
        rw [hcb]
        simp -implicitDefEqProofs only [evr, id, reduceCtorEq, reduceIte, Nat.reduceMul, Nat.reduceAdd, Nat.reduceLT, Nat.reduceLeDiff, Nat.reduceEqDiff, Int.reduceLT, Int.reduceBEq, Int.reduceBNe, Nat.reduceBEq, treEqs, ptr, ev_one, exc_one, res_one, par_one, idn_one, idn_0, idn_1, idn_2, Int.reduceToNat, resRow, res_ro, rExtract_tup, evl, evn]
      have hf : cndP a b = true := by simpa using h4
      rw [hf] at hcb
      simp only [if_true] at hcb
      refine Sat.skip ?_
      simp only [thenK]
      (repeat refine Sat.seq ?_)
      refine Sat.region_k fun kk hk => ?_
      simp -implicitDefEqProofs only [evr, id, reduceCtorEq, reduceIte, Nat.reduceMul, Nat.reduceAdd, Nat.reduceLT, Nat.reduceLeDiff, Nat.reduceEqDiff, Int.reduceLT, Int.reduceBEq, Int.reduceBNe, Nat.reduceBEq, treEqs, ptr, ev_one, exc_one, res_one, par_one, idn_one, idn_0, idn_1, idn_2, Int.reduceToNat, resRow, res_ro, rExtract_tup, e3, evn]
      refine hk _ ?_
      clear hk kk
      simp only [thenK]
      rw [← hcb]
      (repeat refine Sat.seq ?_)
      (refine Sat.region_k fun k hk => ?_; simp -implicitDefEqProofs only [evr, id, reduceCtorEq, reduceIte, Nat.reduceMul, Nat.reduceAdd, Nat.reduceLT, Nat.reduceLeDiff, Nat.reduceEqDiff, Int.reduceLT, Int.reduceBEq, Int.reduceBNe, Nat.reduceBEq, treEqs, ptr, ev_one, exc_one, res_one, par_one, idn_one, idn_0, idn_1, idn_2, Int.reduceToNat, resRow, res_ro, rExtract_tup, evn]; refine hk _ ?_; clear hk k; try show Sat _ _ _ _ _)
      (repeat refine Sat.seq ?_)
      (refine Sat.region_k fun k hk => ?_; simp -implicitDefEqProofs only [evr, id, reduceCtorEq, reduceIte, Nat.reduceMul, Nat.reduceAdd, Nat.reduceLT, Nat.reduceLeDiff, Nat.reduceEqDiff, Int.reduceLT, Int.reduceBEq, Int.reduceBNe, Nat.reduceBEq, treEqs, ptr, ev_one, exc_one, res_one, par_one, idn_one, idn_0, idn_1, idn_2, Int.reduceToNat, resRow, res_ro, rExtract_tup, evn]; refine hk _ ?_; clear hk k; try show Sat _ _ _ _ _)
      (repeat refine Sat.seq ?_)
      refine Sat.block ?_
      obtain ⟨fd, hfd⟩ : ∃ fd : Exc → Bool, fd = fun y => (y.a == a.from_) && (y.b == b.from_) := ⟨_, rfl⟩
      refine Sat.loop (ι := Nat) (fun q => ⟨138, [(108, .i .i64 q), (107, .i .i64 es.length), (106, .sl a2 es.length c2 8 (excRd es.toArray)), (12, .b ((es.take q).any fd)), (7, .i .i64 ((cntA (xs.take i) xs + cntB a (xs.take (m + 1)) : Nat) : Int)), (10, .el ⟨b10, 0, none⟩ 17 fun j => (Res.cs a).getD j default), (11, .el ⟨b11, 0, none⟩ 17 fun j => (Res.cs b).getD j default), (35, .i .i64 m), (34, .i .i64 xs.length), (8, .i .i64 i), (30, .i .i64 i), (29, .i .i64 xs.length), (5, .sl a2 es.length c2 8 (excRd es.toArray)), (4, .sl xa xs.length xc 17 (resRd xs.toArray))], []⟩)
        (fun q => q ≤ es.length) (fun q => es.length - q) 0 (Nat.zero_le _) (by simp only [List.take_zero, List.any_nil, Res.cs]; simp -implicitDefEqProofs only [evr, id, reduceCtorEq, reduceIte, Nat.reduceMul, Nat.reduceAdd, Nat.reduceLT, Nat.reduceLeDiff, Nat.reduceEqDiff, Int.reduceLT, Int.reduceBEq, Int.reduceBNe, Nat.reduceBEq, treEqs, ptr, ev_one, exc_one, res_one, par_one, idn_one, idn_0, idn_1, idn_2, Int.reduceToNat, resRow, res_ro, rExtract_tup, evl, evn]; first | done | rfl | exact ⟨rfl, rfl⟩ | trace_state) ?_
      rintro q hq
      simp only [Res.cs]
      (repeat refine Sat.seq ?_)
      (refine Sat.region_k fun k hk => ?_; simp -implicitDefEqProofs only [evr, id, reduceCtorEq, reduceIte, Nat.reduceMul, Nat.reduceAdd, Nat.reduceLT, Nat.reduceLeDiff, Nat.reduceEqDiff, Int.reduceLT, Int.reduceBEq, Int.reduceBNe, Nat.reduceBEq, treEqs, ptr, ev_one, exc_one, res_one, par_one, idn_one, idn_0, idn_1, idn_2, Int.reduceToNat, resRow, res_ro, rExtract_tup, evn]; refine hk _ ?_; clear hk k; try show Sat _ _ _ _ _)
      (repeat refine Sat.seq ?_)
      refine Sat.cond_b rfl (fun h5 => ?_) (fun h5 => ?_)
      · have h6 : q < es.length := by simp only [decide_eq_true_eq] at h5; omega
        have e5 : IntKind.i64.wrap ((q : Int) + 1) = ((q + 1 : Nat) : Int) := by rw [w64 (by omega)]; omega
        obtain ⟨y, hy⟩ : ∃ y, y = es.toArray[q]! := ⟨_, rfl⟩
        have hyq : es[q] = y := by rw [hy]; simp [getElem!_def, h6]
        have htk : (es.take (q + 1)).any fd = ((es.take q).any fd || fd y) := by
          rw [List.take_succ_eq_append_getElem h6, List.any_append, hyq]
          simp
        obtain ⟨f0, hf0⟩ : ∃ f0, f0 = (es.take q).any fd := ⟨_, rfl⟩
        rw [← hf0] at htk ⊢
        refine Sat.skip ?_
        simp only [thenK]
        (repeat refine Sat.seq ?_)
        refine Sat.block ?_
        (repeat refine Sat.seq ?_)
        (refine Sat.region_k fun k hk => ?_; simp -implicitDefEqProofs only [evr, id, reduceCtorEq, reduceIte, Nat.reduceMul, Nat.reduceAdd, Nat.reduceLT, Nat.reduceLeDiff, Nat.reduceEqDiff, Int.reduceLT, Int.reduceBEq, Int.reduceBNe, Nat.reduceBEq, treEqs, ptr, ev_one, exc_one, res_one, par_one, idn_one, idn_0, idn_1, idn_2, Int.reduceToNat, resRow, res_ro, rExtract_tup, evn])
        refine ⟨by omega, fun b14 => ?_⟩
        (refine hk _ ?_; clear hk k; try show Sat _ _ _ _ _)
        refine Sat.settleLast [] 14 rfl ?_
        refine Sat.le (st' := ⟨138, [(14, .el ⟨b14, 0, none⟩ 8 fun j => (Exc.cs y).getD j default), (108, .i .i64 q), (107, .i .i64 es.length), (106, .sl a2 es.length c2 8 (excRd es.toArray)), (12, .b f0), (7, .i .i64 ((cntA (xs.take i) xs + cntB a (xs.take (m + 1)) : Nat) : Int)), (10, .el ⟨b10, 0, none⟩ 17 fun j => (Res.cs a).getD j default), (11, .el ⟨b11, 0, none⟩ 17 fun j => (Res.cs b).getD j default), (35, .i .i64 m), (34, .i .i64 xs.length), (8, .i .i64 i), (30, .i .i64 i), (29, .i .i64 xs.length), (5, .sl a2 es.length c2 8 (excRd es.toArray)), (4, .sl xa xs.length xc 17 (resRd xs.toArray))], []⟩) ?_ (by
          simp only [Res.cs]
          simp -implicitDefEqProofs only [evr, id, reduceCtorEq, reduceIte, Nat.reduceMul, Nat.reduceAdd, Nat.reduceLT, Nat.reduceLeDiff, Nat.reduceEqDiff, Int.reduceLT, Int.reduceBEq, Int.reduceBNe, Nat.reduceBEq, treEqs, ptr, ev_one, exc_one, res_one, par_one, idn_one, idn_0, idn_1, idn_2, Int.reduceToNat, resRow, res_ro, rExtract_tup, evl, evn]
          first | (rw [hy]; rfl) | exact ⟨rfl, by rw [hy]; rfl⟩ | trace_state)
        simp only [Res.cs, Exc.cs]
        refine Sat.atF (ι := Bool) (fun v => ⟨138, [(12, .b v), (108, .i .i64 q), (107, .i .i64 es.length), (106, .sl a2 es.length c2 8 (excRd es.toArray)), (7, .i .i64 ((cntA (xs.take i) xs + cntB a (xs.take (m + 1)) : Nat) : Int)), (10, .el ⟨b10, 0, none⟩ 17 fun j => (Res.cs a).getD j default), (11, .el ⟨b11, 0, none⟩ 17 fun j => (Res.cs b).getD j default), (35, .i .i64 m), (34, .i .i64 xs.length), (8, .i .i64 i), (30, .i .i64 i), (29, .i .i64 xs.length), (5, .sl a2 es.length c2 8 (excRd es.toArray)), (4, .sl xa xs.length xc 17 (resRd xs.toArray))], []⟩) (fun v => v = (f0 || fd y)) ?_ ?_
        · have hfy : fd y = ((y.a == a.from_) && (y.b == b.from_)) := by rw [hfd]
          (refine Sat.region_k fun k hk => ?_; simp -implicitDefEqProofs only [evr, id, reduceCtorEq, reduceIte, Nat.reduceMul, Nat.reduceAdd, Nat.reduceLT, Nat.reduceLeDiff, Nat.reduceEqDiff, Int.reduceLT, Int.reduceBEq, Int.reduceBNe, Nat.reduceBEq, treEqs, ptr, ev_one, exc_one, res_one, par_one, idn_one, idn_0, idn_1, idn_2, Int.reduceToNat, resRow, res_ro, rExtract_tup, evn])
          refine ⟨fun g1 => ?_, fun g1 => ⟨fun g2 => ?_, fun g2 => ?_⟩⟩
          · refine hk _ ?_
            simp only [thenK]
            refine ⟨true, by rw [g1]; rfl, ?_⟩
            simp only [Res.cs]
            simp -implicitDefEqProofs only [evr, id, reduceCtorEq, reduceIte, Nat.reduceMul, Nat.reduceAdd, Nat.reduceLT, Nat.reduceLeDiff, Nat.reduceEqDiff, Int.reduceLT, Int.reduceBEq, Int.reduceBNe, Nat.reduceBEq, treEqs, ptr, ev_one, exc_one, res_one, par_one, idn_one, idn_0, idn_1, idn_2, Int.reduceToNat, resRow, res_ro, rExtract_tup, evl, evn]
          · refine hk _ ?_
            simp only [thenK]
            refine ⟨(y.b == b.from_), by rw [g1, hfy, show (y.a == a.from_) = true by simpa using g2]; rfl, ?_⟩
            simp only [Res.cs]
            simp -implicitDefEqProofs only [evr, id, reduceCtorEq, reduceIte, Nat.reduceMul, Nat.reduceAdd, Nat.reduceLT, Nat.reduceLeDiff, Nat.reduceEqDiff, Int.reduceLT, Int.reduceBEq, Int.reduceBNe, Nat.reduceBEq, treEqs, ptr, ev_one, exc_one, res_one, par_one, idn_one, idn_0, idn_1, idn_2, Int.reduceToNat, resRow, res_ro, rExtract_tup, evl, evn]
          · refine hk _ ?_
            simp only [thenK]
            refine ⟨false, by rw [g1, hfy, show (y.a == a.from_) = false by simpa using g2]; rfl, ?_⟩
            simp only [Res.cs]
            simp -implicitDefEqProofs only [evr, id, reduceCtorEq, reduceIte, Nat.reduceMul, Nat.reduceAdd, Nat.reduceLT, Nat.reduceLeDiff, Nat.reduceEqDiff, Int.reduceLT, Int.reduceBEq, Int.reduceBNe, Nat.reduceBEq, treEqs, ptr, ev_one, exc_one, res_one, par_one, idn_one, idn_0, idn_1, idn_2, Int.reduceToNat, resRow, res_ro, rExtract_tup, evl, evn]
        rintro v hv
        rw [← htk] at hv
        subst hv
        simp only [thenK, blockK, reduceIte, Res.cs]
        refine Sat.region_k fun kk hk => ?_
        simp -implicitDefEqProofs only [evr, id, reduceCtorEq, reduceIte, Nat.reduceMul, Nat.reduceAdd, Nat.reduceLT, Nat.reduceLeDiff, Nat.reduceEqDiff, Int.reduceLT, Int.reduceBEq, Int.reduceBNe, Nat.reduceBEq, treEqs, ptr, ev_one, exc_one, res_one, par_one, idn_one, idn_0, idn_1, idn_2, Int.reduceToNat, resRow, res_ro, rExtract_tup, e5, evn]
        refine hk _ ?_
        simp only [thenK, blockK]
        refine ⟨q + 1, h6, by omega, ?_⟩
        try simp only [Res.cs]
        simp -implicitDefEqProofs only [evr, id, reduceCtorEq, reduceIte, Nat.reduceMul, Nat.reduceAdd, Nat.reduceLT, Nat.reduceLeDiff, Nat.reduceEqDiff, Int.reduceLT, Int.reduceBEq, Int.reduceBNe, Nat.reduceBEq, treEqs, ptr, ev_one, exc_one, res_one, par_one, idn_one, idn_0, idn_1, idn_2, Int.reduceToNat, resRow, res_ro, rExtract_tup, evl, evn]
      have h6 : q = es.length := by simp only [decide_eq_false_iff_not] at h5; omega
      subst h6
      have hfound : (es.take es.length).any fd = true := by
        rw [List.take_length, List.any_eq_true]
        obtain ⟨y, hy, y1, y2⟩ := cnd_found hC hes ham hbm hf
        exact ⟨y, hy, by rw [hfd]; simp [y1, y2]⟩
      rw [hfound]
      refine Sat.exit ?_
      simp only [thenK, blockK, reduceIte]
      (repeat refine Sat.seq ?_)
      (refine Sat.region_k fun k hk => ?_; simp -implicitDefEqProofs only [evr, id, reduceCtorEq, reduceIte, Nat.reduceMul, Nat.reduceAdd, Nat.reduceLT, Nat.reduceLeDiff, Nat.reduceEqDiff, Int.reduceLT, Int.reduceBEq, Int.reduceBNe, Nat.reduceBEq, treEqs, ptr, ev_one, exc_one, res_one, par_one, idn_one, idn_0, idn_1, idn_2, Int.reduceToNat, resRow, res_ro, rExtract_tup, evn]; refine hk _ ?_; clear hk k; try show Sat _ _ _ _ _)
      (repeat refine Sat.seq ?_)
      refine Sat.cond_b rfl (fun h7 => absurd h7 (by decide)) (fun _ => ?_)
      refine Sat.skip ?_
      simp only [thenK, blockK, reduceIte]
      refine Sat.region_k fun kk hk => ?_
      simp -implicitDefEqProofs only [evr, id, reduceCtorEq, reduceIte, Nat.reduceMul, Nat.reduceAdd, Nat.reduceLT, Nat.reduceLeDiff, Nat.reduceEqDiff, Int.reduceLT, Int.reduceBEq, Int.reduceBNe, Nat.reduceBEq, treEqs, ptr, ev_one, exc_one, res_one, par_one, idn_one, idn_0, idn_1, idn_2, Int.reduceToNat, resRow, res_ro, rExtract_tup, e2, evn]
      refine hk _ ?_
      simp only [thenK, blockK]
      refine ⟨m + 1, h3, by omega, ?_⟩
      simp -implicitDefEqProofs only [evr, id, reduceCtorEq, reduceIte, Nat.reduceMul, Nat.reduceAdd, Nat.reduceLT, Nat.reduceLeDiff, Nat.reduceEqDiff, Int.reduceLT, Int.reduceBEq, Int.reduceBNe, Nat.reduceBEq, treEqs, ptr, ev_one, exc_one, res_one, par_one, idn_one, idn_0, idn_1, idn_2, Int.reduceToNat, resRow, res_ro, rExtract_tup, evl, evn]
    have h3 : m = xs.length := by simp only [decide_eq_false_iff_not] at h2; omega
    subst h3
    rw [List.take_length, ← hct]
    refine Sat.exit ?_
    simp only [thenK, blockK, reduceIte]
    refine Sat.region_k fun kk hk => ?_
    simp -implicitDefEqProofs only [evr, id, reduceCtorEq, reduceIte, Nat.reduceMul, Nat.reduceAdd, Nat.reduceLT, Nat.reduceLeDiff, Nat.reduceEqDiff, Int.reduceLT, Int.reduceBEq, Int.reduceBNe, Nat.reduceBEq, treEqs, ptr, ev_one, exc_one, res_one, par_one, idn_one, idn_0, idn_1, idn_2, Int.reduceToNat, resRow, res_ro, rExtract_tup, e1, evn]
    refine hk _ ?_
    simp only [thenK, blockK]
    refine ⟨i + 1, h1, by omega, ?_⟩
    simp -implicitDefEqProofs only [evr, id, reduceCtorEq, reduceIte, Nat.reduceMul, Nat.reduceAdd, Nat.reduceLT, Nat.reduceLeDiff, Nat.reduceEqDiff, Int.reduceLT, Int.reduceBEq, Int.reduceBNe, Nat.reduceBEq, treEqs, ptr, ev_one, exc_one, res_one, par_one, idn_one, idn_0, idn_1, idn_2, Int.reduceToNat, resRow, res_ro, rExtract_tup, evl, evn]
  have h1 : i = xs.length := by simp only [decide_eq_false_iff_not] at h; omega
  subst h1
  rw [List.take_length]
  refine Sat.exit ?_
  simp only [thenK, blockK, reduceIte]
  have hge : decide ((es.length : Int) ≤ (cntA xs xs : Int)) = true := decide_eq_true (by have := cnt_pairs hes; omega)
  (repeat refine Sat.seq ?_)
  refine Sat.region_k fun k hk => ?_
  simp -implicitDefEqProofs only [evr, id, reduceCtorEq, reduceIte, Nat.reduceMul, Nat.reduceAdd, Nat.reduceLT, Nat.reduceLeDiff, Nat.reduceEqDiff, Int.reduceLT, Int.reduceBEq, Int.reduceBNe, Nat.reduceBEq, treEqs, ptr, ev_one, exc_one, res_one, par_one, idn_one, idn_0, idn_1, idn_2, Int.reduceToNat, resRow, res_ro, rExtract_tup, hge, evn]
  (refine hk _ ?_; clear hk k; try show Sat _ _ _ _ _)
  refine Sat.ret ?_
  simp only [Tryz.results5, evr, id, reduceCtorEq, reduceIte, Nat.reduceMul, Nat.reduceAdd, Nat.reduceLT, Nat.reduceLeDiff, Nat.reduceEqDiff, Int.reduceLT, Int.reduceBEq, Int.reduceBNe, Nat.reduceBEq, treEqs, ptr, ev_one, exc_one, res_one, par_one, idn_one, idn_0, idn_1, idn_2, List.append_nil, Int.toNat_zero, Nat.sub_self, Int.reduceToNat, resRow, res_ro, rExtract_tup]
theorem paths_holds : Rows.ExclusionPathsSaid := exclusionPaths.of_walk fun a0 z0 w ⟨h, hz⟩ => by
  obtain ⟨a, cap, rfl, hok⟩ := slB_of h
  exact walk_of (pathsC a cap z0 hz) (fun s hs => by rw [List.mem_singleton.1 hs]; exact hok)
#print axioms paths_holds
end Go.Proofs.YtfeiiadligkamaaGreat
