/- The first two results that contradict, by the evaluator: episode.Witness, episode.Consistent. -/
import Derived.Test.YtkpmihaaijiihaaGreatPoE
set_option linter.unusedSimpArgs false
set_option linter.unusedVariables false
namespace Go.Proofs.YtkpmihaaijiihaaGreat
open Go.Sort Eng
def idL (v r n : Int) : SV := .agg 3 fun j => [SV.i .i64 v, .i .i64 r, .i .i64 n].getD j default
def WitAt (ys : List Res) (i k : Nat) : Prop := i < k ∧ k < ys.length ∧ ClashAt (fun i => ys.toArray[i]!) ys.length k ∧ contraR ys.toArray[i]! ys.toArray[k]! = true ∧ ∀ j, j < i → contraR ys.toArray[j]! ys.toArray[k]! = false
def WitPost (ys : List Res) (f : Nat → SV) : Prop :=
  (Seg (fun i => ys.toArray[i]!) 0 ys.length ∧ f 0 = idL 0 0 0 ∧ f 1 = idL 0 0 0 ∧ f 2 = .b false) ∨
  ∃ i k, WitAt ys i k ∧ f 0 = idAg ys.toArray[i]! ∧ f 1 = idAg ys.toArray[k]! ∧ f 2 = .b true
theorem idAg_ok (x : Res) (R : Nat → Prop) (w : World) : (idAg x).ok R w := by
  intro j hj
  rcases (show j = 0 ∨ j = 1 ∨ j = 2 by omega) with rfl | rfl | rfl <;> trivial
set_option maxRecDepth 100000 in
theorem witnessC (F : Frm) (ad : Option Addr) (cap : Nat) (xs : List Res) (hl : xs.length ≤ 1000000000) (hin : ∀ r ∈ xs, RgR r) :
    Contract F Tryz.prog 16 [.sl ad xs.length cap 17 (resRd xs.toArray)] (fun r => ∃ ys f, OrdOf xs ys ∧ WitPost ys f ∧ r = tupL [f 0, f 1, f 2]) := by
  refine contract_of Tryz.func16 rfl (by kernel_rfl) ?_
  simp only [Tryz.ntmps16, argEnv]
  (repeat refine Sat.seq ?_)
  (refine Sat.region_k fun k hk => ?_; simp -implicitDefEqProofs only [evr, id, seval, res_one, resRow, res_ro, evn])
  intro b1 b2
  (refine hk _ ?_; clear hk k; try show Sat _ _ _ _ _)
  (repeat refine Sat.seq ?_)
  (refine Sat.region_k fun k hk => ?_; simp -implicitDefEqProofs only [evr, id, seval, res_one, resRow, res_ro, evn])
  refine wcall_new (orderC F ad cap xs hl hin) rfl rfl ?_
  rintro ra ty len rc sz rrd ⟨a, c, ys, ho, hyl, e⟩
  simp only [resRow, Own.row.injEq] at e
  obtain ⟨rfl, rfl, rfl, rfl, rfl, rfl⟩ := e
  simp -implicitDefEqProofs only [evr, id, seval, res_one, resRow, res_ro, evn]
  (refine hk _ ?_; clear hk k; try show Sat _ _ _ _ _)
  refine Sat.settle2 5 rfl rfl ?_
  simp -implicitDefEqProofs only [evr, id, seval, res_one, resRow, res_ro, evn]
  (repeat refine Sat.seq ?_)
  (refine Sat.region_k fun k hk => ?_; simp -implicitDefEqProofs only [evr, id, seval, res_one, resRow, res_ro, evn])
  have hcl := clashC F ra rc ys.toArray (by simp; omega)
  simp only [List.size_toArray] at hcl
  refine wcall_plain hcl rfl (by rintro _ ⟨k, _, rfl⟩; exact ok_plain rfl) ?_
  rintro r ⟨q, hq, rfl⟩
  simp -implicitDefEqProofs only [evr, id, seval, res_one, resRow, res_ro, evn]
  (refine hk _ ?_; clear hk k; try show Sat _ _ _ _ _)
  (repeat refine Sat.seq ?_)
  (refine Sat.region_k fun k hk => ?_; simp -implicitDefEqProofs only [evr, id, seval, res_one, resRow, res_ro, evn]; refine hk _ ?_; clear hk k; try show Sat _ _ _ _ _)
  refine Sat.block ?_
  refine Sat.loop (ι := Nat) (fun i => ⟨44, [(7, .i .i64 i), (6, .i .i64 q), (5, .sl ra ys.length rc 17 (resRd ys.toArray)), (3, .op 1 b2 0), (2, .op 0 b1 0), (4, .ff)], [.box b1 41 [.i .i64 0, .i .i64 0, .i .i64 0], .box b2 41 [.i .i64 0, .i .i64 0, .i .i64 0]]⟩)
    (fun i => i ≤ q ∧ ∀ j, j < i → q < ys.length → contraR ys.toArray[j]! ys.toArray[q]! = false) (fun i => ys.length - i) 0 ⟨Nat.zero_le _, fun j h => absurd h (Nat.not_lt_zero _)⟩ (by simp -implicitDefEqProofs only [evr, id, reduceCtorEq, reduceIte, Nat.reduceMul, Nat.reduceAdd, Nat.reduceLT, Nat.reduceLeDiff, Nat.reduceEqDiff, Int.reduceLT, Int.reduceBEq, Int.reduceBNe, Nat.reduceBEq, res_one, Int.reduceToNat, resRow, res_ro, evl, evn]; rfl) ?_
  rintro i ⟨hi, hno⟩
  have hqn : q ≤ ys.length := by have := hq.1; simpa using this
  (repeat refine Sat.seq ?_)
  refine Sat.at ⟨44, [(20, .b (decide (i < q) && decide (q < ys.length))), (7, .i .i64 i), (6, .i .i64 q), (5, .sl ra ys.length rc 17 (resRd ys.toArray)), (3, .op 1 b2 0), (2, .op 0 b1 0), (4, .ff)], [.box b1 41 [.i .i64 0, .i .i64 0, .i .i64 0], .box b2 41 [.i .i64 0, .i .i64 0, .i .i64 0]]⟩ ?_ ?_
  · (refine Sat.region_k fun k hk => ?_; simp -implicitDefEqProofs only [evr, id, seval, res_one, resRow, res_ro, evn])
    refine ⟨fun h3 => hk _ ?_, fun h3 => hk _ ?_⟩
    · simp only [thenK, h3, Bool.true_and]
      simp -implicitDefEqProofs only [evr, id, seval, res_one, resRow, res_ro, evl, evn]
      have e : decide (i < q) = true := by simpa using h3
      rw [e]; simp
    · simp only [thenK, h3, Bool.false_and]
      simp -implicitDefEqProofs only [evr, id, seval, res_one, resRow, res_ro, evl, evn]
      have e : decide (i < q) = false := by simpa using h3
      rw [e]; simp
  simp only [thenK]
  (repeat refine Sat.seq ?_)
  refine Sat.cond_b rfl (fun h => ?_) (fun h => ?_)
  · obtain ⟨h1, h2⟩ : i < q ∧ q < ys.length := by simpa using h
    refine Sat.skip ?_
    simp only [thenK]
    (repeat refine Sat.seq ?_)
    refine Sat.block ?_
    (repeat refine Sat.seq ?_)
    (refine Sat.region_qk (by kernel_rfl) (by kernel_rfl) fun k hk => ?_; simp -implicitDefEqProofs only [evr, id, seval, res_one, resRow, res_ro, evn])
    refine ⟨by omega, by omega, ?_⟩
    refine qcall (contradictC Frm.nil ys.toArray[i]! ys.toArray[q]!) rfl (ok_plain rfl) ?_
    simp -implicitDefEqProofs only [evr, id, seval, res_one, resRow, res_ro, evn]
    (refine hk _ ?_; clear hk k; try show Sat _ _ _ _ _)
    (repeat refine Sat.seq ?_)
    refine Sat.cond_b rfl (fun h3 => ?_) (fun h3 => ?_)
    · (repeat refine Sat.seq ?_)
      (refine Sat.region_tree (.keep [0, 1, 2, 5, 6, 7, 3, 8] [4] (.one 4 (.one 9 (.one 10 (.one 11 (.one 12 .done)))))) (by kernel_rfl) (by kernel_rfl) (fun _ _ h => h) fun k hk => ?_; simp only [WOT, List.map_cons, List.map_nil, List.getD_cons_zero, List.getD_cons_succ]; simp -implicitDefEqProofs only [evr, id, seval, res_one, resRow, res_ro, WOT, evn])
      repeat' (first
        | (refine wcall_plain (identC F ys.toArray[i]!) rfl (by rintro _ rfl; exact idAg_ok _) ?_; rintro r rfl; simp only [idAg, evr, id, reduceCtorEq, reduceIte, Nat.reduceMul, Nat.reduceAdd, Nat.reduceLT, Nat.reduceLeDiff, Nat.reduceEqDiff, Int.reduceLT, Int.reduceBEq, Int.reduceBNe, Nat.reduceBEq, res_one, List.append_nil, Int.toNat_zero, Nat.sub_self, Int.reduceToNat, resRow, res_ro])
        | (refine wcall_plain (identC F ys.toArray[q]!) rfl (by rintro _ rfl; exact idAg_ok _) ?_; rintro r rfl; simp only [idAg, evr, id, reduceCtorEq, reduceIte, Nat.reduceMul, Nat.reduceAdd, Nat.reduceLT, Nat.reduceLeDiff, Nat.reduceEqDiff, Int.reduceLT, Int.reduceBEq, Int.reduceBNe, Nat.reduceBEq, res_one, List.append_nil, Int.toNat_zero, Nat.sub_self, Int.reduceToNat, resRow, res_ro])
        | omega
        | (refine And.intro ?_ ?_))
      all_goals
        refine hk _ ?_
        clear hk
        simp only [thenK]
        refine Sat.ret ?_
        simp only [Tryz.results16, evr, id, reduceCtorEq, reduceIte, Nat.reduceMul, Nat.reduceAdd, Nat.reduceLT, Nat.reduceLeDiff, Nat.reduceEqDiff, Int.reduceLT, Int.reduceBEq, Int.reduceBNe, Nat.reduceBEq, res_one, List.append_nil, Int.toNat_zero, Nat.sub_self, Int.reduceToNat, resRow, res_ro]
        exact ⟨ys, fun j => [idAg ys.toArray[i]!, idAg ys.toArray[q]!, .b true].getD j default, ho, .inr ⟨i, q, ⟨h1, h2, by simpa using hq, h3, fun j hj => hno j hj h2⟩, rfl, rfl, rfl⟩, rfl⟩
    · refine Sat.skip ?_
      simp only [thenK, blockK]
      refine Sat.region_k fun k hk => ?_
      have e2 : IntKind.i64.wrap ((i : Int) + 1) = ((i + 1 : Nat) : Int) := by rw [w64 (by omega)]; omega
      simp -implicitDefEqProofs only [evr, id, seval, res_one, resRow, res_ro, e2, evn]
      refine hk _ ?_
      simp only [thenK, blockK]
      refine ⟨i + 1, ⟨by omega, fun j hj h => ?_⟩, by omega, ?_⟩
      · rcases (show j < i ∨ j = i by omega) with h4 | h4
        · exact hno j h4 h
        · subst h4; exact h3
      · simp -implicitDefEqProofs only [evr, id, seval, res_one, resRow, res_ro, evl, evn]
  · refine Sat.exit ?_
    simp only [thenK, blockK, reduceIte]
    (repeat refine Sat.seq ?_)
    (refine Sat.region_k fun k hk => ?_; simp -implicitDefEqProofs only [evr, id, seval, res_one, resRow, res_ro, evn])
    (refine hk _ ?_; clear hk k; try show Sat _ _ _ _ _)
    refine Sat.ret ?_
    simp only [Tryz.results16, evr, id, reduceCtorEq, reduceIte, Nat.reduceMul, Nat.reduceAdd, Nat.reduceLT, Nat.reduceLeDiff, Nat.reduceEqDiff, Int.reduceLT, Int.reduceBEq, Int.reduceBNe, Nat.reduceBEq, res_one, List.append_nil, Int.toNat_zero, Nat.sub_self, Int.reduceToNat, resRow, res_ro]
    have hqq : q = ys.length := by
      rcases Nat.lt_or_ge q ys.length with h4 | h4
      · have h5 : i = q := by
          have : ¬ (i < q ∧ q < ys.length) := by simpa using h
          omega
        obtain ⟨w, hw⟩ := hq.2.2 (by simpa using h4)
        have := hno w (by omega) h4
        rw [hw.2.2] at this
        cases this
      · omega
    exact ⟨ys, fun j => [idL 0 0 0, idL 0 0 0, .b false].getD j default, ho, .inl ⟨hqq ▸ hq.2.1, rfl, rfl, rfl⟩, rfl⟩
def consR (ys : List Res) : Prop := Seg (fun i => ys.toArray[i]!) 0 ys.length
theorem WitPost.ok {ys : List Res} {f : Nat → SV} (h : WitPost ys f) (R : Nat → Prop) (w : World) : (tupL [f 0, f 1, f 2]).ok R w := by
  rcases h with ⟨_, e0, e1, e2⟩ | ⟨i, k, _, e0, e1, e2⟩ <;> rw [e0, e1, e2] <;> intro j hj <;> (rcases (show j = 0 ∨ j = 1 ∨ j = 2 by simp at hj; omega) with rfl | rfl | rfl) <;> first | exact idAg_ok _ _ _ | trivial | (intro q hq; rcases (show q = 0 ∨ q = 1 ∨ q = 2 by omega) with rfl | rfl | rfl <;> trivial)
set_option maxRecDepth 100000 in
theorem consistentC (F : Frm) (ad : Option Addr) (cap : Nat) (xs : List Res) (hl : xs.length ≤ 1000000000) (hin : ∀ r ∈ xs, RgR r) :
    Contract F Tryz.prog 20 [.sl ad xs.length cap 17 (resRd xs.toArray)] (fun r => ∃ ys b, OrdOf xs ys ∧ (b = true ↔ consR ys) ∧ r = .b b) := by
  refine contract_of Tryz.func20 rfl (by kernel_rfl) ?_
  simp only [Tryz.ntmps20, argEnv]
  (repeat refine Sat.seq ?_)
  (refine Sat.region_k fun k hk => ?_; simp -implicitDefEqProofs only [evr, id, seval, res_one, resRow, res_ro, evn])
  (refine hk _ ?_; clear hk k; try show Sat _ _ _ _ _)
  (repeat refine Sat.seq ?_)
  (refine Sat.region_k fun k hk => ?_; simp -implicitDefEqProofs only [evr, id, seval, res_one, resRow, res_ro, evn])
  refine wcall_plain (witnessC F ad cap xs hl hin) rfl (by rintro _ ⟨ys, f, _, hf, rfl⟩; exact hf.ok) ?_
  rintro r ⟨ys, f, ho, hf, rfl⟩
  simp -implicitDefEqProofs only [evr, id, seval, res_one, resRow, res_ro, evn]
  rcases hf with ⟨hs, e0, e1, e2⟩ | ⟨i, q, hw, e0, e1, e2⟩ <;> rw [e0, e1, e2] <;> simp only [idL, idAg, evr, id, reduceCtorEq, reduceIte, Nat.reduceMul, Nat.reduceAdd, Nat.reduceLT, Nat.reduceLeDiff, Nat.reduceEqDiff, Int.reduceLT, Int.reduceBEq, Int.reduceBNe, Nat.reduceBEq, res_one, List.append_nil, Int.toNat_zero, Nat.sub_self, Int.reduceToNat, resRow, res_ro] <;> intro b1 b2
  · (refine hk _ ?_; clear hk k; try show Sat _ _ _ _ _)
    (repeat refine Sat.seq ?_)
    (refine Sat.region_k fun k hk => ?_; simp -implicitDefEqProofs only [evr, id, seval, res_one, resRow, res_ro, evn])
    (refine hk _ ?_; clear hk k; try show Sat _ _ _ _ _)
    refine Sat.ret ?_
    simp only [Tryz.results20, evr, id, reduceCtorEq, reduceIte, Nat.reduceMul, Nat.reduceAdd, Nat.reduceLT, Nat.reduceLeDiff, Nat.reduceEqDiff, Int.reduceLT, Int.reduceBEq, Int.reduceBNe, Nat.reduceBEq, res_one, List.append_nil, Int.toNat_zero, Nat.sub_self, Int.reduceToNat, resRow, res_ro]
    exact ⟨ys, true, ho, ⟨fun _ => hs, fun _ => rfl⟩, rfl⟩
  · (refine hk _ ?_; clear hk k; try show Sat _ _ _ _ _)
    (repeat refine Sat.seq ?_)
    (refine Sat.region_k fun k hk => ?_; simp -implicitDefEqProofs only [evr, id, seval, res_one, resRow, res_ro, evn])
    (refine hk _ ?_; clear hk k; try show Sat _ _ _ _ _)
    refine Sat.ret ?_
    simp only [Tryz.results20, evr, id, reduceCtorEq, reduceIte, Nat.reduceMul, Nat.reduceAdd, Nat.reduceLT, Nat.reduceLeDiff, Nat.reduceEqDiff, Int.reduceLT, Int.reduceBEq, Int.reduceBNe, Nat.reduceBEq, res_one, List.append_nil, Int.toNat_zero, Nat.sub_self, Int.reduceToNat, resRow, res_ro]
    exact ⟨ys, false, ho, ⟨fun h => (by cases h), fun h => absurd (hw.2.2.1.2.2 hw.2.1) (h q (Nat.zero_le _) hw.2.1)⟩, rfl⟩
end Go.Proofs.YtkpmihaaijiihaaGreat
