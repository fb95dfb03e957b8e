/- The reference of buckets and of Check, by the evaluator. -/
import Derived.Test.YtgimngpcfenoaaaDoorSpeP
import Derived.Test.YtgimngpcfenoaaaDoorRfaP
set_option linter.unusedSimpArgs false
set_option linter.unusedVariables false
namespace Go.Proofs.YtgimngpcfenoaaaDoor
open Go.Sort Eng
set_option maxRecDepth 100000 in
theorem rfBkCheckC (F : Frm) (b e : Int) : Contract F Tryd.prog 36 [bkS b e] (fun r => r = .i .i64 (bkErr b e)) := by
  refine contract_of Tryd.func36 rfl (by kernel_rfl) ?_
  simp only [Tryd.ntmps36, argEnv, bkS, bkL]
  (repeat refine Sat.seq ?_)
  (refine Sat.region_k fun k hk => ?_; simp -implicitDefEqProofs only [evr, id, reduceCtorEq, reduceIte, Nat.reduceMul, Nat.reduceAdd, Nat.reduceLT, Nat.reduceLeDiff, Nat.reduceEqDiff, Int.reduceLT, Int.reduceBEq, Int.reduceBNe, Nat.reduceBEq, planC, tsk_one, bk_eq, sh1, evn])
  intro b1
  (refine hk _ ?_; clear hk k; try show Sat _ _ _ _ _)
  (repeat refine Sat.seq ?_)
  refine Sat.region_at ⟨26, [(25, .b (decide (okBk b e)))], []⟩ (fun k hk => ?_) ?_
  · simp -implicitDefEqProofs only [evr, id, reduceCtorEq, reduceIte, Nat.reduceMul, Nat.reduceAdd, Nat.reduceLT, Nat.reduceLeDiff, Nat.reduceEqDiff, Int.reduceLT, Int.reduceBEq, Int.reduceBNe, Nat.reduceBEq, planC, tsk_one, bk_eq, sh1, List.all_cons, List.all_nil, Bool.and_true, id_eq, evn]
    simp only [Bool.not_eq_true', Bool.not_eq_false', Bool.and_eq_true, Bool.and_eq_false_iff, beq_iff_eq, beq_eq_false_iff_ne]
    repeat' (first
      | (with_reducible refine And.intro ?_ ?_)
      | (with_reducible intro hh)
      | (with_reducible refine hk _ ?_
         first
         | (have e9 : decide (okBk b e) = true := decide_eq_true (by unfold okBk; omega)
            simp only [e9]
            simp -implicitDefEqProofs only [evr, id, reduceCtorEq, reduceIte, Nat.reduceMul, Nat.reduceAdd, Nat.reduceLT, Nat.reduceLeDiff, Nat.reduceEqDiff, Int.reduceLT, Int.reduceBEq, Int.reduceBNe, Nat.reduceBEq, planC, tsk_one, bk_eq, sh1, evl, evn]
            done)
         | (have e9 : decide (okBk b e) = false := decide_eq_false (by unfold okBk; omega)
            simp only [e9]
            simp -implicitDefEqProofs only [evr, id, reduceCtorEq, reduceIte, Nat.reduceMul, Nat.reduceAdd, Nat.reduceLT, Nat.reduceLeDiff, Nat.reduceEqDiff, Int.reduceLT, Int.reduceBEq, Int.reduceBNe, Nat.reduceBEq, planC, tsk_one, bk_eq, sh1, evl, evn]
            done)
         | (have e9 : decide (okBk b e) = decide (e ≤ 1073741824) := by
              apply Bool.eq_iff_iff.2
              simp only [decide_eq_true_eq]
              unfold okBk
              omega
            simp only [e9]
            simp -implicitDefEqProofs only [evr, id, reduceCtorEq, reduceIte, Nat.reduceMul, Nat.reduceAdd, Nat.reduceLT, Nat.reduceLeDiff, Nat.reduceEqDiff, Int.reduceLT, Int.reduceBEq, Int.reduceBNe, Nat.reduceBEq, planC, tsk_one, bk_eq, sh1, evl, evn]
            done)))
  refine Sat.cond_b rfl (fun h => ?_) (fun h => ?_)
  · (repeat refine Sat.seq ?_)
    (refine Sat.region_k fun k hk => ?_; simp -implicitDefEqProofs only [evr, id, reduceCtorEq, reduceIte, Nat.reduceMul, Nat.reduceAdd, Nat.reduceLT, Nat.reduceLeDiff, Nat.reduceEqDiff, Int.reduceLT, Int.reduceBEq, Int.reduceBNe, Nat.reduceBEq, planC, tsk_one, bk_eq, sh1, evn]; refine hk _ ?_; clear hk k; try show Sat _ _ _ _ _)
    refine Sat.ret ?_
    simp only [Tryd.results36, evr, id, reduceCtorEq, reduceIte, Nat.reduceMul, Nat.reduceAdd, Nat.reduceLT, Nat.reduceLeDiff, Nat.reduceEqDiff, Int.reduceLT, Int.reduceBEq, Int.reduceBNe, Nat.reduceBEq, List.append_nil, Int.toNat_zero, Nat.sub_self, planC, tsk_one, bk_eq, sh1]
    unfold bkErr
    rw [if_pos (of_decide_eq_true h)]
  · refine Sat.skip ?_
    simp only [thenK]
    (repeat refine Sat.seq ?_)
    (refine Sat.region_k fun k hk => ?_; simp -implicitDefEqProofs only [evr, id, reduceCtorEq, reduceIte, Nat.reduceMul, Nat.reduceAdd, Nat.reduceLT, Nat.reduceLeDiff, Nat.reduceEqDiff, Int.reduceLT, Int.reduceBEq, Int.reduceBNe, Nat.reduceBEq, planC, tsk_one, bk_eq, sh1, evn]; refine hk _ ?_; clear hk k; try show Sat _ _ _ _ _)
    refine Sat.ret ?_
    simp only [Tryd.results36, evr, id, reduceCtorEq, reduceIte, Nat.reduceMul, Nat.reduceAdd, Nat.reduceLT, Nat.reduceLeDiff, Nat.reduceEqDiff, Int.reduceLT, Int.reduceBEq, Int.reduceBNe, Nat.reduceBEq, List.append_nil, Int.toNat_zero, Nat.sub_self, planC, tsk_one, bk_eq, sh1]
    unfold bkErr
    rw [if_neg (of_decide_eq_false h)]
set_option maxRecDepth 100000 in
theorem rfFullC (F : Frm) (b e x : Int) (hb : 0 ≤ b ∧ b ≤ 65536) (he : 0 ≤ e ∧ e ≤ 1073741824) : Contract F Tryd.prog 37 [bkS b e, .i .i64 x] (fun r => r = tokS ⟨b * e, x⟩) := by
  have h0 : 0 ≤ b * e := Int.mul_nonneg hb.1 he.1
  have h1 : b * e ≤ 65536 * 1073741824 := Int.mul_le_mul hb.2 he.2 he.1 (by decide)
  have e1 : IntKind.i64.wrap (b * e) = b * e := w64 (by omega)
  refine contract_of Tryd.func37 rfl (by kernel_rfl) ?_
  simp only [Tryd.ntmps37, argEnv, bkS, bkL, tokS, tokL]
  (repeat refine Sat.seq ?_)
  (refine Sat.region_k fun k hk => ?_; simp -implicitDefEqProofs only [evr, id, reduceCtorEq, reduceIte, Nat.reduceMul, Nat.reduceAdd, Nat.reduceLT, Nat.reduceLeDiff, Nat.reduceEqDiff, Int.reduceLT, Int.reduceBEq, Int.reduceBNe, Nat.reduceBEq, planC, tsk_one, bk_eq, sh1, evn])
  intro b1 b2
  (refine hk _ ?_; clear hk k; try show Sat _ _ _ _ _)
  (repeat refine Sat.seq ?_)
  (refine Sat.region_k fun k hk => ?_; simp -implicitDefEqProofs only [evr, id, reduceCtorEq, reduceIte, Nat.reduceMul, Nat.reduceAdd, Nat.reduceLT, Nat.reduceLeDiff, Nat.reduceEqDiff, Int.reduceLT, Int.reduceBEq, Int.reduceBNe, Nat.reduceBEq, planC, tsk_one, bk_eq, sh1, evn])
  simp only [e1]
  (refine hk _ ?_; clear hk k; try show Sat _ _ _ _ _)
  refine Sat.ret ?_
  simp only [Tryd.results37, evr, id, reduceCtorEq, reduceIte, Nat.reduceMul, Nat.reduceAdd, Nat.reduceLT, Nat.reduceLeDiff, Nat.reduceEqDiff, Int.reduceLT, Int.reduceBEq, Int.reduceBNe, Nat.reduceBEq, List.append_nil, Int.toNat_zero, Nat.sub_self, planC, tsk_one, bk_eq, sh1]
  try rfl
def grownF (b e : Int) (t : Tok) (x : Int) : Tok := if x > t.since then ⟨min (t.credit + x - t.since) (b * e), x⟩ else t
theorem grown_take {b e : Int} {t : Tok} {x : Int} (hb : 0 ≤ b) (he : 0 ≤ e) (ht : 0 ≤ t.credit ∧ t.credit ≤ b * e) :
    takeF b e t x = if (grownF b e t x).credit < e then (grownF b e t x, false) else (⟨(grownF b e t x).credit - e, (grownF b e t x).since⟩, true) := by
  obtain ⟨c, s⟩ := t
  simp only at ht
  unfold takeF grownF
  simp only
  by_cases hu : (b == 0 && e == 0) = true
  · obtain ⟨rfl, rfl⟩ : b = 0 ∧ e = 0 := by simpa using hu
    have : c = 0 := by omega
    subst this
    rw [if_pos hu]
    by_cases h : x > s
    · have h1 : min (0 + x - s) (0 * 0) = 0 := by omega
      have h2 : max x s = x := by omega
      simp only [if_pos h, h1, h2]
      rfl
    · have h2 : max x s = s := by omega
      simp only [if_neg h, h2]
      rfl
  · rw [if_neg hu]
    by_cases h : x > s
    · have h2 : max x s = x := by omega
      have h3 : c + (x - s) = c + x - s := by omega
      simp only [if_pos h, h2, h3]
    · have h2 : max x s = s := by omega
      have h3 : min (c + (s - s)) (b * e) = c := by omega
      simp only [if_neg h, h2, h3]
set_option maxRecDepth 100000 in
theorem rfGrownC (F : Frm) (b e : Int) (t : Tok) (x : Int) (hb : 0 ≤ b ∧ b ≤ 65536) (he : 0 ≤ e ∧ e ≤ 1073741824) (ht : tokOk t) (hx : 0 ≤ x ∧ x ≤ 1125899906842624) :
    Contract F Tryd.prog 50 [bkS b e, tokS t, .i .i64 x] (fun r => r = tokS (grownF b e t x)) := by
  have h0 : 0 ≤ b * e := Int.mul_nonneg hb.1 he.1
  have h1 : b * e ≤ 65536 * 1073741824 := Int.mul_le_mul hb.2 he.2 he.1 (by decide)
  obtain ⟨t1, t2, t3, t4⟩ := ht
  have e1 : IntKind.i64.wrap (b * e) = b * e := w64 (by omega)
  have e2 : IntKind.i64.wrap (t.credit + x) = t.credit + x := w64 (by omega)
  have e3 : IntKind.i64.wrap (t.credit + x - t.since) = t.credit + x - t.since := w64 (by omega)
  refine contract_of Tryd.func50 rfl (by kernel_rfl) ?_
  simp only [Tryd.ntmps50, argEnv, bkS, bkL, tokS, tokL]
  (repeat refine Sat.seq ?_)
  (refine Sat.region_k fun k hk => ?_; simp -implicitDefEqProofs only [evr, id, reduceCtorEq, reduceIte, Nat.reduceMul, Nat.reduceAdd, Nat.reduceLT, Nat.reduceLeDiff, Nat.reduceEqDiff, Int.reduceLT, Int.reduceBEq, Int.reduceBNe, Nat.reduceBEq, planC, tsk_one, bk_eq, sh1, evn])
  intro b1 b2 b3
  (refine hk _ ?_; clear hk k; try show Sat _ _ _ _ _)
  (repeat refine Sat.seq ?_)
  (refine Sat.region_k fun k hk => ?_; simp -implicitDefEqProofs only [evr, id, reduceCtorEq, reduceIte, Nat.reduceMul, Nat.reduceAdd, Nat.reduceLT, Nat.reduceLeDiff, Nat.reduceEqDiff, Int.reduceLT, Int.reduceBEq, Int.reduceBNe, Nat.reduceBEq, planC, tsk_one, bk_eq, sh1, evn]; refine hk _ ?_; clear hk k; try show Sat _ _ _ _ _)
  refine Sat.cond_b rfl (fun h => ?_) (fun h => ?_)
  · have h := of_decide_eq_true h
    (repeat refine Sat.seq ?_)
    (refine Sat.region_k fun k hk => ?_; simp -implicitDefEqProofs only [evr, id, reduceCtorEq, reduceIte, Nat.reduceMul, Nat.reduceAdd, Nat.reduceLT, Nat.reduceLeDiff, Nat.reduceEqDiff, Int.reduceLT, Int.reduceBEq, Int.reduceBNe, Nat.reduceBEq, planC, tsk_one, bk_eq, sh1, evn])
    simp only [e1, e2, e3]
    (refine hk _ ?_; clear hk k; try show Sat _ _ _ _ _)
    refine Sat.region_k fun k hk => ?_
    simp -implicitDefEqProofs only [evr, id, reduceCtorEq, reduceIte, Nat.reduceMul, Nat.reduceAdd, Nat.reduceLT, Nat.reduceLeDiff, Nat.reduceEqDiff, Int.reduceLT, Int.reduceBEq, Int.reduceBNe, Nat.reduceBEq, planC, tsk_one, bk_eq, sh1, evn]
    refine hk _ ?_
    clear hk k
    simp only [thenK]
    (repeat refine Sat.seq ?_)
    (refine Sat.region_k fun k hk => ?_; simp -implicitDefEqProofs only [evr, id, reduceCtorEq, reduceIte, Nat.reduceMul, Nat.reduceAdd, Nat.reduceLT, Nat.reduceLeDiff, Nat.reduceEqDiff, Int.reduceLT, Int.reduceBEq, Int.reduceBNe, Nat.reduceBEq, planC, tsk_one, bk_eq, sh1, evn]; refine hk _ ?_; clear hk k; try show Sat _ _ _ _ _)
    refine Sat.ret ?_
    simp only [Tryd.results50, evr, id, reduceCtorEq, reduceIte, Nat.reduceMul, Nat.reduceAdd, Nat.reduceLT, Nat.reduceLeDiff, Nat.reduceEqDiff, Int.reduceLT, Int.reduceBEq, Int.reduceBNe, Nat.reduceBEq, List.append_nil, Int.toNat_zero, Nat.sub_self, planC, tsk_one, bk_eq, sh1]
    unfold grownF
    rw [if_pos h]
  · have h := of_decide_eq_false h
    refine Sat.skip ?_
    simp only [thenK]
    (repeat refine Sat.seq ?_)
    (refine Sat.region_k fun k hk => ?_; simp -implicitDefEqProofs only [evr, id, reduceCtorEq, reduceIte, Nat.reduceMul, Nat.reduceAdd, Nat.reduceLT, Nat.reduceLeDiff, Nat.reduceEqDiff, Int.reduceLT, Int.reduceBEq, Int.reduceBNe, Nat.reduceBEq, planC, tsk_one, bk_eq, sh1, evn]; refine hk _ ?_; clear hk k; try show Sat _ _ _ _ _)
    refine Sat.ret ?_
    simp only [Tryd.results50, evr, id, reduceCtorEq, reduceIte, Nat.reduceMul, Nat.reduceAdd, Nat.reduceLT, Nat.reduceLeDiff, Nat.reduceEqDiff, Int.reduceLT, Int.reduceBEq, Int.reduceBNe, Nat.reduceBEq, List.append_nil, Int.toNat_zero, Nat.sub_self, planC, tsk_one, bk_eq, sh1]
    unfold grownF
    rw [if_neg h]
theorem grown_ok {b e : Int} {t : Tok} {x : Int} (hb : 0 ≤ b ∧ b ≤ 65536) (he : 0 ≤ e ∧ e ≤ 1073741824) (ht : tokOk t) (hx : 0 ≤ x ∧ x ≤ 1125899906842624) : tokOk (grownF b e t x) := by
  have h0 : 0 ≤ b * e := Int.mul_nonneg hb.1 he.1
  have h1 : b * e ≤ 65536 * 1073741824 := Int.mul_le_mul hb.2 he.2 he.1 (by decide)
  have ht' := ht
  obtain ⟨t1, t2, t3, t4⟩ := ht
  unfold grownF
  split
  · refine ⟨?_, ?_, ?_, ?_⟩ <;> dsimp only <;> omega
  · exact ht'
set_option maxRecDepth 100000 in
theorem rfTakeC (F : Frm) (b e : Int) (t : Tok) (x : Int) (hb : 0 ≤ b ∧ b ≤ 65536) (he : 0 ≤ e ∧ e ≤ 1073741824) (ht : tokOk t) (hbe : t.credit ≤ b * e) (hx : 0 ≤ x ∧ x ≤ 1125899906842624) :
    Contract F Tryd.prog 38 [bkS b e, tokS t, .i .i64 x] (fun r => r = .tup 2 fun j => [tokS (takeF b e t x).1, .b (takeF b e t x).2].getD j default) := by
  have hg := rfGrownC F b e t x hb he ht hx
  obtain ⟨g1, g2, g3, g4⟩ := grown_ok hb he ht hx
  rw [grown_take hb.1 he.1 ⟨ht.1, hbe⟩]
  generalize grownF b e t x = G at hg g1 g2 g3 g4 ⊢
  have e1 : IntKind.i64.wrap (G.credit - e) = G.credit - e := w64 (by omega)
  refine contract_of Tryd.func38 rfl (by kernel_rfl) ?_
  simp only [Tryd.ntmps38, argEnv, bkS, bkL, tokS, tokL]
  (repeat refine Sat.seq ?_)
  (refine Sat.region_k fun k hk => ?_; simp -implicitDefEqProofs only [evr, id, reduceCtorEq, reduceIte, Nat.reduceMul, Nat.reduceAdd, Nat.reduceLT, Nat.reduceLeDiff, Nat.reduceEqDiff, Int.reduceLT, Int.reduceBEq, Int.reduceBNe, Nat.reduceBEq, planC, tsk_one, bk_eq, sh1, evn])
  intro b1 b2 b3
  (refine hk _ ?_; clear hk k; try show Sat _ _ _ _ _)
  (repeat refine Sat.seq ?_)
  (refine Sat.region_k fun k hk => ?_; simp -implicitDefEqProofs only [evr, id, reduceCtorEq, reduceIte, Nat.reduceMul, Nat.reduceAdd, Nat.reduceLT, Nat.reduceLeDiff, Nat.reduceEqDiff, Int.reduceLT, Int.reduceBEq, Int.reduceBNe, Nat.reduceBEq, planC, tsk_one, bk_eq, sh1, evn])
  refine wcall_plain hg rfl (by rintro _ rfl; exact ok_aggL (l := [SV.i .i64 _, .i .i64 _]) rfl) ?_
  rintro r rfl
  simp -implicitDefEqProofs only [evr, id, reduceCtorEq, reduceIte, Nat.reduceMul, Nat.reduceAdd, Nat.reduceLT, Nat.reduceLeDiff, Nat.reduceEqDiff, Int.reduceLT, Int.reduceBEq, Int.reduceBNe, Nat.reduceBEq, planC, tsk_one, bk_eq, sh1, tokS, tokL, evn]
  (refine hk _ ?_; clear hk k; try show Sat _ _ _ _ _)
  (repeat refine Sat.seq ?_)
  (refine Sat.region_k fun k hk => ?_; simp -implicitDefEqProofs only [evr, id, reduceCtorEq, reduceIte, Nat.reduceMul, Nat.reduceAdd, Nat.reduceLT, Nat.reduceLeDiff, Nat.reduceEqDiff, Int.reduceLT, Int.reduceBEq, Int.reduceBNe, Nat.reduceBEq, planC, tsk_one, bk_eq, sh1, evn]; refine hk _ ?_; clear hk k; try show Sat _ _ _ _ _)
  refine Sat.cond_b rfl (fun h => ?_) (fun h => ?_)
  · have h := of_decide_eq_true h
    rw [if_pos h]
    (repeat refine Sat.seq ?_)
    (refine Sat.region_k fun k hk => ?_; simp -implicitDefEqProofs only [evr, id, reduceCtorEq, reduceIte, Nat.reduceMul, Nat.reduceAdd, Nat.reduceLT, Nat.reduceLeDiff, Nat.reduceEqDiff, Int.reduceLT, Int.reduceBEq, Int.reduceBNe, Nat.reduceBEq, planC, tsk_one, bk_eq, sh1, evn]; refine hk _ ?_; clear hk k; try show Sat _ _ _ _ _)
    refine Sat.ret ?_
    simp only [Tryd.results38, evr, id, reduceCtorEq, reduceIte, Nat.reduceMul, Nat.reduceAdd, Nat.reduceLT, Nat.reduceLeDiff, Nat.reduceEqDiff, Int.reduceLT, Int.reduceBEq, Int.reduceBNe, Nat.reduceBEq, List.append_nil, Int.toNat_zero, Nat.sub_self, planC, tsk_one, bk_eq, sh1]
    try rfl
  · have h := of_decide_eq_false h
    rw [if_neg h]
    refine Sat.skip ?_
    simp only [thenK]
    (repeat refine Sat.seq ?_)
    (refine Sat.region_k fun k hk => ?_; simp -implicitDefEqProofs only [evr, id, reduceCtorEq, reduceIte, Nat.reduceMul, Nat.reduceAdd, Nat.reduceLT, Nat.reduceLeDiff, Nat.reduceEqDiff, Int.reduceLT, Int.reduceBEq, Int.reduceBNe, Nat.reduceBEq, planC, tsk_one, bk_eq, sh1, evn])
    simp only [e1]
    (refine hk _ ?_; clear hk k; try show Sat _ _ _ _ _)
    (repeat refine Sat.seq ?_)
    (refine Sat.region_k fun k hk => ?_; simp -implicitDefEqProofs only [evr, id, reduceCtorEq, reduceIte, Nat.reduceMul, Nat.reduceAdd, Nat.reduceLT, Nat.reduceLeDiff, Nat.reduceEqDiff, Int.reduceLT, Int.reduceBEq, Int.reduceBNe, Nat.reduceBEq, planC, tsk_one, bk_eq, sh1, evn]; refine hk _ ?_; clear hk k; try show Sat _ _ _ _ _)
    refine Sat.ret ?_
    simp only [Tryd.results38, evr, id, reduceCtorEq, reduceIte, Nat.reduceMul, Nat.reduceAdd, Nat.reduceLT, Nat.reduceLeDiff, Nat.reduceEqDiff, Int.reduceLT, Int.reduceBEq, Int.reduceBNe, Nat.reduceBEq, List.append_nil, Int.toNat_zero, Nat.sub_self, planC, tsk_one, bk_eq, sh1]
    try rfl
set_option maxRecDepth 100000 in
theorem rfUsableC (F : Frm) (a : Nat) (ha : a < 2 ^ 32) : Contract F Tryd.prog 35 [.i .u32 a] (fun r => r = .b (decide (spc a = 0 ∨ spc a = 3))) := by
  have hs := rfSpecialC F a ha
  refine contract_of Tryd.func35 rfl (by kernel_rfl) ?_
  simp only [Tryd.ntmps35, argEnv]
  (repeat refine Sat.seq ?_)
  (refine Sat.region_k fun k hk => ?_; simp -implicitDefEqProofs only [evr, id, reduceCtorEq, reduceIte, Nat.reduceMul, Nat.reduceAdd, Nat.reduceLT, Nat.reduceLeDiff, Nat.reduceEqDiff, Int.reduceLT, Int.reduceBEq, Int.reduceBNe, Nat.reduceBEq, planC, tsk_one, bk_eq, sh1, evn]; refine hk _ ?_; clear hk k; try show Sat _ _ _ _ _)
  (repeat refine Sat.seq ?_)
  refine Sat.region_k fun k hk => ?_
  simp -implicitDefEqProofs only [evr, id, reduceCtorEq, reduceIte, Nat.reduceMul, Nat.reduceAdd, Nat.reduceLT, Nat.reduceLeDiff, Nat.reduceEqDiff, Int.reduceLT, Int.reduceBEq, Int.reduceBNe, Nat.reduceBEq, planC, tsk_one, bk_eq, sh1, evn]
  refine wcall_plain hs rfl (by rintro _ rfl; exact ok_plain rfl) ?_
  rintro r rfl
  simp -implicitDefEqProofs only [evr, id, reduceCtorEq, reduceIte, Nat.reduceMul, Nat.reduceAdd, Nat.reduceLT, Nat.reduceLeDiff, Nat.reduceEqDiff, Int.reduceLT, Int.reduceBEq, Int.reduceBNe, Nat.reduceBEq, planC, tsk_one, bk_eq, sh1, evn]
  refine ⟨fun h => ?_, fun h => ?_⟩
  · (refine hk _ ?_; clear hk k; try show Sat _ _ _ _ _)
    refine Sat.ret ?_
    simp only [Tryd.results35, evr, id, reduceCtorEq, reduceIte, Nat.reduceMul, Nat.reduceAdd, Nat.reduceLT, Nat.reduceLeDiff, Nat.reduceEqDiff, Int.reduceLT, Int.reduceBEq, Int.reduceBNe, Nat.reduceBEq, List.append_nil, Int.toNat_zero, Nat.sub_self, planC, tsk_one, bk_eq, sh1]
    simp only [beq_iff_eq] at h
    rw [decide_eq_true (.inl h)]
  · refine wcall_plain hs rfl (by rintro _ rfl; exact ok_plain rfl) ?_
    rintro r rfl
    simp -implicitDefEqProofs only [evr, id, reduceCtorEq, reduceIte, Nat.reduceMul, Nat.reduceAdd, Nat.reduceLT, Nat.reduceLeDiff, Nat.reduceEqDiff, Int.reduceLT, Int.reduceBEq, Int.reduceBNe, Nat.reduceBEq, planC, tsk_one, bk_eq, sh1, evn]
    (refine hk _ ?_; clear hk k; try show Sat _ _ _ _ _)
    refine Sat.ret ?_
    simp only [Tryd.results35, evr, id, reduceCtorEq, reduceIte, Nat.reduceMul, Nat.reduceAdd, Nat.reduceLT, Nat.reduceLeDiff, Nat.reduceEqDiff, Int.reduceLT, Int.reduceBEq, Int.reduceBNe, Nat.reduceBEq, List.append_nil, Int.toNat_zero, Nat.sub_self, planC, tsk_one, bk_eq, sh1]
    simp only [beq_eq_false_iff_ne] at h
    apply congrArg SV.b
    apply Bool.eq_iff_iff.2
    simp only [beq_iff_eq, decide_eq_true_eq]
    omega
end Go.Proofs.YtgimngpcfenoaaaDoor
