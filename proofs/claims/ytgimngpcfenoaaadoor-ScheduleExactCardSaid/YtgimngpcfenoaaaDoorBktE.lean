/- The bucket: Full, Take, by the evaluator. -/
import Derived.Test.YtgimngpcfenoaaaDoorSchE
set_option linter.unusedSimpArgs false
set_option linter.unusedVariables false
namespace Go.Proofs.YtgimngpcfenoaaaDoor
open Go.Sort Eng
structure Tok where
  credit : Int
  since : Int
deriving Inhabited
def tokL (t : Tok) : List SV := [.i .i64 t.credit, .i .i64 t.since]
def tokS (t : Tok) : SV := .agg 2 fun j => (tokL t).getD j default
def bkL (b e : Int) : List SV := [.i .i64 b, .i .i64 e]
def bkS (b e : Int) : SV := .agg 2 fun j => (bkL b e).getD j default
def takeF (b e : Int) (t : Tok) (at_ : Int) : Tok × Bool :=
  if (b == 0 && e == 0) = true then (⟨0, max at_ t.since⟩, true)
  else if min (t.credit + (max at_ t.since - t.since)) (b * e) < e then (⟨min (t.credit + (max at_ t.since - t.since)) (b * e), max at_ t.since⟩, false)
  else (⟨min (t.credit + (max at_ t.since - t.since)) (b * e) - e, max at_ t.since⟩, true)
def tokOk (t : Tok) : Prop := 0 ≤ t.credit ∧ t.credit ≤ 70368744177664 ∧ 0 ≤ t.since ∧ t.since ≤ 1125899906842624
theorem takeF_ok {b e : Int} {t : Tok} {x : Int} (hb : 0 ≤ b ∧ b ≤ 65536) (he : 0 ≤ e ∧ e ≤ 1073741824) (ht : tokOk t) (hx : 0 ≤ x ∧ x ≤ 1125899906842624) : tokOk (takeF b e t x).1 := by
  have h0 : 0 ≤ b * e := Int.mul_nonneg hb.1 he.1
  have h1 : b * e ≤ 65536 * 1073741824 := Int.mul_le_mul hb.2 he.2 he.1 (by decide)
  obtain ⟨t1, t2, t3, t4⟩ := ht
  unfold takeF tokOk
  split
  · dsimp only; omega
  · split
    · dsimp only; omega
    · dsimp only; omega
theorem bk_eq (b e : Int) : aggEq Tryd.prog 26 2 (fun j => [SV.i .i64 b, SV.i .i64 e].getD j default) 2 (fun j => [SV.i .i64 0, SV.i .i64 0].getD j default) = some ([b == 0, e == 0].all id) := by kernel_rfl
set_option maxRecDepth 100000 in
theorem fullC (F : Frm) (b e x : Int) (hb : 0 ≤ b ∧ b ≤ 65536) (he : 0 ≤ e ∧ e ≤ 1073741824) : Contract F Tryd.prog 41 [bkS b e, .i .i64 x] (fun r => r = tokS ⟨b * e, x⟩) := by
  have h0 : 0 ≤ b * e := Int.mul_nonneg hb.1 he.1
  have h1 : b * e ≤ 65536 * 1073741824 := Int.mul_le_mul hb.2 he.2 he.1 (by decide)
  have e1 : IntKind.i64.wrap (b * e) = b * e := w64 (by omega)
  refine contract_of Tryd.func41 rfl (by kernel_rfl) ?_
  simp only [Tryd.ntmps41, argEnv, bkS, bkL, tokS, tokL]
  (repeat refine Sat.seq ?_)
  (refine Sat.region_k fun k hk => ?_; simp -implicitDefEqProofs only [evr, id, reduceCtorEq, reduceIte, Nat.reduceMul, Nat.reduceAdd, Nat.reduceLT, Nat.reduceLeDiff, Nat.reduceEqDiff, Int.reduceLT, Int.reduceBEq, Int.reduceBNe, Nat.reduceBEq, bk_eq, evn])
  intro b1 b2
  (refine hk _ ?_; clear hk k; try show Sat _ _ _ _ _)
  (repeat refine Sat.seq ?_)
  (refine Sat.region_k fun k hk => ?_; simp -implicitDefEqProofs only [evr, id, reduceCtorEq, reduceIte, Nat.reduceMul, Nat.reduceAdd, Nat.reduceLT, Nat.reduceLeDiff, Nat.reduceEqDiff, Int.reduceLT, Int.reduceBEq, Int.reduceBNe, Nat.reduceBEq, bk_eq, evn])
  simp only [e1]
  (refine hk _ ?_; clear hk k; try show Sat _ _ _ _ _)
  refine Sat.ret ?_
  simp only [Tryd.results41, evr, id, reduceCtorEq, reduceIte, Nat.reduceMul, Nat.reduceAdd, Nat.reduceLT, Nat.reduceLeDiff, Nat.reduceEqDiff, Int.reduceLT, Int.reduceBEq, Int.reduceBNe, Nat.reduceBEq, List.append_nil, Int.toNat_zero, Nat.sub_self, bk_eq]
  try rfl
set_option maxRecDepth 100000 in
theorem unlimC (F : Frm) (b e : Int) : Contract F Tryd.prog 47 [bkS b e] (fun r => r = .b (b == 0 && e == 0)) := by
  refine contract_of Tryd.func47 rfl (by kernel_rfl) ?_
  simp only [Tryd.ntmps47, argEnv, bkS, bkL]
  (repeat refine Sat.seq ?_)
  (refine Sat.region_k fun k hk => ?_; simp -implicitDefEqProofs only [evr, id, reduceCtorEq, reduceIte, Nat.reduceMul, Nat.reduceAdd, Nat.reduceLT, Nat.reduceLeDiff, Nat.reduceEqDiff, Int.reduceLT, Int.reduceBEq, Int.reduceBNe, Nat.reduceBEq, bk_eq, evn])
  intro b1
  (refine hk _ ?_; clear hk k; try show Sat _ _ _ _ _)
  (repeat refine Sat.seq ?_)
  (refine Sat.region_k fun k hk => ?_; simp -implicitDefEqProofs only [evr, id, reduceCtorEq, reduceIte, Nat.reduceMul, Nat.reduceAdd, Nat.reduceLT, Nat.reduceLeDiff, Nat.reduceEqDiff, Int.reduceLT, Int.reduceBEq, Int.reduceBNe, Nat.reduceBEq, bk_eq, evn]; refine hk _ ?_; clear hk k; try show Sat _ _ _ _ _)
  refine Sat.ret ?_
  simp only [Tryd.results47, evr, id, reduceCtorEq, reduceIte, Nat.reduceMul, Nat.reduceAdd, Nat.reduceLT, Nat.reduceLeDiff, Nat.reduceEqDiff, Int.reduceLT, Int.reduceBEq, Int.reduceBNe, Nat.reduceBEq, List.append_nil, Int.toNat_zero, Nat.sub_self, bk_eq]
  try rfl
set_option maxRecDepth 100000 in
theorem creditC (F : Frm) (b e : Int) (t : Tok) (x : Int) (hb : 0 ≤ b ∧ b ≤ 65536) (he : 0 ≤ e ∧ e ≤ 1073741824) (ht : tokOk t) (hx : 0 ≤ x ∧ x ≤ 1125899906842624) :
    Contract F Tryd.prog 51 [bkS b e, tokS t, .i .i64 x] (fun r => r = .i .i64 (min (t.credit + (x - t.since)) (b * e))) := by
  have h0 : 0 ≤ b * e := Int.mul_nonneg hb.1 he.1
  have h1 : b * e ≤ 65536 * 1073741824 := Int.mul_le_mul hb.2 he.2 he.1 (by decide)
  obtain ⟨t1, t2, t3, t4⟩ := ht
  have e1 : IntKind.i64.wrap (b * e) = b * e := w64 (by omega)
  have e2 : IntKind.i64.wrap (x - t.since) = x - t.since := w64 (by omega)
  have e3 : IntKind.i64.wrap (t.credit + (x - t.since)) = t.credit + (x - t.since) := w64 (by omega)
  refine contract_of Tryd.func51 rfl (by kernel_rfl) ?_
  simp only [Tryd.ntmps51, argEnv, bkS, bkL, tokS, tokL]
  (repeat refine Sat.seq ?_)
  (refine Sat.region_k fun k hk => ?_; simp -implicitDefEqProofs only [evr, id, reduceCtorEq, reduceIte, Nat.reduceMul, Nat.reduceAdd, Nat.reduceLT, Nat.reduceLeDiff, Nat.reduceEqDiff, Int.reduceLT, Int.reduceBEq, Int.reduceBNe, Nat.reduceBEq, bk_eq, evn])
  intro b1 b2
  (refine hk _ ?_; clear hk k; try show Sat _ _ _ _ _)
  (repeat refine Sat.seq ?_)
  (refine Sat.region_k fun k hk => ?_; simp -implicitDefEqProofs only [evr, id, reduceCtorEq, reduceIte, Nat.reduceMul, Nat.reduceAdd, Nat.reduceLT, Nat.reduceLeDiff, Nat.reduceEqDiff, Int.reduceLT, Int.reduceBEq, Int.reduceBNe, Nat.reduceBEq, bk_eq, evn])
  simp only [e1, e2, e3]
  (refine hk _ ?_; clear hk k; try show Sat _ _ _ _ _)
  refine Sat.ret ?_
  simp only [Tryd.results51, evr, id, reduceCtorEq, reduceIte, Nat.reduceMul, Nat.reduceAdd, Nat.reduceLT, Nat.reduceLeDiff, Nat.reduceEqDiff, Int.reduceLT, Int.reduceBEq, Int.reduceBNe, Nat.reduceBEq, List.append_nil, Int.toNat_zero, Nat.sub_self, bk_eq]
  try rfl
set_option maxRecDepth 100000 in
theorem takeC (F : Frm) (b e : Int) (t : Tok) (x : Int) (hb : 0 ≤ b ∧ b ≤ 65536) (he : 0 ≤ e ∧ e ≤ 1073741824) (ht : tokOk t) (hx : 0 ≤ x ∧ x ≤ 1125899906842624) :
    Contract F Tryd.prog 42 [bkS b e, tokS t, .i .i64 x] (fun r => r = .tup 2 fun j => [tokS (takeF b e t x).1, .b (takeF b e t x).2].getD j default) := by
  have hmx : 0 ≤ max x t.since ∧ max x t.since ≤ 1125899906842624 := by obtain ⟨t1, t2, t3, t4⟩ := ht; omega
  have hcr := creditC F b e t (max x t.since) hb he ht hmx
  have h0 : 0 ≤ b * e := Int.mul_nonneg hb.1 he.1
  have h1 : b * e ≤ 65536 * 1073741824 := Int.mul_le_mul hb.2 he.2 he.1 (by decide)
  have hul := unlimC F b e
  obtain ⟨T, hT⟩ : ∃ T, T = takeF b e t x := ⟨_, rfl⟩
  rw [← hT]
  unfold takeF at hT
  obtain ⟨t1, t2, t3, t4⟩ := ht
  have e2 : IntKind.i64.wrap (min (t.credit + (max x t.since - t.since)) (b * e) - e) = min (t.credit + (max x t.since - t.since)) (b * e) - e := w64 (by omega)
  refine contract_of Tryd.func42 rfl (by kernel_rfl) ?_
  simp only [Tryd.ntmps42, argEnv]
  simp only [bkS, bkL, tokS, tokL]
  (repeat refine Sat.seq ?_)
  (refine Sat.region_k fun k hk => ?_; simp -implicitDefEqProofs only [evr, id, reduceCtorEq, reduceIte, Nat.reduceMul, Nat.reduceAdd, Nat.reduceLT, Nat.reduceLeDiff, Nat.reduceEqDiff, Int.reduceLT, Int.reduceBEq, Int.reduceBNe, Nat.reduceBEq, bk_eq, evn])
  intro b1 b2 b3
  (refine hk _ ?_; clear hk k; try show Sat _ _ _ _ _)
  (repeat refine Sat.seq ?_)
  (refine Sat.region_k fun k hk => ?_; simp -implicitDefEqProofs only [evr, id, reduceCtorEq, reduceIte, Nat.reduceMul, Nat.reduceAdd, Nat.reduceLT, Nat.reduceLeDiff, Nat.reduceEqDiff, Int.reduceLT, Int.reduceBEq, Int.reduceBNe, Nat.reduceBEq, bk_eq, evn]; refine hk _ ?_; clear hk k; try show Sat _ _ _ _ _)
  (repeat refine Sat.seq ?_)
  (refine Sat.region_k fun k hk => ?_; simp -implicitDefEqProofs only [evr, id, reduceCtorEq, reduceIte, Nat.reduceMul, Nat.reduceAdd, Nat.reduceLT, Nat.reduceLeDiff, Nat.reduceEqDiff, Int.reduceLT, Int.reduceBEq, Int.reduceBNe, Nat.reduceBEq, bk_eq, evn])
  refine wcall_plain hul rfl (by rintro _ rfl; exact ok_plain rfl) ?_
  rintro r rfl
  simp -implicitDefEqProofs only [evr, id, reduceCtorEq, reduceIte, Nat.reduceMul, Nat.reduceAdd, Nat.reduceLT, Nat.reduceLeDiff, Nat.reduceEqDiff, Int.reduceLT, Int.reduceBEq, Int.reduceBNe, Nat.reduceBEq, bk_eq, evn]
  (refine hk _ ?_; clear hk k; try show Sat _ _ _ _ _)
  refine Sat.cond_b rfl (fun h => ?_) (fun h => ?_)
  · rw [if_pos h] at hT
    subst hT
    (repeat refine Sat.seq ?_)
    (refine Sat.region_k fun k hk => ?_; simp -implicitDefEqProofs only [evr, id, reduceCtorEq, reduceIte, Nat.reduceMul, Nat.reduceAdd, Nat.reduceLT, Nat.reduceLeDiff, Nat.reduceEqDiff, Int.reduceLT, Int.reduceBEq, Int.reduceBNe, Nat.reduceBEq, bk_eq, evn]; refine hk _ ?_; clear hk k; try show Sat _ _ _ _ _)
    refine Sat.ret ?_
    simp only [Tryd.results42, evr, id, reduceCtorEq, reduceIte, Nat.reduceMul, Nat.reduceAdd, Nat.reduceLT, Nat.reduceLeDiff, Nat.reduceEqDiff, Int.reduceLT, Int.reduceBEq, Int.reduceBNe, Nat.reduceBEq, List.append_nil, Int.toNat_zero, Nat.sub_self, bk_eq]
    try rfl
  rw [if_neg (by rw [h]; decide)] at hT
  refine Sat.skip ?_
  simp only [thenK]
  (repeat refine Sat.seq ?_)
  (refine Sat.region_k fun k hk => ?_; simp -implicitDefEqProofs only [evr, id, reduceCtorEq, reduceIte, Nat.reduceMul, Nat.reduceAdd, Nat.reduceLT, Nat.reduceLeDiff, Nat.reduceEqDiff, Int.reduceLT, Int.reduceBEq, Int.reduceBNe, Nat.reduceBEq, bk_eq, evn])
  refine wcall_plain hcr rfl (by rintro _ rfl; exact ok_plain rfl) ?_
  rintro r rfl
  simp -implicitDefEqProofs only [evr, id, reduceCtorEq, reduceIte, Nat.reduceMul, Nat.reduceAdd, Nat.reduceLT, Nat.reduceLeDiff, Nat.reduceEqDiff, Int.reduceLT, Int.reduceBEq, Int.reduceBNe, Nat.reduceBEq, bk_eq, evn]
  intro b4
  (refine hk _ ?_; clear hk k; try show Sat _ _ _ _ _)
  (repeat refine Sat.seq ?_)
  (refine Sat.region_k fun k hk => ?_; simp -implicitDefEqProofs only [evr, id, reduceCtorEq, reduceIte, Nat.reduceMul, Nat.reduceAdd, Nat.reduceLT, Nat.reduceLeDiff, Nat.reduceEqDiff, Int.reduceLT, Int.reduceBEq, Int.reduceBNe, Nat.reduceBEq, bk_eq, evn]; refine hk _ ?_; clear hk k; try show Sat _ _ _ _ _)
  refine Sat.cond_b rfl (fun h2 => ?_) (fun h2 => ?_)
  · have h2 := of_decide_eq_true h2
    rw [if_pos h2] at hT
    subst hT
    (repeat refine Sat.seq ?_)
    (refine Sat.region_k fun k hk => ?_; simp -implicitDefEqProofs only [evr, id, reduceCtorEq, reduceIte, Nat.reduceMul, Nat.reduceAdd, Nat.reduceLT, Nat.reduceLeDiff, Nat.reduceEqDiff, Int.reduceLT, Int.reduceBEq, Int.reduceBNe, Nat.reduceBEq, bk_eq, evn]; refine hk _ ?_; clear hk k; try show Sat _ _ _ _ _)
    refine Sat.ret ?_
    simp only [Tryd.results42, evr, id, reduceCtorEq, reduceIte, Nat.reduceMul, Nat.reduceAdd, Nat.reduceLT, Nat.reduceLeDiff, Nat.reduceEqDiff, Int.reduceLT, Int.reduceBEq, Int.reduceBNe, Nat.reduceBEq, List.append_nil, Int.toNat_zero, Nat.sub_self, bk_eq]
    try rfl
  have h2 := of_decide_eq_false h2
  rw [if_neg h2] at hT
  subst hT
  refine Sat.skip ?_
  simp only [thenK]
  (repeat refine Sat.seq ?_)
  (refine Sat.region_k fun k hk => ?_; simp -implicitDefEqProofs only [evr, id, reduceCtorEq, reduceIte, Nat.reduceMul, Nat.reduceAdd, Nat.reduceLT, Nat.reduceLeDiff, Nat.reduceEqDiff, Int.reduceLT, Int.reduceBEq, Int.reduceBNe, Nat.reduceBEq, bk_eq, evn])
  simp only [e2]
  (refine hk _ ?_; clear hk k; try show Sat _ _ _ _ _)
  (repeat refine Sat.seq ?_)
  (refine Sat.region_k fun k hk => ?_; simp -implicitDefEqProofs only [evr, id, reduceCtorEq, reduceIte, Nat.reduceMul, Nat.reduceAdd, Nat.reduceLT, Nat.reduceLeDiff, Nat.reduceEqDiff, Int.reduceLT, Int.reduceBEq, Int.reduceBNe, Nat.reduceBEq, bk_eq, evn]; refine hk _ ?_; clear hk k; try show Sat _ _ _ _ _)
  refine Sat.ret ?_
  simp only [Tryd.results42, evr, id, reduceCtorEq, reduceIte, Nat.reduceMul, Nat.reduceAdd, Nat.reduceLT, Nat.reduceLeDiff, Nat.reduceEqDiff, Int.reduceLT, Int.reduceBEq, Int.reduceBNe, Nat.reduceBEq, List.append_nil, Int.toNat_zero, Nat.sub_self, bk_eq]
  try rfl
end Go.Proofs.YtgimngpcfenoaaaDoor
