/- Comparisons of results, by the evaluator: cmp.Compare, cmp.Or, merge.identity. -/
import Derived.Test.YthhofjkbmnklmaaResOrd
import Derived.Test.YthhofjkbmnklmaaResSrt0
import Derived.Test.YthhofjkbmnklmaaEngR
set_option linter.unusedSimpArgs false
set_option linter.unusedVariables false
namespace Go.Proofs.Ythhofjkbmnklmaa
open Go.Sort Eng

set_option maxRecDepth 100000 in
theorem isNaNC (F : Frm) (a : Int) : Contract F Try.prog 60 [.i .i64 a] (fun r => r = .b false) := by
  refine contract_of Try.func60 rfl (by kernel_rfl) ?_
  simp only [Try.ntmps60, argEnv]
  (repeat refine Sat.seq ?_)
  (refine Sat.region_k fun k hk => ?_; simp -implicitDefEqProofs only [evr, id, reduceCtorEq, reduceIte, Nat.reduceMul, Nat.reduceAdd, Nat.reduceLT, Nat.reduceLeDiff, Nat.reduceEqDiff, Int.reduceLT, Int.reduceBEq, Int.reduceBNe, Nat.reduceBEq, List.append_nil, Int.toNat_zero, Nat.sub_self]; refine hk _ ?_; clear hk k; try show Sat _ _ _ _ _)
  (repeat refine Sat.seq ?_)
  (refine Sat.region_k fun k hk => ?_; simp -implicitDefEqProofs only [evr, id, reduceCtorEq, reduceIte, Nat.reduceMul, Nat.reduceAdd, Nat.reduceLT, Nat.reduceLeDiff, Nat.reduceEqDiff, Int.reduceLT, Int.reduceBEq, Int.reduceBNe, Nat.reduceBEq, List.append_nil, Int.toNat_zero, Nat.sub_self]; refine hk _ ?_; clear hk k; try show Sat _ _ _ _ _)
  refine Sat.ret ?_
  simp only [Try.results60, evr, id, reduceCtorEq, reduceIte, Nat.reduceMul, Nat.reduceAdd, Nat.reduceLT, Nat.reduceLeDiff, Nat.reduceEqDiff, Int.reduceLT, Int.reduceBEq, Int.reduceBNe, Nat.reduceBEq, List.append_nil, Int.toNat_zero, Nat.sub_self]

set_option maxRecDepth 100000 in
theorem cmpC (F : Frm) (a b : Int) : Contract F Try.prog 39 [.i .i64 a, .i .i64 b] (fun r => r = .i .i64 (ordI a b)) := by
  refine contract_of Try.func39 rfl (by kernel_rfl) ?_
  simp only [Try.ntmps39, argEnv]
  (repeat refine Sat.seq ?_)
  (refine Sat.region_k fun k hk => ?_; simp -implicitDefEqProofs only [evr, id, reduceCtorEq, reduceIte, Nat.reduceMul, Nat.reduceAdd, Nat.reduceLT, Nat.reduceLeDiff, Nat.reduceEqDiff, Int.reduceLT, Int.reduceBEq, Int.reduceBNe, Nat.reduceBEq, List.append_nil, Int.toNat_zero, Nat.sub_self]; refine hk _ ?_; clear hk k; try show Sat _ _ _ _ _)
  (repeat refine Sat.seq ?_)
  (refine Sat.region_k fun k hk => ?_; simp -implicitDefEqProofs only [evr, id, reduceCtorEq, reduceIte, Nat.reduceMul, Nat.reduceAdd, Nat.reduceLT, Nat.reduceLeDiff, Nat.reduceEqDiff, Int.reduceLT, Int.reduceBEq, Int.reduceBNe, Nat.reduceBEq, List.append_nil, Int.toNat_zero, Nat.sub_self])
  refine wcall_plain (isNaNC F a) rfl (by rintro _ rfl; exact ok_plain rfl) ?_
  rintro r rfl
  simp -implicitDefEqProofs only [evr, id, reduceCtorEq, reduceIte, Nat.reduceMul, Nat.reduceAdd, Nat.reduceLT, Nat.reduceLeDiff, Nat.reduceEqDiff, Int.reduceLT, Int.reduceBEq, Int.reduceBNe, Nat.reduceBEq, List.append_nil, Int.toNat_zero, Nat.sub_self]
  (refine hk _ ?_; clear hk k; try show Sat _ _ _ _ _)
  (repeat refine Sat.seq ?_)
  (refine Sat.region_k fun k hk => ?_; simp -implicitDefEqProofs only [evr, id, reduceCtorEq, reduceIte, Nat.reduceMul, Nat.reduceAdd, Nat.reduceLT, Nat.reduceLeDiff, Nat.reduceEqDiff, Int.reduceLT, Int.reduceBEq, Int.reduceBNe, Nat.reduceBEq, List.append_nil, Int.toNat_zero, Nat.sub_self])
  refine wcall_plain (isNaNC F b) rfl (by rintro _ rfl; exact ok_plain rfl) ?_
  rintro r rfl
  simp -implicitDefEqProofs only [evr, id, reduceCtorEq, reduceIte, Nat.reduceMul, Nat.reduceAdd, Nat.reduceLT, Nat.reduceLeDiff, Nat.reduceEqDiff, Int.reduceLT, Int.reduceBEq, Int.reduceBNe, Nat.reduceBEq, List.append_nil, Int.toNat_zero, Nat.sub_self]
  (refine hk _ ?_; clear hk k; try show Sat _ _ _ _ _)
  (repeat refine Sat.seq ?_)
  (refine Sat.region_k fun k hk => ?_; simp -implicitDefEqProofs only [evr, id, reduceCtorEq, reduceIte, Nat.reduceMul, Nat.reduceAdd, Nat.reduceLT, Nat.reduceLeDiff, Nat.reduceEqDiff, Int.reduceLT, Int.reduceBEq, Int.reduceBNe, Nat.reduceBEq, List.append_nil, Int.toNat_zero, Nat.sub_self]; refine hk _ ?_; clear hk k; try show Sat _ _ _ _ _)
  (repeat refine Sat.seq ?_)
  refine Sat.cond_b rfl (fun h => absurd h (by decide)) (fun _ => ?_)
  refine Sat.skip ?_
  simp only [thenK]
  (repeat refine Sat.seq ?_)
  (refine Sat.region_k fun k hk => ?_; simp -implicitDefEqProofs only [evr, id, reduceCtorEq, reduceIte, Nat.reduceMul, Nat.reduceAdd, Nat.reduceLT, Nat.reduceLeDiff, Nat.reduceEqDiff, Int.reduceLT, Int.reduceBEq, Int.reduceBNe, Nat.reduceBEq, List.append_nil, Int.toNat_zero, Nat.sub_self]; refine hk _ ?_; clear hk k; try show Sat _ _ _ _ _)
  (repeat refine Sat.seq ?_)
  refine Sat.cond_b rfl (fun h => absurd h (by decide)) (fun _ => ?_)
  refine Sat.skip ?_
  simp only [thenK]
  (repeat refine Sat.seq ?_)
  (refine Sat.region_k fun k hk => ?_; simp -implicitDefEqProofs only [evr, id, reduceCtorEq, reduceIte, Nat.reduceMul, Nat.reduceAdd, Nat.reduceLT, Nat.reduceLeDiff, Nat.reduceEqDiff, Int.reduceLT, Int.reduceBEq, Int.reduceBNe, Nat.reduceBEq, List.append_nil, Int.toNat_zero, Nat.sub_self]; refine hk _ ?_; clear hk k; try show Sat _ _ _ _ _)
  (repeat refine Sat.seq ?_)
  refine Sat.cond_b rfl (fun h => ?_) (fun h => ?_)
  · simp only [decide_eq_true_eq] at h
    (repeat refine Sat.seq ?_)
    (refine Sat.region_k fun k hk => ?_; simp -implicitDefEqProofs only [evr, id, reduceCtorEq, reduceIte, Nat.reduceMul, Nat.reduceAdd, Nat.reduceLT, Nat.reduceLeDiff, Nat.reduceEqDiff, Int.reduceLT, Int.reduceBEq, Int.reduceBNe, Nat.reduceBEq, List.append_nil, Int.toNat_zero, Nat.sub_self]; refine hk _ ?_; clear hk k; try show Sat _ _ _ _ _)
    refine Sat.ret ?_
    simp only [Try.results39, evr, id, reduceCtorEq, reduceIte, Nat.reduceMul, Nat.reduceAdd, Nat.reduceLT, Nat.reduceLeDiff, Nat.reduceEqDiff, Int.reduceLT, Int.reduceBEq, Int.reduceBNe, Nat.reduceBEq, List.append_nil, Int.toNat_zero, Nat.sub_self]
    rw [ordI, if_pos h]
  · simp only [decide_eq_false_iff_not] at h
    refine Sat.skip ?_
    simp only [thenK]
    (repeat refine Sat.seq ?_)
    (refine Sat.region_k fun k hk => ?_; simp -implicitDefEqProofs only [evr, id, reduceCtorEq, reduceIte, Nat.reduceMul, Nat.reduceAdd, Nat.reduceLT, Nat.reduceLeDiff, Nat.reduceEqDiff, Int.reduceLT, Int.reduceBEq, Int.reduceBNe, Nat.reduceBEq, List.append_nil, Int.toNat_zero, Nat.sub_self]; refine hk _ ?_; clear hk k; try show Sat _ _ _ _ _)
    (repeat refine Sat.seq ?_)
    refine Sat.cond_b rfl (fun h1 => ?_) (fun h1 => ?_)
    · simp only [decide_eq_true_eq] at h1
      (repeat refine Sat.seq ?_)
      (refine Sat.region_k fun k hk => ?_; simp -implicitDefEqProofs only [evr, id, reduceCtorEq, reduceIte, Nat.reduceMul, Nat.reduceAdd, Nat.reduceLT, Nat.reduceLeDiff, Nat.reduceEqDiff, Int.reduceLT, Int.reduceBEq, Int.reduceBNe, Nat.reduceBEq, List.append_nil, Int.toNat_zero, Nat.sub_self]; refine hk _ ?_; clear hk k; try show Sat _ _ _ _ _)
      refine Sat.ret ?_
      simp only [Try.results39, evr, id, reduceCtorEq, reduceIte, Nat.reduceMul, Nat.reduceAdd, Nat.reduceLT, Nat.reduceLeDiff, Nat.reduceEqDiff, Int.reduceLT, Int.reduceBEq, Int.reduceBNe, Nat.reduceBEq, List.append_nil, Int.toNat_zero, Nat.sub_self]
      rw [ordI, if_neg h, if_pos h1]
    · simp only [decide_eq_false_iff_not] at h1
      refine Sat.skip ?_
      simp only [thenK]
      (repeat refine Sat.seq ?_)
      (refine Sat.region_k fun k hk => ?_; simp -implicitDefEqProofs only [evr, id, reduceCtorEq, reduceIte, Nat.reduceMul, Nat.reduceAdd, Nat.reduceLT, Nat.reduceLeDiff, Nat.reduceEqDiff, Int.reduceLT, Int.reduceBEq, Int.reduceBNe, Nat.reduceBEq, List.append_nil, Int.toNat_zero, Nat.sub_self]; refine hk _ ?_; clear hk k; try show Sat _ _ _ _ _)
      refine Sat.ret ?_
      simp only [Try.results39, evr, id, reduceCtorEq, reduceIte, Nat.reduceMul, Nat.reduceAdd, Nat.reduceLT, Nat.reduceLeDiff, Nat.reduceEqDiff, Int.reduceLT, Int.reduceBEq, Int.reduceBNe, Nat.reduceBEq, List.append_nil, Int.toNat_zero, Nat.sub_self]
      rw [ordI, if_neg h, if_neg h1]

set_option maxRecDepth 100000 in
theorem isNaNAC (F : Frm) (a : Int) : Contract F Try.prog 61 [.i .u32 a] (fun r => r = .b false) := by
  refine contract_of Try.func61 rfl (by kernel_rfl) ?_
  simp only [Try.ntmps61, argEnv]
  (repeat refine Sat.seq ?_)
  (refine Sat.region_k fun k hk => ?_; simp -implicitDefEqProofs only [evr, id, reduceCtorEq, reduceIte, Nat.reduceMul, Nat.reduceAdd, Nat.reduceLT, Nat.reduceLeDiff, Nat.reduceEqDiff, Int.reduceLT, Int.reduceBEq, Int.reduceBNe, Nat.reduceBEq, List.append_nil, Int.toNat_zero, Nat.sub_self]; refine hk _ ?_; clear hk k; try show Sat _ _ _ _ _)
  (repeat refine Sat.seq ?_)
  (refine Sat.region_k fun k hk => ?_; simp -implicitDefEqProofs only [evr, id, reduceCtorEq, reduceIte, Nat.reduceMul, Nat.reduceAdd, Nat.reduceLT, Nat.reduceLeDiff, Nat.reduceEqDiff, Int.reduceLT, Int.reduceBEq, Int.reduceBNe, Nat.reduceBEq, List.append_nil, Int.toNat_zero, Nat.sub_self]; refine hk _ ?_; clear hk k; try show Sat _ _ _ _ _)
  refine Sat.ret ?_
  simp only [Try.results61, evr, id, reduceCtorEq, reduceIte, Nat.reduceMul, Nat.reduceAdd, Nat.reduceLT, Nat.reduceLeDiff, Nat.reduceEqDiff, Int.reduceLT, Int.reduceBEq, Int.reduceBNe, Nat.reduceBEq, List.append_nil, Int.toNat_zero, Nat.sub_self]

set_option maxRecDepth 100000 in
theorem cmpAC (F : Frm) (a b : Int) : Contract F Try.prog 40 [.i .u32 a, .i .u32 b] (fun r => r = .i .i64 (ordI a b)) := by
  refine contract_of Try.func40 rfl (by kernel_rfl) ?_
  simp only [Try.ntmps40, argEnv]
  (repeat refine Sat.seq ?_)
  (refine Sat.region_k fun k hk => ?_; simp -implicitDefEqProofs only [evr, id, reduceCtorEq, reduceIte, Nat.reduceMul, Nat.reduceAdd, Nat.reduceLT, Nat.reduceLeDiff, Nat.reduceEqDiff, Int.reduceLT, Int.reduceBEq, Int.reduceBNe, Nat.reduceBEq, List.append_nil, Int.toNat_zero, Nat.sub_self]; refine hk _ ?_; clear hk k; try show Sat _ _ _ _ _)
  (repeat refine Sat.seq ?_)
  (refine Sat.region_k fun k hk => ?_; simp -implicitDefEqProofs only [evr, id, reduceCtorEq, reduceIte, Nat.reduceMul, Nat.reduceAdd, Nat.reduceLT, Nat.reduceLeDiff, Nat.reduceEqDiff, Int.reduceLT, Int.reduceBEq, Int.reduceBNe, Nat.reduceBEq, List.append_nil, Int.toNat_zero, Nat.sub_self])
  refine wcall_plain (isNaNAC F a) rfl (by rintro _ rfl; exact ok_plain rfl) ?_
  rintro r rfl
  simp -implicitDefEqProofs only [evr, id, reduceCtorEq, reduceIte, Nat.reduceMul, Nat.reduceAdd, Nat.reduceLT, Nat.reduceLeDiff, Nat.reduceEqDiff, Int.reduceLT, Int.reduceBEq, Int.reduceBNe, Nat.reduceBEq, List.append_nil, Int.toNat_zero, Nat.sub_self]
  (refine hk _ ?_; clear hk k; try show Sat _ _ _ _ _)
  (repeat refine Sat.seq ?_)
  (refine Sat.region_k fun k hk => ?_; simp -implicitDefEqProofs only [evr, id, reduceCtorEq, reduceIte, Nat.reduceMul, Nat.reduceAdd, Nat.reduceLT, Nat.reduceLeDiff, Nat.reduceEqDiff, Int.reduceLT, Int.reduceBEq, Int.reduceBNe, Nat.reduceBEq, List.append_nil, Int.toNat_zero, Nat.sub_self])
  refine wcall_plain (isNaNAC F b) rfl (by rintro _ rfl; exact ok_plain rfl) ?_
  rintro r rfl
  simp -implicitDefEqProofs only [evr, id, reduceCtorEq, reduceIte, Nat.reduceMul, Nat.reduceAdd, Nat.reduceLT, Nat.reduceLeDiff, Nat.reduceEqDiff, Int.reduceLT, Int.reduceBEq, Int.reduceBNe, Nat.reduceBEq, List.append_nil, Int.toNat_zero, Nat.sub_self]
  (refine hk _ ?_; clear hk k; try show Sat _ _ _ _ _)
  (repeat refine Sat.seq ?_)
  (refine Sat.region_k fun k hk => ?_; simp -implicitDefEqProofs only [evr, id, reduceCtorEq, reduceIte, Nat.reduceMul, Nat.reduceAdd, Nat.reduceLT, Nat.reduceLeDiff, Nat.reduceEqDiff, Int.reduceLT, Int.reduceBEq, Int.reduceBNe, Nat.reduceBEq, List.append_nil, Int.toNat_zero, Nat.sub_self]; refine hk _ ?_; clear hk k; try show Sat _ _ _ _ _)
  (repeat refine Sat.seq ?_)
  refine Sat.cond_b rfl (fun h => absurd h (by decide)) (fun _ => ?_)
  refine Sat.skip ?_
  simp only [thenK]
  (repeat refine Sat.seq ?_)
  (refine Sat.region_k fun k hk => ?_; simp -implicitDefEqProofs only [evr, id, reduceCtorEq, reduceIte, Nat.reduceMul, Nat.reduceAdd, Nat.reduceLT, Nat.reduceLeDiff, Nat.reduceEqDiff, Int.reduceLT, Int.reduceBEq, Int.reduceBNe, Nat.reduceBEq, List.append_nil, Int.toNat_zero, Nat.sub_self]; refine hk _ ?_; clear hk k; try show Sat _ _ _ _ _)
  (repeat refine Sat.seq ?_)
  refine Sat.cond_b rfl (fun h => absurd h (by decide)) (fun _ => ?_)
  refine Sat.skip ?_
  simp only [thenK]
  (repeat refine Sat.seq ?_)
  (refine Sat.region_k fun k hk => ?_; simp -implicitDefEqProofs only [evr, id, reduceCtorEq, reduceIte, Nat.reduceMul, Nat.reduceAdd, Nat.reduceLT, Nat.reduceLeDiff, Nat.reduceEqDiff, Int.reduceLT, Int.reduceBEq, Int.reduceBNe, Nat.reduceBEq, List.append_nil, Int.toNat_zero, Nat.sub_self]; refine hk _ ?_; clear hk k; try show Sat _ _ _ _ _)
  (repeat refine Sat.seq ?_)
  refine Sat.cond_b rfl (fun h => ?_) (fun h => ?_)
  · simp only [decide_eq_true_eq] at h
    (repeat refine Sat.seq ?_)
    (refine Sat.region_k fun k hk => ?_; simp -implicitDefEqProofs only [evr, id, reduceCtorEq, reduceIte, Nat.reduceMul, Nat.reduceAdd, Nat.reduceLT, Nat.reduceLeDiff, Nat.reduceEqDiff, Int.reduceLT, Int.reduceBEq, Int.reduceBNe, Nat.reduceBEq, List.append_nil, Int.toNat_zero, Nat.sub_self]; refine hk _ ?_; clear hk k; try show Sat _ _ _ _ _)
    refine Sat.ret ?_
    simp only [Try.results40, evr, id, reduceCtorEq, reduceIte, Nat.reduceMul, Nat.reduceAdd, Nat.reduceLT, Nat.reduceLeDiff, Nat.reduceEqDiff, Int.reduceLT, Int.reduceBEq, Int.reduceBNe, Nat.reduceBEq, List.append_nil, Int.toNat_zero, Nat.sub_self]
    rw [ordI, if_pos h]
  · simp only [decide_eq_false_iff_not] at h
    refine Sat.skip ?_
    simp only [thenK]
    (repeat refine Sat.seq ?_)
    (refine Sat.region_k fun k hk => ?_; simp -implicitDefEqProofs only [evr, id, reduceCtorEq, reduceIte, Nat.reduceMul, Nat.reduceAdd, Nat.reduceLT, Nat.reduceLeDiff, Nat.reduceEqDiff, Int.reduceLT, Int.reduceBEq, Int.reduceBNe, Nat.reduceBEq, List.append_nil, Int.toNat_zero, Nat.sub_self]; refine hk _ ?_; clear hk k; try show Sat _ _ _ _ _)
    (repeat refine Sat.seq ?_)
    refine Sat.cond_b rfl (fun h1 => ?_) (fun h1 => ?_)
    · simp only [decide_eq_true_eq] at h1
      (repeat refine Sat.seq ?_)
      (refine Sat.region_k fun k hk => ?_; simp -implicitDefEqProofs only [evr, id, reduceCtorEq, reduceIte, Nat.reduceMul, Nat.reduceAdd, Nat.reduceLT, Nat.reduceLeDiff, Nat.reduceEqDiff, Int.reduceLT, Int.reduceBEq, Int.reduceBNe, Nat.reduceBEq, List.append_nil, Int.toNat_zero, Nat.sub_self]; refine hk _ ?_; clear hk k; try show Sat _ _ _ _ _)
      refine Sat.ret ?_
      simp only [Try.results40, evr, id, reduceCtorEq, reduceIte, Nat.reduceMul, Nat.reduceAdd, Nat.reduceLT, Nat.reduceLeDiff, Nat.reduceEqDiff, Int.reduceLT, Int.reduceBEq, Int.reduceBNe, Nat.reduceBEq, List.append_nil, Int.toNat_zero, Nat.sub_self]
      rw [ordI, if_neg h, if_pos h1]
    · simp only [decide_eq_false_iff_not] at h1
      refine Sat.skip ?_
      simp only [thenK]
      (repeat refine Sat.seq ?_)
      (refine Sat.region_k fun k hk => ?_; simp -implicitDefEqProofs only [evr, id, reduceCtorEq, reduceIte, Nat.reduceMul, Nat.reduceAdd, Nat.reduceLT, Nat.reduceLeDiff, Nat.reduceEqDiff, Int.reduceLT, Int.reduceBEq, Int.reduceBNe, Nat.reduceBEq, List.append_nil, Int.toNat_zero, Nat.sub_self]; refine hk _ ?_; clear hk k; try show Sat _ _ _ _ _)
      refine Sat.ret ?_
      simp only [Try.results40, evr, id, reduceCtorEq, reduceIte, Nat.reduceMul, Nat.reduceAdd, Nat.reduceLT, Nat.reduceLeDiff, Nat.reduceEqDiff, Int.reduceLT, Int.reduceBEq, Int.reduceBNe, Nat.reduceBEq, List.append_nil, Int.toNat_zero, Nat.sub_self]
      rw [ordI, if_neg h, if_neg h1]


/-- a row of ints -/
def intsRd (l : List Int) : Nat → Nat → SV := rdL (l.map (SV.i .i64)) 1
theorem intsRd_get (l : List Int) (i : Nat) (h : i < l.length) : intsRd l i 0 = .i .i64 (l.getD i 0) := by
  simp [intsRd, rdL, List.getD, h]
theorem orL_drop (l : List Int) (i : Nat) (h : i < l.length) : orL (l.drop i) = if l.getD i 0 ≠ 0 then l.getD i 0 else orL (l.drop (i + 1)) := by
  rw [List.drop_eq_getElem_cons h, orL]
  simp [List.getD, h]

set_option maxRecDepth 100000 in
theorem orC (F : Frm) (a : Option Addr) (cap : Nat) (l : List Int) (hl : l.length ≤ 1000000) : Contract F Try.prog 38 [.sl a l.length cap 1 (intsRd l)] (fun r => r = .i .i64 (orL l)) := by
  refine contract_of Try.func38 rfl (by kernel_rfl) ?_
  simp only [Try.ntmps38, argEnv]
  (repeat refine Sat.seq ?_)
  (refine Sat.region_k fun k hk => ?_; simp -implicitDefEqProofs only [evr, id, reduceCtorEq, reduceIte, Nat.reduceMul, Nat.reduceAdd, Nat.reduceLT, Nat.reduceLeDiff, Nat.reduceEqDiff, Int.reduceLT, Int.reduceBEq, Int.reduceBNe, Nat.reduceBEq, List.append_nil, Int.toNat_zero, Nat.sub_self]; refine hk _ ?_; clear hk k; try show Sat _ _ _ _ _)
  (repeat refine Sat.seq ?_)
  (refine Sat.region_k fun k hk => ?_; simp -implicitDefEqProofs only [evr, id, reduceCtorEq, reduceIte, Nat.reduceMul, Nat.reduceAdd, Nat.reduceLT, Nat.reduceLeDiff, Nat.reduceEqDiff, Int.reduceLT, Int.reduceBEq, Int.reduceBNe, Nat.reduceBEq, List.append_nil, Int.toNat_zero, Nat.sub_self]; refine hk _ ?_; clear hk k; try show Sat _ _ _ _ _)
  (repeat refine Sat.seq ?_)
  (refine Sat.region_k fun k hk => ?_; simp -implicitDefEqProofs only [evr, id, reduceCtorEq, reduceIte, Nat.reduceMul, Nat.reduceAdd, Nat.reduceLT, Nat.reduceLeDiff, Nat.reduceEqDiff, Int.reduceLT, Int.reduceBEq, Int.reduceBNe, Nat.reduceBEq, List.append_nil, Int.toNat_zero, Nat.sub_self]; refine hk _ ?_; clear hk k; try show Sat _ _ _ _ _)
  (repeat refine Sat.seq ?_)
  refine Sat.block ?_
  refine Sat.loop (ι := Nat) (fun i => ⟨18, [(8, .i .i64 i), (3, .i .i64 0), (6, .sl a l.length cap 1 (intsRd l)), (7, .i .i64 l.length)], []⟩)
    (fun i => i ≤ l.length ∧ orL (l.drop i) = orL l) (fun i => l.length - i) 0 ⟨Nat.zero_le _, rfl⟩ (by simp -implicitDefEqProofs only [evr, id, reduceCtorEq, reduceIte, Nat.reduceMul, Nat.reduceAdd, Nat.reduceLT, Nat.reduceLeDiff, Nat.reduceEqDiff, Int.reduceLT, Int.reduceBEq, Int.reduceBNe, Nat.reduceBEq, List.append_nil, Int.toNat_zero, Nat.sub_self, evl]; rfl) ?_
  rintro i ⟨hi, ho⟩
  (repeat refine Sat.seq ?_)
  (refine Sat.region_k fun k hk => ?_; simp -implicitDefEqProofs only [evr, id, reduceCtorEq, reduceIte, Nat.reduceMul, Nat.reduceAdd, Nat.reduceLT, Nat.reduceLeDiff, Nat.reduceEqDiff, Int.reduceLT, Int.reduceBEq, Int.reduceBNe, Nat.reduceBEq, List.append_nil, Int.toNat_zero, Nat.sub_self]; refine hk _ ?_; clear hk k; try show Sat _ _ _ _ _)
  (repeat refine Sat.seq ?_)
  refine Sat.cond_b rfl (fun h => ?_) (fun h => ?_)
  · have h1 : i < l.length := by simp only [decide_eq_true_eq] at h; omega
    have e1 := intsRd_get l i h1
    have e2 : IntKind.i64.wrap ((i : Int) + 1) = ((i + 1 : Nat) : Int) := by rw [w64 (by omega)]; omega
    refine Sat.skip ?_
    simp only [thenK]
    (repeat refine Sat.seq ?_)
    refine Sat.block ?_
    (repeat refine Sat.seq ?_)
    refine Sat.region_k fun k hk => ?_
    simp -implicitDefEqProofs only [evr, id, reduceCtorEq, reduceIte, Nat.reduceMul, Nat.reduceAdd, Nat.reduceLT, Nat.reduceLeDiff, Nat.reduceEqDiff, Int.reduceLT, Int.reduceBEq, Int.reduceBNe, Nat.reduceBEq, List.append_nil, Int.toNat_zero, Nat.sub_self, e1]
    refine ⟨by omega, ?_⟩
    (refine hk _ ?_; clear hk k; try show Sat _ _ _ _ _)
    (repeat refine Sat.seq ?_)
    (refine Sat.region_k fun k hk => ?_; simp -implicitDefEqProofs only [evr, id, reduceCtorEq, reduceIte, Nat.reduceMul, Nat.reduceAdd, Nat.reduceLT, Nat.reduceLeDiff, Nat.reduceEqDiff, Int.reduceLT, Int.reduceBEq, Int.reduceBNe, Nat.reduceBEq, List.append_nil, Int.toNat_zero, Nat.sub_self]; refine hk _ ?_; clear hk k; try show Sat _ _ _ _ _)
    (repeat refine Sat.seq ?_)
    refine Sat.cond_b rfl (fun h2 => ?_) (fun h2 => ?_)
    · simp only [bne_iff_ne, ne_eq] at h2
      (repeat refine Sat.seq ?_)
      (refine Sat.region_k fun k hk => ?_; simp -implicitDefEqProofs only [evr, id, reduceCtorEq, reduceIte, Nat.reduceMul, Nat.reduceAdd, Nat.reduceLT, Nat.reduceLeDiff, Nat.reduceEqDiff, Int.reduceLT, Int.reduceBEq, Int.reduceBNe, Nat.reduceBEq, List.append_nil, Int.toNat_zero, Nat.sub_self]; refine hk _ ?_; clear hk k; try show Sat _ _ _ _ _)
      refine Sat.ret ?_
      simp only [Try.results38, evr, id, reduceCtorEq, reduceIte, Nat.reduceMul, Nat.reduceAdd, Nat.reduceLT, Nat.reduceLeDiff, Nat.reduceEqDiff, Int.reduceLT, Int.reduceBEq, Int.reduceBNe, Nat.reduceBEq, List.append_nil, Int.toNat_zero, Nat.sub_self]
      rw [← ho, orL_drop l i h1, if_pos h2]
    · simp only [bne_eq_false_iff_eq] at h2
      refine Sat.skip ?_
      simp only [thenK, blockK]
      refine Sat.region_k fun k hk => ?_
      simp -implicitDefEqProofs only [evr, id, reduceCtorEq, reduceIte, Nat.reduceMul, Nat.reduceAdd, Nat.reduceLT, Nat.reduceLeDiff, Nat.reduceEqDiff, Int.reduceLT, Int.reduceBEq, Int.reduceBNe, Nat.reduceBEq, List.append_nil, Int.toNat_zero, Nat.sub_self, e2]
      refine hk _ ?_
      simp only [thenK, blockK]
      refine ⟨i + 1, ⟨by omega, ?_⟩, by omega, ?_⟩
      · rw [← ho, orL_drop l i h1, if_neg (by simp only [h2]; decide)]
      · simp -implicitDefEqProofs only [evr, id, reduceCtorEq, reduceIte, Nat.reduceMul, Nat.reduceAdd, Nat.reduceLT, Nat.reduceLeDiff, Nat.reduceEqDiff, Int.reduceLT, Int.reduceBEq, Int.reduceBNe, Nat.reduceBEq, List.append_nil, Int.toNat_zero, Nat.sub_self, evl]
  · have h1 : ¬ i < l.length := by simp only [decide_eq_false_iff_not] at h; omega
    refine Sat.exit ?_
    simp only [thenK, blockK, reduceIte]
    (repeat refine Sat.seq ?_)
    (refine Sat.region_k fun k hk => ?_; simp -implicitDefEqProofs only [evr, id, reduceCtorEq, reduceIte, Nat.reduceMul, Nat.reduceAdd, Nat.reduceLT, Nat.reduceLeDiff, Nat.reduceEqDiff, Int.reduceLT, Int.reduceBEq, Int.reduceBNe, Nat.reduceBEq, List.append_nil, Int.toNat_zero, Nat.sub_self]; refine hk _ ?_; clear hk k; try show Sat _ _ _ _ _)
    refine Sat.ret ?_
    simp only [Try.results38, evr, id, reduceCtorEq, reduceIte, Nat.reduceMul, Nat.reduceAdd, Nat.reduceLT, Nat.reduceLeDiff, Nat.reduceEqDiff, Int.reduceLT, Int.reduceBEq, Int.reduceBNe, Nat.reduceBEq, List.append_nil, Int.toNat_zero, Nat.sub_self]
    rw [← ho, List.drop_eq_nil_of_le (by omega)]
    rfl

set_option maxRecDepth 100000 in
theorem numberC (F : Frm) (b : Bool) : Contract F Try.prog 41 [.b b] (fun r => r = .i .i64 (b2i b)) := by
  refine contract_of Try.func41 rfl (by kernel_rfl) ?_
  simp only [Try.ntmps41, argEnv]
  (repeat refine Sat.seq ?_)
  (refine Sat.region_k fun k hk => ?_; simp -implicitDefEqProofs only [evr, id, reduceCtorEq, reduceIte, Nat.reduceMul, Nat.reduceAdd, Nat.reduceLT, Nat.reduceLeDiff, Nat.reduceEqDiff, Int.reduceLT, Int.reduceBEq, Int.reduceBNe, Nat.reduceBEq, List.append_nil, Int.toNat_zero, Nat.sub_self]; refine hk _ ?_; clear hk k; try show Sat _ _ _ _ _)
  (repeat refine Sat.seq ?_)
  (refine Sat.region_k fun k hk => ?_; simp -implicitDefEqProofs only [evr, id, reduceCtorEq, reduceIte, Nat.reduceMul, Nat.reduceAdd, Nat.reduceLT, Nat.reduceLeDiff, Nat.reduceEqDiff, Int.reduceLT, Int.reduceBEq, Int.reduceBNe, Nat.reduceBEq, List.append_nil, Int.toNat_zero, Nat.sub_self]; refine hk _ ?_; clear hk k; try show Sat _ _ _ _ _)
  (repeat refine Sat.seq ?_)
  refine Sat.cond_b rfl (fun h => ?_) (fun h => ?_)
  · subst h
    (repeat refine Sat.seq ?_)
    (refine Sat.region_k fun k hk => ?_; simp -implicitDefEqProofs only [evr, id, reduceCtorEq, reduceIte, Nat.reduceMul, Nat.reduceAdd, Nat.reduceLT, Nat.reduceLeDiff, Nat.reduceEqDiff, Int.reduceLT, Int.reduceBEq, Int.reduceBNe, Nat.reduceBEq, List.append_nil, Int.toNat_zero, Nat.sub_self]; refine hk _ ?_; clear hk k; try show Sat _ _ _ _ _)
    refine Sat.ret ?_
    simp only [Try.results41, evr, id, reduceCtorEq, reduceIte, Nat.reduceMul, Nat.reduceAdd, Nat.reduceLT, Nat.reduceLeDiff, Nat.reduceEqDiff, Int.reduceLT, Int.reduceBEq, Int.reduceBNe, Nat.reduceBEq, List.append_nil, Int.toNat_zero, Nat.sub_self]
    rfl
  · subst h
    refine Sat.skip ?_
    simp only [thenK]
    (repeat refine Sat.seq ?_)
    (refine Sat.region_k fun k hk => ?_; simp -implicitDefEqProofs only [evr, id, reduceCtorEq, reduceIte, Nat.reduceMul, Nat.reduceAdd, Nat.reduceLT, Nat.reduceLeDiff, Nat.reduceEqDiff, Int.reduceLT, Int.reduceBEq, Int.reduceBNe, Nat.reduceBEq, List.append_nil, Int.toNat_zero, Nat.sub_self]; refine hk _ ?_; clear hk k; try show Sat _ _ _ _ _)
    refine Sat.ret ?_
    simp only [Try.results41, evr, id, reduceCtorEq, reduceIte, Nat.reduceMul, Nat.reduceAdd, Nat.reduceLT, Nat.reduceLeDiff, Nat.reduceEqDiff, Int.reduceLT, Int.reduceBEq, Int.reduceBNe, Nat.reduceBEq, List.append_nil, Int.toNat_zero, Nat.sub_self]
    rfl

set_option maxRecDepth 100000 in
theorem identityC (F : Frm) (x y : Res) : Contract F Try.prog 37 [resAg x, resAg y] (fun r => r = .i .i64 (resIdent x y)) := by
  refine contract_of Try.func37 rfl (by kernel_rfl) ?_
  simp only [Try.ntmps37, argEnv, resAg, Res.cs]
  (repeat refine Sat.seq ?_)
  (refine Sat.region_k fun k hk => ?_; simp -implicitDefEqProofs only [evr, id, reduceCtorEq, reduceIte, Nat.reduceMul, Nat.reduceAdd, Nat.reduceLT, Nat.reduceLeDiff, Nat.reduceEqDiff, Int.reduceLT, Int.reduceBEq, Int.reduceBNe, Nat.reduceBEq, List.append_nil, Int.toNat_zero, Nat.sub_self])
  intro blk1 blk2
  (refine hk _ ?_; clear hk k; try show Sat _ _ _ _ _)
  (repeat refine Sat.seq ?_)
  (refine Sat.region_tree (OT.keep [0, 2, 5, 7, 10, 12, 1, 3, 6, 8, 11, 13] [4, 9] (BT.one 4 (BT.one 9 (BT.one 14 (BT.one 15 (BT.one 16 (BT.one 17 BT.done))))))) (by kernel_rfl) (by kernel_rfl) (fun _ _ h => h) fun k hk => ?_; simp only [WOT, List.map_cons, List.map_nil, List.getD_cons_zero, List.getD_cons_succ]; simp -implicitDefEqProofs only [evr, id, reduceCtorEq, reduceIte, Nat.reduceMul, Nat.reduceAdd, Nat.reduceLT, Nat.reduceLeDiff, Nat.reduceEqDiff, Int.reduceLT, Int.reduceBEq, Int.reduceBNe, Nat.reduceBEq, List.append_nil, Int.toNat_zero, Nat.sub_self, WOT])
  refine wcall_plain (cmpC F x.vantage y.vantage) rfl (by rintro _ rfl; exact ok_plain rfl) ?_
  rintro r rfl
  simp -implicitDefEqProofs only [evr, id, reduceCtorEq, reduceIte, Nat.reduceMul, Nat.reduceAdd, Nat.reduceLT, Nat.reduceLeDiff, Nat.reduceEqDiff, Int.reduceLT, Int.reduceBEq, Int.reduceBNe, Nat.reduceBEq, List.append_nil, Int.toNat_zero, Nat.sub_self]
  refine wcall_plain (cmpC F x.run y.run) rfl (by rintro _ rfl; exact ok_plain rfl) ?_
  rintro r rfl
  simp -implicitDefEqProofs only [evr, id, reduceCtorEq, reduceIte, Nat.reduceMul, Nat.reduceAdd, Nat.reduceLT, Nat.reduceLeDiff, Nat.reduceEqDiff, Int.reduceLT, Int.reduceBEq, Int.reduceBNe, Nat.reduceBEq, List.append_nil, Int.toNat_zero, Nat.sub_self]
  refine wcall_plain (cmpC F x.number y.number) rfl (by rintro _ rfl; exact ok_plain rfl) ?_
  rintro r rfl
  simp -implicitDefEqProofs only [evr, id, reduceCtorEq, reduceIte, Nat.reduceMul, Nat.reduceAdd, Nat.reduceLT, Nat.reduceLeDiff, Nat.reduceEqDiff, Int.reduceLT, Int.reduceBEq, Int.reduceBNe, Nat.reduceBEq, List.append_nil, Int.toNat_zero, Nat.sub_self]
  intro blk3
  refine wcall_plain (orC F (some ⟨blk3, 0, none⟩) 3 [ordI x.vantage y.vantage, ordI x.run y.run, ordI x.number y.number] (by simp)) (by simp -implicitDefEqProofs only [evr, id, reduceCtorEq, reduceIte, Nat.reduceMul, Nat.reduceAdd, Nat.reduceLT, Nat.reduceLeDiff, Nat.reduceEqDiff, Int.reduceLT, Int.reduceBEq, Int.reduceBNe, Nat.reduceBEq, List.append_nil, Int.toNat_zero, Nat.sub_self, intsRd]) (by rintro _ rfl; exact ok_plain rfl) ?_
  rintro r rfl
  simp -implicitDefEqProofs only [evr, id, reduceCtorEq, reduceIte, Nat.reduceMul, Nat.reduceAdd, Nat.reduceLT, Nat.reduceLeDiff, Nat.reduceEqDiff, Int.reduceLT, Int.reduceBEq, Int.reduceBNe, Nat.reduceBEq, List.append_nil, Int.toNat_zero, Nat.sub_self]
  (refine hk _ ?_; clear hk k; try show Sat _ _ _ _ _)
  refine Sat.ret ?_
  simp only [Try.results37, evr, id, reduceCtorEq, reduceIte, Nat.reduceMul, Nat.reduceAdd, Nat.reduceLT, Nat.reduceLeDiff, Nat.reduceEqDiff, Int.reduceLT, Int.reduceBEq, Int.reduceBNe, Nat.reduceBEq, List.append_nil, Int.toNat_zero, Nat.sub_self]
  rfl

theorem orL_orL (a b c : Int) (l : List Int) : orL (orL [a, b, c] :: l) = orL (a :: b :: c :: l) := by
  simp only [orL]
  by_cases h1 : a = 0 <;> by_cases h2 : b = 0 <;> by_cases h3 : c = 0 <;> simp [h1, h2, h3]

set_option maxRecDepth 100000 in
theorem compareC (F : Frm) (x y : Res) : Contract F Try.prog 14 [resAg x, resAg y] (fun r => r = .i .i64 (resCompare x y)) := by
  refine contract_of Try.func14 rfl (by kernel_rfl) ?_
  simp only [Try.ntmps14, argEnv, resAg, Res.cs]
  (repeat refine Sat.seq ?_)
  (refine Sat.region_k fun k hk => ?_; simp -implicitDefEqProofs only [evr, id, reduceCtorEq, reduceIte, Nat.reduceMul, Nat.reduceAdd, Nat.reduceLT, Nat.reduceLeDiff, Nat.reduceEqDiff, Int.reduceLT, Int.reduceBEq, Int.reduceBNe, Nat.reduceBEq, List.append_nil, Int.toNat_zero, Nat.sub_self])
  intro blk1 blk2
  (refine hk _ ?_; clear hk k; try show Sat _ _ _ _ _)
  (repeat refine Sat.seq ?_)
  refine Sat.region_treeR (.keep [0, 2, 1, 3] [4, 5, 6] (.alt 4 (.one 5 (.one 6 (.one 7 .done))) (.alt 5 (.one 4 (.one 6 (.one 7 .done))) .none))) (by kernel_rfl) (by kernel_rfl) (fun _ _ h => h)
    (fun b : Nat × Nat => ⟨90, [(5, .op 2 b.1 0), (6, .op 3 b.2 0), (4, .i .i64 0), (3, .op 1 blk2 0), (2, .op 0 blk1 0)], [.box blk1 39 (Res.cs x), .box blk2 39 (Res.cs y), .box b.1 37 ((Res.cs x).drop 11), .box b.2 37 ((Res.cs y).drop 11)]⟩) (fun k hk => ?_) ?_
  · simp only [WOT, List.map_cons, List.map_nil, List.getD_cons_zero, List.getD_cons_succ]
    simp -implicitDefEqProofs only [evr, id, reduceCtorEq, reduceIte, Nat.reduceMul, Nat.reduceAdd, Nat.reduceLT, Nat.reduceLeDiff, Nat.reduceEqDiff, Int.reduceLT, Int.reduceBEq, Int.reduceBNe, Nat.reduceBEq, List.append_nil, Int.toNat_zero, Nat.sub_self, WOT]
    refine ⟨fun b1 b2 => hk _ (b1, b2) [0, 1, 2, 3] ⟨rfl, ?_, by decide, ?_⟩, fun b1 b2 => hk _ (b2, b1) [0, 1, 3, 2] ⟨rfl, ?_, by decide, ?_⟩⟩
    all_goals simp -implicitDefEqProofs only [evr, id, reduceCtorEq, reduceIte, Nat.reduceMul, Nat.reduceAdd, Nat.reduceLT, Nat.reduceLeDiff, Nat.reduceEqDiff, Int.reduceLT, Int.reduceBEq, Int.reduceBNe, Nat.reduceBEq, List.append_nil, Int.toNat_zero, Nat.sub_self, Res.cs, evl]
  rintro ⟨blk3, blk4⟩
  simp only [thenK, Res.cs, List.drop_succ_cons, List.drop_zero]
  (repeat refine Sat.seq ?_)
  simp only [List.append_eq, List.cons_append, List.nil_append]
  (refine Sat.region_rows [⟨0, 12, 4, 1⟩, ⟨0, 13, 8, 1⟩, ⟨3, 14, 6144, 2⟩, ⟨0, 15, 4, 0⟩, ⟨8, 16, 16384, 1⟩, ⟨0, 17, 8, 0⟩, ⟨32, 18, 65536, 1⟩, ⟨84, 19, 163840, 2⟩, ⟨0, 20, 4, 0⟩, ⟨256, 21, 524288, 1⟩, ⟨0, 22, 8, 0⟩, ⟨1024, 23, 2097152, 1⟩, ⟨2688, 24, 5242880, 2⟩, ⟨0, 25, 4, 0⟩, ⟨8192, 26, 16777216, 1⟩, ⟨0, 27, 8, 0⟩, ⟨32768, 28, 67108864, 1⟩, ⟨86016, 29, 167772160, 2⟩, ⟨0, 30, 4, 0⟩, ⟨262144, 31, 536870912, 1⟩, ⟨0, 32, 8, 0⟩, ⟨1048576, 33, 2147483648, 1⟩, ⟨2752512, 34, 5368709120, 2⟩, ⟨0, 35, 4, 0⟩, ⟨8388608, 36, 17179869184, 1⟩, ⟨0, 37, 8, 0⟩, ⟨33554432, 38, 68719476736, 1⟩, ⟨88080384, 39, 171798691840, 2⟩, ⟨0, 40, 4, 0⟩, ⟨268435456, 41, 549755813888, 1⟩, ⟨671088640, 42, 1099511627776, 2⟩, ⟨0, 43, 8, 0⟩, ⟨2147483648, 44, 4398046511104, 1⟩, ⟨5368709120, 45, 8796093022208, 2⟩, ⟨9663676416, 46, 19791209299968, 2⟩, ⟨0, 47, 4, 0⟩, ⟨34359738368, 48, 70368744177664, 1⟩, ⟨85899345920, 49, 140737488355328, 2⟩, ⟨0, 50, 8, 0⟩, ⟨274877906944, 51, 562949953421312, 1⟩, ⟨687194767360, 52, 1125899906842624, 2⟩, ⟨1236950581248, 53, 2533274790395904, 2⟩, ⟨0, 54, 4, 0⟩, ⟨4398046511104, 55, 9007199254740992, 1⟩, ⟨0, 56, 8, 0⟩, ⟨17592186044416, 57, 36028797018963968, 1⟩, ⟨46179488366592, 58, 90071992547409920, 2⟩, ⟨0, 59, 32, 0⟩, ⟨140737488355328, 60, 288230376151711744, 1⟩, ⟨0, 61, 64, 0⟩, ⟨562949953421312, 62, 1152921504606846976, 1⟩, ⟨1477743627730944, 63, 2882303761517117440, 2⟩, ⟨0, 64, 32, 0⟩, ⟨4503599627370496, 65, 9223372036854775808, 1⟩, ⟨0, 66, 64, 0⟩, ⟨18014398509481984, 67, 36893488147419103232, 1⟩, ⟨47287796087390208, 68, 92233720368547758080, 2⟩, ⟨0, 69, 32, 0⟩, ⟨144115188075855872, 70, 295147905179352825856, 1⟩, ⟨0, 71, 64, 0⟩, ⟨576460752303423488, 72, 1180591620717411303424, 1⟩, ⟨1513209474796486656, 73, 2951479051793528258560, 2⟩, ⟨0, 74, 32, 0⟩, ⟨4611686018427387904, 75, 9444732965739290427392, 1⟩, ⟨0, 76, 64, 0⟩, ⟨18446744073709551616, 77, 37778931862957161709568, 1⟩, ⟨48422703193487572992, 78, 94447329657392904273920, 2⟩, ⟨0, 79, 32, 0⟩, ⟨147573952589676412928, 80, 302231454903657293676544, 1⟩, ⟨0, 81, 64, 0⟩, ⟨590295810358705651712, 82, 1208925819614629174706176, 1⟩, ⟨1549526502191602335744, 83, 3022314549036572936765440, 2⟩, ⟨0, 84, 32, 0⟩, ⟨4722366482869645213696, 85, 9671406556917033397649408, 1⟩, ⟨0, 86, 64, 0⟩, ⟨18889465931478580854784, 87, 38685626227668133590597632, 1⟩, ⟨49584848070131274743808, 88, 96714065569170333976494080, 2⟩, ⟨77995214168632135389316, 89, 159734198617358613277319168, 2⟩, ⟨226673591177742970257408, 90, 309485009821345068724781056, 2⟩, ⟨604462909807314587353087, 5, 618970019642690137449562112, 0⟩] [3, 5, 8, 10, 13, 15, 18, 20, 23, 25, 28, 31, 35, 38, 42, 44, 47, 49, 52, 54, 57, 59, 62, 64, 67, 69, 72, 74, 0, 1, 4, 6, 9, 11, 14, 16, 19, 21, 24, 26, 29, 32, 36, 39, 43, 45, 48, 50, 53, 55, 58, 60, 63, 65, 68, 70, 73, 75] [(2, false), (7, false), (12, false), (17, false), (22, false), (27, false), (30, false), (33, false), (34, false), (37, false), (40, false), (41, false), (46, false), (51, false), (56, false), (61, false), (66, false), (71, false), (76, false), (77, false), (78, false), (79, false)] [2, 7, 12, 17, 22, 27, 30, 33, 34, 37, 40, 41, 46, 51, 56, 61, 66, 71] (by kernel_rfl) (by kernel_rfl) (fun _ _ h => h) fun k hk => ?_; simp only [List.map_cons, List.map_nil, List.getD_cons_zero, List.getD_cons_succ, btseq_cons, btseq_free, btseq_nil]; simp -implicitDefEqProofs only [evr, id, reduceCtorEq, reduceIte, Nat.reduceMul, Nat.reduceAdd, Nat.reduceLT, Nat.reduceLeDiff, Nat.reduceEqDiff, Int.reduceLT, Int.reduceBEq, Int.reduceBNe, Nat.reduceBEq, List.append_nil, Int.toNat_zero, Nat.sub_self])
  refine wcall_plain (identityC F x y) rfl (by rintro _ rfl; exact ok_plain rfl) ?_
  rintro r rfl
  simp -implicitDefEqProofs only [evr, id, reduceCtorEq, reduceIte, Nat.reduceMul, Nat.reduceAdd, Nat.reduceLT, Nat.reduceLeDiff, Nat.reduceEqDiff, Int.reduceLT, Int.reduceBEq, Int.reduceBNe, Nat.reduceBEq, List.append_nil, Int.toNat_zero, Nat.sub_self]
  refine wcall_plain (cmpC F x.at_ y.at_) rfl (by rintro _ rfl; exact ok_plain rfl) ?_
  rintro r rfl
  simp -implicitDefEqProofs only [evr, id, reduceCtorEq, reduceIte, Nat.reduceMul, Nat.reduceAdd, Nat.reduceLT, Nat.reduceLeDiff, Nat.reduceEqDiff, Int.reduceLT, Int.reduceBEq, Int.reduceBNe, Nat.reduceBEq, List.append_nil, Int.toNat_zero, Nat.sub_self]
  refine wcall_plain (cmpAC F x.dst y.dst) rfl (by rintro _ rfl; exact ok_plain rfl) ?_
  rintro r rfl
  simp -implicitDefEqProofs only [evr, id, reduceCtorEq, reduceIte, Nat.reduceMul, Nat.reduceAdd, Nat.reduceLT, Nat.reduceLeDiff, Nat.reduceEqDiff, Int.reduceLT, Int.reduceBEq, Int.reduceBNe, Nat.reduceBEq, List.append_nil, Int.toNat_zero, Nat.sub_self]
  refine wcall_plain (cmpC F x.proto y.proto) rfl (by rintro _ rfl; exact ok_plain rfl) ?_
  rintro r rfl
  simp -implicitDefEqProofs only [evr, id, reduceCtorEq, reduceIte, Nat.reduceMul, Nat.reduceAdd, Nat.reduceLT, Nat.reduceLeDiff, Nat.reduceEqDiff, Int.reduceLT, Int.reduceBEq, Int.reduceBNe, Nat.reduceBEq, List.append_nil, Int.toNat_zero, Nat.sub_self]
  refine wcall_plain (cmpC F x.flow y.flow) rfl (by rintro _ rfl; exact ok_plain rfl) ?_
  rintro r rfl
  simp -implicitDefEqProofs only [evr, id, reduceCtorEq, reduceIte, Nat.reduceMul, Nat.reduceAdd, Nat.reduceLT, Nat.reduceLeDiff, Nat.reduceEqDiff, Int.reduceLT, Int.reduceBEq, Int.reduceBNe, Nat.reduceBEq, List.append_nil, Int.toNat_zero, Nat.sub_self]
  refine wcall_plain (cmpC F x.ttl y.ttl) rfl (by rintro _ rfl; exact ok_plain rfl) ?_
  rintro r rfl
  simp -implicitDefEqProofs only [evr, id, reduceCtorEq, reduceIte, Nat.reduceMul, Nat.reduceAdd, Nat.reduceLT, Nat.reduceLeDiff, Nat.reduceEqDiff, Int.reduceLT, Int.reduceBEq, Int.reduceBNe, Nat.reduceBEq, List.append_nil, Int.toNat_zero, Nat.sub_self]
  refine wcall_plain (numberC F x.answered) rfl (by rintro _ rfl; exact ok_plain rfl) ?_
  rintro r rfl
  simp -implicitDefEqProofs only [evr, id, reduceCtorEq, reduceIte, Nat.reduceMul, Nat.reduceAdd, Nat.reduceLT, Nat.reduceLeDiff, Nat.reduceEqDiff, Int.reduceLT, Int.reduceBEq, Int.reduceBNe, Nat.reduceBEq, List.append_nil, Int.toNat_zero, Nat.sub_self]
  refine wcall_plain (numberC F y.answered) rfl (by rintro _ rfl; exact ok_plain rfl) ?_
  rintro r rfl
  simp -implicitDefEqProofs only [evr, id, reduceCtorEq, reduceIte, Nat.reduceMul, Nat.reduceAdd, Nat.reduceLT, Nat.reduceLeDiff, Nat.reduceEqDiff, Int.reduceLT, Int.reduceBEq, Int.reduceBNe, Nat.reduceBEq, List.append_nil, Int.toNat_zero, Nat.sub_self]
  refine wcall_plain (cmpC F (b2i x.answered) (b2i y.answered)) rfl (by rintro _ rfl; exact ok_plain rfl) ?_
  rintro r rfl
  simp -implicitDefEqProofs only [evr, id, reduceCtorEq, reduceIte, Nat.reduceMul, Nat.reduceAdd, Nat.reduceLT, Nat.reduceLeDiff, Nat.reduceEqDiff, Int.reduceLT, Int.reduceBEq, Int.reduceBNe, Nat.reduceBEq, List.append_nil, Int.toNat_zero, Nat.sub_self]
  refine wcall_plain (numberC F x.doubled) rfl (by rintro _ rfl; exact ok_plain rfl) ?_
  rintro r rfl
  simp -implicitDefEqProofs only [evr, id, reduceCtorEq, reduceIte, Nat.reduceMul, Nat.reduceAdd, Nat.reduceLT, Nat.reduceLeDiff, Nat.reduceEqDiff, Int.reduceLT, Int.reduceBEq, Int.reduceBNe, Nat.reduceBEq, List.append_nil, Int.toNat_zero, Nat.sub_self]
  refine wcall_plain (numberC F y.doubled) rfl (by rintro _ rfl; exact ok_plain rfl) ?_
  rintro r rfl
  simp -implicitDefEqProofs only [evr, id, reduceCtorEq, reduceIte, Nat.reduceMul, Nat.reduceAdd, Nat.reduceLT, Nat.reduceLeDiff, Nat.reduceEqDiff, Int.reduceLT, Int.reduceBEq, Int.reduceBNe, Nat.reduceBEq, List.append_nil, Int.toNat_zero, Nat.sub_self]
  refine wcall_plain (cmpC F (b2i x.doubled) (b2i y.doubled)) rfl (by rintro _ rfl; exact ok_plain rfl) ?_
  rintro r rfl
  simp -implicitDefEqProofs only [evr, id, reduceCtorEq, reduceIte, Nat.reduceMul, Nat.reduceAdd, Nat.reduceLT, Nat.reduceLeDiff, Nat.reduceEqDiff, Int.reduceLT, Int.reduceBEq, Int.reduceBNe, Nat.reduceBEq, List.append_nil, Int.toNat_zero, Nat.sub_self]
  refine wcall_plain (cmpC F x.back y.back) rfl (by rintro _ rfl; exact ok_plain rfl) ?_
  rintro r rfl
  simp -implicitDefEqProofs only [evr, id, reduceCtorEq, reduceIte, Nat.reduceMul, Nat.reduceAdd, Nat.reduceLT, Nat.reduceLeDiff, Nat.reduceEqDiff, Int.reduceLT, Int.reduceBEq, Int.reduceBNe, Nat.reduceBEq, List.append_nil, Int.toNat_zero, Nat.sub_self]
  refine wcall_plain (cmpAC F x.from_ y.from_) rfl (by rintro _ rfl; exact ok_plain rfl) ?_
  rintro r rfl
  simp -implicitDefEqProofs only [evr, id, reduceCtorEq, reduceIte, Nat.reduceMul, Nat.reduceAdd, Nat.reduceLT, Nat.reduceLeDiff, Nat.reduceEqDiff, Int.reduceLT, Int.reduceBEq, Int.reduceBNe, Nat.reduceBEq, List.append_nil, Int.toNat_zero, Nat.sub_self]
  refine wcall_plain (cmpC F x.kind y.kind) rfl (by rintro _ rfl; exact ok_plain rfl) ?_
  rintro r rfl
  simp -implicitDefEqProofs only [evr, id, reduceCtorEq, reduceIte, Nat.reduceMul, Nat.reduceAdd, Nat.reduceLT, Nat.reduceLeDiff, Nat.reduceEqDiff, Int.reduceLT, Int.reduceBEq, Int.reduceBNe, Nat.reduceBEq, List.append_nil, Int.toNat_zero, Nat.sub_self]
  refine wcall_plain (cmpC F x.code y.code) rfl (by rintro _ rfl; exact ok_plain rfl) ?_
  rintro r rfl
  simp -implicitDefEqProofs only [evr, id, reduceCtorEq, reduceIte, Nat.reduceMul, Nat.reduceAdd, Nat.reduceLT, Nat.reduceLeDiff, Nat.reduceEqDiff, Int.reduceLT, Int.reduceBEq, Int.reduceBNe, Nat.reduceBEq, List.append_nil, Int.toNat_zero, Nat.sub_self]
  refine wcall_plain (cmpC F x.left y.left) rfl (by rintro _ rfl; exact ok_plain rfl) ?_
  rintro r rfl
  simp -implicitDefEqProofs only [evr, id, reduceCtorEq, reduceIte, Nat.reduceMul, Nat.reduceAdd, Nat.reduceLT, Nat.reduceLeDiff, Nat.reduceEqDiff, Int.reduceLT, Int.reduceBEq, Int.reduceBNe, Nat.reduceBEq, List.append_nil, Int.toNat_zero, Nat.sub_self]
  refine wcall_plain (cmpC F x.id y.id) rfl (by rintro _ rfl; exact ok_plain rfl) ?_
  rintro r rfl
  simp -implicitDefEqProofs only [evr, id, reduceCtorEq, reduceIte, Nat.reduceMul, Nat.reduceAdd, Nat.reduceLT, Nat.reduceLeDiff, Nat.reduceEqDiff, Int.reduceLT, Int.reduceBEq, Int.reduceBNe, Nat.reduceBEq, List.append_nil, Int.toNat_zero, Nat.sub_self]
  refine wcall_plain (cmpC F x.quoted y.quoted) rfl (by rintro _ rfl; exact ok_plain rfl) ?_
  rintro r rfl
  simp -implicitDefEqProofs only [evr, id, reduceCtorEq, reduceIte, Nat.reduceMul, Nat.reduceAdd, Nat.reduceLT, Nat.reduceLeDiff, Nat.reduceEqDiff, Int.reduceLT, Int.reduceBEq, Int.reduceBNe, Nat.reduceBEq, List.append_nil, Int.toNat_zero, Nat.sub_self]
  intro blk5
  refine wcall_plain (orC F (some ⟨blk5, 0, none⟩) 15 [resIdent x y, ordI x.at_ y.at_, ordI x.dst y.dst, ordI x.proto y.proto, ordI x.flow y.flow, ordI x.ttl y.ttl, ordI (b2i x.answered) (b2i y.answered), ordI (b2i x.doubled) (b2i y.doubled), ordI x.back y.back, ordI x.from_ y.from_, ordI x.kind y.kind, ordI x.code y.code, ordI x.left y.left, ordI x.id y.id, ordI x.quoted y.quoted] (by simp)) (by simp -implicitDefEqProofs only [evr, id, reduceCtorEq, reduceIte, Nat.reduceMul, Nat.reduceAdd, Nat.reduceLT, Nat.reduceLeDiff, Nat.reduceEqDiff, Int.reduceLT, Int.reduceBEq, Int.reduceBNe, Nat.reduceBEq, List.append_nil, Int.toNat_zero, Nat.sub_self, intsRd]) (by rintro _ rfl; exact ok_plain rfl) ?_
  rintro r rfl
  simp -implicitDefEqProofs only [evr, id, reduceCtorEq, reduceIte, Nat.reduceMul, Nat.reduceAdd, Nat.reduceLT, Nat.reduceLeDiff, Nat.reduceEqDiff, Int.reduceLT, Int.reduceBEq, Int.reduceBNe, Nat.reduceBEq, List.append_nil, Int.toNat_zero, Nat.sub_self]
  (refine hk _ ?_; clear hk k; try show Sat _ _ _ _ _)
  refine Sat.ret ?_
  simp only [Try.results14, evr, id, reduceCtorEq, reduceIte, Nat.reduceMul, Nat.reduceAdd, Nat.reduceLT, Nat.reduceLeDiff, Nat.reduceEqDiff, Int.reduceLT, Int.reduceBEq, Int.reduceBNe, Nat.reduceBEq, List.append_nil, Int.toNat_zero, Nat.sub_self]
  exact congrArg (SV.i .i64) (orL_orL _ _ _ _)

theorem compareCmp : resCmp 14 resLt := fun x y => ⟨resCompare x y, rfl, fun F => compareC F x y⟩
end Go.Proofs.Ythhofjkbmnklmaa
