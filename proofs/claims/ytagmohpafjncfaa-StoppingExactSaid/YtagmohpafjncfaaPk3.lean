/- Reference 23: power, onto, Onto, Missing, between, Needed: by the evaluator. -/
import Derived.Test.YtagmohpafjncfaaPk2
import Derived.Test.YtagmohpafjncfaaPk1
import Derived.Test.YtagmohpafjncfaaEngR
import Derived.Test.YtagmohpafjncfaaEngS
set_option linter.unusedSimpArgs false
set_option linter.unusedVariables false
namespace Go.Proofs.Ytagmohpafjncfaa
open Eng Lmb Go.RowKit
theorem wu64 {z : Int} (h0 : 0 ≤ z) (h1 : z < 18446744073709551616) : IntKind.u64.wrap z = z := by
  unfold IntKind.wrap
  simp [IntKind.bits, IntKind.signed]
  omega
set_option maxRecDepth 100000 in
theorem refPower23C (F : Frm) (m n : Nat) (hm : m ≤ 16) (hn : n ≤ 128) : Contract F Try.prog 44 [.i .i64 m, .i .i64 n] (fun r => Nats r (m ^ n)) := by
  have hw : IntKind.u64.wrap (m : Int) = (m : Int) := wu64 (by omega) (by omega)
  refine contract_of Try.func44 rfl (by kernel_rfl) ?_
  simp only [Try.ntmps44, argEnv]
  (repeat refine Sat.seq ?_)
  (refine Sat.region_k fun k hk => ?_; simp -implicitDefEqProofs only [evr, id, reduceCtorEq, reduceIte, Nat.reduceMul, Nat.reduceAdd, Nat.reduceLT, Nat.reduceLeDiff, Nat.reduceEqDiff, Int.reduceLT, Int.reduceBEq, Int.reduceBNe, Nat.reduceBEq, List.append_nil, Int.toNat_zero, Nat.sub_self, frS]; refine hk _ ?_; clear hk k; try show Sat _ _ _ _ _)
  (repeat refine Sat.seq ?_)
  refine Sat.region_k fun k hk => ?_
  simp -implicitDefEqProofs only [evr, id, reduceCtorEq, reduceIte, Nat.reduceMul, Nat.reduceAdd, Nat.reduceLT, Nat.reduceLeDiff, Nat.reduceEqDiff, Int.reduceLT, Int.reduceBEq, Int.reduceBNe, Nat.reduceBEq, List.append_nil, Int.toNat_zero, Nat.sub_self, frS, hw]
  refine wcall_slice (refWordC F m (by omega)) rfl rfl ?_
  intro y hy
  have hy1 := hy
  obtain ⟨a2, c2, z2, r2, x2, rfl, _⟩ := hy
  simp -implicitDefEqProofs only [evr, id, reduceCtorEq, reduceIte, Nat.reduceMul, Nat.reduceAdd, Nat.reduceLT, Nat.reduceLeDiff, Nat.reduceEqDiff, Int.reduceLT, Int.reduceBEq, Int.reduceBNe, Nat.reduceBEq, List.append_nil, Int.toNat_zero, Nat.sub_self, frS]
  refine wcall_slice (refPowC F hy1 (lt_pw (a := 4) (by omega) (by decide)) (by omega) (fun i hi => kn_pw hm (by omega))) rfl rfl ?_
  rintro r ⟨s, rfl, hs⟩
  have hs1 := hs
  obtain ⟨a3, c3, z3, r3, x3, rfl, _⟩ := hs
  simp -implicitDefEqProofs only [evr, id, reduceCtorEq, reduceIte, Nat.reduceMul, Nat.reduceAdd, Nat.reduceLT, Nat.reduceLeDiff, Nat.reduceEqDiff, Int.reduceLT, Int.reduceBEq, Int.reduceBNe, Nat.reduceBEq, List.append_nil, Int.toNat_zero, Nat.sub_self, frS]
  (refine hk _ ?_; clear hk k; try show Sat _ _ _ _ _)
  (repeat refine Sat.seq ?_)
  (refine Sat.region_k fun k hk => ?_; simp -implicitDefEqProofs only [evr, id, reduceCtorEq, reduceIte, Nat.reduceMul, Nat.reduceAdd, Nat.reduceLT, Nat.reduceLeDiff, Nat.reduceEqDiff, Int.reduceLT, Int.reduceBEq, Int.reduceBNe, Nat.reduceBEq, List.append_nil, Int.toNat_zero, Nat.sub_self, frS]; refine hk _ ?_; clear hk k; try show Sat _ _ _ _ _)
  refine Sat.ret ?_
  simp only [Try.results44, evr, id, reduceCtorEq, reduceIte, Nat.reduceMul, Nat.reduceAdd, Nat.reduceLT, Nat.reduceLeDiff, Nat.reduceEqDiff, Int.reduceLT, Int.reduceBEq, Int.reduceBNe, Nat.reduceBEq, List.append_nil, Int.toNat_zero, Nat.sub_self, frS]
  exact hs1
set_option maxRecDepth 100000 in
theorem refOnto0C (F : Frm) (n m : Nat) (hn : n ≤ 128) (hk0 : m ≤ 16) : Contract F Try.prog 43 [.i .i64 n, .i .i64 m] (fun r => Nats r (cnt m n m)) := by
  have h256 : pw 256 ≤ pw 512 := pw_mono (by omega)
  refine contract_of Try.func43 rfl (by kernel_rfl) ?_
  simp only [Try.ntmps43, argEnv]
  (repeat refine Sat.seq ?_)
  (refine Sat.region_k fun k hk => ?_; simp -implicitDefEqProofs only [evr, id, reduceCtorEq, reduceIte, Nat.reduceMul, Nat.reduceAdd, Nat.reduceLT, Nat.reduceLeDiff, Nat.reduceEqDiff, Int.reduceLT, Int.reduceBEq, Int.reduceBNe, Nat.reduceBEq, List.append_nil, Int.toNat_zero, Nat.sub_self, frS]; refine hk _ ?_; clear hk k; try show Sat _ _ _ _ _)
  (repeat refine Sat.seq ?_)
  (refine Sat.region_k fun k hk => ?_; simp -implicitDefEqProofs only [evr, id, reduceCtorEq, reduceIte, Nat.reduceMul, Nat.reduceAdd, Nat.reduceLT, Nat.reduceLeDiff, Nat.reduceEqDiff, Int.reduceLT, Int.reduceBEq, Int.reduceBNe, Nat.reduceBEq, List.append_nil, Int.toNat_zero, Nat.sub_self, frS]; refine hk _ ?_; clear hk k; try show Sat _ _ _ _ _)
  (repeat refine Sat.seq ?_)
  (refine Sat.region_k fun k hk => ?_; simp -implicitDefEqProofs only [evr, id, reduceCtorEq, reduceIte, Nat.reduceMul, Nat.reduceAdd, Nat.reduceLT, Nat.reduceLeDiff, Nat.reduceEqDiff, Int.reduceLT, Int.reduceBEq, Int.reduceBNe, Nat.reduceBEq, List.append_nil, Int.toNat_zero, Nat.sub_self, frS]; refine hk _ ?_; clear hk k; try show Sat _ _ _ _ _)
  (repeat refine Sat.seq ?_)
  refine Sat.block ?_
  refine Sat.loop (ι := Nat × SV × SV) (fun x => ⟨41, [(7, .i .i64 x.1), (0, .i .i64 n), (1, .i .i64 m), (5, x.2.1), (6, x.2.2)], []⟩)
    (fun x => x.1 ≤ m + 1 ∧ Nats x.2.1 (sumE (ontoT n m) x.1) ∧ Nats x.2.2 (sumO (ontoT n m) x.1)) (fun x => m + 1 - x.1) (0, .sl none 0 0 0 (fun _ _ => .v undef), .sl none 0 0 0 (fun _ _ => .v undef)) ⟨by omega, Nats.nil, Nats.nil⟩ (by simp -implicitDefEqProofs only [evr, id, reduceCtorEq, reduceIte, Nat.reduceMul, Nat.reduceAdd, Nat.reduceLT, Nat.reduceLeDiff, Nat.reduceEqDiff, Int.reduceLT, Int.reduceBEq, Int.reduceBNe, Nat.reduceBEq, List.append_nil, Int.toNat_zero, Nat.sub_self, frS, evl]; try rfl) ?_
  rintro ⟨i, se, so⟩ ⟨hi, he, ho⟩
  simp only at hi he ho ⊢
  have he' := he
  have ho' := ho
  obtain ⟨a3, c3, z3, r3, x3, rfl, _⟩ := he
  obtain ⟨a4, c4, z4, r4, x4, rfl, _⟩ := ho
  (repeat refine Sat.seq ?_)
  (refine Sat.region_k fun k hk => ?_; simp -implicitDefEqProofs only [evr, id, reduceCtorEq, reduceIte, Nat.reduceMul, Nat.reduceAdd, Nat.reduceLT, Nat.reduceLeDiff, Nat.reduceEqDiff, Int.reduceLT, Int.reduceBEq, Int.reduceBNe, Nat.reduceBEq, List.append_nil, Int.toNat_zero, Nat.sub_self, frS]; refine hk _ ?_; clear hk k; try show Sat _ _ _ _ _)
  (repeat refine Sat.seq ?_)
  refine Sat.cond_b rfl (fun h => ?_) (fun h => ?_)
  · simp only [decide_eq_true_eq] at h
    have hik : i ≤ m := by omega
    have ei : IntKind.i64.wrap ((m : Int) - (i : Int)) = ((m - i : Nat) : Int) := by rw [w64 (by omega)]; omega
    have ei1 : IntKind.i64.wrap ((i : Int) + 1) = ((i + 1 : Nat) : Int) := by rw [w64 (by omega)]; omega
    have em : (((i : Int).tmod 2) == 0) = decide (i % 2 = 0) := by
      rw [Int.tmod_eq_emod_of_nonneg (by omega)]
      by_cases h9 : i % 2 = 0
      · rw [decide_eq_true h9, beq_iff_eq]; omega
      · rw [decide_eq_false h9, beq_eq_false_iff_ne]; omega
    have s1 : sumE (ontoT n m) (i + 1) = sumE (ontoT n m) i + if i % 2 = 0 then ontoT n m i else 0 := rfl
    have s2 : sumO (ontoT n m) (i + 1) = sumO (ontoT n m) i + if i % 2 = 0 then 0 else ontoT n m i := rfl
    have p1 := sumE_pw hk0 hn (show i + 1 ≤ 18 by omega)
    have p2 := sumO_pw hk0 hn (show i + 1 ≤ 18 by omega)
    refine Sat.skip ?_
    simp only [thenK]
    (repeat refine Sat.seq ?_)
    refine Sat.block ?_
    (repeat refine Sat.seq ?_)
    (refine Sat.region_k fun k hk => ?_; simp -implicitDefEqProofs only [evr, id, reduceCtorEq, reduceIte, Nat.reduceMul, Nat.reduceAdd, Nat.reduceLT, Nat.reduceLeDiff, Nat.reduceEqDiff, Int.reduceLT, Int.reduceBEq, Int.reduceBNe, Nat.reduceBEq, List.append_nil, Int.toNat_zero, Nat.sub_self, frS])
    refine wcall_slice (refChooseC F m i (by omega) (by omega)) rfl rfl ?_
    rintro y ⟨s, rfl, hy⟩
    have hs5 := hy
    obtain ⟨a5, c5, z5, r5, x5, rfl, _⟩ := hy
    simp -implicitDefEqProofs only [evr, id, reduceCtorEq, reduceIte, Nat.reduceMul, Nat.reduceAdd, Nat.reduceLT, Nat.reduceLeDiff, Nat.reduceEqDiff, Int.reduceLT, Int.reduceBEq, Int.reduceBNe, Nat.reduceBEq, List.append_nil, Int.toNat_zero, Nat.sub_self, frS]
    (refine hk _ ?_; clear hk k; try show Sat _ _ _ _ _)
    (repeat refine Sat.seq ?_)
    refine Sat.region_k fun k' hk => ?_
    simp -implicitDefEqProofs only [evr, id, reduceCtorEq, reduceIte, Nat.reduceMul, Nat.reduceAdd, Nat.reduceLT, Nat.reduceLeDiff, Nat.reduceEqDiff, Int.reduceLT, Int.reduceBEq, Int.reduceBNe, Nat.reduceBEq, List.append_nil, Int.toNat_zero, Nat.sub_self, frS, ei]
    refine wcall_slice (refPower23C F (m - i) n (by omega) hn) rfl rfl ?_
    intro y hy
    have hs6 := hy
    obtain ⟨a6, c6, z6, r6, x6, rfl, _⟩ := hy
    simp -implicitDefEqProofs only [evr, id, reduceCtorEq, reduceIte, Nat.reduceMul, Nat.reduceAdd, Nat.reduceLT, Nat.reduceLeDiff, Nat.reduceEqDiff, Int.reduceLT, Int.reduceBEq, Int.reduceBNe, Nat.reduceBEq, List.append_nil, Int.toNat_zero, Nat.sub_self, frS]
    have bb := Zn.binom_pw (n := m) (by omega) i
    have bk := kn_pw (k := m - i) (n := n) (by omega) hn
    refine wcall_slice (refTimesC F hs5 hs6 (by omega) (by omega)) rfl rfl ?_
    intro y hy
    have hs7 : Nats y (ontoT n m i) := hy
    obtain ⟨a7, c7, z7, r7, x7, rfl, _⟩ := hy
    simp -implicitDefEqProofs only [evr, id, reduceCtorEq, reduceIte, Nat.reduceMul, Nat.reduceAdd, Nat.reduceLT, Nat.reduceLeDiff, Nat.reduceEqDiff, Int.reduceLT, Int.reduceBEq, Int.reduceBNe, Nat.reduceBEq, List.append_nil, Int.toNat_zero, Nat.sub_self, frS]
    refine hk _ ?_
    clear hk k'
    try show Sat _ _ _ _ _
    (repeat refine Sat.seq ?_)
    refine Sat.region_k fun k' hk => ?_
    simp -implicitDefEqProofs only [evr, id, reduceCtorEq, reduceIte, Nat.reduceMul, Nat.reduceAdd, Nat.reduceLT, Nat.reduceLeDiff, Nat.reduceEqDiff, Int.reduceLT, Int.reduceBEq, Int.reduceBNe, Nat.reduceBEq, List.append_nil, Int.toNat_zero, Nat.sub_self, frS, em]
    refine ⟨by decide, ?_⟩
    refine hk _ ?_
    clear hk k'
    try show Sat _ _ _ _ _
    refine Sat.cond_b rfl (fun h5 => ?_) (fun h5 => ?_)
    · have h6 := of_decide_eq_true h5
      rw [if_pos h6] at s1 s2
      (repeat refine Sat.seq ?_)
      (refine Sat.region_k fun k hk => ?_; simp -implicitDefEqProofs only [evr, id, reduceCtorEq, reduceIte, Nat.reduceMul, Nat.reduceAdd, Nat.reduceLT, Nat.reduceLeDiff, Nat.reduceEqDiff, Int.reduceLT, Int.reduceBEq, Int.reduceBNe, Nat.reduceBEq, List.append_nil, Int.toNat_zero, Nat.sub_self, frS])
      refine wcall_slice (refPlusC F he' hs7 (by omega) (by omega)) rfl rfl ?_
      intro y hy
      have hs8 := hy
      obtain ⟨a8, c8, z8, r8, x8, rfl, _⟩ := hy
      simp -implicitDefEqProofs only [evr, id, reduceCtorEq, reduceIte, Nat.reduceMul, Nat.reduceAdd, Nat.reduceLT, Nat.reduceLeDiff, Nat.reduceEqDiff, Int.reduceLT, Int.reduceBEq, Int.reduceBNe, Nat.reduceBEq, List.append_nil, Int.toNat_zero, Nat.sub_self, frS]
      refine hk _ ?_
      clear hk k
      simp only [thenK, blockK]
      (repeat refine Sat.seq ?_)
      refine Sat.region_k fun k' hk => ?_
      simp -implicitDefEqProofs only [evr, id, reduceCtorEq, reduceIte, Nat.reduceMul, Nat.reduceAdd, Nat.reduceLT, Nat.reduceLeDiff, Nat.reduceEqDiff, Int.reduceLT, Int.reduceBEq, Int.reduceBNe, Nat.reduceBEq, List.append_nil, Int.toNat_zero, Nat.sub_self, frS, ei1]
      refine hk _ ?_
      simp only [thenK, blockK]
      refine ⟨(i + 1, _, _), ⟨by show i + 1 ≤ m + 1; omega, by rw [s1]; exact hs8, by rw [s2, Nat.add_zero]; exact ho'⟩, by show m + 1 - (i + 1) < m + 1 - i; omega, ?_⟩
      simp -implicitDefEqProofs only [evr, id, reduceCtorEq, reduceIte, Nat.reduceMul, Nat.reduceAdd, Nat.reduceLT, Nat.reduceLeDiff, Nat.reduceEqDiff, Int.reduceLT, Int.reduceBEq, Int.reduceBNe, Nat.reduceBEq, List.append_nil, Int.toNat_zero, Nat.sub_self, frS, evl]
    · have h6 := of_decide_eq_false h5
      rw [if_neg h6] at s1 s2
      (repeat refine Sat.seq ?_)
      (refine Sat.region_k fun k hk => ?_; simp -implicitDefEqProofs only [evr, id, reduceCtorEq, reduceIte, Nat.reduceMul, Nat.reduceAdd, Nat.reduceLT, Nat.reduceLeDiff, Nat.reduceEqDiff, Int.reduceLT, Int.reduceBEq, Int.reduceBNe, Nat.reduceBEq, List.append_nil, Int.toNat_zero, Nat.sub_self, frS])
      refine wcall_slice (refPlusC F ho' hs7 (by omega) (by omega)) rfl rfl ?_
      intro y hy
      have hs8 := hy
      obtain ⟨a8, c8, z8, r8, x8, rfl, _⟩ := hy
      simp -implicitDefEqProofs only [evr, id, reduceCtorEq, reduceIte, Nat.reduceMul, Nat.reduceAdd, Nat.reduceLT, Nat.reduceLeDiff, Nat.reduceEqDiff, Int.reduceLT, Int.reduceBEq, Int.reduceBNe, Nat.reduceBEq, List.append_nil, Int.toNat_zero, Nat.sub_self, frS]
      refine hk _ ?_
      clear hk k
      simp only [thenK, blockK]
      (repeat refine Sat.seq ?_)
      refine Sat.region_k fun k' hk => ?_
      simp -implicitDefEqProofs only [evr, id, reduceCtorEq, reduceIte, Nat.reduceMul, Nat.reduceAdd, Nat.reduceLT, Nat.reduceLeDiff, Nat.reduceEqDiff, Int.reduceLT, Int.reduceBEq, Int.reduceBNe, Nat.reduceBEq, List.append_nil, Int.toNat_zero, Nat.sub_self, frS, ei1]
      refine hk _ ?_
      simp only [thenK, blockK]
      refine ⟨(i + 1, _, _), ⟨by show i + 1 ≤ m + 1; omega, by rw [s1, Nat.add_zero]; exact he', by rw [s2]; exact hs8⟩, by show m + 1 - (i + 1) < m + 1 - i; omega, ?_⟩
      simp -implicitDefEqProofs only [evr, id, reduceCtorEq, reduceIte, Nat.reduceMul, Nat.reduceAdd, Nat.reduceLT, Nat.reduceLeDiff, Nat.reduceEqDiff, Int.reduceLT, Int.reduceBEq, Int.reduceBNe, Nat.reduceBEq, List.append_nil, Int.toNat_zero, Nat.sub_self, frS, evl]
  · simp only [decide_eq_false_iff_not] at h
    have hi2 : i = m + 1 := by omega
    subst hi2
    obtain ⟨o1, o2⟩ := onto_cnt n m
    have p1 := sumE_pw hk0 hn (show m + 1 ≤ 18 by omega)
    refine Sat.exit ?_
    simp only [thenK, blockK, reduceIte]
    (repeat refine Sat.seq ?_)
    (refine Sat.region_k fun k hk => ?_; simp -implicitDefEqProofs only [evr, id, reduceCtorEq, reduceIte, Nat.reduceMul, Nat.reduceAdd, Nat.reduceLT, Nat.reduceLeDiff, Nat.reduceEqDiff, Int.reduceLT, Int.reduceBEq, Int.reduceBNe, Nat.reduceBEq, List.append_nil, Int.toNat_zero, Nat.sub_self, frS])
    refine wcall_slice (refLessC F he' ho' (by omega) o1) rfl rfl ?_
    intro y hy
    rw [o2] at hy
    have hs8 := hy
    obtain ⟨a8, c8, z8, r8, x8, rfl, _⟩ := hy
    simp -implicitDefEqProofs only [evr, id, reduceCtorEq, reduceIte, Nat.reduceMul, Nat.reduceAdd, Nat.reduceLT, Nat.reduceLeDiff, Nat.reduceEqDiff, Int.reduceLT, Int.reduceBEq, Int.reduceBNe, Nat.reduceBEq, List.append_nil, Int.toNat_zero, Nat.sub_self, frS]
    (refine hk _ ?_; clear hk k; try show Sat _ _ _ _ _)
    refine Sat.ret ?_
    simp only [Try.results43, evr, id, reduceCtorEq, reduceIte, Nat.reduceMul, Nat.reduceAdd, Nat.reduceLT, Nat.reduceLeDiff, Nat.reduceEqDiff, Int.reduceLT, Int.reduceBEq, Int.reduceBNe, Nat.reduceBEq, List.append_nil, Int.toNat_zero, Nat.sub_self, frS]
    exact hs8
def ontoIn (n m : Int) : Bool := decide (0 ≤ n ∧ n ≤ 128 ∧ 0 ≤ m ∧ m ≤ 16)
def OntoPost (n m : Int) (r : SV) : Prop := ∃ s, Nats s (if ontoIn n m then cnt m.toNat n.toNat m.toNat else 0) ∧ r = tupL [s, .i .i64 (if ontoIn n m then 0 else 1)]
theorem ontoIn_nat {n m : Int} (h : ontoIn n m = true) : ∃ a b : Nat, n = a ∧ m = b ∧ a ≤ 128 ∧ b ≤ 16 := by
  obtain ⟨h1, h2, h3, h4⟩ := of_decide_eq_true h
  exact ⟨n.toNat, m.toNat, by omega, by omega, by omega, by omega⟩
set_option maxRecDepth 100000 in
theorem refOntoC (F : Frm) (n m : Int) : Contract F Try.prog 21 [.i .i64 n, .i .i64 m] (OntoPost n m) := by
  refine contract_of Try.func21 rfl (by kernel_rfl) ?_
  simp only [Try.ntmps21, argEnv]
  (repeat refine Sat.seq ?_)
  (refine Sat.region_k fun k hk => ?_; simp -implicitDefEqProofs only [evr, id, reduceCtorEq, reduceIte, Nat.reduceMul, Nat.reduceAdd, Nat.reduceLT, Nat.reduceLeDiff, Nat.reduceEqDiff, Int.reduceLT, Int.reduceBEq, Int.reduceBNe, Nat.reduceBEq, List.append_nil, Int.toNat_zero, Nat.sub_self, frS]; refine hk _ ?_; clear hk k; try show Sat _ _ _ _ _)
  (repeat refine Sat.seq ?_)
  refine Sat.region_at ⟨23, [(19, .b (!ontoIn n m)), (0, .i .i64 n), (1, .i .i64 m), (4, .sl none 0 0 0 (fun _ _ => .v undef))], []⟩ (fun k' hk' => ?_) ?_
  · simp -implicitDefEqProofs only [evr, id, reduceCtorEq, reduceIte, Nat.reduceMul, Nat.reduceAdd, Nat.reduceLT, Nat.reduceLeDiff, Nat.reduceEqDiff, Int.reduceLT, Int.reduceBEq, Int.reduceBNe, Nat.reduceBEq, List.append_nil, Int.toNat_zero, Nat.sub_self, frS]
    refine ⟨fun h1 => ?_, fun h1 => ⟨fun h2 => ?_, fun h2 => ⟨fun h3 => ?_, fun h3 => ?_⟩⟩⟩ <;> refine hk' _ ?_
    · have e : ontoIn n m = false := decide_eq_false (by omega)
      simp only [e, Bool.not_false]
      simp -implicitDefEqProofs only [evr, id, reduceCtorEq, reduceIte, Nat.reduceMul, Nat.reduceAdd, Nat.reduceLT, Nat.reduceLeDiff, Nat.reduceEqDiff, Int.reduceLT, Int.reduceBEq, Int.reduceBNe, Nat.reduceBEq, List.append_nil, Int.toNat_zero, Nat.sub_self, frS, evl]
    · have e : ontoIn n m = false := decide_eq_false (by omega)
      simp only [e, Bool.not_false]
      simp -implicitDefEqProofs only [evr, id, reduceCtorEq, reduceIte, Nat.reduceMul, Nat.reduceAdd, Nat.reduceLT, Nat.reduceLeDiff, Nat.reduceEqDiff, Int.reduceLT, Int.reduceBEq, Int.reduceBNe, Nat.reduceBEq, List.append_nil, Int.toNat_zero, Nat.sub_self, frS, evl]
    · have e : ontoIn n m = false := decide_eq_false (by omega)
      simp only [e, Bool.not_false]
      simp -implicitDefEqProofs only [evr, id, reduceCtorEq, reduceIte, Nat.reduceMul, Nat.reduceAdd, Nat.reduceLT, Nat.reduceLeDiff, Nat.reduceEqDiff, Int.reduceLT, Int.reduceBEq, Int.reduceBNe, Nat.reduceBEq, List.append_nil, Int.toNat_zero, Nat.sub_self, frS, evl]
    · have e : decide (16 < m) = !ontoIn n m := by
        by_cases h9 : 16 < m
        · rw [decide_eq_true h9, show ontoIn n m = false from decide_eq_false (by omega)]; rfl
        · rw [decide_eq_false h9, show ontoIn n m = true from decide_eq_true (by omega)]; rfl
      simp only [e]
      simp -implicitDefEqProofs only [evr, id, reduceCtorEq, reduceIte, Nat.reduceMul, Nat.reduceAdd, Nat.reduceLT, Nat.reduceLeDiff, Nat.reduceEqDiff, Int.reduceLT, Int.reduceBEq, Int.reduceBNe, Nat.reduceBEq, List.append_nil, Int.toNat_zero, Nat.sub_self, frS, evl]
  simp only [thenK]
  refine Sat.cond_b rfl (fun h => ?_) (fun h => ?_)
  · have e : ontoIn n m = false := by simpa using h
    (repeat refine Sat.seq ?_)
    (refine Sat.region_k fun k hk => ?_; simp -implicitDefEqProofs only [evr, id, reduceCtorEq, reduceIte, Nat.reduceMul, Nat.reduceAdd, Nat.reduceLT, Nat.reduceLeDiff, Nat.reduceEqDiff, Int.reduceLT, Int.reduceBEq, Int.reduceBNe, Nat.reduceBEq, List.append_nil, Int.toNat_zero, Nat.sub_self, frS]; refine hk _ ?_; clear hk k; try show Sat _ _ _ _ _)
    refine Sat.ret ?_
    simp only [Try.results21, evr, id, reduceCtorEq, reduceIte, Nat.reduceMul, Nat.reduceAdd, Nat.reduceLT, Nat.reduceLeDiff, Nat.reduceEqDiff, Int.reduceLT, Int.reduceBEq, Int.reduceBNe, Nat.reduceBEq, List.append_nil, Int.toNat_zero, Nat.sub_self, frS]
    exact ⟨.sl none 0 0 0 (fun _ _ => .v undef), by rw [e]; exact Nats.nil, by rw [e]; rfl⟩
  · have e : ontoIn n m = true := by simpa using h
    obtain ⟨a, b, rfl, rfl, ha, hb⟩ := ontoIn_nat e
    refine Sat.skip ?_
    simp only [thenK]
    (repeat refine Sat.seq ?_)
    (refine Sat.region_k fun k hk => ?_; simp -implicitDefEqProofs only [evr, id, reduceCtorEq, reduceIte, Nat.reduceMul, Nat.reduceAdd, Nat.reduceLT, Nat.reduceLeDiff, Nat.reduceEqDiff, Int.reduceLT, Int.reduceBEq, Int.reduceBNe, Nat.reduceBEq, List.append_nil, Int.toNat_zero, Nat.sub_self, frS])
    refine wcall_slice (refOnto0C F a b ha hb) rfl rfl ?_
    intro y hy
    have hs8 := hy
    obtain ⟨a8, c8, z8, r8, x8, rfl, _⟩ := hy
    simp -implicitDefEqProofs only [evr, id, reduceCtorEq, reduceIte, Nat.reduceMul, Nat.reduceAdd, Nat.reduceLT, Nat.reduceLeDiff, Nat.reduceEqDiff, Int.reduceLT, Int.reduceBEq, Int.reduceBNe, Nat.reduceBEq, List.append_nil, Int.toNat_zero, Nat.sub_self, frS]
    (refine hk _ ?_; clear hk k; try show Sat _ _ _ _ _)
    refine Sat.ret ?_
    simp only [Try.results21, evr, id, reduceCtorEq, reduceIte, Nat.reduceMul, Nat.reduceAdd, Nat.reduceLT, Nat.reduceLeDiff, Nat.reduceEqDiff, Int.reduceLT, Int.reduceBEq, Int.reduceBNe, Nat.reduceBEq, List.append_nil, Int.toNat_zero, Nat.sub_self, frS]
    exact ⟨_, by rw [e]; exact hs8, by rw [e]; rfl⟩
def misIn (n m : Int) : Bool := decide (0 ≤ n ∧ n ≤ 128 ∧ 1 ≤ m ∧ m ≤ 16)
def MisPost (n m : Int) (r : SV) : Prop := ∃ f, FrS f false (if misIn n m then misP n.toNat m.toNat else 0) (if misIn n m then misQ n.toNat m.toNat else 0) ∧ r = tupL [f, .i .i64 (if misIn n m then 0 else 1)]
theorem misIn_nat {n m : Int} (h : misIn n m = true) : ∃ a b : Nat, n = a ∧ m = b ∧ a ≤ 128 ∧ b ≤ 16 ∧ 1 ≤ b := by
  obtain ⟨h1, h2, h3, h4⟩ := of_decide_eq_true h
  exact ⟨n.toNat, m.toNat, by omega, by omega, by omega, by omega, by omega⟩
set_option maxRecDepth 100000 in
theorem refMissingC (F : Frm) (n m : Int) : Contract F Try.prog 22 [.i .i64 n, .i .i64 m] (MisPost n m) := by
  refine contract_of Try.func22 rfl (by kernel_rfl) ?_
  simp only [Try.ntmps22, argEnv]
  (repeat refine Sat.seq ?_)
  (refine Sat.region_k fun k hk => ?_; simp -implicitDefEqProofs only [evr, id, reduceCtorEq, reduceIte, Nat.reduceMul, Nat.reduceAdd, Nat.reduceLT, Nat.reduceLeDiff, Nat.reduceEqDiff, Int.reduceLT, Int.reduceBEq, Int.reduceBNe, Nat.reduceBEq, List.append_nil, Int.toNat_zero, Nat.sub_self, frS])
  intro b4
  (refine hk _ ?_; clear hk k; try show Sat _ _ _ _ _)
  (repeat refine Sat.seq ?_)
  refine Sat.region_at ⟨33, [(20, .b (!misIn n m)), (0, .i .i64 n), (1, .i .i64 m), (4, .op 0 b4 0)], [.box b4 30 [.b false, .sl none 0 0 0 (fun _ _ => .v undef), .sl none 0 0 0 (fun _ _ => .v undef)]]⟩ (fun k' hk' => ?_) ?_
  · simp -implicitDefEqProofs only [evr, id, reduceCtorEq, reduceIte, Nat.reduceMul, Nat.reduceAdd, Nat.reduceLT, Nat.reduceLeDiff, Nat.reduceEqDiff, Int.reduceLT, Int.reduceBEq, Int.reduceBNe, Nat.reduceBEq, List.append_nil, Int.toNat_zero, Nat.sub_self, frS]
    refine ⟨fun h1 => ?_, fun h1 => ⟨fun h2 => ?_, fun h2 => ⟨fun h3 => ?_, fun h3 => ?_⟩⟩⟩ <;> refine hk' _ ?_
    · have e : misIn n m = false := decide_eq_false (by omega)
      simp only [e, Bool.not_false]
      simp -implicitDefEqProofs only [evr, id, reduceCtorEq, reduceIte, Nat.reduceMul, Nat.reduceAdd, Nat.reduceLT, Nat.reduceLeDiff, Nat.reduceEqDiff, Int.reduceLT, Int.reduceBEq, Int.reduceBNe, Nat.reduceBEq, List.append_nil, Int.toNat_zero, Nat.sub_self, frS, evl]
      try rfl
    · have e : misIn n m = false := decide_eq_false (by omega)
      simp only [e, Bool.not_false]
      simp -implicitDefEqProofs only [evr, id, reduceCtorEq, reduceIte, Nat.reduceMul, Nat.reduceAdd, Nat.reduceLT, Nat.reduceLeDiff, Nat.reduceEqDiff, Int.reduceLT, Int.reduceBEq, Int.reduceBNe, Nat.reduceBEq, List.append_nil, Int.toNat_zero, Nat.sub_self, frS, evl]
      try rfl
    · have e : misIn n m = false := decide_eq_false (by omega)
      simp only [e, Bool.not_false]
      simp -implicitDefEqProofs only [evr, id, reduceCtorEq, reduceIte, Nat.reduceMul, Nat.reduceAdd, Nat.reduceLT, Nat.reduceLeDiff, Nat.reduceEqDiff, Int.reduceLT, Int.reduceBEq, Int.reduceBNe, Nat.reduceBEq, List.append_nil, Int.toNat_zero, Nat.sub_self, frS, evl]
      try rfl
    · have e : decide (16 < m) = !misIn n m := by
        by_cases h9 : 16 < m
        · rw [decide_eq_true h9, show misIn n m = false from decide_eq_false (by omega)]; rfl
        · rw [decide_eq_false h9, show misIn n m = true from decide_eq_true (by omega)]; rfl
      simp only [e]
      simp -implicitDefEqProofs only [evr, id, reduceCtorEq, reduceIte, Nat.reduceMul, Nat.reduceAdd, Nat.reduceLT, Nat.reduceLeDiff, Nat.reduceEqDiff, Int.reduceLT, Int.reduceBEq, Int.reduceBNe, Nat.reduceBEq, List.append_nil, Int.toNat_zero, Nat.sub_self, frS, evl]
      try rfl
  simp only [thenK]
  refine Sat.cond_b rfl (fun h => ?_) (fun h => ?_)
  · have e : misIn n m = false := by simpa using h
    (repeat refine Sat.seq ?_)
    (refine Sat.region_k fun k hk => ?_; simp -implicitDefEqProofs only [evr, id, reduceCtorEq, reduceIte, Nat.reduceMul, Nat.reduceAdd, Nat.reduceLT, Nat.reduceLeDiff, Nat.reduceEqDiff, Int.reduceLT, Int.reduceBEq, Int.reduceBNe, Nat.reduceBEq, List.append_nil, Int.toNat_zero, Nat.sub_self, frS])
    (refine hk _ ?_; clear hk k; try show Sat _ _ _ _ _)
    refine Sat.ret ?_
    simp only [Try.results22, evr, id, reduceCtorEq, reduceIte, Nat.reduceMul, Nat.reduceAdd, Nat.reduceLT, Nat.reduceLeDiff, Nat.reduceEqDiff, Int.reduceLT, Int.reduceBEq, Int.reduceBNe, Nat.reduceBEq, List.append_nil, Int.toNat_zero, Nat.sub_self, frS]
    exact ⟨frS false (.sl none 0 0 0 (fun _ _ => .v undef)) (.sl none 0 0 0 (fun _ _ => .v undef)), by rw [e]; exact ⟨_, _, rfl, Nats.nil, Nats.nil⟩, by rw [e]; rfl⟩
  · have e : misIn n m = true := by simpa using h
    obtain ⟨a, b, rfl, rfl, ha, hb, hb1⟩ := misIn_nat e
    have h0 : 0 < b ^ a := Nat.pow_pos hb1
    have hpow := kn_pw hb ha
    have hcl := cnt_le b a b (Nat.le_refl _)
    have h256 : pw 256 ≤ pw 512 := pw_mono (by omega)
    refine Sat.skip ?_
    simp only [thenK]
    (repeat refine Sat.seq ?_)
    (refine Sat.region_k fun k hk => ?_; simp -implicitDefEqProofs only [evr, id, reduceCtorEq, reduceIte, Nat.reduceMul, Nat.reduceAdd, Nat.reduceLT, Nat.reduceLeDiff, Nat.reduceEqDiff, Int.reduceLT, Int.reduceBEq, Int.reduceBNe, Nat.reduceBEq, List.append_nil, Int.toNat_zero, Nat.sub_self, frS])
    refine wcall_slice (refPower23C F b a hb ha) rfl rfl ?_
    intro y hy
    have hs1 := hy
    obtain ⟨a1, c1, z1, r1, x1, rfl, _⟩ := hy
    simp -implicitDefEqProofs only [evr, id, reduceCtorEq, reduceIte, Nat.reduceMul, Nat.reduceAdd, Nat.reduceLT, Nat.reduceLeDiff, Nat.reduceEqDiff, Int.reduceLT, Int.reduceBEq, Int.reduceBNe, Nat.reduceBEq, List.append_nil, Int.toNat_zero, Nat.sub_self, frS]
    (refine hk _ ?_; clear hk k; try show Sat _ _ _ _ _)
    (repeat refine Sat.seq ?_)
    (refine Sat.region_k fun k hk => ?_; simp -implicitDefEqProofs only [evr, id, reduceCtorEq, reduceIte, Nat.reduceMul, Nat.reduceAdd, Nat.reduceLT, Nat.reduceLeDiff, Nat.reduceEqDiff, Int.reduceLT, Int.reduceBEq, Int.reduceBNe, Nat.reduceBEq, List.append_nil, Int.toNat_zero, Nat.sub_self, frS])
    refine wcall_slice (refOnto0C F a b ha hb) rfl rfl ?_
    intro y hy
    have hs2 := hy
    obtain ⟨a2, c2, z2, r2, x2, rfl, _⟩ := hy
    simp -implicitDefEqProofs only [evr, id, reduceCtorEq, reduceIte, Nat.reduceMul, Nat.reduceAdd, Nat.reduceLT, Nat.reduceLeDiff, Nat.reduceEqDiff, Int.reduceLT, Int.reduceBEq, Int.reduceBNe, Nat.reduceBEq, List.append_nil, Int.toNat_zero, Nat.sub_self, frS]
    refine wcall_slice (refLessC F hs1 hs2 (by omega) hcl) rfl rfl ?_
    intro y hy
    have hs3 := hy
    obtain ⟨a3, c3, z3, r3, x3, rfl, _⟩ := hy
    simp -implicitDefEqProofs only [evr, id, reduceCtorEq, reduceIte, Nat.reduceMul, Nat.reduceAdd, Nat.reduceLT, Nat.reduceLeDiff, Nat.reduceEqDiff, Int.reduceLT, Int.reduceBEq, Int.reduceBNe, Nat.reduceBEq, List.append_nil, Int.toNat_zero, Nat.sub_self, frS]
    refine wcall_slice (refReduceC F false hs3 hs1 (by omega) hpow h0) rfl (by simp -implicitDefEqProofs only [evr, id, reduceCtorEq, reduceIte, Nat.reduceMul, Nat.reduceAdd, Nat.reduceLT, Nat.reduceLeDiff, Nat.reduceEqDiff, Int.reduceLT, Int.reduceBEq, Int.reduceBNe, Nat.reduceBEq, List.append_nil, Int.toNat_zero, Nat.sub_self, frS]; try rfl) ?_
    rintro y ⟨sp, sq, rfl, hp, hq⟩
    have hp' : Nats sp (misP a b) := hp
    have hq' : Nats sq (misQ a b) := hq
    obtain ⟨a5, c5, z5, r5, x5, rfl, _⟩ := hp
    obtain ⟨a6, c6, z6, r6, x6, rfl, _⟩ := hq
    simp -implicitDefEqProofs only [evr, id, reduceCtorEq, reduceIte, Nat.reduceMul, Nat.reduceAdd, Nat.reduceLT, Nat.reduceLeDiff, Nat.reduceEqDiff, Int.reduceLT, Int.reduceBEq, Int.reduceBNe, Nat.reduceBEq, List.append_nil, Int.toNat_zero, Nat.sub_self, frS, Bool.false_and]
    (refine hk _ ?_; clear hk k; try show Sat _ _ _ _ _)
    refine Sat.ret ?_
    simp only [Try.results22, evr, id, reduceCtorEq, reduceIte, Nat.reduceMul, Nat.reduceAdd, Nat.reduceLT, Nat.reduceLeDiff, Nat.reduceEqDiff, Int.reduceLT, Int.reduceBEq, Int.reduceBNe, Nat.reduceBEq, List.append_nil, Int.toNat_zero, Nat.sub_self, frS]
    exact ⟨_, by rw [e]; exact ⟨_, _, rfl, hp', hq'⟩, by rw [e]; rfl⟩
end Go.Proofs.Ytagmohpafjncfaa

/- The reference of fractions, by the evaluator: magnitude, From. -/
set_option linter.unusedSimpArgs false
set_option linter.unusedVariables false
namespace Go.Proofs.Ytagmohpafjncfaa
open Eng Lmb Go.RowKit
set_option maxRecDepth 100000 in
theorem refMagnitudeC (F : Frm) (n : Int) (h1 : -9223372036854775808 ≤ n) (h2 : n ≤ 9223372036854775807) : Contract F Try.prog 40 [.i .i64 n] (fun r => Nats r n.natAbs) := by
  refine contract_of Try.func40 rfl (by kernel_rfl) ?_
  simp only [Try.ntmps40, argEnv]
  have hw : ∀ z : Int, IntKind.u64.wrap z = z % 18446744073709551616 := fun z => by unfold IntKind.wrap; simp [IntKind.bits, IntKind.signed]
  (repeat refine Sat.seq ?_)
  (refine Sat.region_k fun k hk => ?_; simp -implicitDefEqProofs only [evr, id, reduceCtorEq, reduceIte, Nat.reduceMul, Nat.reduceAdd, Nat.reduceLT, Nat.reduceLeDiff, Nat.reduceEqDiff, Int.reduceLT, Int.reduceBEq, Int.reduceBNe, Nat.reduceBEq, List.append_nil, Int.toNat_zero, Nat.sub_self, frS]; refine hk _ ?_; clear hk k; try show Sat _ _ _ _ _)
  (repeat refine Sat.seq ?_)
  (refine Sat.region_k fun k hk => ?_; simp -implicitDefEqProofs only [evr, id, reduceCtorEq, reduceIte, Nat.reduceMul, Nat.reduceAdd, Nat.reduceLT, Nat.reduceLeDiff, Nat.reduceEqDiff, Int.reduceLT, Int.reduceBEq, Int.reduceBNe, Nat.reduceBEq, List.append_nil, Int.toNat_zero, Nat.sub_self, frS]; refine hk _ ?_; clear hk k; try show Sat _ _ _ _ _)
  refine Sat.cond_b rfl (fun h => ?_) (fun h => ?_)
  · have hn : n < 0 := of_decide_eq_true h
    have e1 : IntKind.i64.wrap (n + 1) = n + 1 := w64 (by omega)
    have e2 : IntKind.i64.wrap (0 - (n + 1)) = 0 - (n + 1) := w64 (by omega)
    have e3 : IntKind.u64.wrap (IntKind.u64.wrap (0 - (n + 1)) + 1) = ((n.natAbs : Nat) : Int) := by rw [hw, hw]; omega
    (repeat refine Sat.seq ?_)
    refine Sat.region_k fun k hk => ?_
    simp -implicitDefEqProofs only [evr, id, reduceCtorEq, reduceIte, Nat.reduceMul, Nat.reduceAdd, Nat.reduceLT, Nat.reduceLeDiff, Nat.reduceEqDiff, Int.reduceLT, Int.reduceBEq, Int.reduceBNe, Nat.reduceBEq, List.append_nil, Int.toNat_zero, Nat.sub_self, frS, e1, e2, e3]
    refine wcall_slice (refWordC F n.natAbs (by omega)) rfl rfl ?_
    intro r hs
    have hgs := hs
    obtain ⟨a3, c3, z3, r3, x3, rfl, _⟩ := hs
    simp -implicitDefEqProofs only [evr, id, reduceCtorEq, reduceIte, Nat.reduceMul, Nat.reduceAdd, Nat.reduceLT, Nat.reduceLeDiff, Nat.reduceEqDiff, Int.reduceLT, Int.reduceBEq, Int.reduceBNe, Nat.reduceBEq, List.append_nil, Int.toNat_zero, Nat.sub_self, frS]
    (refine hk _ ?_; clear hk k; try show Sat _ _ _ _ _)
    refine Sat.ret ?_
    simp only [Try.results40, evr, id, reduceCtorEq, reduceIte, Nat.reduceMul, Nat.reduceAdd, Nat.reduceLT, Nat.reduceLeDiff, Nat.reduceEqDiff, Int.reduceLT, Int.reduceBEq, Int.reduceBNe, Nat.reduceBEq, List.append_nil, Int.toNat_zero, Nat.sub_self, frS]
    exact hgs
  · have hn : 0 ≤ n := by have := of_decide_eq_false h; omega
    have e3 : IntKind.u64.wrap n = ((n.natAbs : Nat) : Int) := by rw [hw]; omega
    refine Sat.skip ?_
    simp only [thenK]
    (repeat refine Sat.seq ?_)
    refine Sat.region_k fun k hk => ?_
    simp -implicitDefEqProofs only [evr, id, reduceCtorEq, reduceIte, Nat.reduceMul, Nat.reduceAdd, Nat.reduceLT, Nat.reduceLeDiff, Nat.reduceEqDiff, Int.reduceLT, Int.reduceBEq, Int.reduceBNe, Nat.reduceBEq, List.append_nil, Int.toNat_zero, Nat.sub_self, frS, e3]
    refine wcall_slice (refWordC F n.natAbs (by omega)) rfl rfl ?_
    intro r hs
    have hgs := hs
    obtain ⟨a3, c3, z3, r3, x3, rfl, _⟩ := hs
    simp -implicitDefEqProofs only [evr, id, reduceCtorEq, reduceIte, Nat.reduceMul, Nat.reduceAdd, Nat.reduceLT, Nat.reduceLeDiff, Nat.reduceEqDiff, Int.reduceLT, Int.reduceBEq, Int.reduceBNe, Nat.reduceBEq, List.append_nil, Int.toNat_zero, Nat.sub_self, frS]
    (refine hk _ ?_; clear hk k; try show Sat _ _ _ _ _)
    refine Sat.ret ?_
    simp only [Try.results40, evr, id, reduceCtorEq, reduceIte, Nat.reduceMul, Nat.reduceAdd, Nat.reduceLT, Nat.reduceLeDiff, Nat.reduceEqDiff, Int.reduceLT, Int.reduceBEq, Int.reduceBNe, Nat.reduceBEq, List.append_nil, Int.toNat_zero, Nat.sub_self, frS]
    exact hgs
theorem natAbs_pw {n : Int} (h1 : -9223372036854775808 ≤ n) (h2 : n ≤ 9223372036854775807) : ((n.natAbs : Nat) : Int) < pw 256 := by
  exact lt_pw (a := 64) (by omega) (by decide)
set_option maxRecDepth 100000 in
theorem refFromC (F : Frm) (n d : Int) (h1 : -9223372036854775808 ≤ n) (h2 : n ≤ 9223372036854775807) (h3 : -9223372036854775808 ≤ d) (h4 : d ≤ 9223372036854775807) (h0 : d ≠ 0) :
    Contract F Try.prog 18 [.i .i64 n, .i .i64 d] (fun r => ∃ f, r = tupL [f, .i .i64 0] ∧ FrS f ((decide (n < 0) != decide (d < 0)) && decide (0 < n.natAbs)) (n.natAbs / Nat.gcd n.natAbs d.natAbs) (d.natAbs / Nat.gcd n.natAbs d.natAbs)) := by
  refine contract_of Try.func18 rfl (by kernel_rfl) ?_
  simp only [Try.ntmps18, argEnv]
  (repeat refine Sat.seq ?_)
  (refine Sat.region_k fun k hk => ?_; simp -implicitDefEqProofs only [evr, id, reduceCtorEq, reduceIte, Nat.reduceMul, Nat.reduceAdd, Nat.reduceLT, Nat.reduceLeDiff, Nat.reduceEqDiff, Int.reduceLT, Int.reduceBEq, Int.reduceBNe, Nat.reduceBEq, List.append_nil, Int.toNat_zero, Nat.sub_self, frS])
  intro b4
  (refine hk _ ?_; clear hk k; try show Sat _ _ _ _ _)
  (repeat refine Sat.seq ?_)
  (refine Sat.region_k fun k hk => ?_; simp -implicitDefEqProofs only [evr, id, reduceCtorEq, reduceIte, Nat.reduceMul, Nat.reduceAdd, Nat.reduceLT, Nat.reduceLeDiff, Nat.reduceEqDiff, Int.reduceLT, Int.reduceBEq, Int.reduceBNe, Nat.reduceBEq, List.append_nil, Int.toNat_zero, Nat.sub_self, frS]; refine hk _ ?_; clear hk k; try show Sat _ _ _ _ _)
  refine Sat.cond_b rfl (fun h => absurd (by simpa using h) h0) (fun h => ?_)
  refine Sat.skip ?_
  simp only [thenK]
  (repeat refine Sat.seq ?_)
  (refine Sat.region_k fun k hk => ?_; simp -implicitDefEqProofs only [evr, id, reduceCtorEq, reduceIte, Nat.reduceMul, Nat.reduceAdd, Nat.reduceLT, Nat.reduceLeDiff, Nat.reduceEqDiff, Int.reduceLT, Int.reduceBEq, Int.reduceBNe, Nat.reduceBEq, List.append_nil, Int.toNat_zero, Nat.sub_self, frS])
  refine wcall_slice (refMagnitudeC F n h1 h2) rfl rfl ?_
  intro r hs
  have hgs := hs
  obtain ⟨a3, c3, z3, r3, x3, rfl, _⟩ := hs
  simp -implicitDefEqProofs only [evr, id, reduceCtorEq, reduceIte, Nat.reduceMul, Nat.reduceAdd, Nat.reduceLT, Nat.reduceLeDiff, Nat.reduceEqDiff, Int.reduceLT, Int.reduceBEq, Int.reduceBNe, Nat.reduceBEq, List.append_nil, Int.toNat_zero, Nat.sub_self, frS]
  refine wcall_slice (refMagnitudeC F d h3 h4) rfl rfl ?_
  intro r hs
  have hgs2 := hs
  obtain ⟨a5, c5, z5, r5, x5, rfl, _⟩ := hs
  simp -implicitDefEqProofs only [evr, id, reduceCtorEq, reduceIte, Nat.reduceMul, Nat.reduceAdd, Nat.reduceLT, Nat.reduceLeDiff, Nat.reduceEqDiff, Int.reduceLT, Int.reduceBEq, Int.reduceBNe, Nat.reduceBEq, List.append_nil, Int.toNat_zero, Nat.sub_self, frS]
  refine wcall_slice (refReducedC F (decide (n < 0) != decide (d < 0)) hgs hgs2 (natAbs_pw h1 h2) (natAbs_pw h3 h4) (by omega)) rfl rfl ?_
  rintro r ⟨sp, sq, rfl, hp, hq⟩
  have hp' := hp
  have hq' := hq
  obtain ⟨a6, c6, z6, r6, x6, rfl, _⟩ := hp
  obtain ⟨a7, c7, z7, r7, x7, rfl, _⟩ := hq
  simp -implicitDefEqProofs only [evr, id, reduceCtorEq, reduceIte, Nat.reduceMul, Nat.reduceAdd, Nat.reduceLT, Nat.reduceLeDiff, Nat.reduceEqDiff, Int.reduceLT, Int.reduceBEq, Int.reduceBNe, Nat.reduceBEq, List.append_nil, Int.toNat_zero, Nat.sub_self, frS]
  (refine hk _ ?_; clear hk k; try show Sat _ _ _ _ _)
  refine Sat.ret ?_
  simp only [Try.results18, evr, id, reduceCtorEq, reduceIte, Nat.reduceMul, Nat.reduceAdd, Nat.reduceLT, Nat.reduceLeDiff, Nat.reduceEqDiff, Int.reduceLT, Int.reduceBEq, Int.reduceBNe, Nat.reduceBEq, List.append_nil, Int.toNat_zero, Nat.sub_self, frS]
  exact ⟨_, rfl, _, _, rfl, hp', hq'⟩
end Go.Proofs.Ytagmohpafjncfaa

/- The digits of a number, as bytes. -/
set_option linter.unusedSimpArgs false
set_option linter.unusedVariables false
namespace Go.Proofs.Ytagmohpafjncfaa
open Eng
def decB (n : Nat) : ByteArray := if h : n < 10 then bytesOf [48 + (n : Int)] else decB (n / 10) ++ bytesOf [48 + ((n % 10 : Nat) : Int)]
theorem decB_small {n : Nat} (h : n < 10) : decB n = bytesOf [48 + (n : Int)] := by rw [decB, dif_pos h]
theorem decB_big {n : Nat} (h : ¬ n < 10) : decB n = decB (n / 10) ++ bytesOf [48 + ((n % 10 : Nat) : Int)] := by rw [decB, dif_neg h]
theorem bytesOf_one (z : Int) : (bytesOf [z]).size = 1 := rfl
theorem decB_size : ∀ (k n : Nat), n < 10 ^ (k + 1) → (decB n).size ≤ k + 1 ∧ 1 ≤ (decB n).size
  | 0, n, h => by
    rw [decB_small (by simpa using h), bytesOf_one]
    exact ⟨Nat.le_refl _, Nat.le_refl _⟩
  | k + 1, n, h => by
    by_cases h9 : n < 10
    · rw [decB_small h9, bytesOf_one]; omega
    · rw [decB_big h9, ByteArray.size_append, bytesOf_one]
      have := decB_size k (n / 10) (by
        rw [Nat.pow_succ] at h
        exact Nat.div_lt_of_lt_mul (by omega))
      omega
theorem byteAt_app (a b : ByteArray) (h : 0 < a.size) : byteAt (a ++ b) 0 = byteAt a 0 := by
  unfold byteAt
  have h2 : 0 < (a ++ b).size := by rw [ByteArray.size_append]; omega
  rw [getElem?_pos (a ++ b) 0 h2, getElem?_pos a 0 h, ByteArray.getElem_append_left h]
theorem decB_first : ∀ (n : Nat), 0 < n → byteAt (decB n) 0 ≠ 48 := by
  intro n
  induction n using Nat.strongRecOn with
  | ind n ih =>
  intro h0
  by_cases h : n < 10
  · rw [decB_small h]
    have : n = 1 ∨ n = 2 ∨ n = 3 ∨ n = 4 ∨ n = 5 ∨ n = 6 ∨ n = 7 ∨ n = 8 ∨ n = 9 := by omega
    rcases this with rfl | rfl | rfl | rfl | rfl | rfl | rfl | rfl | rfl <;> decide
  · rw [decB_big h, byteAt_app _ _ (by have := (decB_size n (n / 10) (Nat.lt_of_le_of_lt (Nat.div_le_self _ _) (Nat.lt_trans (Nat.lt_succ_self n) (Nat.lt_pow_self (by decide))))).2; omega)]
    exact ih (n / 10) (by omega) (by omega)
theorem app_empty (a : ByteArray) : a ++ ByteArray.empty = a := by simp
end Go.Proofs.Ytagmohpafjncfaa

/- The reference's texts of small numbers, by the evaluator: Decimal, Text of one limb, and of a fraction. -/
set_option linter.unusedSimpArgs false
set_option linter.unusedVariables false
namespace Go.Proofs.Ytagmohpafjncfaa
open Eng Lmb Go.RowKit
set_option maxRecDepth 100000 in
theorem refDecimalC (F : Frm) : ∀ (n : Nat), n < 9223372036854775808 → Contract F Try.prog 73 [.i .i64 n] (fun r => r = .v (.string (decB n))) := by
  intro n
  induction n using Nat.strongRecOn with
  | ind n ih =>
  intro hn
  refine contract_of Try.func73 rfl (by kernel_rfl) ?_
  simp only [Try.ntmps73, argEnv]
  have e1 : ((n : Int)).tmod 10 = ((n % 10 : Nat) : Int) := by rw [Int.tmod_eq_emod_of_nonneg (by omega)]; omega
  have e2 : IntKind.i64.wrap (48 + ((n % 10 : Nat) : Int)) = 48 + ((n % 10 : Nat) : Int) := w64 (by omega)
  have hw : ∀ z : Int, IntKind.u8.wrap z = z % 256 := fun z => by unfold IntKind.wrap; simp [IntKind.bits, IntKind.signed]
  have e3 : IntKind.u8.wrap (48 + ((n % 10 : Nat) : Int)) = 48 + ((n % 10 : Nat) : Int) := by rw [hw]; omega
  have e4 : IntKind.i64.wrap (((n : Int)).tdiv 10) = ((n / 10 : Nat) : Int) := by rw [Int.tdiv_eq_ediv_of_nonneg (by omega), w64 (by omega)]; omega
  (repeat refine Sat.seq ?_)
  (refine Sat.region_k fun k hk => ?_; simp -implicitDefEqProofs only [evr, id, reduceCtorEq, reduceIte, Nat.reduceMul, Nat.reduceAdd, Nat.reduceLT, Nat.reduceLeDiff, Nat.reduceEqDiff, Int.reduceLT, Int.reduceBEq, Int.reduceBNe, Nat.reduceBEq, List.append_nil, Int.toNat_zero, Nat.sub_self, frS]; refine hk _ ?_; clear hk k; try show Sat _ _ _ _ _)
  (repeat refine Sat.seq ?_)
  refine Sat.region_k fun k hk => ?_
  simp -implicitDefEqProofs only [evr, id, reduceCtorEq, reduceIte, Nat.reduceMul, Nat.reduceAdd, Nat.reduceLT, Nat.reduceLeDiff, Nat.reduceEqDiff, Int.reduceLT, Int.reduceBEq, Int.reduceBNe, Nat.reduceBEq, List.append_nil, Int.toNat_zero, Nat.sub_self, frS, e1, e2, e3]
  refine ⟨by decide, fun blk => ?_⟩
  refine ⟨fun i hi => by obtain rfl : i = 0 := by omega
                         exact ⟨_, rfl⟩, ?_⟩
  have e5 : Eng.intOf (rdL [SV.i .u8 (48 + ((n % 10 : Nat) : Int))] 1 0 0) = 48 + ((n % 10 : Nat) : Int) := rfl
  rw [e5]
  (refine hk _ ?_; clear hk k; try show Sat _ _ _ _ _)
  (repeat refine Sat.seq ?_)
  (refine Sat.region_k fun k hk => ?_; simp -implicitDefEqProofs only [evr, id, reduceCtorEq, reduceIte, Nat.reduceMul, Nat.reduceAdd, Nat.reduceLT, Nat.reduceLeDiff, Nat.reduceEqDiff, Int.reduceLT, Int.reduceBEq, Int.reduceBNe, Nat.reduceBEq, List.append_nil, Int.toNat_zero, Nat.sub_self, frS]; refine hk _ ?_; clear hk k; try show Sat _ _ _ _ _)
  refine Sat.cond_b rfl (fun h => ?_) (fun h => ?_)
  · have h10 : ¬ n < 10 := by have := of_decide_eq_true h; omega
    have hsz := decB_size 18 (n / 10) (by omega)
    (repeat refine Sat.seq ?_)
    refine Sat.region_k fun k hk => ?_
    simp -implicitDefEqProofs only [evr, id, reduceCtorEq, reduceIte, Nat.reduceMul, Nat.reduceAdd, Nat.reduceLT, Nat.reduceLeDiff, Nat.reduceEqDiff, Int.reduceLT, Int.reduceBEq, Int.reduceBNe, Nat.reduceBEq, List.append_nil, Int.toNat_zero, Nat.sub_self, frS, e4]
    refine ⟨by decide, ?_⟩
    refine wcall_plain (ih (n / 10) (by omega) (by omega)) rfl (by rintro _ rfl; exact ok_plain rfl) ?_
    rintro r rfl
    simp -implicitDefEqProofs only [evr, id, reduceCtorEq, reduceIte, Nat.reduceMul, Nat.reduceAdd, Nat.reduceLT, Nat.reduceLeDiff, Nat.reduceEqDiff, Int.reduceLT, Int.reduceBEq, Int.reduceBNe, Nat.reduceBEq, List.append_nil, Int.toNat_zero, Nat.sub_self, frS]
    rw [bytesOf_one, if_pos (by show _ ≤ (9223372036854775807 : Int); omega)]
    simp -implicitDefEqProofs only [evr, id, reduceCtorEq, reduceIte, Nat.reduceMul, Nat.reduceAdd, Nat.reduceLT, Nat.reduceLeDiff, Nat.reduceEqDiff, Int.reduceLT, Int.reduceBEq, Int.reduceBNe, Nat.reduceBEq, List.append_nil, Int.toNat_zero, Nat.sub_self, frS]
    (refine hk _ ?_; clear hk k; try show Sat _ _ _ _ _)
    refine Sat.ret ?_
    simp only [Try.results73, evr, id, reduceCtorEq, reduceIte, Nat.reduceMul, Nat.reduceAdd, Nat.reduceLT, Nat.reduceLeDiff, Nat.reduceEqDiff, Int.reduceLT, Int.reduceBEq, Int.reduceBNe, Nat.reduceBEq, List.append_nil, Int.toNat_zero, Nat.sub_self, frS]
    rw [decB_big h10]
  · have h10 : n < 10 := by have := of_decide_eq_false h; omega
    refine Sat.skip ?_
    simp only [thenK]
    (repeat refine Sat.seq ?_)
    (refine Sat.region_k fun k hk => ?_; simp -implicitDefEqProofs only [evr, id, reduceCtorEq, reduceIte, Nat.reduceMul, Nat.reduceAdd, Nat.reduceLT, Nat.reduceLeDiff, Nat.reduceEqDiff, Int.reduceLT, Int.reduceBEq, Int.reduceBNe, Nat.reduceBEq, List.append_nil, Int.toNat_zero, Nat.sub_self, frS]; refine hk _ ?_; clear hk k; try show Sat _ _ _ _ _)
    refine Sat.ret ?_
    simp only [Try.results73, evr, id, reduceCtorEq, reduceIte, Nat.reduceMul, Nat.reduceAdd, Nat.reduceLT, Nat.reduceLeDiff, Nat.reduceEqDiff, Int.reduceLT, Int.reduceBEq, Int.reduceBNe, Nat.reduceBEq, List.append_nil, Int.toNat_zero, Nat.sub_self, frS]
    rw [decB_small h10, Nat.mod_eq_of_lt h10]
set_option maxRecDepth 100000 in
theorem refText1C (F : Frm) {s : SV} {n : Nat} (hs : Nats s n) (hn : n < 1073741824) : Contract F Try.prog 55 [s] (fun r => r = .v (.string (decB n))) := by
  obtain ⟨xs, hi1, d1⟩ := hs.ints
  have hlim := hi1
  have l1 := (d1.len_le 1).2 (by rw [pw_succ, pw_zero]; omega)
  obtain ⟨a1, c1, z1, r1, rfl, hz1, hr1⟩ := hi1
  refine contract_of Try.func55 rfl (by kernel_rfl) ?_
  simp only [Try.ntmps55, argEnv]
  have hx : xs.getD 0 0 = (n : Int) := by
    have hv := d1.val
    cases xs with
    | nil => rw [val_nil] at hv; rw [← hv]; rfl
    | cons x t =>
      have : t = [] := by
        cases t with
        | nil => rfl
        | cons y t => simp at l1
      subst this
      simpa [val_cons, val_nil] using hv
  have hl0 : ((xs.length : Int) == 0) = decide (n = 0) := by
    have := hs.len0
    exact this
  (repeat refine Sat.seq ?_)
  (refine Sat.region_k fun k hk => ?_; simp -implicitDefEqProofs only [evr, id, reduceCtorEq, reduceIte, Nat.reduceMul, Nat.reduceAdd, Nat.reduceLT, Nat.reduceLeDiff, Nat.reduceEqDiff, Int.reduceLT, Int.reduceBEq, Int.reduceBNe, Nat.reduceBEq, List.append_nil, Int.toNat_zero, Nat.sub_self, frS]; refine hk _ ?_; clear hk k; try show Sat _ _ _ _ _)
  (repeat refine Sat.seq ?_)
  (refine Sat.region_k fun k hk => ?_; simp -implicitDefEqProofs only [evr, id, reduceCtorEq, reduceIte, Nat.reduceMul, Nat.reduceAdd, Nat.reduceLT, Nat.reduceLeDiff, Nat.reduceEqDiff, Int.reduceLT, Int.reduceBEq, Int.reduceBNe, Nat.reduceBEq, List.append_nil, Int.toNat_zero, Nat.sub_self, frS]; refine hk _ ?_; clear hk k; try show Sat _ _ _ _ _)
  (repeat refine Sat.seq ?_)
  refine Sat.block ?_
  refine Sat.loop (ι := Unit) (fun _ => ⟨73, [(0, .sl a1 xs.length c1 z1 r1), (3, .v (.string ByteArray.empty))], []⟩) (fun _ => True) (fun _ => 0) () trivial (by simp -implicitDefEqProofs only [evr, id, reduceCtorEq, reduceIte, Nat.reduceMul, Nat.reduceAdd, Nat.reduceLT, Nat.reduceLeDiff, Nat.reduceEqDiff, Int.reduceLT, Int.reduceBEq, Int.reduceBNe, Nat.reduceBEq, List.append_nil, Int.toNat_zero, Nat.sub_self, frS, evl]; try rfl) ?_
  rintro _ _
  (repeat refine Sat.seq ?_)
  (refine Sat.region_k fun k hk => ?_; simp -implicitDefEqProofs only [evr, id, reduceCtorEq, reduceIte, Nat.reduceMul, Nat.reduceAdd, Nat.reduceLT, Nat.reduceLeDiff, Nat.reduceEqDiff, Int.reduceLT, Int.reduceBEq, Int.reduceBNe, Nat.reduceBEq, List.append_nil, Int.toNat_zero, Nat.sub_self, frS]; refine hk _ ?_; clear hk k; try show Sat _ _ _ _ _)
  (repeat refine Sat.seq ?_)
  refine Sat.cond_b rfl (fun h => ?_) (fun h => ?_)
  · have := of_decide_eq_true h; omega
  refine Sat.exit ?_
  simp only [thenK, blockK, reduceIte]
  (repeat refine Sat.seq ?_)
  (refine Sat.region_k fun k hk => ?_; simp -implicitDefEqProofs only [evr, id, reduceCtorEq, reduceIte, Nat.reduceMul, Nat.reduceAdd, Nat.reduceLT, Nat.reduceLeDiff, Nat.reduceEqDiff, Int.reduceLT, Int.reduceBEq, Int.reduceBNe, Nat.reduceBEq, List.append_nil, Int.toNat_zero, Nat.sub_self, frS])
  refine wcall_plain (refLimbC F hlim 0) rfl (by rintro _ rfl; exact ok_plain rfl) ?_
  rintro r rfl
  simp -implicitDefEqProofs only [evr, id, reduceCtorEq, reduceIte, Nat.reduceMul, Nat.reduceAdd, Nat.reduceLT, Nat.reduceLeDiff, Nat.reduceEqDiff, Int.reduceLT, Int.reduceBEq, Int.reduceBNe, Nat.reduceBEq, List.append_nil, Int.toNat_zero, Nat.sub_self, frS, hx]
  refine wcall_plain (refDecimalC F n (by omega)) rfl (by rintro _ rfl; exact ok_plain rfl) ?_
  rintro r rfl
  simp -implicitDefEqProofs only [evr, id, reduceCtorEq, reduceIte, Nat.reduceMul, Nat.reduceAdd, Nat.reduceLT, Nat.reduceLeDiff, Nat.reduceEqDiff, Int.reduceLT, Int.reduceBEq, Int.reduceBNe, Nat.reduceBEq, List.append_nil, Int.toNat_zero, Nat.sub_self, frS]
  (refine hk _ ?_; clear hk k; try show Sat _ _ _ _ _)
  (repeat refine Sat.seq ?_)
  refine Sat.region_at ⟨73, [(58, .b false), (9, .v (.string (decB n))), (0, .sl a1 xs.length c1 z1 r1), (3, .v (.string ByteArray.empty))], []⟩ (fun k hk => ?_) ?_
  · simp -implicitDefEqProofs only [evr, id, reduceCtorEq, reduceIte, Nat.reduceMul, Nat.reduceAdd, Nat.reduceLT, Nat.reduceLeDiff, Nat.reduceEqDiff, Int.reduceLT, Int.reduceBEq, Int.reduceBNe, Nat.reduceBEq, List.append_nil, Int.toNat_zero, Nat.sub_self, frS]
    have he : (!ByteArray.empty.toList == ByteArray.empty.toList) = false := by simp
    refine ⟨fun h => ?_, fun h => ?_⟩
    · refine hk _ ?_
      simp -implicitDefEqProofs only [evr, id, reduceCtorEq, reduceIte, Nat.reduceMul, Nat.reduceAdd, Nat.reduceLT, Nat.reduceLeDiff, Nat.reduceEqDiff, Int.reduceLT, Int.reduceBEq, Int.reduceBNe, Nat.reduceBEq, List.append_nil, Int.toNat_zero, Nat.sub_self, frS, evl]
      exact .inl he
    · refine hk _ ?_
      rw [h]
      simp -implicitDefEqProofs only [evr, id, reduceCtorEq, reduceIte, Nat.reduceMul, Nat.reduceAdd, Nat.reduceLT, Nat.reduceLeDiff, Nat.reduceEqDiff, Int.reduceLT, Int.reduceBEq, Int.reduceBNe, Nat.reduceBEq, List.append_nil, Int.toNat_zero, Nat.sub_self, frS, evl]
      try rfl
  simp only [thenK]
  refine Sat.cond_b rfl (fun h => by cases h) (fun h => ?_)
  refine Sat.skip ?_
  simp only [thenK]
  have hsz := decB_size 18 n (by omega)
  (repeat refine Sat.seq ?_)
  refine Sat.region_k fun k hk => ?_
  simp -implicitDefEqProofs only [evr, id, reduceCtorEq, reduceIte, Nat.reduceMul, Nat.reduceAdd, Nat.reduceLT, Nat.reduceLeDiff, Nat.reduceEqDiff, Int.reduceLT, Int.reduceBEq, Int.reduceBNe, Nat.reduceBEq, List.append_nil, Int.toNat_zero, Nat.sub_self, frS]
  rw [if_pos (by show ((_ + 0 : Nat) : Int) ≤ (9223372036854775807 : Int); omega), app_empty]
  simp -implicitDefEqProofs only [evr, id, reduceCtorEq, reduceIte, Nat.reduceMul, Nat.reduceAdd, Nat.reduceLT, Nat.reduceLeDiff, Nat.reduceEqDiff, Int.reduceLT, Int.reduceBEq, Int.reduceBNe, Nat.reduceBEq, List.append_nil, Int.toNat_zero, Nat.sub_self, frS]
  (refine hk _ ?_; clear hk k; try show Sat _ _ _ _ _)
  (repeat refine Sat.seq ?_)
  refine Sat.block ?_
  (repeat refine Sat.seq ?_)
  refine Sat.loop (ι := Unit) (fun _ => ⟨73, [(3, .v (.string (decB n)))], []⟩) (fun _ => True) (fun _ => 0) () trivial (by simp -implicitDefEqProofs only [evr, id, reduceCtorEq, reduceIte, Nat.reduceMul, Nat.reduceAdd, Nat.reduceLT, Nat.reduceLeDiff, Nat.reduceEqDiff, Int.reduceLT, Int.reduceBEq, Int.reduceBNe, Nat.reduceBEq, List.append_nil, Int.toNat_zero, Nat.sub_self, frS, evl]; try rfl) ?_
  rintro _ _
  (repeat refine Sat.seq ?_)
  refine Sat.region_at ⟨73, [(69, .b false), (3, .v (.string (decB n)))], []⟩ (fun k hk => ?_) ?_
  · simp -implicitDefEqProofs only [evr, id, reduceCtorEq, reduceIte, Nat.reduceMul, Nat.reduceAdd, Nat.reduceLT, Nat.reduceLeDiff, Nat.reduceEqDiff, Int.reduceLT, Int.reduceBEq, Int.reduceBNe, Nat.reduceBEq, List.append_nil, Int.toNat_zero, Nat.sub_self, frS]
    refine ⟨fun h => ?_, fun h => ?_⟩
    · have h0 : 0 < n := by
        rcases Nat.eq_zero_or_pos n with h9 | h9
        · subst h9
          rw [decB_small (by omega), bytesOf_one] at h
          omega
        · exact h9
      have hf : (byteAt (decB n) 0 == 48) = false := by
        rw [beq_eq_false_iff_ne]
        exact decB_first n h0
      refine ⟨by omega, ?_⟩
      refine hk _ ?_
      rw [hf]
      simp -implicitDefEqProofs only [evr, id, reduceCtorEq, reduceIte, Nat.reduceMul, Nat.reduceAdd, Nat.reduceLT, Nat.reduceLeDiff, Nat.reduceEqDiff, Int.reduceLT, Int.reduceBEq, Int.reduceBNe, Nat.reduceBEq, List.append_nil, Int.toNat_zero, Nat.sub_self, frS, evl]
      try rfl
    · refine hk _ ?_
      rw [decide_eq_false h]
      simp -implicitDefEqProofs only [evr, id, reduceCtorEq, reduceIte, Nat.reduceMul, Nat.reduceAdd, Nat.reduceLT, Nat.reduceLeDiff, Nat.reduceEqDiff, Int.reduceLT, Int.reduceBEq, Int.reduceBNe, Nat.reduceBEq, List.append_nil, Int.toNat_zero, Nat.sub_self, frS, evl]
      try rfl
  simp only [thenK]
  refine Sat.cond_b rfl (fun h => by cases h) (fun h => ?_)
  refine Sat.exit ?_
  simp only [thenK, blockK, reduceIte]
  (repeat refine Sat.seq ?_)
  (refine Sat.region_k fun k hk => ?_; simp -implicitDefEqProofs only [evr, id, reduceCtorEq, reduceIte, Nat.reduceMul, Nat.reduceAdd, Nat.reduceLT, Nat.reduceLeDiff, Nat.reduceEqDiff, Int.reduceLT, Int.reduceBEq, Int.reduceBNe, Nat.reduceBEq, List.append_nil, Int.toNat_zero, Nat.sub_self, frS]; refine hk _ ?_; clear hk k; try show Sat _ _ _ _ _)
  refine Sat.ret ?_
  simp only [Try.results55, evr, id, reduceCtorEq, reduceIte, Nat.reduceMul, Nat.reduceAdd, Nat.reduceLT, Nat.reduceLeDiff, Nat.reduceEqDiff, Int.reduceLT, Int.reduceBEq, Int.reduceBNe, Nat.reduceBEq, List.append_nil, Int.toNat_zero, Nat.sub_self, frS]
def frB (p q : Nat) : ByteArray := decB p ++ (bytesOf [47] ++ decB q)
set_option maxRecDepth 100000 in
theorem refText3C (F : Frm) {sp sq : SV} {p q : Nat} (hp : Nats sp p) (hq : Nats sq q) (h1 : p < 1073741824) (h2 : q < 1073741824) (h0 : 1 < q) (hg : Nat.gcd p q = 1) : Contract F Try.prog 28 [frS false sp sq] (fun r => r = .v (.string (frB p q))) := by
  have hp' := hp
  have hq' := hq
  obtain ⟨a1, c1, z1, r1, x1, rfl, _⟩ := hp
  obtain ⟨a2, c2, z2, r2, x2, rfl, _⟩ := hq
  refine contract_of Try.func28 rfl (by kernel_rfl) ?_
  simp only [Try.ntmps28, argEnv, frS]
  (repeat refine Sat.seq ?_)
  (refine Sat.region_k fun k hk => ?_; simp -implicitDefEqProofs only [evr, id, reduceCtorEq, reduceIte, Nat.reduceMul, Nat.reduceAdd, Nat.reduceLT, Nat.reduceLeDiff, Nat.reduceEqDiff, Int.reduceLT, Int.reduceBEq, Int.reduceBNe, Nat.reduceBEq, List.append_nil, Int.toNat_zero, Nat.sub_self, frS])
  intro b1
  (refine hk _ ?_; clear hk k; try show Sat _ _ _ _ _)
  (repeat refine Sat.seq ?_)
  (refine Sat.region_k fun k hk => ?_; simp -implicitDefEqProofs only [evr, id, reduceCtorEq, reduceIte, Nat.reduceMul, Nat.reduceAdd, Nat.reduceLT, Nat.reduceLeDiff, Nat.reduceEqDiff, Int.reduceLT, Int.reduceBEq, Int.reduceBNe, Nat.reduceBEq, List.append_nil, Int.toNat_zero, Nat.sub_self, frS])
  refine wcall_slice (refReduceC F false hp' hq' (lt_pw (a := 30) (Nat.le_of_lt h1) (by decide)) (lt_pw (a := 30) (Nat.le_of_lt h2) (by decide)) (by omega)) rfl (by simp only [frS, evr, id, reduceCtorEq, reduceIte, Nat.reduceMul, Nat.reduceAdd, Nat.reduceLT, Nat.reduceLeDiff, Nat.reduceEqDiff, Int.reduceLT, Int.reduceBEq, Int.reduceBNe, Nat.reduceBEq, List.append_nil, Int.toNat_zero, Nat.sub_self, frS]; try rfl) ?_
  rintro r ⟨sp3, sq3, rfl, h3, h4⟩
  rw [hg, Nat.div_one] at h3 h4
  have h3' := h3
  have h4' := h4
  obtain ⟨xs4, hi4, d4⟩ := h4.ints
  have hl1 := (d4.len_le 1).2 (by rw [pw_succ, pw_zero]; omega)
  have hl0 : 0 < xs4.length := by
    have := d4.len_zero
    omega
  have hx : xs4.getD 0 0 = (q : Int) := by
    have hv := d4.val
    cases xs4 with
    | nil => simp at hl0
    | cons x t =>
      have : t = [] := by
        cases t with
        | nil => rfl
        | cons y t => simp at hl1
      subst this
      simpa [val_cons, val_nil] using hv
  obtain ⟨a3, c3, z3, r3, x3, rfl, _⟩ := h3
  obtain ⟨a4, c4, z4, r4, rfl, hz4, hr4⟩ := hi4
  have hsz : z4 = 1 := by
    rcases hz4 with hz | hz
    · omega
    · exact hz
  subst hsz
  have hg4 := hr4 0 hl0
  simp only [frS, evr, id, reduceCtorEq, reduceIte, Nat.reduceMul, Nat.reduceAdd, Nat.reduceLT, Nat.reduceLeDiff, Nat.reduceEqDiff, Int.reduceLT, Int.reduceBEq, Int.reduceBNe, Nat.reduceBEq, List.append_nil, Int.toNat_zero, Nat.sub_self, frS, Bool.false_and]
  (refine hk _ ?_; clear hk k; try show Sat _ _ _ _ _)
  (repeat refine Sat.seq ?_)
  (refine Sat.region_k fun k hk => ?_; simp -implicitDefEqProofs only [evr, id, reduceCtorEq, reduceIte, Nat.reduceMul, Nat.reduceAdd, Nat.reduceLT, Nat.reduceLeDiff, Nat.reduceEqDiff, Int.reduceLT, Int.reduceBEq, Int.reduceBNe, Nat.reduceBEq, List.append_nil, Int.toNat_zero, Nat.sub_self, frS])
  refine wcall_plain (refText1C F h3' h1) (by simp -implicitDefEqProofs only [evr, id, reduceCtorEq, reduceIte, Nat.reduceMul, Nat.reduceAdd, Nat.reduceLT, Nat.reduceLeDiff, Nat.reduceEqDiff, Int.reduceLT, Int.reduceBEq, Int.reduceBNe, Nat.reduceBEq, List.append_nil, Int.toNat_zero, Nat.sub_self, frS]; try rfl) (by rintro _ rfl; exact ok_plain rfl) ?_
  rintro r rfl
  simp -implicitDefEqProofs only [evr, id, reduceCtorEq, reduceIte, Nat.reduceMul, Nat.reduceAdd, Nat.reduceLT, Nat.reduceLeDiff, Nat.reduceEqDiff, Int.reduceLT, Int.reduceBEq, Int.reduceBNe, Nat.reduceBEq, List.append_nil, Int.toNat_zero, Nat.sub_self, frS]
  (refine hk _ ?_; clear hk k; try show Sat _ _ _ _ _)
  (repeat refine Sat.seq ?_)
  (refine Sat.region_k fun k hk => ?_; simp -implicitDefEqProofs only [evr, id, reduceCtorEq, reduceIte, Nat.reduceMul, Nat.reduceAdd, Nat.reduceLT, Nat.reduceLeDiff, Nat.reduceEqDiff, Int.reduceLT, Int.reduceBEq, Int.reduceBNe, Nat.reduceBEq, List.append_nil, Int.toNat_zero, Nat.sub_self, frS]; refine hk _ ?_; clear hk k; try show Sat _ _ _ _ _)
  refine Sat.cond_b rfl (fun h => by cases h) (fun h => ?_)
  refine Sat.skip ?_
  simp only [thenK]
  (repeat refine Sat.seq ?_)
  refine Sat.region_at ⟨31, [(23, .b true), (3, .v (.string (decB p))), (1, .op 0 b1 0)], [.box b1 30 [.b false, .sl a3 x3.length c3 z3 r3, .sl a4 xs4.length c4 1 r4]]⟩ (fun k hk => ?_) ?_
  · simp -implicitDefEqProofs only [evr, id, reduceCtorEq, reduceIte, Nat.reduceMul, Nat.reduceAdd, Nat.reduceLT, Nat.reduceLeDiff, Nat.reduceEqDiff, Int.reduceLT, Int.reduceBEq, Int.reduceBNe, Nat.reduceBEq, List.append_nil, Int.toNat_zero, Nat.sub_self, frS]
    refine ⟨fun h => by omega, fun h => ?_⟩
    refine ⟨by omega, ?_⟩
    rw [hg4, hx]
    simp -implicitDefEqProofs only [evr, id, reduceCtorEq, reduceIte, Nat.reduceMul, Nat.reduceAdd, Nat.reduceLT, Nat.reduceLeDiff, Nat.reduceEqDiff, Int.reduceLT, Int.reduceBEq, Int.reduceBNe, Nat.reduceBEq, List.append_nil, Int.toNat_zero, Nat.sub_self, frS]
    refine hk _ ?_
    have e : (((q : Nat) : Int) != 1) = true := by rw [bne_iff_ne]; omega
    rw [e]
    simp -implicitDefEqProofs only [evr, id, reduceCtorEq, reduceIte, Nat.reduceMul, Nat.reduceAdd, Nat.reduceLT, Nat.reduceLeDiff, Nat.reduceEqDiff, Int.reduceLT, Int.reduceBEq, Int.reduceBNe, Nat.reduceBEq, List.append_nil, Int.toNat_zero, Nat.sub_self, frS, evl]
    try rfl
  simp only [thenK]
  refine Sat.cond_b rfl (fun h => ?_) (fun h => by cases h)
  have s1 := decB_size 18 p (by omega)
  have s2 := decB_size 18 q (by omega)
  (repeat refine Sat.seq ?_)
  (refine Sat.region_k fun k hk => ?_; simp -implicitDefEqProofs only [evr, id, reduceCtorEq, reduceIte, Nat.reduceMul, Nat.reduceAdd, Nat.reduceLT, Nat.reduceLeDiff, Nat.reduceEqDiff, Int.reduceLT, Int.reduceBEq, Int.reduceBNe, Nat.reduceBEq, List.append_nil, Int.toNat_zero, Nat.sub_self, frS])
  refine wcall_plain (refText1C F h4' h2) (by simp -implicitDefEqProofs only [evr, id, reduceCtorEq, reduceIte, Nat.reduceMul, Nat.reduceAdd, Nat.reduceLT, Nat.reduceLeDiff, Nat.reduceEqDiff, Int.reduceLT, Int.reduceBEq, Int.reduceBNe, Nat.reduceBEq, List.append_nil, Int.toNat_zero, Nat.sub_self, frS]; try rfl) (by rintro _ rfl; exact ok_plain rfl) ?_
  rintro r rfl
  simp -implicitDefEqProofs only [evr, id, reduceCtorEq, reduceIte, Nat.reduceMul, Nat.reduceAdd, Nat.reduceLT, Nat.reduceLeDiff, Nat.reduceEqDiff, Int.reduceLT, Int.reduceBEq, Int.reduceBNe, Nat.reduceBEq, List.append_nil, Int.toNat_zero, Nat.sub_self, frS]
  have e47 : (⟨#[47]⟩ : ByteArray) = bytesOf [47] := rfl
  rw [e47, bytesOf_one, if_pos (by show _ ≤ (9223372036854775807 : Int); omega)]
  simp -implicitDefEqProofs only [evr, id, reduceCtorEq, reduceIte, Nat.reduceMul, Nat.reduceAdd, Nat.reduceLT, Nat.reduceLeDiff, Nat.reduceEqDiff, Int.reduceLT, Int.reduceBEq, Int.reduceBNe, Nat.reduceBEq, List.append_nil, Int.toNat_zero, Nat.sub_self, frS]
  rw [ByteArray.size_append, bytesOf_one, if_pos (by show _ ≤ (9223372036854775807 : Int); omega)]
  simp -implicitDefEqProofs only [evr, id, reduceCtorEq, reduceIte, Nat.reduceMul, Nat.reduceAdd, Nat.reduceLT, Nat.reduceLeDiff, Nat.reduceEqDiff, Int.reduceLT, Int.reduceBEq, Int.reduceBNe, Nat.reduceBEq, List.append_nil, Int.toNat_zero, Nat.sub_self, frS]
  (refine hk _ ?_; clear hk k; try show Sat _ _ _ _ _)
  (repeat refine Sat.seq ?_)
  (refine Sat.region_k fun k hk => ?_; simp -implicitDefEqProofs only [evr, id, reduceCtorEq, reduceIte, Nat.reduceMul, Nat.reduceAdd, Nat.reduceLT, Nat.reduceLeDiff, Nat.reduceEqDiff, Int.reduceLT, Int.reduceBEq, Int.reduceBNe, Nat.reduceBEq, List.append_nil, Int.toNat_zero, Nat.sub_self, frS]; refine hk _ ?_; clear hk k; try show Sat _ _ _ _ _)
  refine Sat.ret ?_
  simp only [Try.results28, evr, id, reduceCtorEq, reduceIte, Nat.reduceMul, Nat.reduceAdd, Nat.reduceLT, Nat.reduceLeDiff, Nat.reduceEqDiff, Int.reduceLT, Int.reduceBEq, Int.reduceBNe, Nat.reduceBEq, List.append_nil, Int.toNat_zero, Nat.sub_self, frS]
  try rfl
end Go.Proofs.Ytagmohpafjncfaa

/- Chapter 23: Alpha, awake. -/
set_option linter.unusedSimpArgs false
set_option linter.unusedVariables false
namespace Go.Proofs.Ytagmohpafjncfaa
open Eng Lmb Go.RowKit
def AlphaP (r : SV) : Prop := ∃ p q, FrS r false p q ∧ 0 < p ∧ p < q ∧ q ≤ 100
theorem alpha_parts {n d : Nat} (h0 : 0 < n) (h1 : n < d) (h2 : d ≤ 100) : 0 < n / Nat.gcd n d ∧ n / Nat.gcd n d < d / Nat.gcd n d ∧ d / Nat.gcd n d ≤ 100 := by
  have hg : 0 < Nat.gcd n d := Nat.gcd_pos_of_pos_left _ h0
  have e1 : n / Nat.gcd n d * Nat.gcd n d = n := Nat.div_mul_cancel (Nat.gcd_dvd_left n d)
  have e2 : d / Nat.gcd n d * Nat.gcd n d = d := Nat.div_mul_cancel (Nat.gcd_dvd_right n d)
  refine ⟨Nat.div_pos (Nat.le_of_dvd h0 (Nat.gcd_dvd_left n d)) hg, ?_, Nat.le_trans (Nat.div_le_self _ _) h2⟩
  refine Nat.lt_of_mul_lt_mul_right (a := Nat.gcd n d) ?_
  rw [e1, e2]
  exact h1
set_option maxRecDepth 100000 in
theorem alphaC (cb : Nat) : Contract (Frm.codes cb) Try.prog 11 [ptr cb] AlphaP := by
  refine contract_of Try.func11 rfl (by kernel_rfl) ?_
  simp only [Try.ntmps11, argEnv]
  (repeat refine Sat.seq ?_)
  (refine Sat.region_k fun k hk => ?_; simp -implicitDefEqProofs only [evr, id, reduceCtorEq, reduceIte, Nat.reduceMul, Nat.reduceAdd, Nat.reduceLT, Nat.reduceLeDiff, Nat.reduceEqDiff, Int.reduceLT, Int.reduceBEq, Int.reduceBNe, Nat.reduceBEq, List.append_nil, Int.toNat_zero, Nat.sub_self, frS, ptr])
  intro b2
  (refine hk _ ?_; clear hk k; try show Sat _ _ _ _ _)
  (repeat refine Sat.seq ?_)
  (refine Sat.region_k fun k hk => ?_; simp -implicitDefEqProofs only [evr, id, reduceCtorEq, reduceIte, Nat.reduceMul, Nat.reduceAdd, Nat.reduceLT, Nat.reduceLeDiff, Nat.reduceEqDiff, Int.reduceLT, Int.reduceBEq, Int.reduceBNe, Nat.reduceBEq, List.append_nil, Int.toNat_zero, Nat.sub_self, frS, ptr])
  refine wcall_plain (nextC cb 60 (by decide) (by decide)) rfl (by rintro _ ⟨x, rfl, _⟩; exact ok_plain rfl) ?_
  rintro r ⟨x, rfl, hx0, hx1⟩
  have hx2 : x < 60 := by omega
  have e1 : IntKind.i64.wrap (2 + x) = 2 + x := w64 (by omega)
  have e2 : IntKind.i64.wrap (2 + x - 1) = 1 + x := by rw [w64 (by omega)]; omega
  simp -implicitDefEqProofs only [evr, id, reduceCtorEq, reduceIte, Nat.reduceMul, Nat.reduceAdd, Nat.reduceLT, Nat.reduceLeDiff, Nat.reduceEqDiff, Int.reduceLT, Int.reduceBEq, Int.reduceBNe, Nat.reduceBEq, List.append_nil, Int.toNat_zero, Nat.sub_self, frS, ptr, e1]
  (refine hk _ ?_; clear hk k; try show Sat _ _ _ _ _)
  (repeat refine Sat.seq ?_)
  refine Sat.region_k fun k hk => ?_
  simp -implicitDefEqProofs only [evr, id, reduceCtorEq, reduceIte, Nat.reduceMul, Nat.reduceAdd, Nat.reduceLT, Nat.reduceLeDiff, Nat.reduceEqDiff, Int.reduceLT, Int.reduceBEq, Int.reduceBNe, Nat.reduceBEq, List.append_nil, Int.toNat_zero, Nat.sub_self, frS, ptr, e2]
  refine wcall_plain (nextC cb (1 + x) (by omega) (by omega)) rfl (by rintro _ ⟨x, rfl, _⟩; exact ok_plain rfl) ?_
  rintro r ⟨y, rfl, hy0, hy1⟩
  have hy2 : y < 1 + x := by omega
  have e3 : IntKind.i64.wrap (1 + y) = 1 + y := w64 (by omega)
  simp -implicitDefEqProofs only [evr, id, reduceCtorEq, reduceIte, Nat.reduceMul, Nat.reduceAdd, Nat.reduceLT, Nat.reduceLeDiff, Nat.reduceEqDiff, Int.reduceLT, Int.reduceBEq, Int.reduceBNe, Nat.reduceBEq, List.append_nil, Int.toNat_zero, Nat.sub_self, frS, ptr, e3]
  refine wcall_slice (refFromC (Frm.codes cb) (1 + y) (2 + x) (by omega) (by omega) (by omega) (by omega) (by omega)) rfl rfl ?_
  rintro r ⟨f, rfl, sp, sq, rfl, hp, hq⟩
  have e4 : ((decide (1 + y < 0) != decide (2 + x < 0)) && decide (0 < (1 + y).natAbs)) = false := by
    rw [decide_eq_false (show ¬ 1 + y < 0 by omega), decide_eq_false (show ¬ 2 + x < 0 by omega)]; rfl
  have hap := alpha_parts (n := (1 + y).natAbs) (d := (2 + x).natAbs) (by omega) (by omega) (by omega)
  have hp' := hp
  have hq' := hq
  obtain ⟨a6, c6, z6, r6, x6, rfl, _⟩ := hp
  obtain ⟨a7, c7, z7, r7, x7, rfl, _⟩ := hq
  simp -implicitDefEqProofs only [evr, id, reduceCtorEq, reduceIte, Nat.reduceMul, Nat.reduceAdd, Nat.reduceLT, Nat.reduceLeDiff, Nat.reduceEqDiff, Int.reduceLT, Int.reduceBEq, Int.reduceBNe, Nat.reduceBEq, List.append_nil, Int.toNat_zero, Nat.sub_self, frS, ptr]
  rw [e4]
  intro b4
  (refine hk _ ?_; clear hk k; try show Sat _ _ _ _ _)
  (repeat refine Sat.seq ?_)
  (refine Sat.region_k fun k hk => ?_; simp -implicitDefEqProofs only [evr, id, reduceCtorEq, reduceIte, Nat.reduceMul, Nat.reduceAdd, Nat.reduceLT, Nat.reduceLeDiff, Nat.reduceEqDiff, Int.reduceLT, Int.reduceBEq, Int.reduceBNe, Nat.reduceBEq, List.append_nil, Int.toNat_zero, Nat.sub_self, frS, ptr])
  (refine hk _ ?_; clear hk k; try show Sat _ _ _ _ _)
  refine Sat.ret ?_
  simp only [Try.results11, evr, id, reduceCtorEq, reduceIte, Nat.reduceMul, Nat.reduceAdd, Nat.reduceLT, Nat.reduceLeDiff, Nat.reduceEqDiff, Int.reduceLT, Int.reduceBEq, Int.reduceBNe, Nat.reduceBEq, List.append_nil, Int.toNat_zero, Nat.sub_self, frS, ptr]
  exact ⟨_, _, ⟨_, _, rfl, hp', hq'⟩, hap⟩
theorem awake_num : misP 6 2 = 1 ∧ misQ 6 2 = 32 := by decide
theorem awake_need : missed 5 2 1 20 ∧ missed 4 2 1 20 ∧ missed 3 2 1 20 ∧ missed 2 2 1 20 ∧ missed 1 2 1 20 ∧ missed 0 2 1 20 ∧ ¬ missed 6 2 1 20 := by unfold missed; decide
set_option maxRecDepth 100000 in
theorem awakeC (F : Frm) : Contract F Try.prog 8 [] (fun r => r = .b true) := by
  refine contract_of Try.func8 rfl (by kernel_rfl) ?_
  simp only [Try.ntmps8, argEnv]
  (repeat refine Sat.seq ?_)
  (refine Sat.region_k fun k hk => ?_; simp -implicitDefEqProofs only [evr, id, reduceCtorEq, reduceIte, Nat.reduceMul, Nat.reduceAdd, Nat.reduceLT, Nat.reduceLeDiff, Nat.reduceEqDiff, Int.reduceLT, Int.reduceBEq, Int.reduceBNe, Nat.reduceBEq, List.append_nil, Int.toNat_zero, Nat.sub_self, frS, ptr]; refine hk _ ?_; clear hk k; try show Sat _ _ _ _ _)
  (repeat refine Sat.seq ?_)
  (refine Sat.region_k fun k hk => ?_; simp -implicitDefEqProofs only [evr, id, reduceCtorEq, reduceIte, Nat.reduceMul, Nat.reduceAdd, Nat.reduceLT, Nat.reduceLeDiff, Nat.reduceEqDiff, Int.reduceLT, Int.reduceBEq, Int.reduceBNe, Nat.reduceBEq, List.append_nil, Int.toNat_zero, Nat.sub_self, frS, ptr])
  refine wcall_slice (stMissingC F 6 2 (by omega) (by omega) (by omega)) rfl rfl ?_
  rintro r ⟨f, rfl, sp, sq, rfl, hp, hq⟩
  rw [awake_num.1] at hp
  rw [awake_num.2] at hq
  have hp' := hp
  have hq' := hq
  obtain ⟨a1, c1, z1, r1, x1, rfl, _⟩ := hp
  obtain ⟨a2, c2, z2, r2, x2, rfl, _⟩ := hq
  simp -implicitDefEqProofs only [evr, id, reduceCtorEq, reduceIte, Nat.reduceMul, Nat.reduceAdd, Nat.reduceLT, Nat.reduceLeDiff, Nat.reduceEqDiff, Int.reduceLT, Int.reduceBEq, Int.reduceBNe, Nat.reduceBEq, List.append_nil, Int.toNat_zero, Nat.sub_self, frS, ptr]
  intro b1
  (refine hk _ ?_; clear hk k; try show Sat _ _ _ _ _)
  (repeat refine Sat.seq ?_)
  (refine Sat.region_k fun k hk => ?_; simp -implicitDefEqProofs only [evr, id, reduceCtorEq, reduceIte, Nat.reduceMul, Nat.reduceAdd, Nat.reduceLT, Nat.reduceLeDiff, Nat.reduceEqDiff, Int.reduceLT, Int.reduceBEq, Int.reduceBNe, Nat.reduceBEq, List.append_nil, Int.toNat_zero, Nat.sub_self, frS, ptr])
  refine wcall_slice (refFromC F 1 20 (by omega) (by omega) (by omega) (by omega) (by omega)) rfl rfl ?_
  rintro r ⟨f, rfl, sp, sq, rfl, hp, hq⟩
  have hp3 : Nats sp 1 := hp
  have hq3 : Nats sq 20 := hq
  have hp4 := hp3
  have hq4 := hq3
  clear hp hq
  obtain ⟨a3, c3, z3, r3, x3, rfl, _⟩ := hp3
  obtain ⟨a4, c4, z4, r4, x4, rfl, _⟩ := hq3
  have e4 : ((decide ((1 : Int) < 0) != decide ((20 : Int) < 0)) && decide (0 < (1 : Int).natAbs)) = false := rfl
  simp -implicitDefEqProofs only [evr, id, reduceCtorEq, reduceIte, Nat.reduceMul, Nat.reduceAdd, Nat.reduceLT, Nat.reduceLeDiff, Nat.reduceEqDiff, Int.reduceLT, Int.reduceBEq, Int.reduceBNe, Nat.reduceBEq, List.append_nil, Int.toNat_zero, Nat.sub_self, frS, ptr]
  intro b2
  (refine hk _ ?_; clear hk k; try show Sat _ _ _ _ _)
  (repeat refine Sat.seq ?_)
  (refine Sat.region_k fun k hk => ?_; simp -implicitDefEqProofs only [evr, id, reduceCtorEq, reduceIte, Nat.reduceMul, Nat.reduceAdd, Nat.reduceLT, Nat.reduceLeDiff, Nat.reduceEqDiff, Int.reduceLT, Int.reduceBEq, Int.reduceBNe, Nat.reduceBEq, List.append_nil, Int.toNat_zero, Nat.sub_self, frS, ptr])
  refine wcall_plain (stNeededC F 1 (by omega) (by omega) hp4 hq4 (by omega) (by omega) (by omega)) (by simp -implicitDefEqProofs only [evr, id, reduceCtorEq, reduceIte, Nat.reduceMul, Nat.reduceAdd, Nat.reduceLT, Nat.reduceLeDiff, Nat.reduceEqDiff, Int.reduceLT, Int.reduceBEq, Int.reduceBNe, Nat.reduceBEq, List.append_nil, Int.toNat_zero, Nat.sub_self, frS, ptr]; rfl) (fun _ h => h.elim (fun ⟨n, _, e, _⟩ => by subst e; exact ok_tupL rfl) (fun ⟨e, _⟩ => by subst e; exact ok_tupL rfl)) ?_
  intro r hr
  obtain rfl : r = tupL [.i .i64 6, .i .i64 0] := by
    obtain ⟨m5, m4, m3, m2, m1, m0, m6⟩ := awake_need
    rcases hr with ⟨n, _, rfl, hn, hj⟩ | ⟨_, hj⟩
    · have h6 : n = 6 := by
        by_cases hlt : 6 < n
        · exact absurd (hj 6 hlt) m6
        · rcases (show n = 0 ∨ n = 1 ∨ n = 2 ∨ n = 3 ∨ n = 4 ∨ n = 5 ∨ n = 6 by omega) with rfl | rfl | rfl | rfl | rfl | rfl | rfl
          · exact absurd m0 hn
          · exact absurd m1 hn
          · exact absurd m2 hn
          · exact absurd m3 hn
          · exact absurd m4 hn
          · exact absurd m5 hn
          · rfl
      subst h6
      rfl
    · exact absurd (hj 6 (by omega)) m6
  simp -implicitDefEqProofs only [evr, id, reduceCtorEq, reduceIte, Nat.reduceMul, Nat.reduceAdd, Nat.reduceLT, Nat.reduceLeDiff, Nat.reduceEqDiff, Int.reduceLT, Int.reduceBEq, Int.reduceBNe, Nat.reduceBEq, List.append_nil, Int.toNat_zero, Nat.sub_self, frS, ptr]
  (refine hk _ ?_; clear hk k; try show Sat _ _ _ _ _)
  (repeat refine Sat.seq ?_)
  refine Sat.region_k fun k hk => ?_
  simp -implicitDefEqProofs only [evr, id, reduceCtorEq, reduceIte, Nat.reduceMul, Nat.reduceAdd, Nat.reduceLT, Nat.reduceLeDiff, Nat.reduceEqDiff, Int.reduceLT, Int.reduceBEq, Int.reduceBNe, Nat.reduceBEq, List.append_nil, Int.toNat_zero, Nat.sub_self, frS, ptr]
  refine wcall_plain (refText3C F hp' hq' (by omega) (by omega) (by omega) (by decide)) (by simp -implicitDefEqProofs only [evr, id, reduceCtorEq, reduceIte, Nat.reduceMul, Nat.reduceAdd, Nat.reduceLT, Nat.reduceLeDiff, Nat.reduceEqDiff, Int.reduceLT, Int.reduceBEq, Int.reduceBNe, Nat.reduceBEq, List.append_nil, Int.toNat_zero, Nat.sub_self, frS, ptr]; try rfl) (by rintro _ rfl; exact ok_plain rfl) ?_
  rintro r rfl
  simp -implicitDefEqProofs only [evr, id, reduceCtorEq, reduceIte, Nat.reduceMul, Nat.reduceAdd, Nat.reduceLT, Nat.reduceLeDiff, Nat.reduceEqDiff, Int.reduceLT, Int.reduceBEq, Int.reduceBNe, Nat.reduceBEq, List.append_nil, Int.toNat_zero, Nat.sub_self, frS, ptr]
  have ef : (frB 1 32).toList == (⟨#[49, 47, 51, 50]⟩ : ByteArray).toList := by
    have e : frB 1 32 = (⟨#[49, 47, 51, 50]⟩ : ByteArray) := by
      unfold frB
      rw [decB_small (n := 1) (by omega), decB_big (n := 32) (by omega), decB_small (n := 32 / 10) (by omega)]
      decide
    rw [e]
    exact beq_self_eq_true _
  refine ⟨fun _ => ?_, fun h => absurd ef (by rw [h]; decide)⟩
  (refine hk _ ?_; clear hk k; try show Sat _ _ _ _ _)
  refine Sat.ret ?_
  simp only [Try.results8, evr, id, reduceCtorEq, reduceIte, Nat.reduceMul, Nat.reduceAdd, Nat.reduceLT, Nat.reduceLeDiff, Nat.reduceEqDiff, Int.reduceLT, Int.reduceBEq, Int.reduceBNe, Nat.reduceBEq, List.append_nil, Int.toNat_zero, Nat.sub_self, frS, ptr]
theorem misCmpC (F : Frm) {n m p q : Nat} (hn : n ≤ 128) (hm : m ≤ 16) {sr ss sp sq : SV} (hr : Nats sr (misP n m)) (hs : Nats ss (misQ n m)) (hp : Nats sp p) (hq : Nats sq q) (h1 : p < q) (h2 : q < 1073741824) :
    Contract F Try.prog 14 [frS false sr ss, frS false sp sq] (fun x => x = tupL [.i .i64 (cmpI (misP n m * q : Nat) (p * misQ n m : Nat)), .i .i64 0]) := by
  have bP := Nat.le_trans (misP_le n m) (kn_le (k := m) (by omega) hn)
  have bQ := Nat.le_trans (misQ_le n m) (kn_le (k := m) (by omega) hn)
  have bq : q ≤ 2 ^ 30 := Nat.le_of_lt h2
  have bp : p ≤ 2 ^ 30 := by omega
  have bpQ := mul_two bp bQ
  have bPq := mul_two bP bq
  have h := fractionCompareC F false false hr hs hp hq (lt_pw bP (by rw [xb_eq]; decide)) (lt_pw bQ (by rw [xb_eq]; decide)) (q_pw (by omega)) (q_pw h2) (lt_pw bPq (by rw [xb_eq]; decide)) (lt_pw bpQ (by rw [xb_eq]; decide)) (lt_pw_add bPq bpQ (by rw [xb_eq]; decide))
  rw [cmpV_pos] at h
  exact h
theorem mis_gt {n m p q : Nat} (hm : 1 ≤ m) (h : missed n m p q) : cmpI (misP n m * q : Nat) (p * misQ n m : Nat) = 1 := cmpI_gt (by have := (missed_iff hm).1 h; omega)
theorem mis_le {n m p q : Nat} (hm : 1 ≤ m) (h : ¬ missed n m p q) : cmpI (misP n m * q : Nat) (p * misQ n m : Nat) ≤ 0 := by
  have h1 : ¬ p * misQ n m < misP n m * q := fun h9 => h ((missed_iff hm).2 h9)
  unfold cmpI
  split
  · decide
  · split
    · omega
    · decide
end Go.Proofs.Ytagmohpafjncfaa

/- Stopping at any arguments: chance, Onto, Missing, Needed out of range; reference 23, between and Needed. -/
set_option linter.unusedSimpArgs false
set_option linter.unusedVariables false
namespace Go.Proofs.Ytagmohpafjncfaa
open Eng Lmb Go.RowKit
def chB (neg : Bool) (p q : Nat) : Bool := !neg && (decide (0 < p) && decide (p < q))
theorem chB_of {neg : Bool} {p q : Nat} (h : chB neg p q = true) : neg = false ∧ 0 < p ∧ p < q := by
  cases neg <;> simp [chB] at h ⊢ <;> exact h
theorem cmpI_neg {x y : Nat} : decide (cmpI (x : Int) (y : Int) < 0) = decide (x < y) := by
  by_cases h : x < y
  · rw [cmpI_lt (by omega), decide_eq_true h]; rfl
  · by_cases h2 : y < x
    · rw [cmpI_gt (by omega), decide_eq_false h]; rfl
    · rw [cmpI_eq (by omega), decide_eq_false h]; rfl
variable {sp sq : SV} {p q : Nat}
set_option maxRecDepth 100000 in
theorem chanceG (F : Frm) (neg : Bool) (hp : Nats sp p) (hq : Nats sq q) (h0 : 0 < q) (h1 : p < 1073741824) (h2 : q < 1073741824) :
    Contract F Try.prog 29 [frS neg sp sq] (fun x => x = .b (chB neg p q)) := by
  have hp' := hp
  have hq' := hq
  have sb : ((p : Int) < pw 256) := q_pw h1
  have sb2 : ((q : Int) < pw 256) := q_pw h2
  have sb3 : ((p + q : Nat) : Int) < pw 256 := lt_pw (a := 31) (by omega) (by decide)
  obtain ⟨a1, c1, z1, r1, x1, rfl, _⟩ := hp
  obtain ⟨a2, c2, z2, r2, x2, rfl, _⟩ := hq
  have e2 : 0 < (x2.length : Int) := by rw [hq'.len]; omega
  refine contract_of Try.func29 rfl (by kernel_rfl) ?_
  simp only [Try.ntmps29, argEnv, frS]
  (repeat refine Sat.seq ?_)
  (refine Sat.region_k fun k hk => ?_; simp -implicitDefEqProofs only [evr, id, reduceCtorEq, reduceIte, Nat.reduceMul, Nat.reduceAdd, Nat.reduceLT, Nat.reduceLeDiff, Nat.reduceEqDiff, Int.reduceLT, Int.reduceBEq, Int.reduceBNe, Nat.reduceBEq, List.append_nil, Int.toNat_zero, Nat.sub_self, frS])
  intro k1
  (refine hk _ ?_; clear hk k; try show Sat _ _ _ _ _)
  (repeat refine Sat.seq ?_)
  (refine Sat.region_k fun k hk => ?_; simp -implicitDefEqProofs only [evr, id, reduceCtorEq, reduceIte, Nat.reduceMul, Nat.reduceAdd, Nat.reduceLT, Nat.reduceLeDiff, Nat.reduceEqDiff, Int.reduceLT, Int.reduceBEq, Int.reduceBNe, Nat.reduceBEq, List.append_nil, Int.toNat_zero, Nat.sub_self, frS])
  refine wcall_slice (stSmallC F 1 (by decide)) rfl rfl ?_
  intro y hy
  have hy1 := hy
  obtain ⟨a3, c3, z3, r3, x3, rfl, _⟩ := hy
  simp -implicitDefEqProofs only [evr, id, reduceCtorEq, reduceIte, Nat.reduceMul, Nat.reduceAdd, Nat.reduceLT, Nat.reduceLeDiff, Nat.reduceEqDiff, Int.reduceLT, Int.reduceBEq, Int.reduceBNe, Nat.reduceBEq, List.append_nil, Int.toNat_zero, Nat.sub_self, frS]
  refine wcall_slice (stSmallC F 1 (by decide)) rfl rfl ?_
  intro y hy
  have hy2 := hy
  obtain ⟨a4, c4, z4, r4, x4, rfl, _⟩ := hy
  simp -implicitDefEqProofs only [evr, id, reduceCtorEq, reduceIte, Nat.reduceMul, Nat.reduceAdd, Nat.reduceLT, Nat.reduceLeDiff, Nat.reduceEqDiff, Int.reduceLT, Int.reduceBEq, Int.reduceBNe, Nat.reduceBEq, List.append_nil, Int.toNat_zero, Nat.sub_self, frS]
  intro k2
  (refine hk _ ?_; clear hk k; try show Sat _ _ _ _ _)
  (repeat refine Sat.seq ?_)
  cases neg with
  | true =>
    (refine Sat.region_k fun k hk => ?_; simp -implicitDefEqProofs only [evr, id, reduceCtorEq, reduceIte, Nat.reduceMul, Nat.reduceAdd, Nat.reduceLT, Nat.reduceLeDiff, Nat.reduceEqDiff, Int.reduceLT, Int.reduceBEq, Int.reduceBNe, Nat.reduceBEq, List.append_nil, Int.toNat_zero, Nat.sub_self, frS])
    (refine hk _ ?_; clear hk k; try show Sat _ _ _ _ _)
    refine Sat.ret ?_
    simp only [Try.results29, evr, id, reduceCtorEq, reduceIte, Nat.reduceMul, Nat.reduceAdd, Nat.reduceLT, Nat.reduceLeDiff, Nat.reduceEqDiff, Int.reduceLT, Int.reduceBEq, Int.reduceBNe, Nat.reduceBEq, List.append_nil, Int.toNat_zero, Nat.sub_self, frS]
    rfl
  | false =>
    (refine Sat.region_k fun k hk => ?_; simp -implicitDefEqProofs only [evr, id, reduceCtorEq, reduceIte, Nat.reduceMul, Nat.reduceAdd, Nat.reduceLT, Nat.reduceLeDiff, Nat.reduceEqDiff, Int.reduceLT, Int.reduceBEq, Int.reduceBNe, Nat.reduceBEq, List.append_nil, Int.toNat_zero, Nat.sub_self, frS])
    refine ⟨fun g1 => ⟨fun _ => ?_, fun h => absurd e2 h⟩, fun g1 => ?_⟩
    · rw [hp'.len] at g1
      refine wcall_plain (stBelowC F false false hp' hq' hy1 hy2 sb sb2 pw_one pw_one (by rw [Nat.mul_one]; exact sb) (by rw [Nat.one_mul]; exact sb2) (by rw [Nat.mul_one, Nat.one_mul]; exact sb3)) (by simp -implicitDefEqProofs only [evr, id, reduceCtorEq, reduceIte, Nat.reduceMul, Nat.reduceAdd, Nat.reduceLT, Nat.reduceLeDiff, Nat.reduceEqDiff, Int.reduceLT, Int.reduceBEq, Int.reduceBNe, Nat.reduceBEq, List.append_nil, Int.toNat_zero, Nat.sub_self, frS]; try rfl) (by rintro _ rfl; exact ok_plain rfl) ?_
      rintro y rfl
      have ed : decide (cmpV false p q false 1 1 < 0) = chB false p q := by
        rw [cmpV_pos, Nat.mul_one, Nat.one_mul, cmpI_neg]
        simp [chB, g1]
      simp -implicitDefEqProofs only [evr, id, reduceCtorEq, reduceIte, Nat.reduceMul, Nat.reduceAdd, Nat.reduceLT, Nat.reduceLeDiff, Nat.reduceEqDiff, Int.reduceLT, Int.reduceBEq, Int.reduceBNe, Nat.reduceBEq, List.append_nil, Int.toNat_zero, Nat.sub_self, frS, ed]
      (refine hk _ ?_; clear hk k; try show Sat _ _ _ _ _)
      refine Sat.ret ?_
      simp only [Try.results29, evr, id, reduceCtorEq, reduceIte, Nat.reduceMul, Nat.reduceAdd, Nat.reduceLT, Nat.reduceLeDiff, Nat.reduceEqDiff, Int.reduceLT, Int.reduceBEq, Int.reduceBNe, Nat.reduceBEq, List.append_nil, Int.toNat_zero, Nat.sub_self, frS]
    · have hp0 : ¬ 0 < p := by rw [hp'.len] at g1; exact g1
      have e : chB false p q = false := by simp [chB, hp0]
      (refine hk _ ?_; clear hk k; try show Sat _ _ _ _ _)
      refine Sat.ret ?_
      simp only [Try.results29, evr, id, reduceCtorEq, reduceIte, Nat.reduceMul, Nat.reduceAdd, Nat.reduceLT, Nat.reduceLeDiff, Nat.reduceEqDiff, Int.reduceLT, Int.reduceBEq, Int.reduceBNe, Nat.reduceBEq, List.append_nil, Int.toNat_zero, Nat.sub_self, frS, e]
      try simp [hp'.len, hp0]
set_option maxRecDepth 100000 in
theorem stOntoG (F : Frm) (n m : Int) : Contract F Try.prog 16 [.i .i64 n, .i .i64 m] (OntoPost n m) := by
  by_cases e : ontoIn n m = true
  · obtain ⟨a, b, rfl, rfl, ha, hb⟩ := ontoIn_nat e
    refine (stOntoC F a b ha hb).mono ?_
    rintro r ⟨s, rfl, hs⟩
    exact ⟨s, by rw [e]; exact hs, by rw [e]; rfl⟩
  have e : ontoIn n m = false := by simpa using e
  refine contract_of Try.func16 rfl (by kernel_rfl) ?_
  simp only [Try.ntmps16, argEnv]
  (repeat refine Sat.seq ?_)
  (refine Sat.region_k fun k hk => ?_; simp -implicitDefEqProofs only [evr, id, reduceCtorEq, reduceIte, Nat.reduceMul, Nat.reduceAdd, Nat.reduceLT, Nat.reduceLeDiff, Nat.reduceEqDiff, Int.reduceLT, Int.reduceBEq, Int.reduceBNe, Nat.reduceBEq, List.append_nil, Int.toNat_zero, Nat.sub_self, frS]; refine hk _ ?_; clear hk k; try show Sat _ _ _ _ _)
  (repeat refine Sat.seq ?_)
  refine Sat.region_at ⟨63, [(27, .b true), (0, .i .i64 n), (1, .i .i64 m)], []⟩ (fun k' hk' => ?_) ?_
  · simp -implicitDefEqProofs only [evr, id, reduceCtorEq, reduceIte, Nat.reduceMul, Nat.reduceAdd, Nat.reduceLT, Nat.reduceLeDiff, Nat.reduceEqDiff, Int.reduceLT, Int.reduceBEq, Int.reduceBNe, Nat.reduceBEq, List.append_nil, Int.toNat_zero, Nat.sub_self, frS]
    refine ⟨fun h1 => ?_, fun h1 => ⟨fun h2 => ?_, fun h2 => ⟨fun h3 => ?_, fun h3 => ?_⟩⟩⟩ <;> refine hk' _ ?_
    · simp -implicitDefEqProofs only [evr, id, reduceCtorEq, reduceIte, Nat.reduceMul, Nat.reduceAdd, Nat.reduceLT, Nat.reduceLeDiff, Nat.reduceEqDiff, Int.reduceLT, Int.reduceBEq, Int.reduceBNe, Nat.reduceBEq, List.append_nil, Int.toNat_zero, Nat.sub_self, frS, evl]
    · simp -implicitDefEqProofs only [evr, id, reduceCtorEq, reduceIte, Nat.reduceMul, Nat.reduceAdd, Nat.reduceLT, Nat.reduceLeDiff, Nat.reduceEqDiff, Int.reduceLT, Int.reduceBEq, Int.reduceBNe, Nat.reduceBEq, List.append_nil, Int.toNat_zero, Nat.sub_self, frS, evl]
    · simp -implicitDefEqProofs only [evr, id, reduceCtorEq, reduceIte, Nat.reduceMul, Nat.reduceAdd, Nat.reduceLT, Nat.reduceLeDiff, Nat.reduceEqDiff, Int.reduceLT, Int.reduceBEq, Int.reduceBNe, Nat.reduceBEq, List.append_nil, Int.toNat_zero, Nat.sub_self, frS, evl]
    · have e : decide (16 < m) = true := by
        have := of_decide_eq_false e
        rw [decide_eq_true_eq]; omega
      simp only [e]
      simp -implicitDefEqProofs only [evr, id, reduceCtorEq, reduceIte, Nat.reduceMul, Nat.reduceAdd, Nat.reduceLT, Nat.reduceLeDiff, Nat.reduceEqDiff, Int.reduceLT, Int.reduceBEq, Int.reduceBNe, Nat.reduceBEq, List.append_nil, Int.toNat_zero, Nat.sub_self, frS, evl]
  simp only [thenK]
  refine Sat.cond_b rfl (fun h => ?_) (fun h => by cases h)
  (repeat refine Sat.seq ?_)
  (refine Sat.region_k fun k hk => ?_; simp -implicitDefEqProofs only [evr, id, reduceCtorEq, reduceIte, Nat.reduceMul, Nat.reduceAdd, Nat.reduceLT, Nat.reduceLeDiff, Nat.reduceEqDiff, Int.reduceLT, Int.reduceBEq, Int.reduceBNe, Nat.reduceBEq, List.append_nil, Int.toNat_zero, Nat.sub_self, frS]; refine hk _ ?_; clear hk k; try show Sat _ _ _ _ _)
  refine Sat.ret ?_
  simp only [Try.results16, evr, id, reduceCtorEq, reduceIte, Nat.reduceMul, Nat.reduceAdd, Nat.reduceLT, Nat.reduceLeDiff, Nat.reduceEqDiff, Int.reduceLT, Int.reduceBEq, Int.reduceBNe, Nat.reduceBEq, List.append_nil, Int.toNat_zero, Nat.sub_self, frS]
  exact ⟨.sl none 0 0 0 (fun _ _ => .v undef), by rw [e]; exact Nats.nil, by rw [e]; rfl⟩
set_option maxRecDepth 100000 in
theorem stMissingG (F : Frm) (n m : Int) : Contract F Try.prog 13 [.i .i64 n, .i .i64 m] (MisPost n m) := by
  by_cases e : misIn n m = true
  · obtain ⟨a, b, rfl, rfl, ha, hb, hb1⟩ := misIn_nat e
    refine (stMissingC F a b ha hb hb1).mono ?_
    rintro r ⟨f, rfl, hf⟩
    exact ⟨f, by rw [e]; exact hf, by rw [e]; rfl⟩
  have e : misIn n m = false := by simpa using e
  refine contract_of Try.func13 rfl (by kernel_rfl) ?_
  simp only [Try.ntmps13, argEnv]
  (repeat refine Sat.seq ?_)
  (refine Sat.region_k fun k hk => ?_; simp -implicitDefEqProofs only [evr, id, reduceCtorEq, reduceIte, Nat.reduceMul, Nat.reduceAdd, Nat.reduceLT, Nat.reduceLeDiff, Nat.reduceEqDiff, Int.reduceLT, Int.reduceBEq, Int.reduceBNe, Nat.reduceBEq, List.append_nil, Int.toNat_zero, Nat.sub_self, frS])
  intro b4
  (refine hk _ ?_; clear hk k; try show Sat _ _ _ _ _)
  (repeat refine Sat.seq ?_)
  refine Sat.region_at ⟨45, [(24, .b true), (4, .op 0 b4 0), (0, .i .i64 n), (1, .i .i64 m)], [.box b4 30 [.b false, .sl none 0 0 0 (fun _ _ => .v undef), .sl none 0 0 0 (fun _ _ => .v undef)]]⟩ (fun k hk => ?_) ?_
  · simp -implicitDefEqProofs only [evr, id, reduceCtorEq, reduceIte, Nat.reduceMul, Nat.reduceAdd, Nat.reduceLT, Nat.reduceLeDiff, Nat.reduceEqDiff, Int.reduceLT, Int.reduceBEq, Int.reduceBNe, Nat.reduceBEq, List.append_nil, Int.toNat_zero, Nat.sub_self, frS]
    refine ⟨fun h1 => ?_, fun h1 => ⟨fun h2 => ?_, fun h2 => ⟨fun h3 => ?_, fun h3 => ?_⟩⟩⟩ <;> refine hk _ ?_
    · simp -implicitDefEqProofs only [evr, id, reduceCtorEq, reduceIte, Nat.reduceMul, Nat.reduceAdd, Nat.reduceLT, Nat.reduceLeDiff, Nat.reduceEqDiff, Int.reduceLT, Int.reduceBEq, Int.reduceBNe, Nat.reduceBEq, List.append_nil, Int.toNat_zero, Nat.sub_self, frS, evl]
      try rfl
    · simp -implicitDefEqProofs only [evr, id, reduceCtorEq, reduceIte, Nat.reduceMul, Nat.reduceAdd, Nat.reduceLT, Nat.reduceLeDiff, Nat.reduceEqDiff, Int.reduceLT, Int.reduceBEq, Int.reduceBNe, Nat.reduceBEq, List.append_nil, Int.toNat_zero, Nat.sub_self, frS, evl]
      try rfl
    · simp -implicitDefEqProofs only [evr, id, reduceCtorEq, reduceIte, Nat.reduceMul, Nat.reduceAdd, Nat.reduceLT, Nat.reduceLeDiff, Nat.reduceEqDiff, Int.reduceLT, Int.reduceBEq, Int.reduceBNe, Nat.reduceBEq, List.append_nil, Int.toNat_zero, Nat.sub_self, frS, evl]
      try rfl
    · have e : decide (16 < m) = true := by
        have := of_decide_eq_false e
        rw [decide_eq_true_eq]; omega
      simp only [e]
      simp -implicitDefEqProofs only [evr, id, reduceCtorEq, reduceIte, Nat.reduceMul, Nat.reduceAdd, Nat.reduceLT, Nat.reduceLeDiff, Nat.reduceEqDiff, Int.reduceLT, Int.reduceBEq, Int.reduceBNe, Nat.reduceBEq, List.append_nil, Int.toNat_zero, Nat.sub_self, frS, evl]
      try rfl
  simp only [thenK]
  refine Sat.cond_b rfl (fun h => ?_) (fun h => by cases h)
  (repeat refine Sat.seq ?_)
  (refine Sat.region_k fun k hk => ?_; simp -implicitDefEqProofs only [evr, id, reduceCtorEq, reduceIte, Nat.reduceMul, Nat.reduceAdd, Nat.reduceLT, Nat.reduceLeDiff, Nat.reduceEqDiff, Int.reduceLT, Int.reduceBEq, Int.reduceBNe, Nat.reduceBEq, List.append_nil, Int.toNat_zero, Nat.sub_self, frS])
  (refine hk _ ?_; clear hk k; try show Sat _ _ _ _ _)
  refine Sat.ret ?_
  simp only [Try.results13, evr, id, reduceCtorEq, reduceIte, Nat.reduceMul, Nat.reduceAdd, Nat.reduceLT, Nat.reduceLeDiff, Nat.reduceEqDiff, Int.reduceLT, Int.reduceBEq, Int.reduceBNe, Nat.reduceBEq, List.append_nil, Int.toNat_zero, Nat.sub_self, frS]
  exact ⟨frS false (.sl none 0 0 0 (fun _ _ => .v undef)) (.sl none 0 0 0 (fun _ _ => .v undef)), by rw [e]; exact ⟨_, _, rfl, Nats.nil, Nats.nil⟩, by rw [e]; rfl⟩
def needIn (m : Int) (neg : Bool) (p q : Nat) : Bool := decide (1 ≤ m ∧ m ≤ 15) && chB neg p q
def NeedG (m : Int) (neg : Bool) (p q : Nat) (r : SV) : Prop := if needIn m neg p q then NeedPost m.toNat p q r else r = tupL [.i .i64 0, .i .i64 1]
theorem needIn_of {m : Int} {neg : Bool} (h : needIn m neg p q = true) : ∃ k : Nat, m = k ∧ 1 ≤ k ∧ k ≤ 15 ∧ neg = false ∧ 0 < p ∧ p < q := by
  obtain ⟨h1, h2⟩ := Bool.and_eq_true_iff.1 h
  obtain ⟨h3, h4⟩ := of_decide_eq_true h1
  obtain ⟨h5, h6, h7⟩ := chB_of h2
  exact ⟨m.toNat, by omega, by omega, by omega, h5, h6, h7⟩
set_option maxRecDepth 100000 in
theorem stNeededG (F : Frm) (m : Int) (neg : Bool) (hp : Nats sp p) (hq : Nats sq q) (h0 : 0 < q) (h1 : p < 1073741824) (h2 : q < 1073741824) :
    Contract F Try.prog 12 [.i .i64 m, frS neg sp sq] (NeedG m neg p q) := by
  by_cases e : needIn m neg p q = true
  · obtain ⟨k, rfl, k1, k2, rfl, hp0, hpq⟩ := needIn_of e
    refine (stNeededC F k k2 k1 hp hq hp0 hpq h2).mono ?_
    intro r hr
    unfold NeedG
    rw [if_pos e]
    exact hr
  have e : needIn m neg p q = false := by simpa using e
  have hp' := hp
  have hq' := hq
  obtain ⟨a1, c1, z1, r1, x1, rfl, _⟩ := hp
  obtain ⟨a2, c2, z2, r2, x2, rfl, _⟩ := hq
  refine contract_of Try.func12 rfl (by kernel_rfl) ?_
  simp only [Try.ntmps12, argEnv, frS]
  (repeat refine Sat.seq ?_)
  (refine Sat.region_k fun k hk => ?_; simp -implicitDefEqProofs only [evr, id, reduceCtorEq, reduceIte, Nat.reduceMul, Nat.reduceAdd, Nat.reduceLT, Nat.reduceLeDiff, Nat.reduceEqDiff, Int.reduceLT, Int.reduceBEq, Int.reduceBNe, Nat.reduceBEq, List.append_nil, Int.toNat_zero, Nat.sub_self, frS])
  intro b3
  (refine hk _ ?_; clear hk k; try show Sat _ _ _ _ _)
  (repeat refine Sat.seq ?_)
  refine Sat.region_at ⟨36, [(19, .b true), (3, .op 0 b3 0), (0, .i .i64 m)], [.box b3 30 [.b neg, .sl a1 x1.length c1 z1 r1, .sl a2 x2.length c2 z2 r2]]⟩ (fun k hk => ?_) ?_
  · simp -implicitDefEqProofs only [evr, id, reduceCtorEq, reduceIte, Nat.reduceMul, Nat.reduceAdd, Nat.reduceLT, Nat.reduceLeDiff, Nat.reduceEqDiff, Int.reduceLT, Int.reduceBEq, Int.reduceBNe, Nat.reduceBEq, List.append_nil, Int.toNat_zero, Nat.sub_self, frS]
    refine ⟨fun g1 => ?_, fun g1 => ⟨fun g2 => ?_, fun g2 => ?_⟩⟩
    · refine hk _ ?_
      simp -implicitDefEqProofs only [evr, id, reduceCtorEq, reduceIte, Nat.reduceMul, Nat.reduceAdd, Nat.reduceLT, Nat.reduceLeDiff, Nat.reduceEqDiff, Int.reduceLT, Int.reduceBEq, Int.reduceBNe, Nat.reduceBEq, List.append_nil, Int.toNat_zero, Nat.sub_self, frS, evl]
      try rfl
    · refine hk _ ?_
      simp -implicitDefEqProofs only [evr, id, reduceCtorEq, reduceIte, Nat.reduceMul, Nat.reduceAdd, Nat.reduceLT, Nat.reduceLeDiff, Nat.reduceEqDiff, Int.reduceLT, Int.reduceBEq, Int.reduceBNe, Nat.reduceBEq, List.append_nil, Int.toNat_zero, Nat.sub_self, frS, evl]
      try rfl
    refine wcall_plain (chanceG F neg hp' hq' h0 h1 h2) (by simp -implicitDefEqProofs only [evr, id, reduceCtorEq, reduceIte, Nat.reduceMul, Nat.reduceAdd, Nat.reduceLT, Nat.reduceLeDiff, Nat.reduceEqDiff, Int.reduceLT, Int.reduceBEq, Int.reduceBNe, Nat.reduceBEq, List.append_nil, Int.toNat_zero, Nat.sub_self, frS]; try rfl) (by rintro _ rfl; exact ok_plain rfl) ?_
    rintro y rfl
    have ec : chB neg p q = false := by
      have : decide (1 ≤ m ∧ m ≤ 15) = true := decide_eq_true (by omega)
      simpa [needIn, this] using e
    simp -implicitDefEqProofs only [evr, id, reduceCtorEq, reduceIte, Nat.reduceMul, Nat.reduceAdd, Nat.reduceLT, Nat.reduceLeDiff, Nat.reduceEqDiff, Int.reduceLT, Int.reduceBEq, Int.reduceBNe, Nat.reduceBEq, List.append_nil, Int.toNat_zero, Nat.sub_self, frS, ec]
    refine hk _ ?_
    simp -implicitDefEqProofs only [evr, id, reduceCtorEq, reduceIte, Nat.reduceMul, Nat.reduceAdd, Nat.reduceLT, Nat.reduceLeDiff, Nat.reduceEqDiff, Int.reduceLT, Int.reduceBEq, Int.reduceBNe, Nat.reduceBEq, List.append_nil, Int.toNat_zero, Nat.sub_self, frS, evl]
    try rfl
  simp only [thenK]
  refine Sat.cond_b rfl (fun h => ?_) (fun h => by cases h)
  (repeat refine Sat.seq ?_)
  (refine Sat.region_k fun k hk => ?_; simp -implicitDefEqProofs only [evr, id, reduceCtorEq, reduceIte, Nat.reduceMul, Nat.reduceAdd, Nat.reduceLT, Nat.reduceLeDiff, Nat.reduceEqDiff, Int.reduceLT, Int.reduceBEq, Int.reduceBNe, Nat.reduceBEq, List.append_nil, Int.toNat_zero, Nat.sub_self, frS]; refine hk _ ?_; clear hk k; try show Sat _ _ _ _ _)
  refine Sat.ret ?_
  simp only [Try.results12, evr, id, reduceCtorEq, reduceIte, Nat.reduceMul, Nat.reduceAdd, Nat.reduceLT, Nat.reduceLeDiff, Nat.reduceEqDiff, Int.reduceLT, Int.reduceBEq, Int.reduceBNe, Nat.reduceBEq, List.append_nil, Int.toNat_zero, Nat.sub_self, frS]
  unfold NeedG
  rw [if_neg (by rw [e]; decide)]
set_option maxRecDepth 100000 in
theorem refBetweenC (F : Frm) (neg : Bool) (hp : Nats sp p) (hq : Nats sq q) (h1 : p < 1073741824) (h2 : q < 1073741824) :
    Contract F Try.prog 46 [frS neg sp sq] (fun x => x = .b (chB neg p q)) := by
  have hp' := hp
  have hq' := hq
  have h256 : pw 256 ≤ pw 512 := pw_mono (by omega)
  have sb : ((p : Int) < pw 256) := q_pw h1
  obtain ⟨a1, c1, z1, r1, x1, rfl, _⟩ := hp
  obtain ⟨a2, c2, z2, r2, x2, rfl, _⟩ := hq
  refine contract_of Try.func46 rfl (by kernel_rfl) ?_
  simp only [Try.ntmps46, argEnv, frS]
  (repeat refine Sat.seq ?_)
  (refine Sat.region_k fun k hk => ?_; simp -implicitDefEqProofs only [evr, id, reduceCtorEq, reduceIte, Nat.reduceMul, Nat.reduceAdd, Nat.reduceLT, Nat.reduceLeDiff, Nat.reduceEqDiff, Int.reduceLT, Int.reduceBEq, Int.reduceBNe, Nat.reduceBEq, List.append_nil, Int.toNat_zero, Nat.sub_self, frS])
  intro k1
  (refine hk _ ?_; clear hk k; try show Sat _ _ _ _ _)
  (repeat refine Sat.seq ?_)
  cases neg with
  | true =>
    (refine Sat.region_k fun k hk => ?_; simp -implicitDefEqProofs only [evr, id, reduceCtorEq, reduceIte, Nat.reduceMul, Nat.reduceAdd, Nat.reduceLT, Nat.reduceLeDiff, Nat.reduceEqDiff, Int.reduceLT, Int.reduceBEq, Int.reduceBNe, Nat.reduceBEq, List.append_nil, Int.toNat_zero, Nat.sub_self, frS])
    (refine hk _ ?_; clear hk k; try show Sat _ _ _ _ _)
    refine Sat.ret ?_
    simp only [Try.results46, evr, id, reduceCtorEq, reduceIte, Nat.reduceMul, Nat.reduceAdd, Nat.reduceLT, Nat.reduceLeDiff, Nat.reduceEqDiff, Int.reduceLT, Int.reduceBEq, Int.reduceBNe, Nat.reduceBEq, List.append_nil, Int.toNat_zero, Nat.sub_self, frS]
    rfl
  | false =>
    (refine Sat.region_k fun k hk => ?_; simp -implicitDefEqProofs only [evr, id, reduceCtorEq, reduceIte, Nat.reduceMul, Nat.reduceAdd, Nat.reduceLT, Nat.reduceLeDiff, Nat.reduceEqDiff, Int.reduceLT, Int.reduceBEq, Int.reduceBNe, Nat.reduceBEq, List.append_nil, Int.toNat_zero, Nat.sub_self, frS])
    refine ⟨fun g1 => ?_, fun g1 => ?_⟩
    · rw [hp'.len] at g1
      refine wcall_plain (refCompareC F hp' hq' (by omega)) (by simp -implicitDefEqProofs only [evr, id, reduceCtorEq, reduceIte, Nat.reduceMul, Nat.reduceAdd, Nat.reduceLT, Nat.reduceLeDiff, Nat.reduceEqDiff, Int.reduceLT, Int.reduceBEq, Int.reduceBNe, Nat.reduceBEq, List.append_nil, Int.toNat_zero, Nat.sub_self, frS]; try rfl) (by rintro _ rfl; exact ok_plain rfl) ?_
      rintro y rfl
      have ed : decide (cmpI (p : Int) (q : Int) < 0) = chB false p q := by
        rw [cmpI_neg]
        simp [chB, g1]
      simp -implicitDefEqProofs only [evr, id, reduceCtorEq, reduceIte, Nat.reduceMul, Nat.reduceAdd, Nat.reduceLT, Nat.reduceLeDiff, Nat.reduceEqDiff, Int.reduceLT, Int.reduceBEq, Int.reduceBNe, Nat.reduceBEq, List.append_nil, Int.toNat_zero, Nat.sub_self, frS, ed]
      (refine hk _ ?_; clear hk k; try show Sat _ _ _ _ _)
      refine Sat.ret ?_
      simp only [Try.results46, evr, id, reduceCtorEq, reduceIte, Nat.reduceMul, Nat.reduceAdd, Nat.reduceLT, Nat.reduceLeDiff, Nat.reduceEqDiff, Int.reduceLT, Int.reduceBEq, Int.reduceBNe, Nat.reduceBEq, List.append_nil, Int.toNat_zero, Nat.sub_self, frS]
    · have hp0 : ¬ 0 < p := by rw [hp'.len] at g1; exact g1
      have e : chB false p q = false := by simp [chB, hp0]
      (refine hk _ ?_; clear hk k; try show Sat _ _ _ _ _)
      refine Sat.ret ?_
      simp only [Try.results46, evr, id, reduceCtorEq, reduceIte, Nat.reduceMul, Nat.reduceAdd, Nat.reduceLT, Nat.reduceLeDiff, Nat.reduceEqDiff, Int.reduceLT, Int.reduceBEq, Int.reduceBNe, Nat.reduceBEq, List.append_nil, Int.toNat_zero, Nat.sub_self, frS, e]
      try simp [hp'.len, hp0]
set_option maxRecDepth 100000 in
theorem refNeededC (F : Frm) (m : Int) (hm64 : -9223372036854775808 ≤ m ∧ m ≤ 9223372036854775807) (neg : Bool) (hp : Nats sp p) (hq : Nats sq q) (h0 : 0 < q) (h1 : p < 1073741824) (h2 : q < 1073741824) :
    Contract F Try.prog 23 [.i .i64 m, frS neg sp sq] (NeedG m neg p q) := by
  have hp' := hp
  have hq' := hq
  obtain ⟨a1, c1, z1, r1, x1, rfl, _⟩ := hp
  obtain ⟨a2, c2, z2, r2, x2, rfl, _⟩ := hq
  refine contract_of Try.func23 rfl (by kernel_rfl) ?_
  simp only [Try.ntmps23, argEnv, frS]
  (repeat refine Sat.seq ?_)
  (refine Sat.region_k fun k hk => ?_; simp -implicitDefEqProofs only [evr, id, reduceCtorEq, reduceIte, Nat.reduceMul, Nat.reduceAdd, Nat.reduceLT, Nat.reduceLeDiff, Nat.reduceEqDiff, Int.reduceLT, Int.reduceBEq, Int.reduceBNe, Nat.reduceBEq, List.append_nil, Int.toNat_zero, Nat.sub_self, frS])
  intro b3
  (refine hk _ ?_; clear hk k; try show Sat _ _ _ _ _)
  (repeat refine Sat.seq ?_)
  refine Sat.region_at ⟨36, [(19, .b (!needIn m neg p q)), (3, .op 0 b3 0), (0, .i .i64 m)], [.box b3 30 [.b neg, .sl a1 x1.length c1 z1 r1, .sl a2 x2.length c2 z2 r2]]⟩ (fun k hk => ?_) ?_
  · simp -implicitDefEqProofs only [evr, id, reduceCtorEq, reduceIte, Nat.reduceMul, Nat.reduceAdd, Nat.reduceLT, Nat.reduceLeDiff, Nat.reduceEqDiff, Int.reduceLT, Int.reduceBEq, Int.reduceBNe, Nat.reduceBEq, List.append_nil, Int.toNat_zero, Nat.sub_self, frS]
    refine ⟨fun g1 => ?_, fun g1 => ⟨fun g2 => ?_, fun g2 => ?_⟩⟩
    · have e : needIn m neg p q = false := by unfold needIn; rw [decide_eq_false (by omega)]; rfl
      refine hk _ ?_
      simp only [e, Bool.not_false]
      simp -implicitDefEqProofs only [evr, id, reduceCtorEq, reduceIte, Nat.reduceMul, Nat.reduceAdd, Nat.reduceLT, Nat.reduceLeDiff, Nat.reduceEqDiff, Int.reduceLT, Int.reduceBEq, Int.reduceBNe, Nat.reduceBEq, List.append_nil, Int.toNat_zero, Nat.sub_self, frS, evl]
      try rfl
    · have e : needIn m neg p q = false := by unfold needIn; rw [decide_eq_false (by omega)]; rfl
      refine hk _ ?_
      simp only [e, Bool.not_false]
      simp -implicitDefEqProofs only [evr, id, reduceCtorEq, reduceIte, Nat.reduceMul, Nat.reduceAdd, Nat.reduceLT, Nat.reduceLeDiff, Nat.reduceEqDiff, Int.reduceLT, Int.reduceBEq, Int.reduceBNe, Nat.reduceBEq, List.append_nil, Int.toNat_zero, Nat.sub_self, frS, evl]
      try rfl
    refine wcall_plain (refBetweenC F neg hp' hq' h1 h2) (by simp -implicitDefEqProofs only [evr, id, reduceCtorEq, reduceIte, Nat.reduceMul, Nat.reduceAdd, Nat.reduceLT, Nat.reduceLeDiff, Nat.reduceEqDiff, Int.reduceLT, Int.reduceBEq, Int.reduceBNe, Nat.reduceBEq, List.append_nil, Int.toNat_zero, Nat.sub_self, frS]; try rfl) (by rintro _ rfl; exact ok_plain rfl) ?_
    rintro y rfl
    have ec : needIn m neg p q = chB neg p q := by unfold needIn; rw [decide_eq_true (by omega)]; rfl
    simp -implicitDefEqProofs only [evr, id, reduceCtorEq, reduceIte, Nat.reduceMul, Nat.reduceAdd, Nat.reduceLT, Nat.reduceLeDiff, Nat.reduceEqDiff, Int.reduceLT, Int.reduceBEq, Int.reduceBNe, Nat.reduceBEq, List.append_nil, Int.toNat_zero, Nat.sub_self, frS]
    refine hk _ ?_
    rw [← ec]
    simp -implicitDefEqProofs only [evr, id, reduceCtorEq, reduceIte, Nat.reduceMul, Nat.reduceAdd, Nat.reduceLT, Nat.reduceLeDiff, Nat.reduceEqDiff, Int.reduceLT, Int.reduceBEq, Int.reduceBNe, Nat.reduceBEq, List.append_nil, Int.toNat_zero, Nat.sub_self, frS, evl]
    try first | rfl | exact .inl rfl
  simp only [thenK]
  refine Sat.cond_b rfl (fun h => ?_) (fun h => ?_)
  · have e : needIn m neg p q = false := by simpa using h
    (repeat refine Sat.seq ?_)
    (refine Sat.region_k fun k hk => ?_; simp -implicitDefEqProofs only [evr, id, reduceCtorEq, reduceIte, Nat.reduceMul, Nat.reduceAdd, Nat.reduceLT, Nat.reduceLeDiff, Nat.reduceEqDiff, Int.reduceLT, Int.reduceBEq, Int.reduceBNe, Nat.reduceBEq, List.append_nil, Int.toNat_zero, Nat.sub_self, frS]; refine hk _ ?_; clear hk k; try show Sat _ _ _ _ _)
    refine Sat.ret ?_
    simp only [Try.results23, evr, id, reduceCtorEq, reduceIte, Nat.reduceMul, Nat.reduceAdd, Nat.reduceLT, Nat.reduceLeDiff, Nat.reduceEqDiff, Int.reduceLT, Int.reduceBEq, Int.reduceBNe, Nat.reduceBEq, List.append_nil, Int.toNat_zero, Nat.sub_self, frS]
    unfold NeedG
    rw [if_neg (by rw [e]; decide)]
  have e : needIn m neg p q = true := by simpa using h
  obtain ⟨k, rfl, k1, k2, rfl, hp0, hpq⟩ := needIn_of e
  have fin : ∀ r, NeedPost k p q r → NeedG (k : Int) false p q r := fun r hr => by unfold NeedG; rw [if_pos e]; exact hr
  refine Sat.skip ?_
  simp only [thenK]
  (repeat refine Sat.seq ?_)
  (refine Sat.region_k fun k hk => ?_; simp -implicitDefEqProofs only [evr, id, reduceCtorEq, reduceIte, Nat.reduceMul, Nat.reduceAdd, Nat.reduceLT, Nat.reduceLeDiff, Nat.reduceEqDiff, Int.reduceLT, Int.reduceBEq, Int.reduceBNe, Nat.reduceBEq, List.append_nil, Int.toNat_zero, Nat.sub_self, frS]; refine hk _ ?_; clear hk k; try show Sat _ _ _ _ _)
  (repeat refine Sat.seq ?_)
  refine Sat.block ?_
  refine Sat.loop (ι := Nat) (fun i => ⟨36, [(6, .i .i64 i), (3, .op 0 b3 0), (0, .i .i64 k)], [.box b3 30 [.b false, .sl a1 x1.length c1 z1 r1, .sl a2 x2.length c2 z2 r2]]⟩)
    (fun i => i ≤ 129 ∧ ∀ j, j < i → missed j (k + 1) p q) (fun i => 129 - i) 0 ⟨by omega, fun j hj => absurd hj (Nat.not_lt_zero _)⟩ (by simp -implicitDefEqProofs only [evr, id, reduceCtorEq, reduceIte, Nat.reduceMul, Nat.reduceAdd, Nat.reduceLT, Nat.reduceLeDiff, Nat.reduceEqDiff, Int.reduceLT, Int.reduceBEq, Int.reduceBNe, Nat.reduceBEq, List.append_nil, Int.toNat_zero, Nat.sub_self, frS, evl]; try first | rfl | exact ⟨rfl, rfl⟩) ?_
  rintro i ⟨hi, hmis⟩
  (repeat refine Sat.seq ?_)
  (refine Sat.region_k fun k hk => ?_; simp -implicitDefEqProofs only [evr, id, reduceCtorEq, reduceIte, Nat.reduceMul, Nat.reduceAdd, Nat.reduceLT, Nat.reduceLeDiff, Nat.reduceEqDiff, Int.reduceLT, Int.reduceBEq, Int.reduceBNe, Nat.reduceBEq, List.append_nil, Int.toNat_zero, Nat.sub_self, frS]; refine hk _ ?_; clear hk k; try show Sat _ _ _ _ _)
  (repeat refine Sat.seq ?_)
  refine Sat.cond_b rfl (fun h => ?_) (fun h => ?_)
  · simp only [decide_eq_true_eq] at h
    have hin : i ≤ 128 := by omega
    have em : IntKind.i64.wrap ((k : Int) + 1) = ((k + 1 : Nat) : Int) := by rw [w64 (by omega)]; omega
    have ei1 : IntKind.i64.wrap ((i : Int) + 1) = ((i + 1 : Nat) : Int) := by rw [w64 (by omega)]; omega
    have bP := Nat.le_trans (misP_le i (k + 1)) (kn_le (k := k + 1) (by omega) hin)
    have bQ := Nat.le_trans (misQ_le i (k + 1)) (kn_le (k := k + 1) (by omega) hin)
    have hQ0 : 0 < misQ i (k + 1) := by
      have h9 := misQ_eq i (k + 1)
      have h8 : 0 < (k + 1) ^ i := Nat.pow_pos (by omega)
      rcases Nat.eq_zero_or_pos (misQ i (k + 1)) with h7 | h7
      · rw [h7] at h9; omega
      · exact h7
    have emi : misIn (i : Int) ((k + 1 : Nat) : Int) = true := decide_eq_true (by omega)
    refine Sat.skip ?_
    simp only [thenK]
    (repeat refine Sat.seq ?_)
    refine Sat.block ?_
    (repeat refine Sat.seq ?_)
    refine Sat.region_k fun k' hk => ?_
    simp -implicitDefEqProofs only [evr, id, reduceCtorEq, reduceIte, Nat.reduceMul, Nat.reduceAdd, Nat.reduceLT, Nat.reduceLeDiff, Nat.reduceEqDiff, Int.reduceLT, Int.reduceBEq, Int.reduceBNe, Nat.reduceBEq, List.append_nil, Int.toNat_zero, Nat.sub_self, frS, em]
    refine wcall_slice (refMissingC F i (k + 1 : Nat)) rfl rfl ?_
    rintro y ⟨f, ⟨sr, ss, rfl, hr, hs⟩, rfl⟩
    rw [emi, if_pos rfl, Int.toNat_natCast, Int.toNat_natCast] at hr hs
    have hr' := hr
    have hs' := hs
    obtain ⟨a3, c3, z3, r3, x3, rfl, _⟩ := hr
    obtain ⟨a4, c4, z4, r4, x4, rfl, _⟩ := hs
    simp only [emi, evr, id, reduceCtorEq, reduceIte, Nat.reduceMul, Nat.reduceAdd, Nat.reduceLT, Nat.reduceLeDiff, Nat.reduceEqDiff, Int.reduceLT, Int.reduceBEq, Int.reduceBNe, Nat.reduceBEq, List.append_nil, Int.toNat_zero, Nat.sub_self, frS]
    intro b7
    refine hk _ ?_
    clear hk k'
    try show Sat _ _ _ _ _
    (repeat refine Sat.seq ?_)
    (refine Sat.region_k fun k hk => ?_; simp -implicitDefEqProofs only [evr, id, reduceCtorEq, reduceIte, Nat.reduceMul, Nat.reduceAdd, Nat.reduceLT, Nat.reduceLeDiff, Nat.reduceEqDiff, Int.reduceLT, Int.reduceBEq, Int.reduceBNe, Nat.reduceBEq, List.append_nil, Int.toNat_zero, Nat.sub_self, frS])
    have bq : q ≤ 2 ^ 30 := Nat.le_of_lt h2
    have bp : p ≤ 2 ^ 30 := Nat.le_of_lt h1
    have bpQ := mul_two bp bQ
    have bPq := mul_two bP bq
    have bQq := mul_two bQ bq
    refine wcall_plain (refOrder3C F false false hr' hs' hp' hq' (lt_pw bP (by rw [xb_eq]; decide)) (lt_pw bQ (by rw [xb_eq]; decide)) (q_pw h1) (q_pw h2) (lt_pw_add bPq bpQ (by rw [xb_eq]; decide)) (lt_pw bQq (by rw [xb_eq]; decide)) hQ0 h0) (by simp -implicitDefEqProofs only [evr, id, reduceCtorEq, reduceIte, Nat.reduceMul, Nat.reduceAdd, Nat.reduceLT, Nat.reduceLeDiff, Nat.reduceEqDiff, Int.reduceLT, Int.reduceBEq, Int.reduceBNe, Nat.reduceBEq, List.append_nil, Int.toNat_zero, Nat.sub_self, frS]; try rfl) (by rintro _ rfl; exact ok_plain rfl) ?_
    rintro y rfl
    rw [ordV_pos hQ0 h0]
    simp -implicitDefEqProofs only [evr, id, reduceCtorEq, reduceIte, Nat.reduceMul, Nat.reduceAdd, Nat.reduceLT, Nat.reduceLeDiff, Nat.reduceEqDiff, Int.reduceLT, Int.reduceBEq, Int.reduceBNe, Nat.reduceBEq, List.append_nil, Int.toNat_zero, Nat.sub_self, frS]
    (refine hk _ ?_; clear hk k; try show Sat _ _ _ _ _)
    have hmi := missed_iff (n := i) (m := k + 1) (p := p) (q := q) (by omega)
    refine Sat.cond_b rfl (fun h5 => ?_) (fun h5 => ?_)
    · have h6 : ¬ missed i (k + 1) p q := by
        intro h7
        rw [mis_gt (by omega) h7] at h5
        revert h5
        decide
      (repeat refine Sat.seq ?_)
      (refine Sat.region_k fun k hk => ?_; simp -implicitDefEqProofs only [evr, id, reduceCtorEq, reduceIte, Nat.reduceMul, Nat.reduceAdd, Nat.reduceLT, Nat.reduceLeDiff, Nat.reduceEqDiff, Int.reduceLT, Int.reduceBEq, Int.reduceBNe, Nat.reduceBEq, List.append_nil, Int.toNat_zero, Nat.sub_self, frS]; refine hk _ ?_; clear hk k; try show Sat _ _ _ _ _)
      refine Sat.ret ?_
      simp only [thenK, blockK, Try.results23, evr, id, reduceCtorEq, reduceIte, Nat.reduceMul, Nat.reduceAdd, Nat.reduceLT, Nat.reduceLeDiff, Nat.reduceEqDiff, Int.reduceLT, Int.reduceBEq, Int.reduceBNe, Nat.reduceBEq, List.append_nil, Int.toNat_zero, Nat.sub_self, frS]
      exact fin _ (.inl ⟨i, hin, rfl, h6, hmis⟩)
    · have h6 : missed i (k + 1) p q := by
        refine Classical.byContradiction fun h8 => ?_
        have := mis_le (by omega) h8
        rw [decide_eq_false_iff_not] at h5
        exact h5 this
      refine Sat.skip ?_
      simp only [thenK, blockK]
      (repeat refine Sat.seq ?_)
      refine Sat.region_k fun k' hk => ?_
      simp -implicitDefEqProofs only [evr, id, reduceCtorEq, reduceIte, Nat.reduceMul, Nat.reduceAdd, Nat.reduceLT, Nat.reduceLeDiff, Nat.reduceEqDiff, Int.reduceLT, Int.reduceBEq, Int.reduceBNe, Nat.reduceBEq, List.append_nil, Int.toNat_zero, Nat.sub_self, frS, ei1]
      refine hk _ ?_
      simp only [thenK, blockK]
      refine ⟨i + 1, ⟨by show i + 1 ≤ 129; omega, fun j hj => ?_⟩, by show 129 - (i + 1) < 129 - i; omega, ?_⟩
      · rcases (show j < i ∨ j = i by omega) with h7 | rfl
        · exact hmis j h7
        · exact h6
      simp -implicitDefEqProofs only [evr, id, reduceCtorEq, reduceIte, Nat.reduceMul, Nat.reduceAdd, Nat.reduceLT, Nat.reduceLeDiff, Nat.reduceEqDiff, Int.reduceLT, Int.reduceBEq, Int.reduceBNe, Nat.reduceBEq, List.append_nil, Int.toNat_zero, Nat.sub_self, frS, evl]
  · simp only [decide_eq_false_iff_not] at h
    have hi2 : i = 129 := by omega
    refine Sat.exit ?_
    simp only [thenK, blockK, reduceIte]
    (repeat refine Sat.seq ?_)
    (refine Sat.region_k fun k hk => ?_; simp -implicitDefEqProofs only [evr, id, reduceCtorEq, reduceIte, Nat.reduceMul, Nat.reduceAdd, Nat.reduceLT, Nat.reduceLeDiff, Nat.reduceEqDiff, Int.reduceLT, Int.reduceBEq, Int.reduceBNe, Nat.reduceBEq, List.append_nil, Int.toNat_zero, Nat.sub_self, frS]; refine hk _ ?_; clear hk k; try show Sat _ _ _ _ _)
    refine Sat.ret ?_
    simp only [Try.results23, evr, id, reduceCtorEq, reduceIte, Nat.reduceMul, Nat.reduceAdd, Nat.reduceLT, Nat.reduceLeDiff, Nat.reduceEqDiff, Int.reduceLT, Int.reduceBEq, Int.reduceBNe, Nat.reduceBEq, List.append_nil, Int.toNat_zero, Nat.sub_self, frS]
    exact fin _ (.inr ⟨rfl, fun j hj => hmis j (by omega)⟩)
end Go.Proofs.Ytagmohpafjncfaa

/- Package stopping: limits, Fail: what each gives. -/
set_option linter.unusedSimpArgs false
set_option linter.unusedVariables false
namespace Go.Proofs.Ytagmohpafjncfaa
open Eng Lmb Go.RowKit
def IsNeed (m p q n : Nat) : Prop := n ≤ 128 ∧ ¬ missed n (m + 1) p q ∧ ∀ j, j < n → missed j (m + 1) p q
def NoNeed (m p q : Nat) : Prop := ∀ j, j ≤ 128 → missed j (m + 1) p q
theorem needPost_cases {m p q : Nat} {r : SV} (h : NeedPost m p q r) : (∃ n, r = tupL [.i .i64 (n : Nat), .i .i64 0] ∧ IsNeed m p q n) ∨ (r = tupL [.i .i64 0, .i .i64 5] ∧ NoNeed m p q) := by
  rcases h with ⟨n, h1, h2, h3, h4⟩ | ⟨h1, h2⟩
  · exact .inl ⟨n, h2, h1, h3, h4⟩
  · exact .inr ⟨h1, h2⟩
def Stops (k p q : Nat) (st : Nat → Nat) : Prop := ∀ j, 1 ≤ j → j < k → IsNeed j p q (st j)
def Beyond (k p q : Nat) : Prop := ∃ j, 1 ≤ j ∧ j < k ∧ NoNeed j p q
def LimPost (k p q : Nat) (r : SV) : Prop :=
  (∃ (st : Nat → Nat) (a : Option Addr) (cap : Nat) (rd : Nat → Nat → SV), Stops k p q st ∧ r = tupL [.sl a k cap 1 rd, .i .i64 0] ∧ ∀ j, 1 ≤ j → j < k → rd j 0 = .i .i64 (st j : Nat)) ∨
  (Beyond k p q ∧ ∃ (a : Option Addr) (len cap sz : Nat) (rd : Nat → Nat → SV), r = tupL [.sl a len cap sz rd, .i .i64 5])
theorem rd_more {j n : Nat} {st : Nat → Nat} : rdEq (j + 1) 1 (rdCat j (fun i _ => .i .i64 (st i : Nat)) (rdL [SV.i .i64 (n : Nat)] 1)) (fun i _ => .i .i64 ((if i = j then n else st i : Nat) : Int)) := by
  intro i c hi hc
  obtain rfl : c = 0 := by omega
  unfold rdCat
  by_cases h : i < j
  · rw [if_pos h]
    show SV.i _ _ = SV.i _ _
    rw [if_neg (by omega)]
  · obtain rfl : i = j := by omega
    rw [if_neg h, Nat.sub_self]
    show _ = SV.i _ _
    rw [if_pos rfl]
    rfl
theorem rd_first (blk : Nat) : rdEq 1 1 (rdL [SV.i .i64 0] 1) (fun i _ => .i .i64 ((0 : Nat) : Int)) := by
  intro i c hi hc
  obtain rfl : i = 0 := by omega
  obtain rfl : c = 0 := by omega
  rfl
set_option maxRecDepth 100000 in
theorem limitsC (F : Frm) (kk : Nat) (hkk : kk ≤ 16) (hkk1 : 1 ≤ kk) {sp sq : SV} {p q : Nat} (hp : Nats sp p) (hq : Nats sq q) (h0 : 0 < p) (h1 : p < q) (h2 : q < 1073741824) :
    Contract F Try.prog 47 [.i .i64 kk, frS false sp sq] (LimPost kk p q) := by
  have hp' := hp
  have hq' := hq
  obtain ⟨a1, c1, z1, r1, x1, rfl, _⟩ := hp
  obtain ⟨a2, c2, z2, r2, x2, rfl, _⟩ := hq
  refine contract_of Try.func47 rfl (by kernel_rfl) ?_
  simp only [Try.ntmps47, argEnv, frS]
  (repeat refine Sat.seq ?_)
  (refine Sat.region_k fun k hk => ?_; simp -implicitDefEqProofs only [evr, id, reduceCtorEq, reduceIte, Nat.reduceMul, Nat.reduceAdd, Nat.reduceLT, Nat.reduceLeDiff, Nat.reduceEqDiff, Int.reduceLT, Int.reduceBEq, Int.reduceBNe, Nat.reduceBEq, List.append_nil, Int.toNat_zero, Nat.sub_self, frS])
  intro b3
  (refine hk _ ?_; clear hk k; try show Sat _ _ _ _ _)
  (repeat refine Sat.seq ?_)
  (refine Sat.region_k fun k hk => ?_; simp -implicitDefEqProofs only [evr, id, reduceCtorEq, reduceIte, Nat.reduceMul, Nat.reduceAdd, Nat.reduceLT, Nat.reduceLeDiff, Nat.reduceEqDiff, Int.reduceLT, Int.reduceBEq, Int.reduceBNe, Nat.reduceBEq, List.append_nil, Int.toNat_zero, Nat.sub_self, frS])
  intro blk
  (refine hk _ ?_; clear hk k; try show Sat _ _ _ _ _)
  (repeat refine Sat.seq ?_)
  (refine Sat.region_k fun k hk => ?_; simp -implicitDefEqProofs only [evr, id, reduceCtorEq, reduceIte, Nat.reduceMul, Nat.reduceAdd, Nat.reduceLT, Nat.reduceLeDiff, Nat.reduceEqDiff, Int.reduceLT, Int.reduceBEq, Int.reduceBNe, Nat.reduceBEq, List.append_nil, Int.toNat_zero, Nat.sub_self, frS]; refine hk _ ?_; clear hk k; try show Sat _ _ _ _ _)
  (repeat refine Sat.seq ?_)
  refine Sat.block ?_
  (repeat refine Sat.seq ?_)
  refine Sat.loop (ι := Nat × (Nat → Nat) × (Option Addr × Nat)) (fun x => ⟨30, [(7, .i .i64 (x.1 : Int)), (6, .os 1 x.2.2.1 x.1 x.2.2.2), (0, (.i .i64 kk)), (3, .op 0 b3 0)], [.box b3 30 [.b false, .sl a1 x1.length c1 z1 r1, .sl a2 x2.length c2 z2 r2], .row x.2.2.1 3 x.1 x.2.2.2 1 (fun i _ => .i .i64 (x.2.1 i : Nat))]⟩)
    (fun x => 1 ≤ x.1 ∧ x.1 ≤ kk ∧ Stops x.1 p q x.2.1) (fun x => kk - x.1) (1, fun _ => 0, (some ⟨blk, 0, none⟩, 1)) ⟨Nat.le_refl _, hkk1, fun j h3 h4 => by omega⟩ (by simp -implicitDefEqProofs only [evr, id, reduceCtorEq, reduceIte, Nat.reduceMul, Nat.reduceAdd, Nat.reduceLT, Nat.reduceLeDiff, Nat.reduceEqDiff, Int.reduceLT, Int.reduceBEq, Int.reduceBNe, Nat.reduceBEq, List.append_nil, Int.toNat_zero, Nat.sub_self, frS, evl]; exact ⟨rfl, rd_first 0⟩) ?_
  rintro ⟨j, st, a, cap⟩ ⟨hj1, hjk, hst⟩
  simp only at hj1 hjk hst ⊢
  (repeat refine Sat.seq ?_)
  (refine Sat.region_k fun k hk => ?_; simp -implicitDefEqProofs only [evr, id, reduceCtorEq, reduceIte, Nat.reduceMul, Nat.reduceAdd, Nat.reduceLT, Nat.reduceLeDiff, Nat.reduceEqDiff, Int.reduceLT, Int.reduceBEq, Int.reduceBNe, Nat.reduceBEq, List.append_nil, Int.toNat_zero, Nat.sub_self, frS]; refine hk _ ?_; clear hk k; try show Sat _ _ _ _ _)
  (repeat refine Sat.seq ?_)
  refine Sat.cond_b rfl (fun h => ?_) (fun h => ?_)
  · simp only [decide_eq_true_eq] at h
    have ej1 : IntKind.i64.wrap ((j : Int) + 1) = ((j + 1 : Nat) : Int) := by rw [w64 (by omega)]; omega
    refine Sat.skip ?_
    simp only [thenK]
    (repeat refine Sat.seq ?_)
    refine Sat.block ?_
    (repeat refine Sat.seq ?_)
    (refine Sat.region_k fun k hk => ?_; simp -implicitDefEqProofs only [evr, id, reduceCtorEq, reduceIte, Nat.reduceMul, Nat.reduceAdd, Nat.reduceLT, Nat.reduceLeDiff, Nat.reduceEqDiff, Int.reduceLT, Int.reduceBEq, Int.reduceBNe, Nat.reduceBEq, List.append_nil, Int.toNat_zero, Nat.sub_self, frS])
    refine wcall_plain (stNeededC F j (by omega) hj1 hp' hq' h0 h1 h2) (by simp -implicitDefEqProofs only [evr, id, reduceCtorEq, reduceIte, Nat.reduceMul, Nat.reduceAdd, Nat.reduceLT, Nat.reduceLeDiff, Nat.reduceEqDiff, Int.reduceLT, Int.reduceBEq, Int.reduceBNe, Nat.reduceBEq, List.append_nil, Int.toNat_zero, Nat.sub_self, frS]; try rfl) (fun r h => by rcases needPost_cases h with ⟨n, rfl, _⟩ | ⟨rfl, _⟩ <;> exact ok_tupL rfl) ?_
    intro r hr
    rcases needPost_cases hr with ⟨n, rfl, hn⟩ | ⟨rfl, hn⟩
    · simp -implicitDefEqProofs only [evr, id, reduceCtorEq, reduceIte, Nat.reduceMul, Nat.reduceAdd, Nat.reduceLT, Nat.reduceLeDiff, Nat.reduceEqDiff, Int.reduceLT, Int.reduceBEq, Int.reduceBNe, Nat.reduceBEq, List.append_nil, Int.toNat_zero, Nat.sub_self, frS]
      (refine hk _ ?_; clear hk k; try show Sat _ _ _ _ _)
      (repeat refine Sat.seq ?_)
      (refine Sat.region_k fun k hk => ?_; simp -implicitDefEqProofs only [evr, id, reduceCtorEq, reduceIte, Nat.reduceMul, Nat.reduceAdd, Nat.reduceLT, Nat.reduceLeDiff, Nat.reduceEqDiff, Int.reduceLT, Int.reduceBEq, Int.reduceBNe, Nat.reduceBEq, List.append_nil, Int.toNat_zero, Nat.sub_self, frS]; refine hk _ ?_; clear hk k; try show Sat _ _ _ _ _)
      refine Sat.cond_b rfl (fun h => absurd h (by decide)) (fun h => ?_)
      refine Sat.skip ?_
      simp only [thenK]
      (repeat refine Sat.seq ?_)
      (refine Sat.region_k fun k hk => ?_; simp -implicitDefEqProofs only [evr, id, reduceCtorEq, reduceIte, Nat.reduceMul, Nat.reduceAdd, Nat.reduceLT, Nat.reduceLeDiff, Nat.reduceEqDiff, Int.reduceLT, Int.reduceBEq, Int.reduceBNe, Nat.reduceBEq, List.append_nil, Int.toNat_zero, Nat.sub_self, frS])
      intro blk2
      refine ⟨⟨by unfold maxLen; omega, by omega⟩, fun a2 cap2 => ?_⟩
      refine hk _ ?_
      clear hk k
      simp only [thenK, blockK]
      (repeat refine Sat.seq ?_)
      refine Sat.region_k fun k hk => ?_
      simp -implicitDefEqProofs only [evr, id, reduceCtorEq, reduceIte, Nat.reduceMul, Nat.reduceAdd, Nat.reduceLT, Nat.reduceLeDiff, Nat.reduceEqDiff, Int.reduceLT, Int.reduceBEq, Int.reduceBNe, Nat.reduceBEq, List.append_nil, Int.toNat_zero, Nat.sub_self, frS, ej1]
      refine hk _ ?_
      simp only [thenK, blockK]
      refine ⟨(j + 1, fun i => if i = j then n else st i, (a2, cap2)), ⟨by show 1 ≤ j + 1; omega, by show j + 1 ≤ kk; omega, fun i g1 g2 => ?_⟩, by show kk - (j + 1) < kk - j; omega, ?_⟩
      · show IsNeed i p q (if i = j then n else st i)
        by_cases e : i = j
        · subst e; rw [if_pos rfl]; exact hn
        · rw [if_neg e]; exact hst i g1 (by have : i < j + 1 := g2; omega)
      simp -implicitDefEqProofs only [evr, id, reduceCtorEq, reduceIte, Nat.reduceMul, Nat.reduceAdd, Nat.reduceLT, Nat.reduceLeDiff, Nat.reduceEqDiff, Int.reduceLT, Int.reduceBEq, Int.reduceBNe, Nat.reduceBEq, List.append_nil, Int.toNat_zero, Nat.sub_self, frS, evl]
      exact rd_more
    · simp -implicitDefEqProofs only [evr, id, reduceCtorEq, reduceIte, Nat.reduceMul, Nat.reduceAdd, Nat.reduceLT, Nat.reduceLeDiff, Nat.reduceEqDiff, Int.reduceLT, Int.reduceBEq, Int.reduceBNe, Nat.reduceBEq, List.append_nil, Int.toNat_zero, Nat.sub_self, frS]
      (refine hk _ ?_; clear hk k; try show Sat _ _ _ _ _)
      (repeat refine Sat.seq ?_)
      (refine Sat.region_k fun k hk => ?_; simp -implicitDefEqProofs only [evr, id, reduceCtorEq, reduceIte, Nat.reduceMul, Nat.reduceAdd, Nat.reduceLT, Nat.reduceLeDiff, Nat.reduceEqDiff, Int.reduceLT, Int.reduceBEq, Int.reduceBNe, Nat.reduceBEq, List.append_nil, Int.toNat_zero, Nat.sub_self, frS]; refine hk _ ?_; clear hk k; try show Sat _ _ _ _ _)
      refine Sat.cond_b rfl (fun h => ?_) (fun h => absurd h (by decide))
      (repeat refine Sat.seq ?_)
      (refine Sat.region_k fun k hk => ?_; simp -implicitDefEqProofs only [evr, id, reduceCtorEq, reduceIte, Nat.reduceMul, Nat.reduceAdd, Nat.reduceLT, Nat.reduceLeDiff, Nat.reduceEqDiff, Int.reduceLT, Int.reduceBEq, Int.reduceBNe, Nat.reduceBEq, List.append_nil, Int.toNat_zero, Nat.sub_self, frS]; refine hk _ ?_; clear hk k; try show Sat _ _ _ _ _)
      refine Sat.ret ?_
      simp only [thenK, blockK, Try.results47, evr, id, reduceCtorEq, reduceIte, Nat.reduceMul, Nat.reduceAdd, Nat.reduceLT, Nat.reduceLeDiff, Nat.reduceEqDiff, Int.reduceLT, Int.reduceBEq, Int.reduceBNe, Nat.reduceBEq, List.append_nil, Int.toNat_zero, Nat.sub_self, frS]
      exact .inr ⟨⟨j, hj1, by omega, hn⟩, _, _, _, _, _, rfl⟩
  · simp only [decide_eq_false_iff_not] at h
    obtain rfl : j = kk := by omega
    refine Sat.exit ?_
    simp only [thenK, blockK, reduceIte]
    (repeat refine Sat.seq ?_)
    (refine Sat.region_k fun k hk => ?_; simp -implicitDefEqProofs only [evr, id, reduceCtorEq, reduceIte, Nat.reduceMul, Nat.reduceAdd, Nat.reduceLT, Nat.reduceLeDiff, Nat.reduceEqDiff, Int.reduceLT, Int.reduceBEq, Int.reduceBNe, Nat.reduceBEq, List.append_nil, Int.toNat_zero, Nat.sub_self, frS]; refine hk _ ?_; clear hk k; try show Sat _ _ _ _ _)
    refine Sat.ret ?_
    simp only [Try.results47, evr, id, reduceCtorEq, reduceIte, Nat.reduceMul, Nat.reduceAdd, Nat.reduceLT, Nat.reduceLeDiff, Nat.reduceEqDiff, Int.reduceLT, Int.reduceBEq, Int.reduceBNe, Nat.reduceBEq, List.append_nil, Int.toNat_zero, Nat.sub_self, frS]
    exact .inl ⟨st, _, _, _, hst, rfl, fun i _ _ => rfl⟩
end Go.Proofs.Ytagmohpafjncfaa

/- Package stopping: Fail: what it gives. -/
set_option linter.unusedSimpArgs false
set_option linter.unusedVariables false
namespace Go.Proofs.Ytagmohpafjncfaa
open Eng Lmb Go.RowKit
def FailPost (k p q : Nat) (r : SV) : Prop :=
  (∃ st f, Stops k p q st ∧ r = tupL [f, .i .i64 0] ∧ FrS f false (redP (failN k st 128) (k ^ 128)) (redQ (failN k st 128) (k ^ 128))) ∨ (Beyond k p q ∧ ∃ f, r = tupL [f, .i .i64 5] ∧ FrS f false 0 0)
theorem raw_zero (k : Nat) (W : Nat → Nat) : rawW k W 0 = 0 := by simp [rawW]
theorem rd_put {N ix : Nat} {sv : Nat → SV} {s : SV} : rdEq N 1 (rdSet (fun i _ => sv i) ix 0 [s]) (fun i _ => if i = ix then s else sv i) := by
  intro i c hi hc
  obtain rfl : c = 0 := by omega
  unfold rdSet
  by_cases h : i = ix
  · subst h
    simp
  · show (if _ then _ else _) = if _ then _ else _
    rw [if_neg (by intro h2; exact h h2.1), if_neg h]
theorem rd_new {N : Nat} {s z : SV} : rdEq N 1 (rdSet (fun _ j => [z].getD j default) 0 0 [s]) (fun i _ => if i = 0 then s else z) := by
  intro i c hi hc
  obtain rfl : c = 0 := by omega
  unfold rdSet
  by_cases h : i = 0
  · subst h
    simp
  · show (if _ then _ else _) = if _ then _ else _
    rw [if_neg (by intro h2; exact h h2.1), if_neg h]
    rfl
def RowN (sv : Nat → SV) (N : Nat) (f : Nat → Nat) : Prop := ∀ i, i ≤ N → Nats (sv i) (f i)
theorem RowN.put {sv : Nat → SV} {N ix : Nat} {f g : Nat → Nat} {s : SV} (h : RowN sv N f) (hs : Nats s (g ix)) (hg : ∀ i, i ≤ N → i ≠ ix → f i = g i) : RowN (fun i => if i = ix then s else sv i) N g := by
  intro i hi
  by_cases e : i = ix
  · subst e
    simp only [if_true]
    exact hs
  · simp only [e, if_false]
    rw [← hg i hi e]
    exact h i hi
theorem RowN.same {sv : Nat → SV} {N : Nat} {f g : Nat → Nat} (h : RowN sv N f) (hg : ∀ i, i ≤ N → f i = g i) : RowN sv N g := fun i hi => by rw [← hg i hi]; exact h i hi
structure FailInv (k : Nat) (st : Nat → Nat) (n : Nat) (sv : Nat → SV) (sa sp sq : SV) : Prop where
  all : Nats sa (k ^ n)
  ways : RowN sv k (wayN k st n)
  num : Nats sp (redP (failN k st n) (k ^ n))
  den : Nats sq (redQ (failN k st n) (k ^ n))
structure FailRow (k : Nat) (st : Nat → Nat) (n j : Nat) (sv : Nat → SV) : Prop where
  le : j ≤ k
  ways : RowN sv k (fun i => if j < i then rawW k (wayN k st n) i else wayN k st n i)
theorem FailRow.old {k : Nat} {st : Nat → Nat} {n j : Nat} {sv : Nat → SV} (h : FailRow k st n j sv) {i : Nat} (hi : i ≤ j) : Nats (sv i) (wayN k st n i) := by
  have := h.ways i (Nat.le_trans hi h.le)
  simp only at this
  rwa [if_neg (by omega)] at this
theorem FailRow.step {k : Nat} {st : Nat → Nat} {n j : Nat} {sv : Nat → SV} (h : FailRow k st n (j + 1) sv) {s : SV} (hs : Nats s (wayN k st n (j + 1) * (j + 1) + wayN k st n j * (k - (j + 1) + 1))) : FailRow k st n j (fun i => if i = j + 1 then s else sv i) := by
  refine ⟨by have := h.le; omega, h.ways.put (by rw [if_pos (by omega)]; unfold rawW; rw [if_neg (by omega), Nat.add_sub_cancel]; exact hs) fun i hi hne => ?_⟩
  by_cases hlt : j + 1 < i
  · rw [if_pos hlt, if_pos (by omega)]
  · rw [if_neg hlt, if_neg (by omega)]
theorem FailRow.done {k : Nat} {st : Nat → Nat} {n : Nat} {sv : Nat → SV} (h : FailRow k st n 0 sv) {s : SV} (hs : Nats s 0) : RowN (fun i => if i = 0 then s else sv i) k (rawW k (wayN k st n)) :=
  h.ways.put (by rw [raw_zero]; exact hs) fun i hi hne => by rw [if_pos (by omega)]
structure FailOut (k : Nat) (st : Nat → Nat) (n j : Nat) (sv : Nat → SV) (sp sq : SV) : Prop where
  lo : 1 ≤ j
  le : j ≤ k
  ways : RowN sv k (fun i => if i < j then wayN k st (n + 1) i else rawW k (wayN k st n) i)
  num : Nats sp (redP (failN k st n * k + outN k st n j) (k ^ (n + 1)))
  den : Nats sq (redQ (failN k st n * k + outN k st n j) (k ^ (n + 1)))
theorem way_zero (k : Nat) (st : Nat → Nat) (n : Nat) : wayN k st (n + 1) 0 = 0 := by
  rw [wayN, if_neg (fun h => by have := h.1; omega), raw_zero]
theorem FailOut.start {k : Nat} {st : Nat → Nat} {n : Nat} {sv : Nat → SV} {sa sp sq : SV} (hk : 1 ≤ k) (h : FailInv k st n sv sa sp sq) {sv' : Nat → SV} (hw : RowN sv' k (rawW k (wayN k st n))) : FailOut k st n 1 sv' sp sq := by
  have e : outN k st n 1 = 0 := by
    unfold outN
    rw [sumUp, sumUp, if_neg (fun h => by have := h.1; omega)]
  have hr := red_mul (failN k st n) (k ^ n) (x := k) hk
  refine ⟨Nat.le_refl _, hk, hw.same fun i hi => ?_, ?_, ?_⟩
  · by_cases hi : i < 1
    · obtain rfl : i = 0 := by omega
      rw [if_pos hi, way_zero, raw_zero]
    · rw [if_neg hi]
  · rw [e, Nat.add_zero, Nat.pow_succ, hr.1]; exact h.num
  · rw [e, Nat.add_zero, Nat.pow_succ, hr.2]; exact h.den
theorem FailOut.done {k : Nat} {st : Nat → Nat} {n : Nat} {sv : Nat → SV} {sa sp sq : SV} (h : FailOut k st n k sv sp sq) (ha : Nats sa (k ^ (n + 1))) : FailInv k st (n + 1) sv sa sp sq := by
  refine ⟨ha, h.ways.same fun i hi => ?_, h.num, h.den⟩
  by_cases hk : i < k
  · rw [if_pos hk]
  · obtain rfl : i = k := by omega
    rw [if_neg hk, wayN, if_neg (fun h2 => by have := h2.2.1; omega)]
theorem outN_step (k : Nat) (st : Nat → Nat) (n j : Nat) : outN k st n (j + 1) = outN k st n j + if stopAt k st (n + 1) j then rawW k (wayN k st n) j else 0 := rfl
theorem FailOut.skip {k : Nat} {st : Nat → Nat} {n j : Nat} {sv : Nat → SV} {sp sq : SV} (h : FailOut k st n j sv sp sq) (hj : j < k) (hn : ¬ (st j ≤ n + 1 ∧ 0 < rawW k (wayN k st n) j)) : FailOut k st n (j + 1) sv sp sq := by
  have h1 := h.lo
  have e : outN k st n (j + 1) = outN k st n j := by
    rw [outN_step]
    by_cases hs : stopAt k st (n + 1) j
    · rw [if_pos hs]
      have := hs.2.2
      omega
    · rw [if_neg hs]; rfl
  refine ⟨by omega, hj, h.ways.same fun i hi => ?_, by rw [e]; exact h.num, by rw [e]; exact h.den⟩
  rcases (show i < j ∨ i = j ∨ j < i by omega) with hlt | rfl | hgt
  · rw [if_pos hlt, if_pos (by omega)]
  · rw [if_neg (by omega), if_pos (by omega), wayN]
    by_cases hs : stopAt k st (n + 1) i
    · rw [if_pos hs]
      have := hs.2.2
      omega
    · rw [if_neg hs]
  · rw [if_neg (by omega), if_neg (by omega)]
theorem FailOut.take {k : Nat} {st : Nat → Nat} {n j : Nat} {sv : Nat → SV} {sp sq sp' sq' nil : SV} (h : FailOut k st n j sv sp sq) (hj : j < k) (hn : st j ≤ n + 1) (hnil : Nats nil 0)
    (hp : Nats sp' (redP (failN k st n * k + outN k st n j + rawW k (wayN k st n) j) (k ^ (n + 1)))) (hq : Nats sq' (redQ (failN k st n * k + outN k st n j + rawW k (wayN k st n) j) (k ^ (n + 1)))) :
    FailOut k st n (j + 1) (fun i => if i = j then nil else sv i) sp' sq' := by
  have h1 := h.lo
  have hs : stopAt k st (n + 1) j := ⟨h1, hj, hn⟩
  have e : failN k st n * k + outN k st n (j + 1) = failN k st n * k + outN k st n j + rawW k (wayN k st n) j := by
    rw [outN_step, if_pos hs]
    omega
  refine ⟨by omega, hj, h.ways.put (ix := j) (by rw [if_pos (by omega), wayN, if_pos hs]; exact hnil) fun i hi hne => ?_, by rw [e]; exact hp, by rw [e]; exact hq⟩
  by_cases hlt : i < j
  · rw [if_pos hlt, if_pos (by omega)]
  · rw [if_neg hlt, if_neg (by omega)]
set_option maxHeartbeats 1000000 in
set_option maxRecDepth 100000 in
theorem stFailC (F : Frm) (kk : Nat) (hkk : kk ≤ 16) (hkk1 : 1 ≤ kk) {sp sq : SV} {p q : Nat} (hp : Nats sp p) (hq : Nats sq q) (h0 : 0 < p) (h1 : p < q) (h2 : q < 1073741824) :
    Contract F Try.prog 25 [.i .i64 kk, frS false sp sq] (FailPost kk p q) := by
  have hp' := hp
  have hq' := hq
  obtain ⟨a1, c1, z1, r1, x1, rfl, _⟩ := hp
  obtain ⟨a2, c2, z2, r2, x2, rfl, _⟩ := hq
  refine contract_of Try.func25 rfl (by kernel_rfl) ?_
  simp only [Try.ntmps25, argEnv, frS]
  have ek1 : IntKind.i64.wrap ((kk : Int) + 1) = ((kk + 1 : Nat) : Int) := by rw [w64 (by omega)]; omega
  (repeat refine Sat.seq ?_)
  (refine Sat.region_k fun k hk => ?_; simp -implicitDefEqProofs only [evr, id, reduceCtorEq, reduceIte, Nat.reduceMul, Nat.reduceAdd, Nat.reduceLT, Nat.reduceLeDiff, Nat.reduceEqDiff, Int.reduceLT, Int.reduceBEq, Int.reduceBNe, Nat.reduceBEq, List.append_nil, Int.toNat_zero, Nat.sub_self, frS])
  intro b3 b4
  (refine hk _ ?_; clear hk k; try show Sat _ _ _ _ _)
  (repeat refine Sat.seq ?_)
  refine Sat.region_at ⟨116, [(24, .b false), (3, .op 0 b3 0), (4, .op 1 b4 0), (0, .i .i64 kk)], [.box b3 30 [.b false, .sl a1 x1.length c1 z1 r1, .sl a2 x2.length c2 z2 r2], .box b4 30 [.b false, .sl none 0 0 0 (fun _ _ => .v undef), .sl none 0 0 0 (fun _ _ => .v undef)]]⟩ (fun k hk => ?_) ?_
  · simp -implicitDefEqProofs only [evr, id, reduceCtorEq, reduceIte, Nat.reduceMul, Nat.reduceAdd, Nat.reduceLT, Nat.reduceLeDiff, Nat.reduceEqDiff, Int.reduceLT, Int.reduceBEq, Int.reduceBNe, Nat.reduceBEq, List.append_nil, Int.toNat_zero, Nat.sub_self, frS]
    refine ⟨fun h => by omega, fun h => ⟨fun h => by omega, fun h => ?_⟩⟩
    refine wcall_plain (stChanceC F hp' hq' h0 h1 (lt_pw (a := 31) (by omega) (by decide))) (by simp -implicitDefEqProofs only [evr, id, reduceCtorEq, reduceIte, Nat.reduceMul, Nat.reduceAdd, Nat.reduceLT, Nat.reduceLeDiff, Nat.reduceEqDiff, Int.reduceLT, Int.reduceBEq, Int.reduceBNe, Nat.reduceBEq, List.append_nil, Int.toNat_zero, Nat.sub_self, frS]; try rfl) (by rintro _ rfl; exact ok_plain rfl) ?_
    rintro y rfl
    simp -implicitDefEqProofs only [evr, id, reduceCtorEq, reduceIte, Nat.reduceMul, Nat.reduceAdd, Nat.reduceLT, Nat.reduceLeDiff, Nat.reduceEqDiff, Int.reduceLT, Int.reduceBEq, Int.reduceBNe, Nat.reduceBEq, List.append_nil, Int.toNat_zero, Nat.sub_self, frS]
    refine hk _ ?_
    simp -implicitDefEqProofs only [evr, id, reduceCtorEq, reduceIte, Nat.reduceMul, Nat.reduceAdd, Nat.reduceLT, Nat.reduceLeDiff, Nat.reduceEqDiff, Int.reduceLT, Int.reduceBEq, Int.reduceBNe, Nat.reduceBEq, List.append_nil, Int.toNat_zero, Nat.sub_self, frS, evl]
    try rfl
  simp only [thenK]
  refine Sat.cond_b rfl (fun h => by cases h) (fun h => ?_)
  refine Sat.skip ?_
  simp only [thenK]
  (repeat refine Sat.seq ?_)
  (refine Sat.region_k fun k hk => ?_; simp -implicitDefEqProofs only [evr, id, reduceCtorEq, reduceIte, Nat.reduceMul, Nat.reduceAdd, Nat.reduceLT, Nat.reduceLeDiff, Nat.reduceEqDiff, Int.reduceLT, Int.reduceBEq, Int.reduceBNe, Nat.reduceBEq, List.append_nil, Int.toNat_zero, Nat.sub_self, frS])
  refine wcall_slice (limitsC F kk hkk hkk1 hp' hq' h0 h1 h2) rfl (by simp -implicitDefEqProofs only [evr, id, reduceCtorEq, reduceIte, Nat.reduceMul, Nat.reduceAdd, Nat.reduceLT, Nat.reduceLeDiff, Nat.reduceEqDiff, Int.reduceLT, Int.reduceBEq, Int.reduceBNe, Nat.reduceBEq, List.append_nil, Int.toNat_zero, Nat.sub_self, frS]; try rfl) ?_
  rintro r (⟨st, av, cv, rs, hst, rfl, hrs⟩ | ⟨hbe, av, ls, cv, zs, rs, rfl⟩)
  · simp -implicitDefEqProofs only [evr, id, reduceCtorEq, reduceIte, Nat.reduceMul, Nat.reduceAdd, Nat.reduceLT, Nat.reduceLeDiff, Nat.reduceEqDiff, Int.reduceLT, Int.reduceBEq, Int.reduceBNe, Nat.reduceBEq, List.append_nil, Int.toNat_zero, Nat.sub_self, frS]
    (refine hk _ ?_; clear hk k; try show Sat _ _ _ _ _)
    (repeat refine Sat.seq ?_)
    (refine Sat.region_k fun k hk => ?_; simp -implicitDefEqProofs only [evr, id, reduceCtorEq, reduceIte, Nat.reduceMul, Nat.reduceAdd, Nat.reduceLT, Nat.reduceLeDiff, Nat.reduceEqDiff, Int.reduceLT, Int.reduceBEq, Int.reduceBNe, Nat.reduceBEq, List.append_nil, Int.toNat_zero, Nat.sub_self, frS]; refine hk _ ?_; clear hk k; try show Sat _ _ _ _ _)
    refine Sat.cond_b rfl (fun h => absurd h (by decide)) (fun h => ?_)
    refine Sat.skip ?_
    simp only [thenK]
    (repeat refine Sat.seq ?_)
    refine Sat.region_k fun k hk => ?_
    simp -implicitDefEqProofs only [evr, id, reduceCtorEq, reduceIte, Nat.reduceMul, Nat.reduceAdd, Nat.reduceLT, Nat.reduceLeDiff, Nat.reduceEqDiff, Int.reduceLT, Int.reduceBEq, Int.reduceBNe, Nat.reduceBEq, List.append_nil, Int.toNat_zero, Nat.sub_self, frS, ek1]
    refine ⟨by omega, fun aw cw => ?_⟩
    (refine hk _ ?_; clear hk k; try show Sat _ _ _ _ _)
    (repeat refine Sat.seq ?_)
    (refine Sat.region_k fun k hk => ?_; simp -implicitDefEqProofs only [evr, id, reduceCtorEq, reduceIte, Nat.reduceMul, Nat.reduceAdd, Nat.reduceLT, Nat.reduceLeDiff, Nat.reduceEqDiff, Int.reduceLT, Int.reduceBEq, Int.reduceBNe, Nat.reduceBEq, List.append_nil, Int.toNat_zero, Nat.sub_self, frS])
    refine wcall_slice (stSmallC F 1 (by decide)) rfl rfl ?_
    intro y hy
    have hy1 := hy
    obtain ⟨a3, c3, z3, r3, x3, rfl, _⟩ := hy
    simp -implicitDefEqProofs only [evr, id, reduceCtorEq, reduceIte, Nat.reduceMul, Nat.reduceAdd, Nat.reduceLT, Nat.reduceLeDiff, Nat.reduceEqDiff, Int.reduceLT, Int.reduceBEq, Int.reduceBNe, Nat.reduceBEq, List.append_nil, Int.toNat_zero, Nat.sub_self, frS]
    refine ⟨by omega, by omega, ?_⟩
    (refine hk _ ?_; clear hk k; try show Sat _ _ _ _ _)
    (repeat refine Sat.seq ?_)
    (refine Sat.region_k fun k hk => ?_; simp -implicitDefEqProofs only [evr, id, reduceCtorEq, reduceIte, Nat.reduceMul, Nat.reduceAdd, Nat.reduceLT, Nat.reduceLeDiff, Nat.reduceEqDiff, Int.reduceLT, Int.reduceBEq, Int.reduceBNe, Nat.reduceBEq, List.append_nil, Int.toNat_zero, Nat.sub_self, frS])
    refine wcall_slice (stSmallC F 1 (by decide)) rfl rfl ?_
    intro y hy
    have hy2 := hy
    obtain ⟨a4, c4, z4, r4, x4, rfl, _⟩ := hy
    simp -implicitDefEqProofs only [evr, id, reduceCtorEq, reduceIte, Nat.reduceMul, Nat.reduceAdd, Nat.reduceLT, Nat.reduceLeDiff, Nat.reduceEqDiff, Int.reduceLT, Int.reduceBEq, Int.reduceBNe, Nat.reduceBEq, List.append_nil, Int.toNat_zero, Nat.sub_self, frS]
    (refine hk _ ?_; clear hk k; try show Sat _ _ _ _ _)
    (repeat refine Sat.seq ?_)
    (refine Sat.region_k fun k hk => ?_; simp -implicitDefEqProofs only [evr, id, reduceCtorEq, reduceIte, Nat.reduceMul, Nat.reduceAdd, Nat.reduceLT, Nat.reduceLeDiff, Nat.reduceEqDiff, Int.reduceLT, Int.reduceBEq, Int.reduceBNe, Nat.reduceBEq, List.append_nil, Int.toNat_zero, Nat.sub_self, frS])
    refine wcall_slice (stSmallC F 1 (by decide)) rfl rfl ?_
    intro y hy
    have hy3 := hy
    obtain ⟨a5, c5, z5, r5, x5, rfl, _⟩ := hy
    simp -implicitDefEqProofs only [evr, id, reduceCtorEq, reduceIte, Nat.reduceMul, Nat.reduceAdd, Nat.reduceLT, Nat.reduceLeDiff, Nat.reduceEqDiff, Int.reduceLT, Int.reduceBEq, Int.reduceBNe, Nat.reduceBEq, List.append_nil, Int.toNat_zero, Nat.sub_self, frS]
    intro b10
    (refine hk _ ?_; clear hk k; try show Sat _ _ _ _ _)
    (repeat refine Sat.seq ?_)
    (refine Sat.region_k fun k hk => ?_; simp -implicitDefEqProofs only [evr, id, reduceCtorEq, reduceIte, Nat.reduceMul, Nat.reduceAdd, Nat.reduceLT, Nat.reduceLeDiff, Nat.reduceEqDiff, Int.reduceLT, Int.reduceBEq, Int.reduceBNe, Nat.reduceBEq, List.append_nil, Int.toNat_zero, Nat.sub_self, frS]; refine hk _ ?_; clear hk k; try show Sat _ _ _ _ _)
    refine Sat.block ?_
    (repeat refine Sat.seq ?_)
    refine Sat.loop (ι := Nat × (Nat → SV) × SV × SV × SV) (fun x => ⟨116, [(11, .i .i64 ((x.1 + 1 : Nat) : Int)), (9, x.2.2.1), (8, .os 2 aw (kk + 1) cw), (6, .sl av kk cv 1 rs), (10, .op 3 b10 0), (0, .i .i64 kk), (4, .op 1 b4 0)], [.box b3 30 [.b false, .sl a1 x1.length c1 z1 r1, .sl a2 x2.length c2 z2 r2], .box b4 30 [.b false, .sl none 0 0 0 (fun _ _ => .v undef), .sl none 0 0 0 (fun _ _ => .v undef)], .row aw 28 (kk + 1) cw 1 (fun i _ => x.2.1 i), .box b10 30 [.b false, x.2.2.2.1, x.2.2.2.2]]⟩)
      (fun x => x.1 ≤ 128 ∧ FailInv kk st x.1 x.2.1 x.2.2.1 x.2.2.2.1 x.2.2.2.2) (fun x => 128 - x.1)
      (0, (fun i => if i = 0 then .sl a3 x3.length c3 z3 r3 else .sl none 0 0 0 (fun _ _ => .v undef)), .sl a4 x4.length c4 z4 r4, .sl none 0 0 0 (fun _ _ => .v undef), .sl a5 x5.length c5 z5 r5) ⟨Nat.zero_le _, ?_⟩ (by simp -implicitDefEqProofs only [evr, id, reduceCtorEq, reduceIte, Nat.reduceMul, Nat.reduceAdd, Nat.reduceLT, Nat.reduceLeDiff, Nat.reduceEqDiff, Int.reduceLT, Int.reduceBEq, Int.reduceBNe, Nat.reduceBEq, List.append_nil, Int.toNat_zero, Nat.sub_self, frS, evl]; exact ⟨rfl, rd_new⟩) ?_
    · refine ⟨by rw [Nat.pow_zero]; exact hy2, fun i hi => ?_, ?_, ?_⟩
      · by_cases e : i = 0
        · subst e; exact hy1
        · simp only [e, if_false, wayN]; exact Nats.nil
      · have e : redP (failN kk st 0) (kk ^ 0) = 0 := by simp [redP, failN]
        rw [e]; exact Nats.nil
      · have e : redQ (failN kk st 0) (kk ^ 0) = 1 := by simp [redQ, failN]
        rw [e]; exact hy3
    rintro ⟨n, sv, sa, sp, sq⟩ ⟨hn, hinv⟩
    simp only at hn hinv ⊢
    obtain ⟨ha, hway, hnum, hden⟩ := hinv
    have hinv : FailInv kk st n sv sa sp sq := ⟨ha, hway, hnum, hden⟩
    have ha' := ha
    have hnum' := hnum
    have hden' := hden
    obtain ⟨a6, c6, z6, r6, x6, rfl, _⟩ := ha
    obtain ⟨a7, c7, z7, r7, x7, rfl, _⟩ := hnum
    obtain ⟨a8, c8, z8, r8, x8, rfl, _⟩ := hden
    (repeat refine Sat.seq ?_)
    (refine Sat.region_k fun k hk => ?_; simp -implicitDefEqProofs only [evr, id, reduceCtorEq, reduceIte, Nat.reduceMul, Nat.reduceAdd, Nat.reduceLT, Nat.reduceLeDiff, Nat.reduceEqDiff, Int.reduceLT, Int.reduceBEq, Int.reduceBNe, Nat.reduceBEq, List.append_nil, Int.toNat_zero, Nat.sub_self, frS]; refine hk _ ?_; clear hk k; try show Sat _ _ _ _ _)
    (repeat refine Sat.seq ?_)
    refine Sat.cond_b rfl (fun h => ?_) (fun h => ?_)
    · simp only [decide_eq_true_eq] at h
      have hn1 : n + 1 ≤ 128 := by omega
      have bn := kn_le (k := kk) (n := n + 1) hkk hn1
      have bn0 := kn_le (k := kk) (n := n) hkk (by omega)
      have en1 : IntKind.i64.wrap (((n + 1 : Nat) : Int) + 1) = ((n + 1 + 1 : Nat) : Int) := by rw [w64 (by omega)]; omega
      refine Sat.skip ?_
      simp only [thenK]
      (repeat refine Sat.seq ?_)
      refine Sat.block ?_
      (repeat refine Sat.seq ?_)
      (refine Sat.region_k fun k hk => ?_; simp -implicitDefEqProofs only [evr, id, reduceCtorEq, reduceIte, Nat.reduceMul, Nat.reduceAdd, Nat.reduceLT, Nat.reduceLeDiff, Nat.reduceEqDiff, Int.reduceLT, Int.reduceBEq, Int.reduceBNe, Nat.reduceBEq, List.append_nil, Int.toNat_zero, Nat.sub_self, frS])
      refine wcall_slice (stSmallC F kk (by omega)) rfl rfl ?_
      intro y hy
      have hk9 := hy
      obtain ⟨a9, c9, z9, r9, x9, rfl, _⟩ := hy
      simp -implicitDefEqProofs only [evr, id, reduceCtorEq, reduceIte, Nat.reduceMul, Nat.reduceAdd, Nat.reduceLT, Nat.reduceLeDiff, Nat.reduceEqDiff, Int.reduceLT, Int.reduceBEq, Int.reduceBNe, Nat.reduceBEq, List.append_nil, Int.toNat_zero, Nat.sub_self, frS]
      refine wcall_slice (stTimesC F ha' hk9 (lt_pw bn0 (by rw [xb_eq]; decide)) (lt_pw (a := 5) (by omega) (by decide)) (by rw [← Nat.pow_succ]; exact lt_pw bn (by rw [xb_eq]; decide))) rfl rfl ?_
      intro y hy
      rw [← Nat.pow_succ] at hy
      have hall := hy
      obtain ⟨a10, c10, z10, r10, x10, rfl, _⟩ := hy
      simp -implicitDefEqProofs only [evr, id, reduceCtorEq, reduceIte, Nat.reduceMul, Nat.reduceAdd, Nat.reduceLT, Nat.reduceLeDiff, Nat.reduceEqDiff, Int.reduceLT, Int.reduceBEq, Int.reduceBNe, Nat.reduceBEq, List.append_nil, Int.toNat_zero, Nat.sub_self, frS]
      (refine hk _ ?_; clear hk k; try show Sat _ _ _ _ _)
      (repeat refine Sat.seq ?_)
      (refine Sat.region_k fun k hk => ?_; simp -implicitDefEqProofs only [evr, id, reduceCtorEq, reduceIte, Nat.reduceMul, Nat.reduceAdd, Nat.reduceLT, Nat.reduceLeDiff, Nat.reduceEqDiff, Int.reduceLT, Int.reduceBEq, Int.reduceBNe, Nat.reduceBEq, List.append_nil, Int.toNat_zero, Nat.sub_self, frS]; refine hk _ ?_; clear hk k; try show Sat _ _ _ _ _)
      (repeat refine Sat.seq ?_)
      refine Sat.block ?_
      (repeat refine Sat.seq ?_)
      refine Sat.loop (ι := Nat × (Nat → SV)) (fun x => ⟨116, [(12, .i .i64 (x.1 : Int)), (11, .i .i64 ((n + 1 : Nat) : Int)), (9, .sl a10 x10.length c10 z10 r10), (8, .os 2 aw (kk + 1) cw), (6, .sl av kk cv 1 rs), (10, .op 3 b10 0), (0, .i .i64 kk), (4, .op 1 b4 0)], [.box b3 30 [.b false, .sl a1 x1.length c1 z1 r1, .sl a2 x2.length c2 z2 r2], .box b4 30 [.b false, .sl none 0 0 0 (fun _ _ => .v undef), .sl none 0 0 0 (fun _ _ => .v undef)], .row aw 28 (kk + 1) cw 1 (fun i _ => x.2 i), .box b10 30 [.b false, .sl a7 x7.length c7 z7 r7, .sl a8 x8.length c8 z8 r8]]⟩)
        (fun x => FailRow kk st n x.1 x.2) (fun x => x.1) (kk, sv) ⟨Nat.le_refl _, hway.same fun i hi => by rw [if_neg (by omega)]⟩ (by simp -implicitDefEqProofs only [evr, id, reduceCtorEq, reduceIte, Nat.reduceMul, Nat.reduceAdd, Nat.reduceLT, Nat.reduceLeDiff, Nat.reduceEqDiff, Int.reduceLT, Int.reduceBEq, Int.reduceBNe, Nat.reduceBEq, List.append_nil, Int.toNat_zero, Nat.sub_self, frS, evl]) ?_
      rintro ⟨j, sv1⟩ hrow
      simp only at hrow ⊢
      have hjk := hrow.le
      (repeat refine Sat.seq ?_)
      (refine Sat.region_k fun k hk => ?_; simp -implicitDefEqProofs only [evr, id, reduceCtorEq, reduceIte, Nat.reduceMul, Nat.reduceAdd, Nat.reduceLT, Nat.reduceLeDiff, Nat.reduceEqDiff, Int.reduceLT, Int.reduceBEq, Int.reduceBNe, Nat.reduceBEq, List.append_nil, Int.toNat_zero, Nat.sub_self, frS]; refine hk _ ?_; clear hk k; try show Sat _ _ _ _ _)
      (repeat refine Sat.seq ?_)
      refine Sat.cond_b rfl (fun h => ?_) (fun h => ?_)
      · simp only [decide_eq_true_eq] at h
        obtain ⟨i, rfl⟩ : ∃ i, j = i + 1 := ⟨j - 1, by omega⟩
        have hwa := hrow.old (i := i + 1) (Nat.le_refl _)
        have hwb := hrow.old (i := i) (by omega)
        have hwa' := hwa
        have hwb' := hwb
        obtain ⟨a11, c11, z11, r11, x11, ea, _⟩ := hwa
        obtain ⟨a12, c12, z12, r12, x12, eb, _⟩ := hwb
        rw [ea] at hwa'
        rw [eb] at hwb'
        have ei1 : IntKind.i64.wrap (((i + 1 : Nat) : Int) - 1) = (i : Int) := by rw [w64 (by omega)]; omega
        have ei2 : IntKind.i64.wrap ((kk : Int) - ((i + 1 : Nat) : Int)) = ((kk - (i + 1) : Nat) : Int) := by rw [w64 (by omega)]; omega
        have ei3 : IntKind.i64.wrap (((kk - (i + 1) : Nat) : Int) + 1) = ((kk - (i + 1) + 1 : Nat) : Int) := by rw [w64 (by omega)]; omega
        refine Sat.skip ?_
        simp only [thenK]
        (repeat refine Sat.seq ?_)
        refine Sat.block ?_
        (repeat refine Sat.seq ?_)
        have bwa := Nat.le_trans (wayN_le kk st n (j := i + 1) hjk) bn0
        have bwb := Nat.le_trans (wayN_le kk st n (j := i) (by omega)) bn0
        have bi : i + 1 ≤ 2 ^ 5 := by omega
        have bk : kk - (i + 1) + 1 ≤ 2 ^ 5 := by omega
        have bma := mul_two bwa bi
        have bmb := mul_two bwb bk
        (refine Sat.region_rows [⟨0, 59, 256, 0⟩, ⟨0, 60, 4096, 0⟩, ⟨0, 61, 256, 0⟩, ⟨0, 62, 4096, 0⟩, ⟨12, 63, 3458764513820540928, 0⟩, ⟨16, 64, 4611686018427387904, 1⟩, ⟨0, 65, 4096, 0⟩, ⟨64, 66, 18446744073709551616, 2⟩, ⟨160, 67, 46116860184273879040, 2⟩, ⟨0, 68, 256, 0⟩, ⟨0, 69, 4096, 0⟩, ⟨1024, 70, 295147905179352825856, 0⟩, ⟨2560, 71, 737869762948382064640, 0⟩, ⟨4096, 72, 1180591620717411303424, 1⟩, ⟨0, 73, 1, 0⟩, ⟨0, 74, 4096, 0⟩, ⟨49152, 75, 14167099448608935641088, 0⟩, ⟨65536, 76, 18889465931478580854784, 0⟩, ⟨131328, 77, 37778931862957161709568, 2⟩, ⟨270336, 78, 77919046967349146025984, 2⟩, ⟨524544, 79, 151189514428123485044736, 2⟩, ⟨2097151, 80, 864691128455135232, 0⟩, ⟨4194303, 0, 906694364710971881029632, 2⟩] [0, 1, 2, 3, 4, 6, 9, 10, 11, 12, 14, 15, 16, 17, 5, 13] [(7, false), (8, false), (18, false), (19, false), (20, false), (21, false), (22, false)] [7, 8, 18] (by kernel_rfl) (by kernel_rfl) (fun _ _ h => h) fun k hk => ?_; simp only [List.map_cons, List.map_nil, List.getD_cons_zero, List.getD_cons_succ, btseq_cons, btseq_free, btseq_nil]; simp -implicitDefEqProofs only [evr, id, reduceCtorEq, reduceIte, Nat.reduceMul, Nat.reduceAdd, Nat.reduceLT, Nat.reduceLeDiff, Nat.reduceEqDiff, Int.reduceLT, Int.reduceBEq, Int.reduceBNe, Nat.reduceBEq, List.append_nil, Int.toNat_zero, Nat.sub_self, frS])
        simp only [ei1, ei2, ei3, Int.toNat_natCast]
        refine ⟨by omega, by omega, by omega, by omega, ?_⟩
        rw [ea, eb]
        refine wcall_slice (stSmallC F (i + 1) (by omega)) rfl rfl ?_
        intro y hy
        have hq1 := hy
        obtain ⟨a13, c13, z13, r13, x13, rfl, _⟩ := hy
        simp -implicitDefEqProofs only [evr, id, reduceCtorEq, reduceIte, Nat.reduceMul, Nat.reduceAdd, Nat.reduceLT, Nat.reduceLeDiff, Nat.reduceEqDiff, Int.reduceLT, Int.reduceBEq, Int.reduceBNe, Nat.reduceBEq, List.append_nil, Int.toNat_zero, Nat.sub_self, frS]
        refine wcall_slice (stTimesC F hwa' hq1 (lt_pw bwa (by rw [xb_eq]; decide)) (lt_pw bi (by decide)) (lt_pw bma (by rw [xb_eq]; decide))) rfl rfl ?_
        intro y hy
        have hq2 := hy
        obtain ⟨a14, c14, z14, r14, x14, rfl, _⟩ := hy
        simp -implicitDefEqProofs only [evr, id, reduceCtorEq, reduceIte, Nat.reduceMul, Nat.reduceAdd, Nat.reduceLT, Nat.reduceLeDiff, Nat.reduceEqDiff, Int.reduceLT, Int.reduceBEq, Int.reduceBNe, Nat.reduceBEq, List.append_nil, Int.toNat_zero, Nat.sub_self, frS]
        refine wcall_slice (stSmallC F (kk - (i + 1) + 1) (by omega)) rfl rfl ?_
        intro y hy
        have hq3 := hy
        obtain ⟨a15, c15, z15, r15, x15, rfl, _⟩ := hy
        simp -implicitDefEqProofs only [evr, id, reduceCtorEq, reduceIte, Nat.reduceMul, Nat.reduceAdd, Nat.reduceLT, Nat.reduceLeDiff, Nat.reduceEqDiff, Int.reduceLT, Int.reduceBEq, Int.reduceBNe, Nat.reduceBEq, List.append_nil, Int.toNat_zero, Nat.sub_self, frS]
        refine wcall_slice (stTimesC F hwb' hq3 (lt_pw bwb (by rw [xb_eq]; decide)) (lt_pw bk (by decide)) (lt_pw bmb (by rw [xb_eq]; decide))) rfl rfl ?_
        intro y hy
        have hq4 := hy
        obtain ⟨a16, c16, z16, r16, x16, rfl, _⟩ := hy
        simp -implicitDefEqProofs only [evr, id, reduceCtorEq, reduceIte, Nat.reduceMul, Nat.reduceAdd, Nat.reduceLT, Nat.reduceLeDiff, Nat.reduceEqDiff, Int.reduceLT, Int.reduceBEq, Int.reduceBNe, Nat.reduceBEq, List.append_nil, Int.toNat_zero, Nat.sub_self, frS]
        refine wcall_slice (stPlusC F hq2 hq4 (lt_pw_add bma bmb (by rw [xb_eq]; decide))) rfl rfl ?_
        intro y hy
        have hq5 := hy
        obtain ⟨a17, c17, z17, r17, x17, rfl, _⟩ := hy
        simp -implicitDefEqProofs only [evr, id, reduceCtorEq, reduceIte, Nat.reduceMul, Nat.reduceAdd, Nat.reduceLT, Nat.reduceLeDiff, Nat.reduceEqDiff, Int.reduceLT, Int.reduceBEq, Int.reduceBNe, Nat.reduceBEq, List.append_nil, Int.toNat_zero, Nat.sub_self, frS]
        refine ⟨by omega, by omega, ?_⟩
        refine hk _ ?_
        clear hk k
        simp only [thenK, blockK]
        (repeat refine Sat.seq ?_)
        refine Sat.region_k fun k hk => ?_
        simp -implicitDefEqProofs only [evr, id, reduceCtorEq, reduceIte, Nat.reduceMul, Nat.reduceAdd, Nat.reduceLT, Nat.reduceLeDiff, Nat.reduceEqDiff, Int.reduceLT, Int.reduceBEq, Int.reduceBNe, Nat.reduceBEq, List.append_nil, Int.toNat_zero, Nat.sub_self, frS, ei1]
        refine hk _ ?_
        simp only [thenK, blockK]
        refine ⟨(i, fun x => if x = i + 1 then .sl a17 x17.length c17 z17 r17 else sv1 x), hrow.step hq5, by show i < i + 1; omega, ?_⟩
        simp -implicitDefEqProofs only [evr, id, reduceCtorEq, reduceIte, Nat.reduceMul, Nat.reduceAdd, Nat.reduceLT, Nat.reduceLeDiff, Nat.reduceEqDiff, Int.reduceLT, Int.reduceBEq, Int.reduceBNe, Nat.reduceBEq, List.append_nil, Int.toNat_zero, Nat.sub_self, frS, evl]
        exact rd_put
      · simp only [decide_eq_false_iff_not] at h
        obtain rfl : j = 0 := by omega
        refine Sat.exit ?_
        simp only [thenK, blockK, reduceIte]
        (repeat refine Sat.seq ?_)
        (refine Sat.region_k fun k hk => ?_; simp -implicitDefEqProofs only [evr, id, reduceCtorEq, reduceIte, Nat.reduceMul, Nat.reduceAdd, Nat.reduceLT, Nat.reduceLeDiff, Nat.reduceEqDiff, Int.reduceLT, Int.reduceBEq, Int.reduceBNe, Nat.reduceBEq, List.append_nil, Int.toNat_zero, Nat.sub_self, frS])
        refine ⟨by omega, by omega, ?_⟩
        (refine hk _ ?_; clear hk k; try show Sat _ _ _ _ _)
        have hraw := hrow.done (s := .sl none 0 0 0 (fun _ _ => .v undef)) Nats.nil
        have hout := FailOut.start hkk1 hinv hraw
        clear hrow hraw
        (repeat refine Sat.seq ?_)
        (refine Sat.region_k fun k hk => ?_; simp -implicitDefEqProofs only [evr, id, reduceCtorEq, reduceIte, Nat.reduceMul, Nat.reduceAdd, Nat.reduceLT, Nat.reduceLeDiff, Nat.reduceEqDiff, Int.reduceLT, Int.reduceBEq, Int.reduceBNe, Nat.reduceBEq, List.append_nil, Int.toNat_zero, Nat.sub_self, frS]; refine hk _ ?_; clear hk k; try show Sat _ _ _ _ _)
        (repeat refine Sat.seq ?_)
        refine Sat.block ?_
        (repeat refine Sat.seq ?_)
        refine Sat.loop (ι := Nat × (Nat → SV) × SV × SV) (fun x => ⟨116, [(13, .i .i64 (x.1 : Int)), (11, .i .i64 ((n + 1 : Nat) : Int)), (9, .sl a10 x10.length c10 z10 r10), (8, .os 2 aw (kk + 1) cw), (6, .sl av kk cv 1 rs), (10, .op 3 b10 0), (0, .i .i64 kk), (4, .op 1 b4 0)], [.box b3 30 [.b false, .sl a1 x1.length c1 z1 r1, .sl a2 x2.length c2 z2 r2], .box b4 30 [.b false, .sl none 0 0 0 (fun _ _ => .v undef), .sl none 0 0 0 (fun _ _ => .v undef)], .row aw 28 (kk + 1) cw 1 (fun i _ => x.2.1 i), .box b10 30 [.b false, x.2.2.1, x.2.2.2]]⟩)
          (fun x => FailOut kk st n x.1 x.2.1 x.2.2.1 x.2.2.2) (fun x => kk - x.1) (1, _, _, _) hout (by simp -implicitDefEqProofs only [evr, id, reduceCtorEq, reduceIte, Nat.reduceMul, Nat.reduceAdd, Nat.reduceLT, Nat.reduceLeDiff, Nat.reduceEqDiff, Int.reduceLT, Int.reduceBEq, Int.reduceBNe, Nat.reduceBEq, List.append_nil, Int.toNat_zero, Nat.sub_self, frS, evl]; exact ⟨rfl, rd_put⟩) ?_
        clear hout
        rintro ⟨j, sv2, sp2, sq2⟩ hout
        simp only at hout ⊢
        have hj1 := hout.lo
        have hjk := hout.le
        have hnum2 := hout.num
        have hden2 := hout.den
        have hnum3 := hnum2
        have hden3 := hden2
        obtain ⟨a18, c18, z18, r18, x18, rfl, _⟩ := hnum2
        obtain ⟨a19, c19, z19, r19, x19, rfl, _⟩ := hden2
        (repeat refine Sat.seq ?_)
        (refine Sat.region_k fun k hk => ?_; simp -implicitDefEqProofs only [evr, id, reduceCtorEq, reduceIte, Nat.reduceMul, Nat.reduceAdd, Nat.reduceLT, Nat.reduceLeDiff, Nat.reduceEqDiff, Int.reduceLT, Int.reduceBEq, Int.reduceBNe, Nat.reduceBEq, List.append_nil, Int.toNat_zero, Nat.sub_self, frS]; refine hk _ ?_; clear hk k; try show Sat _ _ _ _ _)
        (repeat refine Sat.seq ?_)
        refine Sat.cond_b rfl (fun h => ?_) (fun h => ?_)
        · simp only [decide_eq_true_eq] at h
          have hjlt : j < kk := by omega
          have ej1 : IntKind.i64.wrap ((j : Int) + 1) = ((j + 1 : Nat) : Int) := by rw [w64 (by omega)]; omega
          have hwj : Nats (sv2 j) (rawW kk (wayN kk st n) j) := by
            have := hout.ways j hjk
            simp only at this
            rwa [if_neg (by omega)] at this
          have hwj' := hwj
          obtain ⟨a20, c20, z20, r20, x20, ej, _⟩ := hwj
          rw [ej] at hwj'
          have hlj := hwj'.len
          refine Sat.skip ?_
          simp only [thenK]
          (repeat refine Sat.seq ?_)
          refine Sat.block ?_
          (repeat refine Sat.seq ?_)
          refine Sat.region_at ⟨116, [(100, .b (decide (st j ≤ n + 1 ∧ 0 < rawW kk (wayN kk st n) j))), (13, .i .i64 (j : Int)), (11, .i .i64 ((n + 1 : Nat) : Int)), (9, .sl a10 x10.length c10 z10 r10), (8, .os 2 aw (kk + 1) cw), (6, .sl av kk cv 1 rs), (10, .op 3 b10 0), (0, .i .i64 kk), (4, .op 1 b4 0)], [.box b3 30 [.b false, .sl a1 x1.length c1 z1 r1, .sl a2 x2.length c2 z2 r2], .box b4 30 [.b false, .sl none 0 0 0 (fun _ _ => .v undef), .sl none 0 0 0 (fun _ _ => .v undef)], .row aw 28 (kk + 1) cw 1 (fun i _ => sv2 i), .box b10 30 [.b false, .sl a18 x18.length c18 z18 r18, .sl a19 x19.length c19 z19 r19]]⟩ (fun k hk => ?_) ?_
          · simp -implicitDefEqProofs only [evr, id, reduceCtorEq, reduceIte, Nat.reduceMul, Nat.reduceAdd, Nat.reduceLT, Nat.reduceLeDiff, Nat.reduceEqDiff, Int.reduceLT, Int.reduceBEq, Int.reduceBNe, Nat.reduceBEq, List.append_nil, Int.toNat_zero, Nat.sub_self, frS]
            refine ⟨by omega, ?_⟩
            rw [hrs j hj1 hjlt]
            simp -implicitDefEqProofs only [evr, id, reduceCtorEq, reduceIte, Nat.reduceMul, Nat.reduceAdd, Nat.reduceLT, Nat.reduceLeDiff, Nat.reduceEqDiff, Int.reduceLT, Int.reduceBEq, Int.reduceBNe, Nat.reduceBEq, List.append_nil, Int.toNat_zero, Nat.sub_self, frS]
            refine ⟨fun h9 => ⟨by omega, by omega, ?_⟩, fun h9 => ?_⟩
            · rw [ej]
              simp -implicitDefEqProofs only [evr, id, reduceCtorEq, reduceIte, Nat.reduceMul, Nat.reduceAdd, Nat.reduceLT, Nat.reduceLeDiff, Nat.reduceEqDiff, Int.reduceLT, Int.reduceBEq, Int.reduceBNe, Nat.reduceBEq, List.append_nil, Int.toNat_zero, Nat.sub_self, frS, hlj]
              refine hk _ ?_
              have e : decide (st j ≤ n + 1 ∧ 0 < rawW kk (wayN kk st n) j) = decide (0 < rawW kk (wayN kk st n) j) := by
                have : st j ≤ n + 1 := by omega
                simp [this]
              rw [e]
              simp -implicitDefEqProofs only [evr, id, reduceCtorEq, reduceIte, Nat.reduceMul, Nat.reduceAdd, Nat.reduceLT, Nat.reduceLeDiff, Nat.reduceEqDiff, Int.reduceLT, Int.reduceBEq, Int.reduceBNe, Nat.reduceBEq, List.append_nil, Int.toNat_zero, Nat.sub_self, frS, evl]
            · refine hk _ ?_
              have e : decide (st j ≤ n + 1 ∧ 0 < rawW kk (wayN kk st n) j) = false := decide_eq_false fun h8 => h9 (by omega)
              rw [e]
              simp -implicitDefEqProofs only [evr, id, reduceCtorEq, reduceIte, Nat.reduceMul, Nat.reduceAdd, Nat.reduceLT, Nat.reduceLeDiff, Nat.reduceEqDiff, Int.reduceLT, Int.reduceBEq, Int.reduceBNe, Nat.reduceBEq, List.append_nil, Int.toNat_zero, Nat.sub_self, frS, evl]
          simp only [thenK]
          refine Sat.cond_b rfl (fun h => ?_) (fun h => ?_)
          · obtain ⟨h5, h6⟩ := of_decide_eq_true h
            have hb : 0 < kk ^ (n + 1) := Nat.pow_pos hkk1
            have hrs2 := red_sum (a := failN kk st n * kk + outN kk st n j) (b := kk ^ (n + 1)) (w := rawW kk (wayN kk st n) j) hb
            have bfo := outN_le kk st n (j := j) hjk
            have bfo2 := Nat.le_trans bfo bn
            have bra := Nat.le_trans (rawW_le kk st n (j := j) hjk) bn
            have bP := Nat.le_trans (redP_le (failN kk st n * kk + outN kk st n j) (kk ^ (n + 1))) bfo2
            have bQ := Nat.le_trans (redQ_le (failN kk st n * kk + outN kk st n j) (kk ^ (n + 1))) bn
            have hq0 := redQ_pos (a := failN kk st n * kk + outN kk st n j) hb
            have bo2 : failN kk st n * kk + outN kk st n j + rawW kk (wayN kk st n) j ≤ kk ^ (n + 1) := by
              have h8 := outN_le kk st n (j := j + 1) hjlt
              rw [outN_step, if_pos ⟨hj1, hjlt, h5⟩] at h8
              omega
            have eP : addP false (redP (failN kk st n * kk + outN kk st n j) (kk ^ (n + 1))) (redQ (failN kk st n * kk + outN kk st n j) (kk ^ (n + 1))) false (rawW kk (wayN kk st n) j) (kk ^ (n + 1)) = redP (failN kk st n * kk + outN kk st n j + rawW kk (wayN kk st n) j) (kk ^ (n + 1)) := hrs2.1
            have eQ : addQ false (redP (failN kk st n * kk + outN kk st n j) (kk ^ (n + 1))) (redQ (failN kk st n * kk + outN kk st n j) (kk ^ (n + 1))) false (rawW kk (wayN kk st n) j) (kk ^ (n + 1)) = redQ (failN kk st n * kk + outN kk st n j + rawW kk (wayN kk st n) j) (kk ^ (n + 1)) := hrs2.2
            have eN : addN false (redP (failN kk st n * kk + outN kk st n j) (kk ^ (n + 1))) (redQ (failN kk st n * kk + outN kk st n j) (kk ^ (n + 1))) false (rawW kk (wayN kk st n) j) (kk ^ (n + 1)) = false := rfl
            have hadd := fractionAddC F false false hnum3 hden3 hwj' hall (lt_pw bP (by rw [xb_eq]; decide)) (lt_pw bQ (by rw [xb_eq]; decide)) (lt_pw bra (by rw [xb_eq]; decide)) (lt_pw bn (by rw [xb_eq]; decide))
              (lt_pw (mul_two bP bn) (by rw [xb_eq]; decide)) (lt_pw (mul_two bra bQ) (by rw [xb_eq]; decide)) (lt_pw_add (mul_two bP bn) (mul_two bra bQ) (by rw [xb_eq]; decide)) (lt_pw (mul_two bQ bn) (by rw [xb_eq]; decide)) hq0 hb
            rw [eP, eQ, eN] at hadd
            have bP2 := Nat.le_trans (redP_le (failN kk st n * kk + outN kk st n j + rawW kk (wayN kk st n) j) (kk ^ (n + 1))) (Nat.le_trans bo2 bn)
            have bQ2 := Nat.le_trans (redQ_le (failN kk st n * kk + outN kk st n j + rawW kk (wayN kk st n) j) (kk ^ (n + 1))) bn
            have hok : frOk false (redP (failN kk st n * kk + outN kk st n j + rawW kk (wayN kk st n) j) (kk ^ (n + 1))) (redQ (failN kk st n * kk + outN kk st n j + rawW kk (wayN kk st n) j) (kk ^ (n + 1))) = true := by
              unfold frOk
              rw [decide_eq_true (lt_pw bP2 (by rw [xb_eq]; decide)), decide_eq_true (lt_pw bQ2 (by rw [xb_eq]; decide)), decide_eq_true (redQ_pos hb)]
              rfl
            rw [hok] at hadd
            (repeat refine Sat.seq ?_)
            (refine Sat.region_rows [⟨0, 103, 1024, 1⟩, ⟨0, 104, 256, 0⟩, ⟨0, 105, 8192, 0⟩, ⟨6, 106, 30423614405477505635920876929024, 0⟩, ⟨8, 107, 40564819207303340847894502572032, 1⟩, ⟨0, 108, 512, 0⟩, ⟨48, 109, 243388915243820045087367015432192, 0⟩, ⟨65, 110, 329589156059339644389142833397760, 2⟩, ⟨128, 102, 649037107316853453566312041152512, 0⟩, ⟨256, 111, 2535301200456458802993406410752, 0⟩, ⟨256, 112, 2535301200456458802993406410752, 0⟩, ⟨1023, 0, 1298074214633706907132624082306048, 2⟩] [1, 2, 3, 5, 0, 4, 6] [(7, false), (8, false), (9, true), (10, true), (11, false)] [] (by kernel_rfl) (by kernel_rfl) (fun _ _ h => h) fun k hk => ?_; simp only [List.map_cons, List.map_nil, List.getD_cons_zero, List.getD_cons_succ, btseq_cons, btseq_free, btseq_nil]; simp -implicitDefEqProofs only [evr, id, reduceCtorEq, reduceIte, Nat.reduceMul, Nat.reduceAdd, Nat.reduceLT, Nat.reduceLeDiff, Nat.reduceEqDiff, Int.reduceLT, Int.reduceBEq, Int.reduceBNe, Nat.reduceBEq, List.append_nil, Int.toNat_zero, Nat.sub_self, frS])
            refine ⟨by omega, by omega, ?_⟩
            rw [ej]
            simp -implicitDefEqProofs only [evr, id, reduceCtorEq, reduceIte, Nat.reduceMul, Nat.reduceAdd, Nat.reduceLT, Nat.reduceLeDiff, Nat.reduceEqDiff, Int.reduceLT, Int.reduceBEq, Int.reduceBNe, Nat.reduceBEq, List.append_nil, Int.toNat_zero, Nat.sub_self, frS]
            refine wcall_slice hadd rfl (by simp -implicitDefEqProofs only [evr, id, reduceCtorEq, reduceIte, Nat.reduceMul, Nat.reduceAdd, Nat.reduceLT, Nat.reduceLeDiff, Nat.reduceEqDiff, Int.reduceLT, Int.reduceBEq, Int.reduceBNe, Nat.reduceBEq, List.append_nil, Int.toNat_zero, Nat.sub_self, frS]; try rfl) ?_
            rintro y hy
            obtain ⟨_, f, rfl, sp5, sq5, rfl, h7, h8⟩ := hy.resolve_right (fun h => absurd h.1 (by decide))
            have h7' := h7
            have h8' := h8
            obtain ⟨a21, c21, z21, r21, x21, rfl, _⟩ := h7
            obtain ⟨a22, c22, z22, r22, x22, rfl, _⟩ := h8
            simp only [frS, evr, id, reduceCtorEq, reduceIte, Nat.reduceMul, Nat.reduceAdd, Nat.reduceLT, Nat.reduceLeDiff, Nat.reduceEqDiff, Int.reduceLT, Int.reduceBEq, Int.reduceBNe, Nat.reduceBEq, List.append_nil, Int.toNat_zero, Nat.sub_self, frS]
            (refine hk _ ?_; clear hk k; try show Sat _ _ _ _ _)
            (repeat refine Sat.seq ?_)
            (refine Sat.region_k fun k hk => ?_; simp -implicitDefEqProofs only [evr, id, reduceCtorEq, reduceIte, Nat.reduceMul, Nat.reduceAdd, Nat.reduceLT, Nat.reduceLeDiff, Nat.reduceEqDiff, Int.reduceLT, Int.reduceBEq, Int.reduceBNe, Nat.reduceBEq, List.append_nil, Int.toNat_zero, Nat.sub_self, frS])
            refine ⟨by omega, by omega, ?_⟩
            refine hk _ ?_
            clear hk k
            have htake := hout.take hjlt h5 (nil := .sl none 0 0 0 (fun _ _ => .v undef)) Nats.nil h7' h8'
            simp only [thenK, blockK]
            (repeat refine Sat.seq ?_)
            refine Sat.region_k fun k hk => ?_
            simp -implicitDefEqProofs only [evr, id, reduceCtorEq, reduceIte, Nat.reduceMul, Nat.reduceAdd, Nat.reduceLT, Nat.reduceLeDiff, Nat.reduceEqDiff, Int.reduceLT, Int.reduceBEq, Int.reduceBNe, Nat.reduceBEq, List.append_nil, Int.toNat_zero, Nat.sub_self, frS, ej1]
            refine hk _ ?_
            simp only [thenK, blockK]
            refine ⟨(j + 1, _, _, _), htake, by show kk - (j + 1) < kk - j; omega, ?_⟩
            simp -implicitDefEqProofs only [evr, id, reduceCtorEq, reduceIte, Nat.reduceMul, Nat.reduceAdd, Nat.reduceLT, Nat.reduceLeDiff, Nat.reduceEqDiff, Int.reduceLT, Int.reduceBEq, Int.reduceBNe, Nat.reduceBEq, List.append_nil, Int.toNat_zero, Nat.sub_self, frS, evl]
            exact rd_put
          · have hskip := hout.skip hjlt (of_decide_eq_false h)
            refine Sat.skip ?_
            simp only [thenK, blockK]
            (repeat refine Sat.seq ?_)
            refine Sat.region_k fun k hk => ?_
            simp -implicitDefEqProofs only [evr, id, reduceCtorEq, reduceIte, Nat.reduceMul, Nat.reduceAdd, Nat.reduceLT, Nat.reduceLeDiff, Nat.reduceEqDiff, Int.reduceLT, Int.reduceBEq, Int.reduceBNe, Nat.reduceBEq, List.append_nil, Int.toNat_zero, Nat.sub_self, frS, ej1]
            refine hk _ ?_
            simp only [thenK, blockK]
            refine ⟨(j + 1, sv2, _, _), hskip, by show kk - (j + 1) < kk - j; omega, ?_⟩
            simp -implicitDefEqProofs only [evr, id, reduceCtorEq, reduceIte, Nat.reduceMul, Nat.reduceAdd, Nat.reduceLT, Nat.reduceLeDiff, Nat.reduceEqDiff, Int.reduceLT, Int.reduceBEq, Int.reduceBNe, Nat.reduceBEq, List.append_nil, Int.toNat_zero, Nat.sub_self, frS, evl]
        · simp only [decide_eq_false_iff_not] at h
          obtain rfl : j = kk := by omega
          have hnext := hout.done hall
          refine Sat.exit ?_
          simp only [thenK, blockK, reduceIte]
          (repeat refine Sat.seq ?_)
          refine Sat.region_k fun k hk => ?_
          simp -implicitDefEqProofs only [evr, id, reduceCtorEq, reduceIte, Nat.reduceMul, Nat.reduceAdd, Nat.reduceLT, Nat.reduceLeDiff, Nat.reduceEqDiff, Int.reduceLT, Int.reduceBEq, Int.reduceBNe, Nat.reduceBEq, List.append_nil, Int.toNat_zero, Nat.sub_self, frS, en1]
          refine hk _ ?_
          simp only [thenK, blockK]
          refine ⟨(n + 1, sv2, _, _, _), ⟨by show n + 1 ≤ 128; omega, hnext⟩, by show 128 - (n + 1) < 128 - n; omega, ?_⟩
          simp -implicitDefEqProofs only [evr, id, reduceCtorEq, reduceIte, Nat.reduceMul, Nat.reduceAdd, Nat.reduceLT, Nat.reduceLeDiff, Nat.reduceEqDiff, Int.reduceLT, Int.reduceBEq, Int.reduceBNe, Nat.reduceBEq, List.append_nil, Int.toNat_zero, Nat.sub_self, frS, evl]
    · simp only [decide_eq_false_iff_not] at h
      obtain rfl : n = 128 := by omega
      refine Sat.exit ?_
      simp only [thenK, blockK, reduceIte]
      (repeat refine Sat.seq ?_)
      (refine Sat.region_k fun k hk => ?_; simp -implicitDefEqProofs only [evr, id, reduceCtorEq, reduceIte, Nat.reduceMul, Nat.reduceAdd, Nat.reduceLT, Nat.reduceLeDiff, Nat.reduceEqDiff, Int.reduceLT, Int.reduceBEq, Int.reduceBNe, Nat.reduceBEq, List.append_nil, Int.toNat_zero, Nat.sub_self, frS]; refine hk _ ?_; clear hk k; try show Sat _ _ _ _ _)
      refine Sat.ret ?_
      simp only [Try.results25, evr, id, reduceCtorEq, reduceIte, Nat.reduceMul, Nat.reduceAdd, Nat.reduceLT, Nat.reduceLeDiff, Nat.reduceEqDiff, Int.reduceLT, Int.reduceBEq, Int.reduceBNe, Nat.reduceBEq, List.append_nil, Int.toNat_zero, Nat.sub_self, frS]
      exact .inl ⟨st, _, hst, rfl, _, _, rfl, hnum', hden'⟩
  · simp -implicitDefEqProofs only [evr, id, reduceCtorEq, reduceIte, Nat.reduceMul, Nat.reduceAdd, Nat.reduceLT, Nat.reduceLeDiff, Nat.reduceEqDiff, Int.reduceLT, Int.reduceBEq, Int.reduceBNe, Nat.reduceBEq, List.append_nil, Int.toNat_zero, Nat.sub_self, frS]
    (refine hk _ ?_; clear hk k; try show Sat _ _ _ _ _)
    (repeat refine Sat.seq ?_)
    (refine Sat.region_k fun k hk => ?_; simp -implicitDefEqProofs only [evr, id, reduceCtorEq, reduceIte, Nat.reduceMul, Nat.reduceAdd, Nat.reduceLT, Nat.reduceLeDiff, Nat.reduceEqDiff, Int.reduceLT, Int.reduceBEq, Int.reduceBNe, Nat.reduceBEq, List.append_nil, Int.toNat_zero, Nat.sub_self, frS]; refine hk _ ?_; clear hk k; try show Sat _ _ _ _ _)
    refine Sat.cond_b rfl (fun h => ?_) (fun h => absurd h (by decide))
    (repeat refine Sat.seq ?_)
    (refine Sat.region_k fun k hk => ?_; simp -implicitDefEqProofs only [evr, id, reduceCtorEq, reduceIte, Nat.reduceMul, Nat.reduceAdd, Nat.reduceLT, Nat.reduceLeDiff, Nat.reduceEqDiff, Int.reduceLT, Int.reduceBEq, Int.reduceBNe, Nat.reduceBEq, List.append_nil, Int.toNat_zero, Nat.sub_self, frS]; refine hk _ ?_; clear hk k; try show Sat _ _ _ _ _)
    refine Sat.ret ?_
    simp only [Try.results25, evr, id, reduceCtorEq, reduceIte, Nat.reduceMul, Nat.reduceAdd, Nat.reduceLT, Nat.reduceLeDiff, Nat.reduceEqDiff, Int.reduceLT, Int.reduceBEq, Int.reduceBNe, Nat.reduceBEq, List.append_nil, Int.toNat_zero, Nat.sub_self, frS]
    exact .inr ⟨hbe, _, rfl, _, _, rfl, Nats.nil, Nats.nil⟩
end Go.Proofs.Ytagmohpafjncfaa

/- Fail at any arguments: stopping.Fail, and reference 23's Fail by the evaluator. -/
set_option linter.unusedSimpArgs false
set_option linter.unusedVariables false
namespace Go.Proofs.Ytagmohpafjncfaa
open Eng Lmb Go.RowKit
def failIn (m : Int) (neg : Bool) (p q : Nat) : Bool := decide (1 ≤ m ∧ m ≤ 16) && chB neg p q
def FailG (m : Int) (neg : Bool) (p q : Nat) (r : SV) : Prop := if failIn m neg p q then FailPost m.toNat p q r else ∃ f, r = tupL [f, .i .i64 1] ∧ FrS f false 0 0
theorem failIn_of {p q : Nat} {m : Int} {neg : Bool} (h : failIn m neg p q = true) : ∃ k : Nat, m = k ∧ 1 ≤ k ∧ k ≤ 16 ∧ neg = false ∧ 0 < p ∧ p < q := by
  obtain ⟨h1, h2⟩ := Bool.and_eq_true_iff.1 h
  obtain ⟨h3, h4⟩ := of_decide_eq_true h1
  obtain ⟨h5, h6, h7⟩ := chB_of h2
  exact ⟨m.toNat, by omega, by omega, by omega, h5, h6, h7⟩
variable {sp sq : SV} {p q : Nat}
set_option maxRecDepth 100000 in
theorem stFailG (F : Frm) (m : Int) (neg : Bool) (hp : Nats sp p) (hq : Nats sq q) (h0 : 0 < q) (h1 : p < 1073741824) (h2 : q < 1073741824) :
    Contract F Try.prog 25 [.i .i64 m, frS neg sp sq] (FailG m neg p q) := by
  by_cases e : failIn m neg p q = true
  · obtain ⟨k, rfl, k1, k2, rfl, hp0, hpq⟩ := failIn_of e
    refine (stFailC F k k2 k1 hp hq hp0 hpq h2).mono ?_
    intro r hr
    unfold FailG
    rw [if_pos e]
    exact hr
  have e : failIn m neg p q = false := by simpa using e
  have hp' := hp
  have hq' := hq
  obtain ⟨a1, c1, z1, r1, x1, rfl, _⟩ := hp
  obtain ⟨a2, c2, z2, r2, x2, rfl, _⟩ := hq
  refine contract_of Try.func25 rfl (by kernel_rfl) ?_
  simp only [Try.ntmps25, argEnv, frS]
  (repeat refine Sat.seq ?_)
  (refine Sat.region_k fun k hk => ?_; simp -implicitDefEqProofs only [evr, id, reduceCtorEq, reduceIte, Nat.reduceMul, Nat.reduceAdd, Nat.reduceLT, Nat.reduceLeDiff, Nat.reduceEqDiff, Int.reduceLT, Int.reduceBEq, Int.reduceBNe, Nat.reduceBEq, List.append_nil, Int.toNat_zero, Nat.sub_self, frS])
  intro b3 b4
  (refine hk _ ?_; clear hk k; try show Sat _ _ _ _ _)
  (repeat refine Sat.seq ?_)
  refine Sat.region_at ⟨116, [(24, .b true), (3, .op 0 b3 0), (4, .op 1 b4 0), (0, .i .i64 m)], [.box b3 30 [.b neg, .sl a1 x1.length c1 z1 r1, .sl a2 x2.length c2 z2 r2], .box b4 30 [.b false, .sl none 0 0 0 (fun _ _ => .v undef), .sl none 0 0 0 (fun _ _ => .v undef)]]⟩ (fun k hk => ?_) ?_
  · simp -implicitDefEqProofs only [evr, id, reduceCtorEq, reduceIte, Nat.reduceMul, Nat.reduceAdd, Nat.reduceLT, Nat.reduceLeDiff, Nat.reduceEqDiff, Int.reduceLT, Int.reduceBEq, Int.reduceBNe, Nat.reduceBEq, List.append_nil, Int.toNat_zero, Nat.sub_self, frS]
    refine ⟨fun g1 => ?_, fun g1 => ⟨fun g2 => ?_, fun g2 => ?_⟩⟩
    · refine hk _ ?_
      simp -implicitDefEqProofs only [evr, id, reduceCtorEq, reduceIte, Nat.reduceMul, Nat.reduceAdd, Nat.reduceLT, Nat.reduceLeDiff, Nat.reduceEqDiff, Int.reduceLT, Int.reduceBEq, Int.reduceBNe, Nat.reduceBEq, List.append_nil, Int.toNat_zero, Nat.sub_self, frS, evl]
      try rfl
    · refine hk _ ?_
      simp -implicitDefEqProofs only [evr, id, reduceCtorEq, reduceIte, Nat.reduceMul, Nat.reduceAdd, Nat.reduceLT, Nat.reduceLeDiff, Nat.reduceEqDiff, Int.reduceLT, Int.reduceBEq, Int.reduceBNe, Nat.reduceBEq, List.append_nil, Int.toNat_zero, Nat.sub_self, frS, evl]
      try rfl
    refine wcall_plain (chanceG F neg hp' hq' h0 h1 h2) (by simp -implicitDefEqProofs only [evr, id, reduceCtorEq, reduceIte, Nat.reduceMul, Nat.reduceAdd, Nat.reduceLT, Nat.reduceLeDiff, Nat.reduceEqDiff, Int.reduceLT, Int.reduceBEq, Int.reduceBNe, Nat.reduceBEq, List.append_nil, Int.toNat_zero, Nat.sub_self, frS]; try rfl) (by rintro _ rfl; exact ok_plain rfl) ?_
    rintro y rfl
    have ec : chB neg p q = false := by
      have : decide (1 ≤ m ∧ m ≤ 16) = true := decide_eq_true (by omega)
      simpa [failIn, this] using e
    simp -implicitDefEqProofs only [evr, id, reduceCtorEq, reduceIte, Nat.reduceMul, Nat.reduceAdd, Nat.reduceLT, Nat.reduceLeDiff, Nat.reduceEqDiff, Int.reduceLT, Int.reduceBEq, Int.reduceBNe, Nat.reduceBEq, List.append_nil, Int.toNat_zero, Nat.sub_self, frS, ec]
    refine hk _ ?_
    simp -implicitDefEqProofs only [evr, id, reduceCtorEq, reduceIte, Nat.reduceMul, Nat.reduceAdd, Nat.reduceLT, Nat.reduceLeDiff, Nat.reduceEqDiff, Int.reduceLT, Int.reduceBEq, Int.reduceBNe, Nat.reduceBEq, List.append_nil, Int.toNat_zero, Nat.sub_self, frS, evl]
    try rfl
  simp only [thenK]
  refine Sat.cond_b rfl (fun h => ?_) (fun h => by cases h)
  (repeat refine Sat.seq ?_)
  (refine Sat.region_k fun k hk => ?_; simp -implicitDefEqProofs only [evr, id, reduceCtorEq, reduceIte, Nat.reduceMul, Nat.reduceAdd, Nat.reduceLT, Nat.reduceLeDiff, Nat.reduceEqDiff, Int.reduceLT, Int.reduceBEq, Int.reduceBNe, Nat.reduceBEq, List.append_nil, Int.toNat_zero, Nat.sub_self, frS])
  (refine hk _ ?_; clear hk k; try show Sat _ _ _ _ _)
  refine Sat.ret ?_
  simp only [Try.results25, evr, id, reduceCtorEq, reduceIte, Nat.reduceMul, Nat.reduceAdd, Nat.reduceLT, Nat.reduceLeDiff, Nat.reduceEqDiff, Int.reduceLT, Int.reduceBEq, Int.reduceBNe, Nat.reduceBEq, List.append_nil, Int.toNat_zero, Nat.sub_self, frS]
  unfold FailG
  rw [if_neg (by rw [e]; decide)]
  exact ⟨frS false (.sl none 0 0 0 (fun _ _ => .v undef)) (.sl none 0 0 0 (fun _ _ => .v undef)), rfl, _, _, rfl, Nats.nil, Nats.nil⟩
def halfW (k : Nat) (W : Nat → Nat) (j i : Nat) : Nat := if i < j then rawW k W i else if i = j ∧ 0 < j then W (j - 1) * (k - j + 1) else 0
theorem halfW_zero (k : Nat) (W : Nat → Nat) (i : Nat) : halfW k W 0 i = 0 := by simp [halfW]
theorem halfW_at (k : Nat) (W : Nat → Nat) (j : Nat) : halfW k W j j + W j * j = rawW k W j := by
  unfold halfW rawW
  rw [if_neg (by omega)]
  by_cases h : j = 0
  · subst h; simp
  · rw [if_pos ⟨rfl, by omega⟩, if_neg h]; omega
theorem halfW_next (k : Nat) (W : Nat → Nat) {j : Nat} (hj : j < k) : halfW k W (j + 1) (j + 1) = W j * (k - j) := by
  unfold halfW
  rw [if_neg (by omega), if_pos ⟨rfl, by omega⟩, Nat.add_sub_cancel, show k - (j + 1) + 1 = k - j by omega]
theorem halfW_put (k : Nat) (W : Nat → Nat) (j i : Nat) : (if i = j then rawW k W j else halfW k W j i) = if i = j + 1 then 0 else halfW k W (j + 1) i := by
  unfold halfW
  by_cases h1 : i = j
  · subst h1
    rw [if_pos rfl, if_neg (by omega), if_pos (by omega)]
  · rw [if_neg h1]
    by_cases h2 : i = j + 1
    · subst h2
      rw [if_pos rfl, if_neg (by omega), if_neg (by omega)]
    · rw [if_neg h2]
      by_cases h3 : i < j
      · rw [if_pos h3, if_pos (by omega)]
      · rw [if_neg h3, if_neg (by omega), if_neg (by omega), if_neg (by omega)]
theorem rawW_raw {k : Nat} {W : Nat → Nat} {B : Nat} (h : ∀ i, i ≤ k → W i ≤ B) {j : Nat} (hj : j ≤ k) : rawW k W j ≤ B * k + B * (k + 1) := by
  unfold rawW
  have h1 : W j * j ≤ B * k := Nat.mul_le_mul (h j hj) hj
  split
  · omega
  · have h2 : W (j - 1) * (k - j + 1) ≤ B * (k + 1) := Nat.mul_le_mul (h (j - 1) (by omega)) (by omega)
    omega
def struckW (k : Nat) (st : Nat → Nat) (n j i : Nat) : Nat := if stopAt k st (n + 1) i ∧ i < j then 0 else rawW k (wayN k st n) i
theorem struckW_one (k : Nat) (st : Nat → Nat) (n i : Nat) : struckW k st n 1 i = rawW k (wayN k st n) i := by
  unfold struckW
  rw [if_neg]
  rintro ⟨⟨h1, _⟩, h2⟩
  omega
theorem struckW_end (k : Nat) (st : Nat → Nat) (n i : Nat) : struckW k st n k i = wayN k st (n + 1) i := by
  show _ = if stopAt k st (n + 1) i then 0 else rawW k (wayN k st n) i
  unfold struckW
  by_cases h : stopAt k st (n + 1) i
  · rw [if_pos ⟨h, h.2.1⟩, if_pos h]
  · rw [if_neg (fun g => h g.1), if_neg h]
theorem struckW_at (k : Nat) (st : Nat → Nat) (n j : Nat) : struckW k st n j j = rawW k (wayN k st n) j := by
  unfold struckW
  rw [if_neg (by omega)]
theorem struckW_skip {k : Nat} {st : Nat → Nat} {n j : Nat} (h : ¬ stopAt k st (n + 1) j) (i : Nat) : struckW k st n (j + 1) i = struckW k st n j i := by
  unfold struckW
  by_cases e : i = j
  · subst e
    rw [if_neg (fun g => h g.1), if_neg (fun g => h g.1)]
  · by_cases g : stopAt k st (n + 1) i ∧ i < j
    · rw [if_pos g, if_pos ⟨g.1, by omega⟩]
    · rw [if_neg g, if_neg (fun g2 => g ⟨g2.1, by omega⟩)]
theorem struckW_take {k : Nat} {st : Nat → Nat} {n j : Nat} (h : stopAt k st (n + 1) j) (i : Nat) : (if i = j then 0 else struckW k st n j i) = struckW k st n (j + 1) i := by
  unfold struckW
  by_cases e : i = j
  · subst e
    rw [if_pos rfl, if_pos ⟨h, by omega⟩]
  · rw [if_neg e]
    by_cases g : stopAt k st (n + 1) i ∧ i < j
    · rw [if_pos g, if_pos ⟨g.1, by omega⟩]
    · rw [if_neg g, if_neg (fun g2 => g ⟨g2.1, by omega⟩)]
theorem outN_one (k : Nat) (st : Nat → Nat) (n : Nat) : outN k st n 1 = 0 := by
  have h : ¬ stopAt k st (n + 1) 0 := by rintro ⟨h, _⟩; omega
  show 0 + (if stopAt k st (n + 1) 0 then _ else _) = 0
  rw [if_neg h]
theorem rd_putI {N ix n : Nat} {st : Nat → Nat} : rdEq N 1 (rdSet (fun i _ => .i .i64 (st i : Nat)) ix 0 [SV.i .i64 (n : Nat)]) (fun i _ => .i .i64 ((if i = ix then n else st i : Nat) : Int)) := by
  intro i c hi hc
  obtain rfl : c = 0 := by omega
  unfold rdSet
  by_cases h : i = ix
  · subst h; simp
  · show (if _ then _ else SV.i .i64 (st i : Nat)) = SV.i .i64 ((if i = ix then n else st i : Nat) : Int)
    rw [if_neg (fun g => h g.1), if_neg h]
theorem rd_zeroI {N : Nat} : rdEq N 1 (fun _ j => [SV.i .i64 0].getD j default) (fun _ _ => .i .i64 ((0 : Nat) : Int)) := by
  intro i c hi hc
  obtain rfl : c = 0 := by omega
  rfl
theorem rd_nilI {N : Nat} {s : SV} : rdEq N 1 (fun _ j => [s].getD j default) (fun _ _ => s) := by
  intro i c hi hc
  obtain rfl : c = 0 := by omega
  rfl
theorem isNeed_pos {j p q n : Nat} (hj : 1 ≤ j) (h : IsNeed j p q n) (hpq : p < q) : 1 ≤ n := by
  rcases Nat.eq_zero_or_pos n with rfl | hn
  · exfalso
    refine h.2.1 ?_
    show p * (j + 1) ^ 0 < ((j + 1) ^ 0 - cnt (j + 1) 0 (j + 1)) * q
    have : cnt (j + 1) 0 (j + 1) = 0 := rfl
    rw [this]
    simpa using hpq
  · exact hn
set_option maxHeartbeats 2000000 in
set_option maxRecDepth 100000 in
theorem refFail0C (F : Frm) (kk : Nat) (hkk : kk ≤ 16) (hkk1 : 1 ≤ kk) (hp : Nats sp p) (hq : Nats sq q) (h0 : 0 < p) (h1 : p < q) (h2 : q < 1073741824) :
    Contract F Try.prog 26 [.i .i64 kk, frS false sp sq] (FailPost kk p q) := by
  have h256 : pw 256 ≤ pw 512 := pw_mono (by omega)
  have hch : chB false p q = true := by simp [chB, h0, h1]
  have hp' := hp
  have hq' := hq
  obtain ⟨a1, c1, z1, r1, x1, rfl, _⟩ := hp
  obtain ⟨a2, c2, z2, r2, x2, rfl, _⟩ := hq
  refine contract_of Try.func26 rfl (by kernel_rfl) ?_
  simp only [Try.ntmps26, argEnv, frS]
  have ek1 : IntKind.i64.wrap ((kk : Int) + 1) = ((kk + 1 : Nat) : Int) := by rw [w64 (by omega)]; omega
  (repeat refine Sat.seq ?_)
  (refine Sat.region_k fun k hk => ?_; simp -implicitDefEqProofs only [evr, id, reduceCtorEq, reduceIte, Nat.reduceMul, Nat.reduceAdd, Nat.reduceLT, Nat.reduceLeDiff, Nat.reduceEqDiff, Int.reduceLT, Int.reduceBEq, Int.reduceBNe, Nat.reduceBEq, List.append_nil, Int.toNat_zero, Nat.sub_self, frS])
  intro b3 b4
  (refine hk _ ?_; clear hk k; try show Sat _ _ _ _ _)
  (repeat refine Sat.seq ?_)
  refine Sat.region_at ⟨143, [(27, .b false), (3, .op 0 b3 0), (4, .op 1 b4 0), (0, .i .i64 kk)], [.box b3 30 [.b false, .sl a1 x1.length c1 z1 r1, .sl a2 x2.length c2 z2 r2], .box b4 30 [.b false, .sl none 0 0 0 (fun _ _ => .v undef), .sl none 0 0 0 (fun _ _ => .v undef)]]⟩ (fun k hk => ?_) ?_
  · simp -implicitDefEqProofs only [evr, id, reduceCtorEq, reduceIte, Nat.reduceMul, Nat.reduceAdd, Nat.reduceLT, Nat.reduceLeDiff, Nat.reduceEqDiff, Int.reduceLT, Int.reduceBEq, Int.reduceBNe, Nat.reduceBEq, List.append_nil, Int.toNat_zero, Nat.sub_self, frS]
    refine ⟨fun h => by omega, fun h => ⟨fun h => by omega, fun h => ?_⟩⟩
    refine wcall_plain (refBetweenC F false hp' hq' (by omega) h2) (by simp -implicitDefEqProofs only [evr, id, reduceCtorEq, reduceIte, Nat.reduceMul, Nat.reduceAdd, Nat.reduceLT, Nat.reduceLeDiff, Nat.reduceEqDiff, Int.reduceLT, Int.reduceBEq, Int.reduceBNe, Nat.reduceBEq, List.append_nil, Int.toNat_zero, Nat.sub_self, frS]; try rfl) (by rintro _ rfl; exact ok_plain rfl) ?_
    rintro y rfl
    simp -implicitDefEqProofs only [evr, id, reduceCtorEq, reduceIte, Nat.reduceMul, Nat.reduceAdd, Nat.reduceLT, Nat.reduceLeDiff, Nat.reduceEqDiff, Int.reduceLT, Int.reduceBEq, Int.reduceBNe, Nat.reduceBEq, List.append_nil, Int.toNat_zero, Nat.sub_self, frS, hch]
    refine hk _ ?_
    simp -implicitDefEqProofs only [evr, id, reduceCtorEq, reduceIte, Nat.reduceMul, Nat.reduceAdd, Nat.reduceLT, Nat.reduceLeDiff, Nat.reduceEqDiff, Int.reduceLT, Int.reduceBEq, Int.reduceBNe, Nat.reduceBEq, List.append_nil, Int.toNat_zero, Nat.sub_self, frS, evl]
    try rfl
  simp only [thenK]
  refine Sat.cond_b rfl (fun h => by cases h) (fun h => ?_)
  refine Sat.skip ?_
  simp only [thenK]
  (repeat refine Sat.seq ?_)
  (refine Sat.region_k fun k hk => ?_; simp -implicitDefEqProofs only [evr, id, reduceCtorEq, reduceIte, Nat.reduceMul, Nat.reduceAdd, Nat.reduceLT, Nat.reduceLeDiff, Nat.reduceEqDiff, Int.reduceLT, Int.reduceBEq, Int.reduceBNe, Nat.reduceBEq, List.append_nil, Int.toNat_zero, Nat.sub_self, frS])
  refine ⟨by omega, fun aw cw => ?_⟩
  (refine hk _ ?_; clear hk k; try show Sat _ _ _ _ _)
  (repeat refine Sat.seq ?_)
  (refine Sat.region_k fun k hk => ?_; simp -implicitDefEqProofs only [evr, id, reduceCtorEq, reduceIte, Nat.reduceMul, Nat.reduceAdd, Nat.reduceLT, Nat.reduceLeDiff, Nat.reduceEqDiff, Int.reduceLT, Int.reduceBEq, Int.reduceBNe, Nat.reduceBEq, List.append_nil, Int.toNat_zero, Nat.sub_self, frS]; refine hk _ ?_; clear hk k; try show Sat _ _ _ _ _)
  (repeat refine Sat.seq ?_)
  (refine Sat.region_k fun k hk => ?_; simp -implicitDefEqProofs only [evr, id, reduceCtorEq, reduceIte, Nat.reduceMul, Nat.reduceAdd, Nat.reduceLT, Nat.reduceLeDiff, Nat.reduceEqDiff, Int.reduceLT, Int.reduceBEq, Int.reduceBNe, Nat.reduceBEq, List.append_nil, Int.toNat_zero, Nat.sub_self, frS]; refine hk _ ?_; clear hk k; try show Sat _ _ _ _ _)
  (repeat refine Sat.seq ?_)
  refine Sat.block ?_
  refine Sat.loop (ι := Nat × (Nat → Nat) × Nat) (fun x => ⟨143, [(8, .i .i64 (x.1 : Int)), (7, .i .i64 (x.2.2 : Int)), (6, .os 2 aw kk cw), (0, .i .i64 kk), (3, .op 0 b3 0), (4, .op 1 b4 0)], [.box b3 30 [.b false, .sl a1 x1.length c1 z1 r1, .sl a2 x2.length c2 z2 r2], .box b4 30 [.b false, .sl none 0 0 0 (fun _ _ => .v undef), .sl none 0 0 0 (fun _ _ => .v undef)], .row aw 3 kk cw 1 (fun i _ => .i .i64 (x.2.1 i : Nat))]⟩)
    (fun x => 1 ≤ x.1 ∧ x.1 ≤ kk ∧ Stops x.1 p q x.2.1 ∧ x.2.2 ≤ 128 ∧ ∀ i, 1 ≤ i → i < x.1 → x.2.1 i ≤ x.2.2) (fun x => kk - x.1) (1, fun _ => 0, 0) ⟨Nat.le_refl _, hkk1, fun j h3 h4 => by omega, by decide, fun j h3 h4 => by omega⟩ (by simp -implicitDefEqProofs only [evr, id, reduceCtorEq, reduceIte, Nat.reduceMul, Nat.reduceAdd, Nat.reduceLT, Nat.reduceLeDiff, Nat.reduceEqDiff, Int.reduceLT, Int.reduceBEq, Int.reduceBNe, Nat.reduceBEq, List.append_nil, Int.toNat_zero, Nat.sub_self, frS, evl]; exact ⟨⟨rfl, rfl⟩, rd_zeroI⟩) ?_
  rintro ⟨j, st, most⟩ ⟨hj1, hjk, hst, hm128, hmost⟩
  simp only at hj1 hjk hst hm128 hmost ⊢
  (repeat refine Sat.seq ?_)
  (refine Sat.region_k fun k hk => ?_; simp -implicitDefEqProofs only [evr, id, reduceCtorEq, reduceIte, Nat.reduceMul, Nat.reduceAdd, Nat.reduceLT, Nat.reduceLeDiff, Nat.reduceEqDiff, Int.reduceLT, Int.reduceBEq, Int.reduceBNe, Nat.reduceBEq, List.append_nil, Int.toNat_zero, Nat.sub_self, frS]; refine hk _ ?_; clear hk k; try show Sat _ _ _ _ _)
  (repeat refine Sat.seq ?_)
  refine Sat.cond_b rfl (fun h => ?_) (fun h => ?_)
  · simp only [decide_eq_true_eq] at h
    have ej1 : IntKind.i64.wrap ((j : Int) + 1) = ((j + 1 : Nat) : Int) := by rw [w64 (by omega)]; omega
    have hneed : needIn (j : Int) false p q = true := by unfold needIn; rw [decide_eq_true (by omega), hch]; rfl
    refine Sat.skip ?_
    simp only [thenK]
    (repeat refine Sat.seq ?_)
    refine Sat.block ?_
    (repeat refine Sat.seq ?_)
    (refine Sat.region_k fun k hk => ?_; simp -implicitDefEqProofs only [evr, id, reduceCtorEq, reduceIte, Nat.reduceMul, Nat.reduceAdd, Nat.reduceLT, Nat.reduceLeDiff, Nat.reduceEqDiff, Int.reduceLT, Int.reduceBEq, Int.reduceBNe, Nat.reduceBEq, List.append_nil, Int.toNat_zero, Nat.sub_self, frS])
    refine wcall_plain (refNeededC F j (by omega) false hp' hq' (by omega) (by omega) h2) (by simp -implicitDefEqProofs only [evr, id, reduceCtorEq, reduceIte, Nat.reduceMul, Nat.reduceAdd, Nat.reduceLT, Nat.reduceLeDiff, Nat.reduceEqDiff, Int.reduceLT, Int.reduceBEq, Int.reduceBNe, Nat.reduceBEq, List.append_nil, Int.toNat_zero, Nat.sub_self, frS]; try rfl) (fun r h => by unfold NeedG at h; rw [if_pos hneed] at h; rcases needPost_cases h with ⟨n, rfl, _⟩ | ⟨rfl, _⟩ <;> exact ok_tupL rfl) ?_
    intro r hr
    unfold NeedG at hr
    rw [if_pos hneed, Int.toNat_natCast] at hr
    rcases needPost_cases hr with ⟨n, rfl, hn⟩ | ⟨rfl, hn⟩
    · simp -implicitDefEqProofs only [evr, id, reduceCtorEq, reduceIte, Nat.reduceMul, Nat.reduceAdd, Nat.reduceLT, Nat.reduceLeDiff, Nat.reduceEqDiff, Int.reduceLT, Int.reduceBEq, Int.reduceBNe, Nat.reduceBEq, List.append_nil, Int.toNat_zero, Nat.sub_self, frS]
      (refine hk _ ?_; clear hk k; try show Sat _ _ _ _ _)
      (repeat refine Sat.seq ?_)
      (refine Sat.region_k fun k hk => ?_; simp -implicitDefEqProofs only [evr, id, reduceCtorEq, reduceIte, Nat.reduceMul, Nat.reduceAdd, Nat.reduceLT, Nat.reduceLeDiff, Nat.reduceEqDiff, Int.reduceLT, Int.reduceBEq, Int.reduceBNe, Nat.reduceBEq, List.append_nil, Int.toNat_zero, Nat.sub_self, frS]; refine hk _ ?_; clear hk k; try show Sat _ _ _ _ _)
      refine Sat.cond_b rfl (fun h => absurd h (by decide)) (fun h => ?_)
      refine Sat.skip ?_
      simp only [thenK]
      (repeat refine Sat.seq ?_)
      (refine Sat.region_k fun k hk => ?_; simp -implicitDefEqProofs only [evr, id, reduceCtorEq, reduceIte, Nat.reduceMul, Nat.reduceAdd, Nat.reduceLT, Nat.reduceLeDiff, Nat.reduceEqDiff, Int.reduceLT, Int.reduceBEq, Int.reduceBNe, Nat.reduceBEq, List.append_nil, Int.toNat_zero, Nat.sub_self, frS])
      refine ⟨by omega, by omega, ?_⟩
      (refine hk _ ?_; clear hk k; try show Sat _ _ _ _ _)
      (repeat refine Sat.seq ?_)
      refine Sat.at ⟨143, [(8, .i .i64 (j : Int)), (7, .i .i64 ((max most n : Nat) : Int)), (6, .os 2 aw kk cw), (0, .i .i64 kk), (3, .op 0 b3 0), (4, .op 1 b4 0)], [.box b3 30 [.b false, .sl a1 x1.length c1 z1 r1, .sl a2 x2.length c2 z2 r2], .box b4 30 [.b false, .sl none 0 0 0 (fun _ _ => .v undef), .sl none 0 0 0 (fun _ _ => .v undef)], .row aw 3 kk cw 1 (fun i _ => .i .i64 ((if i = j then n else st i : Nat) : Int))]⟩ ?_ ?_
      · have emx : max (most : Int) (n : Int) = ((max most n : Nat) : Int) := by omega
        refine Sat.region_k fun k hk => ?_
        simp -implicitDefEqProofs only [evr, id, reduceCtorEq, reduceIte, Nat.reduceMul, Nat.reduceAdd, Nat.reduceLT, Nat.reduceLeDiff, Nat.reduceEqDiff, Int.reduceLT, Int.reduceBEq, Int.reduceBNe, Nat.reduceBEq, List.append_nil, Int.toNat_zero, Nat.sub_self, frS, emx]
        refine hk _ ?_
        simp only [thenK]
        simp -implicitDefEqProofs only [evr, id, reduceCtorEq, reduceIte, Nat.reduceMul, Nat.reduceAdd, Nat.reduceLT, Nat.reduceLeDiff, Nat.reduceEqDiff, Int.reduceLT, Int.reduceBEq, Int.reduceBNe, Nat.reduceBEq, List.append_nil, Int.toNat_zero, Nat.sub_self, frS, evl]
        exact rd_putI
      simp only [thenK, blockK]
      (repeat refine Sat.seq ?_)
      refine Sat.region_k fun k hk => ?_
      simp -implicitDefEqProofs only [evr, id, reduceCtorEq, reduceIte, Nat.reduceMul, Nat.reduceAdd, Nat.reduceLT, Nat.reduceLeDiff, Nat.reduceEqDiff, Int.reduceLT, Int.reduceBEq, Int.reduceBNe, Nat.reduceBEq, List.append_nil, Int.toNat_zero, Nat.sub_self, frS, ej1]
      refine hk _ ?_
      simp only [thenK, blockK]
      refine ⟨(j + 1, fun i => if i = j then n else st i, max most n), ⟨by show 1 ≤ j + 1; omega, by show j + 1 ≤ kk; omega, fun i g1 g2 => ?_, ?_, fun i g1 g2 => ?_⟩, by show kk - (j + 1) < kk - j; omega, ?_⟩
      · show IsNeed i p q (if i = j then n else st i)
        by_cases e : i = j
        · subst e; rw [if_pos rfl]; exact hn
        · rw [if_neg e]; exact hst i g1 (by have : i < j + 1 := g2; omega)
      · show max most n ≤ 128
        have := hn.1
        omega
      · show (if i = j then n else st i) ≤ max most n
        by_cases e : i = j
        · subst e; rw [if_pos rfl]; omega
        · rw [if_neg e]
          have := hmost i g1 (by have : i < j + 1 := g2; omega)
          omega
      simp -implicitDefEqProofs only [evr, id, reduceCtorEq, reduceIte, Nat.reduceMul, Nat.reduceAdd, Nat.reduceLT, Nat.reduceLeDiff, Nat.reduceEqDiff, Int.reduceLT, Int.reduceBEq, Int.reduceBNe, Nat.reduceBEq, List.append_nil, Int.toNat_zero, Nat.sub_self, frS, evl]
    · simp -implicitDefEqProofs only [evr, id, reduceCtorEq, reduceIte, Nat.reduceMul, Nat.reduceAdd, Nat.reduceLT, Nat.reduceLeDiff, Nat.reduceEqDiff, Int.reduceLT, Int.reduceBEq, Int.reduceBNe, Nat.reduceBEq, List.append_nil, Int.toNat_zero, Nat.sub_self, frS]
      (refine hk _ ?_; clear hk k; try show Sat _ _ _ _ _)
      (repeat refine Sat.seq ?_)
      (refine Sat.region_k fun k hk => ?_; simp -implicitDefEqProofs only [evr, id, reduceCtorEq, reduceIte, Nat.reduceMul, Nat.reduceAdd, Nat.reduceLT, Nat.reduceLeDiff, Nat.reduceEqDiff, Int.reduceLT, Int.reduceBEq, Int.reduceBNe, Nat.reduceBEq, List.append_nil, Int.toNat_zero, Nat.sub_self, frS]; refine hk _ ?_; clear hk k; try show Sat _ _ _ _ _)
      refine Sat.cond_b rfl (fun h => ?_) (fun h => absurd h (by decide))
      (repeat refine Sat.seq ?_)
      (refine Sat.region_k fun k hk => ?_; simp -implicitDefEqProofs only [evr, id, reduceCtorEq, reduceIte, Nat.reduceMul, Nat.reduceAdd, Nat.reduceLT, Nat.reduceLeDiff, Nat.reduceEqDiff, Int.reduceLT, Int.reduceBEq, Int.reduceBNe, Nat.reduceBEq, List.append_nil, Int.toNat_zero, Nat.sub_self, frS])
      (refine hk _ ?_; clear hk k; try show Sat _ _ _ _ _)
      refine Sat.ret ?_
      simp only [thenK, blockK, Try.results26, evr, id, reduceCtorEq, reduceIte, Nat.reduceMul, Nat.reduceAdd, Nat.reduceLT, Nat.reduceLeDiff, Nat.reduceEqDiff, Int.reduceLT, Int.reduceBEq, Int.reduceBNe, Nat.reduceBEq, List.append_nil, Int.toNat_zero, Nat.sub_self, frS]
      exact .inr ⟨⟨j, hj1, by omega, hn⟩, frS false (.sl none 0 0 0 (fun _ _ => .v undef)) (.sl none 0 0 0 (fun _ _ => .v undef)), rfl, _, _, rfl, Nats.nil, Nats.nil⟩
  · simp only [decide_eq_false_iff_not] at h
    obtain rfl : j = kk := by omega
    refine Sat.exit ?_
    simp only [thenK, blockK, reduceIte]
    refine Sat.settle2 6 rfl rfl ?_
    simp -implicitDefEqProofs only [evr, id, reduceCtorEq, reduceIte, Nat.reduceMul, Nat.reduceAdd, Nat.reduceLT, Nat.reduceLeDiff, Nat.reduceEqDiff, Int.reduceLT, Int.reduceBEq, Int.reduceBNe, Nat.reduceBEq, List.append_nil, Int.toNat_zero, Nat.sub_self, frS]
    (repeat refine Sat.seq ?_)
    refine Sat.region_k fun k hk => ?_
    simp -implicitDefEqProofs only [evr, id, reduceCtorEq, reduceIte, Nat.reduceMul, Nat.reduceAdd, Nat.reduceLT, Nat.reduceLeDiff, Nat.reduceEqDiff, Int.reduceLT, Int.reduceBEq, Int.reduceBNe, Nat.reduceBEq, List.append_nil, Int.toNat_zero, Nat.sub_self, frS, ek1]
    refine ⟨by omega, fun ay cy => ?_⟩
    (refine hk _ ?_; clear hk k; try show Sat _ _ _ _ _)
    (repeat refine Sat.seq ?_)
    (refine Sat.region_k fun k hk => ?_; simp -implicitDefEqProofs only [evr, id, reduceCtorEq, reduceIte, Nat.reduceMul, Nat.reduceAdd, Nat.reduceLT, Nat.reduceLeDiff, Nat.reduceEqDiff, Int.reduceLT, Int.reduceBEq, Int.reduceBNe, Nat.reduceBEq, List.append_nil, Int.toNat_zero, Nat.sub_self, frS])
    intro blk
    refine ⟨⟨by omega, by omega⟩, by omega, ?_⟩
    (refine hk _ ?_; clear hk k; try show Sat _ _ _ _ _)
    refine Sat.settleCell 3 4 (fun i _ => if i = 0 then .sl (some ⟨blk, 0, none⟩) 1 1 1 (rdL [SV.i .i64 1] 1) else .sl none 0 0 0 (fun _ _ => .v undef)) rfl rfl (by decide) (fun i c hi hc => ?_) ?_
    · obtain rfl : c = 0 := by omega
      by_cases e : i = 0
      · subst e
        exact .inr ⟨rfl, rfl⟩
      · refine .inl ?_
        show sim (if i = 0 ∧ _ then _ else _) (if i = 0 then _ else _)
        rw [if_neg (fun g => e g.1), if_neg e]
        exact sim_refl _
    simp -implicitDefEqProofs only [evr, id, reduceCtorEq, reduceIte, Nat.reduceMul, Nat.reduceAdd, Nat.reduceLT, Nat.reduceLeDiff, Nat.reduceEqDiff, Int.reduceLT, Int.reduceBEq, Int.reduceBNe, Nat.reduceBEq, List.append_nil, Int.toNat_zero, Nat.sub_self, frS]
    refine Sat.settle2 11 rfl rfl ?_
    simp -implicitDefEqProofs only [evr, id, reduceCtorEq, reduceIte, Nat.reduceMul, Nat.reduceAdd, Nat.reduceLT, Nat.reduceLeDiff, Nat.reduceEqDiff, Int.reduceLT, Int.reduceBEq, Int.reduceBNe, Nat.reduceBEq, List.append_nil, Int.toNat_zero, Nat.sub_self, frS]
    (repeat refine Sat.seq ?_)
    (refine Sat.region_k fun k hk => ?_; simp -implicitDefEqProofs only [evr, id, reduceCtorEq, reduceIte, Nat.reduceMul, Nat.reduceAdd, Nat.reduceLT, Nat.reduceLeDiff, Nat.reduceEqDiff, Int.reduceLT, Int.reduceBEq, Int.reduceBNe, Nat.reduceBEq, List.append_nil, Int.toNat_zero, Nat.sub_self, frS]; refine hk _ ?_; clear hk k; try show Sat _ _ _ _ _)
    (repeat refine Sat.seq ?_)
    (refine Sat.region_k fun k hk => ?_; simp -implicitDefEqProofs only [evr, id, reduceCtorEq, reduceIte, Nat.reduceMul, Nat.reduceAdd, Nat.reduceLT, Nat.reduceLeDiff, Nat.reduceEqDiff, Int.reduceLT, Int.reduceBEq, Int.reduceBNe, Nat.reduceBEq, List.append_nil, Int.toNat_zero, Nat.sub_self, frS]; refine hk _ ?_; clear hk k; try show Sat _ _ _ _ _)
    (repeat refine Sat.seq ?_)
    refine Sat.block ?_
    refine Sat.loop (ι := Nat × (Nat → SV) × SV × (Option Addr × Nat)) (fun x => ⟨143, [(13, .i .i64 ((x.1 + 1 : Nat) : Int)), (12, x.2.2.1), (11, .sl x.2.2.2.1 (j + 1) x.2.2.2.2 1 (fun i _ => x.2.1 i)), (7, .i .i64 (most : Int)), (6, .sl aw j cw 1 (fun i _ => .i .i64 (st i : Nat))), (0, .i .i64 j), (3, .op 0 b3 0), (4, .op 1 b4 0)], [.box b3 30 [.b false, .sl a1 x1.length c1 z1 r1, .sl a2 x2.length c2 z2 r2], .box b4 30 [.b false, .sl none 0 0 0 (fun _ _ => .v undef), .sl none 0 0 0 (fun _ _ => .v undef)]]⟩)
      (fun x => x.1 ≤ most ∧ RowN x.2.1 j (wayN j st x.1) ∧ Nats x.2.2.1 (failN j st x.1)) (fun x => most - x.1)
      (0, (fun i => if i = 0 then .sl (some ⟨blk, 0, none⟩) 1 1 1 (rdL [SV.i .i64 1] 1) else .sl none 0 0 0 (fun _ _ => .v undef)), .sl none 0 0 0 (fun _ _ => .v undef), (ay, cy)) ⟨Nat.zero_le _, fun i hi => ?_, Nats.nil⟩ (by simp -implicitDefEqProofs only [evr, id, reduceCtorEq, reduceIte, Nat.reduceMul, Nat.reduceAdd, Nat.reduceLT, Nat.reduceLeDiff, Nat.reduceEqDiff, Int.reduceLT, Int.reduceBEq, Int.reduceBNe, Nat.reduceBEq, List.append_nil, Int.toNat_zero, Nat.sub_self, frS, evl]; first | rfl | exact ⟨rfl, rfl⟩ | trace_state) ?_
    · by_cases e : i = 0
      · subst e; exact nats_one (x := 1) (by omega) (by omega)
      · simp only [e, if_false, wayN]; exact Nats.nil
    rintro ⟨n, sv, sf, ⟨ac, cc⟩⟩ ⟨hn, hway, hfail⟩
    simp only at hn hway hfail ⊢
    have hfail' := hfail
    obtain ⟨a6, c6, z6, r6, x6, rfl, _⟩ := hfail
    (repeat refine Sat.seq ?_)
    (refine Sat.region_k fun k hk => ?_; simp -implicitDefEqProofs only [evr, id, reduceCtorEq, reduceIte, Nat.reduceMul, Nat.reduceAdd, Nat.reduceLT, Nat.reduceLeDiff, Nat.reduceEqDiff, Int.reduceLT, Int.reduceBEq, Int.reduceBNe, Nat.reduceBEq, List.append_nil, Int.toNat_zero, Nat.sub_self, frS]; refine hk _ ?_; clear hk k; try show Sat _ _ _ _ _)
    (repeat refine Sat.seq ?_)
    refine Sat.cond_b rfl (fun h => ?_) (fun h => ?_)
    · simp only [decide_eq_true_eq] at h
      have hn1 : n + 1 ≤ 128 := by omega
      have bn := kn_le (k := j) (n := n + 1) hkk hn1
      have bn0 := kn_le (k := j) (n := n) hkk (by omega)
      have en1 : IntKind.i64.wrap (((n + 1 : Nat) : Int) + 1) = ((n + 1 + 1 : Nat) : Int) := by rw [w64 (by omega)]; omega
      refine Sat.skip ?_
      simp only [thenK]
      (repeat refine Sat.seq ?_)
      refine Sat.block ?_
      (repeat refine Sat.seq ?_)
      refine Sat.region_k fun k hk => ?_
      simp -implicitDefEqProofs only [evr, id, reduceCtorEq, reduceIte, Nat.reduceMul, Nat.reduceAdd, Nat.reduceLT, Nat.reduceLeDiff, Nat.reduceEqDiff, Int.reduceLT, Int.reduceBEq, Int.reduceBNe, Nat.reduceBEq, List.append_nil, Int.toNat_zero, Nat.sub_self, frS, ek1]
      refine ⟨by omega, fun av cv => ?_⟩
      (refine hk _ ?_; clear hk k; try show Sat _ _ _ _ _)
      (repeat refine Sat.seq ?_)
      (refine Sat.region_k fun k hk => ?_; simp -implicitDefEqProofs only [evr, id, reduceCtorEq, reduceIte, Nat.reduceMul, Nat.reduceAdd, Nat.reduceLT, Nat.reduceLeDiff, Nat.reduceEqDiff, Int.reduceLT, Int.reduceBEq, Int.reduceBNe, Nat.reduceBEq, List.append_nil, Int.toNat_zero, Nat.sub_self, frS]; refine hk _ ?_; clear hk k; try show Sat _ _ _ _ _)
      (repeat refine Sat.seq ?_)
      refine Sat.block ?_
      refine Sat.loop (ι := Nat × (Nat → SV)) (fun x => ⟨143, [(15, .i .i64 (x.1 : Int)), (14, .os 2 av (j + 1) cv), (13, .i .i64 ((n + 1 : Nat) : Int)), (12, .sl a6 x6.length c6 z6 r6), (11, .sl ac (j + 1) cc 1 (fun i _ => sv i)), (7, .i .i64 (most : Int)), (6, .sl aw j cw 1 (fun i _ => .i .i64 (st i : Nat))), (0, .i .i64 j), (3, .op 0 b3 0), (4, .op 1 b4 0)], [.box b3 30 [.b false, .sl a1 x1.length c1 z1 r1, .sl a2 x2.length c2 z2 r2], .box b4 30 [.b false, .sl none 0 0 0 (fun _ _ => .v undef), .sl none 0 0 0 (fun _ _ => .v undef)], .row av 28 (j + 1) cv 1 (fun i _ => x.2 i)]⟩)
        (fun x => x.1 ≤ j + 1 ∧ RowN x.2 j (halfW j (wayN j st n) x.1)) (fun x => j + 1 - x.1) (0, fun _ => .sl none 0 0 0 (fun _ _ => .v undef)) ⟨Nat.zero_le _, fun i hi => by rw [halfW_zero]; exact Nats.nil⟩ (by simp -implicitDefEqProofs only [evr, id, reduceCtorEq, reduceIte, Nat.reduceMul, Nat.reduceAdd, Nat.reduceLT, Nat.reduceLeDiff, Nat.reduceEqDiff, Int.reduceLT, Int.reduceBEq, Int.reduceBNe, Nat.reduceBEq, List.append_nil, Int.toNat_zero, Nat.sub_self, frS, evl]; first | exact ⟨rfl, rd_nilI⟩ | exact rd_nilI | trace_state) ?_
      rintro ⟨i, nv⟩ ⟨hi, hrow⟩
      simp only at hi hrow ⊢
      (repeat refine Sat.seq ?_)
      (refine Sat.region_k fun k hk => ?_; simp -implicitDefEqProofs only [evr, id, reduceCtorEq, reduceIte, Nat.reduceMul, Nat.reduceAdd, Nat.reduceLT, Nat.reduceLeDiff, Nat.reduceEqDiff, Int.reduceLT, Int.reduceBEq, Int.reduceBNe, Nat.reduceBEq, List.append_nil, Int.toNat_zero, Nat.sub_self, frS]; refine hk _ ?_; clear hk k; try show Sat _ _ _ _ _)
      (repeat refine Sat.seq ?_)
      refine Sat.cond_b rfl (fun h => ?_) (fun h => ?_)
      · simp only [decide_eq_true_eq] at h
        have hij : i ≤ j := by omega
        have hw1 : IntKind.u64.wrap (i : Int) = (i : Int) := wu64 (by omega) (by omega)
        have ei1 : IntKind.i64.wrap ((i : Int) + 1) = ((i + 1 : Nat) : Int) := by rw [w64 (by omega)]; omega
        have ei2 : IntKind.i64.wrap ((j : Int) - (i : Int)) = ((j - i : Nat) : Int) := by rw [w64 (by omega)]; omega
        have hw2 : IntKind.u64.wrap ((j - i : Nat) : Int) = ((j - i : Nat) : Int) := wu64 (by omega) (by omega)
        have hna := hrow i hij
        have hsa := hway i hij
        have hna' := hna
        have hsa' := hsa
        obtain ⟨a11, c11, z11, r11, x11, ea, _⟩ := hna
        obtain ⟨a12, c12, z12, r12, x12, eb, _⟩ := hsa
        rw [ea] at hna'
        rw [eb] at hsa'
        have bsa := Nat.le_trans (wayN_le j st n (j := i) hij) bn0
        have braw := Nat.le_trans (rawW_le j st n (j := i) hij) bn
        have hat := halfW_at j (wayN j st n) i
        have bi : i ≤ 2 ^ 5 := by omega
        have bk : j - i ≤ 2 ^ 5 := by omega
        have bma := mul_two bsa bi
        have bmb := mul_two bsa bk
        have bhalf : halfW j (wayN j st n) i i ≤ 2 ^ xb := by omega
        refine Sat.skip ?_
        simp only [thenK]
        (repeat refine Sat.seq ?_)
        refine Sat.block ?_
        (repeat refine Sat.seq ?_)
        (refine Sat.region_rows [⟨0, 73, 16384, 0⟩, ⟨0, 74, 32768, 0⟩, ⟨0, 75, 16384, 0⟩, ⟨0, 76, 32768, 0⟩, ⟨12, 77, 56668397794435742564352, 0⟩, ⟨16, 78, 75557863725914323419136, 1⟩, ⟨0, 79, 2048, 0⟩, ⟨0, 80, 32768, 0⟩, ⟨192, 81, 906694364710971881029632, 0⟩, ⟨256, 82, 1208925819614629174706176, 1⟩, ⟨0, 83, 32768, 0⟩, ⟨1024, 84, 4835703278458516698824704, 1⟩, ⟨2048, 85, 9671406556917033397649408, 2⟩, ⟨4608, 86, 21760664753063325144711168, 2⟩, ⟨8224, 87, 38836741955119962237435904, 2⟩, ⟨32767, 88, 14167099448608935641088, 0⟩, ⟨65535, 0, 232113757366008801543585792, 2⟩] [0, 1, 2, 3, 4, 6, 7, 8, 10, 5, 9, 11] [(12, false), (13, false), (14, false), (15, false), (16, false)] [12, 13] (by kernel_rfl) (by kernel_rfl) (fun _ _ h => h) fun k hk => ?_; simp only [List.map_cons, List.map_nil, List.getD_cons_zero, List.getD_cons_succ, btseq_cons, btseq_free, btseq_nil]; simp -implicitDefEqProofs only [evr, id, reduceCtorEq, reduceIte, Nat.reduceMul, Nat.reduceAdd, Nat.reduceLT, Nat.reduceLeDiff, Nat.reduceEqDiff, Int.reduceLT, Int.reduceBEq, Int.reduceBNe, Nat.reduceBEq, List.append_nil, Int.toNat_zero, Nat.sub_self, frS])
        simp only [hw1, Int.toNat_natCast]
        refine ⟨by omega, by omega, by omega, ?_⟩
        rw [ea, eb]
        refine wcall_slice (refWordC F i (by omega)) rfl rfl ?_
        intro y hy
        have hq1 := hy
        obtain ⟨a13, c13, z13, r13, x13, rfl, _⟩ := hy
        simp -implicitDefEqProofs only [evr, id, reduceCtorEq, reduceIte, Nat.reduceMul, Nat.reduceAdd, Nat.reduceLT, Nat.reduceLeDiff, Nat.reduceEqDiff, Int.reduceLT, Int.reduceBEq, Int.reduceBNe, Nat.reduceBEq, List.append_nil, Int.toNat_zero, Nat.sub_self, frS]
        refine wcall_slice (refTimesC F hsa' hq1 (lt_pw bsa (by rw [xb_eq]; decide)) (lt_pw bi (by decide))) rfl rfl ?_
        intro y hy
        have hq2 := hy
        obtain ⟨a14, c14, z14, r14, x14, rfl, _⟩ := hy
        simp -implicitDefEqProofs only [evr, id, reduceCtorEq, reduceIte, Nat.reduceMul, Nat.reduceAdd, Nat.reduceLT, Nat.reduceLeDiff, Nat.reduceEqDiff, Int.reduceLT, Int.reduceBEq, Int.reduceBNe, Nat.reduceBEq, List.append_nil, Int.toNat_zero, Nat.sub_self, frS]
        refine wcall_slice (refPlusC F hna' hq2 (lt_pw bhalf (by rw [xb_eq]; decide)) (lt_pw bma (by rw [xb_eq]; decide))) rfl rfl ?_
        intro y hy
        rw [hat] at hy
        have hq5 := hy
        obtain ⟨a17, c17, z17, r17, x17, rfl, _⟩ := hy
        simp -implicitDefEqProofs only [evr, id, reduceCtorEq, reduceIte, Nat.reduceMul, Nat.reduceAdd, Nat.reduceLT, Nat.reduceLeDiff, Nat.reduceEqDiff, Int.reduceLT, Int.reduceBEq, Int.reduceBNe, Nat.reduceBEq, List.append_nil, Int.toNat_zero, Nat.sub_self, frS]
        refine ⟨by omega, by omega, ?_⟩
        (refine hk _ ?_; clear hk k; try show Sat _ _ _ _ _)
        obtain ⟨nv1, hnv1⟩ : ∃ nv1 : Nat → SV, nv1 = fun q => if q = i then .sl a17 x17.length c17 z17 r17 else nv q := ⟨_, rfl⟩
        have hrow1 : RowN nv1 j (fun q => if q = i + 1 then 0 else halfW j (wayN j st n) (i + 1) q) := by
          subst hnv1
          refine hrow.put ?_ fun q _ hne => ?_
          · have := halfW_put j (wayN j st n) i i
            rw [if_pos rfl] at this
            rw [← this]
            exact hq5
          · have := halfW_put j (wayN j st n) i q
            rw [if_neg hne] at this
            exact this
        refine Sat.le (st' := ⟨143, [(15, .i .i64 (i : Int)), (14, .os 2 av (j + 1) cv), (13, .i .i64 ((n + 1 : Nat) : Int)), (12, .sl a6 x6.length c6 z6 r6), (11, .sl ac (j + 1) cc 1 (fun i _ => sv i)), (7, .i .i64 (most : Int)), (6, .sl aw j cw 1 (fun i _ => .i .i64 (st i : Nat))), (0, .i .i64 j), (3, .op 0 b3 0), (4, .op 1 b4 0)], [.box b3 30 [.b false, .sl a1 x1.length c1 z1 r1, .sl a2 x2.length c2 z2 r2], .box b4 30 [.b false, .sl none 0 0 0 (fun _ _ => .v undef), .sl none 0 0 0 (fun _ _ => .v undef)], .row av 28 (j + 1) cv 1 (fun i _ => nv1 i)]⟩) ?_ (by simp -implicitDefEqProofs only [evr, id, reduceCtorEq, reduceIte, Nat.reduceMul, Nat.reduceAdd, Nat.reduceLT, Nat.reduceLeDiff, Nat.reduceEqDiff, Int.reduceLT, Int.reduceBEq, Int.reduceBNe, Nat.reduceBEq, List.append_nil, Int.toNat_zero, Nat.sub_self, frS, evl]; try (subst hnv1; exact rd_put))
        (repeat refine Sat.seq ?_)
        (refine Sat.region_k fun k hk => ?_; simp -implicitDefEqProofs only [evr, id, reduceCtorEq, reduceIte, Nat.reduceMul, Nat.reduceAdd, Nat.reduceLT, Nat.reduceLeDiff, Nat.reduceEqDiff, Int.reduceLT, Int.reduceBEq, Int.reduceBNe, Nat.reduceBEq, List.append_nil, Int.toNat_zero, Nat.sub_self, frS]; refine hk _ ?_; clear hk k; try show Sat _ _ _ _ _)
        refine Sat.cond_b rfl (fun h => ?_) (fun h => ?_)
        · have hlt : i < j := by simp only [decide_eq_true_eq] at h; omega
          have hnb := hrow1 (i + 1) (by omega)
          simp only [if_true] at hnb
          have hnb' := hnb
          obtain ⟨a21, c21, z21, r21, x21, ec, _⟩ := hnb
          rw [ec] at hnb'
          have hnx := halfW_next j (wayN j st n) hlt
          (repeat refine Sat.seq ?_)
          (refine Sat.region_rows [⟨0, 92, 16384, 0⟩, ⟨0, 93, 32768, 0⟩, ⟨2, 94, 4951760157141521099596496896, 0⟩, ⟨0, 95, 16384, 0⟩, ⟨0, 96, 32768, 0⟩, ⟨16, 97, 39614081257132168796771975168, 0⟩, ⟨40, 98, 99035203142830421991929937920, 0⟩, ⟨64, 99, 158456325028528675187087900672, 1⟩, ⟨0, 100, 2048, 0⟩, ⟨0, 101, 32768, 0⟩, ⟨768, 102, 1901475900342344102245054808064, 0⟩, ⟨1024, 103, 2535301200456458802993406410752, 1⟩, ⟨0, 104, 1, 0⟩, ⟨0, 105, 32768, 0⟩, ⟨12288, 106, 30423614405477505635920876929024, 0⟩, ⟨16384, 107, 40564819207303340847894502572032, 1⟩, ⟨32768, 108, 81129638414606681695789005144064, 2⟩, ⟨67584, 109, 167329879230126280997564823109632, 2⟩, ⟨131200, 110, 324835466308483784133530196377600, 2⟩, ⟨524287, 111, 12379400392853802748991242240, 0⟩, ⟨1048575, 0, 1947111321950560360698936123457536, 2⟩] [0, 1, 2, 3, 4, 5, 6, 8, 9, 10, 12, 13, 14, 7, 11, 15] [(16, false), (17, false), (18, false), (19, false), (20, false)] [16, 17] (by kernel_rfl) (by kernel_rfl) (fun _ _ h => h) fun k hk => ?_; simp only [List.map_cons, List.map_nil, List.getD_cons_zero, List.getD_cons_succ, btseq_cons, btseq_free, btseq_nil]; simp -implicitDefEqProofs only [evr, id, reduceCtorEq, reduceIte, Nat.reduceMul, Nat.reduceAdd, Nat.reduceLT, Nat.reduceLeDiff, Nat.reduceEqDiff, Int.reduceLT, Int.reduceBEq, Int.reduceBNe, Nat.reduceBEq, List.append_nil, Int.toNat_zero, Nat.sub_self, frS])
          simp only [ei1, ei2, hw2, Int.toNat_natCast]
          refine ⟨by omega, by omega, by omega, ?_⟩
          rw [ec, eb]
          refine wcall_slice (refWordC F (j - i) (by omega)) rfl rfl ?_
          intro y hy
          have hq6 := hy
          obtain ⟨a23, c23, z23, r23, x23, rfl, _⟩ := hy
          simp -implicitDefEqProofs only [evr, id, reduceCtorEq, reduceIte, Nat.reduceMul, Nat.reduceAdd, Nat.reduceLT, Nat.reduceLeDiff, Nat.reduceEqDiff, Int.reduceLT, Int.reduceBEq, Int.reduceBNe, Nat.reduceBEq, List.append_nil, Int.toNat_zero, Nat.sub_self, frS]
          refine wcall_slice (refTimesC F hsa' hq6 (lt_pw bsa (by rw [xb_eq]; decide)) (lt_pw bk (by decide))) rfl rfl ?_
          intro y hy
          have hq7 := hy
          obtain ⟨a24, c24, z24, r24, x24, rfl, _⟩ := hy
          simp -implicitDefEqProofs only [evr, id, reduceCtorEq, reduceIte, Nat.reduceMul, Nat.reduceAdd, Nat.reduceLT, Nat.reduceLeDiff, Nat.reduceEqDiff, Int.reduceLT, Int.reduceBEq, Int.reduceBNe, Nat.reduceBEq, List.append_nil, Int.toNat_zero, Nat.sub_self, frS]
          refine wcall_slice (refPlusC F hnb' hq7 (lt_pw (a := 1) (by omega) (by decide)) (lt_pw bmb (by rw [xb_eq]; decide))) rfl rfl ?_
          intro y hy
          rw [Nat.zero_add, ← hnx] at hy
          have hq8 := hy
          obtain ⟨a27, c27, z27, r27, x27, rfl, _⟩ := hy
          simp -implicitDefEqProofs only [evr, id, reduceCtorEq, reduceIte, Nat.reduceMul, Nat.reduceAdd, Nat.reduceLT, Nat.reduceLeDiff, Nat.reduceEqDiff, Int.reduceLT, Int.reduceBEq, Int.reduceBNe, Nat.reduceBEq, List.append_nil, Int.toNat_zero, Nat.sub_self, frS]
          refine ⟨by omega, by omega, ?_⟩
          refine hk _ ?_
          clear hk k
          simp only [thenK, blockK, reduceIte]
          (repeat refine Sat.seq ?_)
          refine Sat.region_k fun k hk => ?_
          simp -implicitDefEqProofs only [evr, id, reduceCtorEq, reduceIte, Nat.reduceMul, Nat.reduceAdd, Nat.reduceLT, Nat.reduceLeDiff, Nat.reduceEqDiff, Int.reduceLT, Int.reduceBEq, Int.reduceBNe, Nat.reduceBEq, List.append_nil, Int.toNat_zero, Nat.sub_self, frS, ei1]
          refine hk _ ?_
          simp only [thenK, blockK]
          refine ⟨(i + 1, fun q => if q = i + 1 then .sl a27 x27.length c27 z27 r27 else nv1 q), ⟨by show i + 1 ≤ j + 1; omega, ?_⟩, by show j + 1 - (i + 1) < j + 1 - i; omega, ?_⟩
          · refine hrow1.put hq8 fun q _ hne => ?_
            simp only [hne, if_false]
          simp -implicitDefEqProofs only [evr, id, reduceCtorEq, reduceIte, Nat.reduceMul, Nat.reduceAdd, Nat.reduceLT, Nat.reduceLeDiff, Nat.reduceEqDiff, Int.reduceLT, Int.reduceBEq, Int.reduceBNe, Nat.reduceBEq, List.append_nil, Int.toNat_zero, Nat.sub_self, frS, evl]
          try exact rd_put
        · have hlt : i = j := by simp only [decide_eq_false_iff_not] at h; omega
          refine Sat.skip ?_
          simp only [thenK, blockK, reduceIte]
          (repeat refine Sat.seq ?_)
          refine Sat.region_k fun k hk => ?_
          simp -implicitDefEqProofs only [evr, id, reduceCtorEq, reduceIte, Nat.reduceMul, Nat.reduceAdd, Nat.reduceLT, Nat.reduceLeDiff, Nat.reduceEqDiff, Int.reduceLT, Int.reduceBEq, Int.reduceBNe, Nat.reduceBEq, List.append_nil, Int.toNat_zero, Nat.sub_self, frS, ei1]
          refine hk _ ?_
          simp only [thenK, blockK]
          refine ⟨(i + 1, nv1), ⟨by show i + 1 ≤ j + 1; omega, hrow1.same fun q hq => ?_⟩, by show j + 1 - (i + 1) < j + 1 - i; omega, ?_⟩
          · simp only [show ¬ q = i + 1 by omega, if_false]
          simp -implicitDefEqProofs only [evr, id, reduceCtorEq, reduceIte, Nat.reduceMul, Nat.reduceAdd, Nat.reduceLT, Nat.reduceLeDiff, Nat.reduceEqDiff, Int.reduceLT, Int.reduceBEq, Int.reduceBNe, Nat.reduceBEq, List.append_nil, Int.toNat_zero, Nat.sub_self, frS, evl]
      · simp only [decide_eq_false_iff_not] at h
        obtain rfl : i = j + 1 := by omega
        have hrow2 : RowN nv j (struckW j st n 1) := hrow.same fun q hq => by
          rw [struckW_one]
          unfold halfW
          rw [if_pos (by omega)]
        have hwk : IntKind.u64.wrap (j : Int) = (j : Int) := wu64 (by omega) (by omega)
        have bfail := Nat.le_trans (failN_le j st n) bn0
        refine Sat.exit ?_
        simp only [thenK, blockK, reduceIte]
        (repeat refine Sat.seq ?_)
        refine Sat.region_k fun k hk => ?_
        simp -implicitDefEqProofs only [evr, id, reduceCtorEq, reduceIte, Nat.reduceMul, Nat.reduceAdd, Nat.reduceLT, Nat.reduceLeDiff, Nat.reduceEqDiff, Int.reduceLT, Int.reduceBEq, Int.reduceBNe, Nat.reduceBEq, List.append_nil, Int.toNat_zero, Nat.sub_self, frS, hwk]
        refine wcall_slice (refWordC F j (by omega)) rfl rfl ?_
        intro y hy
        have hq6 := hy
        obtain ⟨a23, c23, z23, r23, x23, rfl, _⟩ := hy
        simp -implicitDefEqProofs only [evr, id, reduceCtorEq, reduceIte, Nat.reduceMul, Nat.reduceAdd, Nat.reduceLT, Nat.reduceLeDiff, Nat.reduceEqDiff, Int.reduceLT, Int.reduceBEq, Int.reduceBNe, Nat.reduceBEq, List.append_nil, Int.toNat_zero, Nat.sub_self, frS]
        refine wcall_slice (refTimesC F hfail' hq6 (lt_pw bfail (by rw [xb_eq]; decide)) (lt_pw (a := 5) (by omega) (by decide))) rfl rfl ?_
        intro y hy
        have hq7 := hy
        obtain ⟨a24, c24, z24, r24, x24, rfl, _⟩ := hy
        simp -implicitDefEqProofs only [evr, id, reduceCtorEq, reduceIte, Nat.reduceMul, Nat.reduceAdd, Nat.reduceLT, Nat.reduceLeDiff, Nat.reduceEqDiff, Int.reduceLT, Int.reduceBEq, Int.reduceBNe, Nat.reduceBEq, List.append_nil, Int.toNat_zero, Nat.sub_self, frS]
        (refine hk _ ?_; clear hk k; try show Sat _ _ _ _ _)
        (repeat refine Sat.seq ?_)
        (refine Sat.region_k fun k hk => ?_; simp -implicitDefEqProofs only [evr, id, reduceCtorEq, reduceIte, Nat.reduceMul, Nat.reduceAdd, Nat.reduceLT, Nat.reduceLeDiff, Nat.reduceEqDiff, Int.reduceLT, Int.reduceBEq, Int.reduceBNe, Nat.reduceBEq, List.append_nil, Int.toNat_zero, Nat.sub_self, frS]; refine hk _ ?_; clear hk k; try show Sat _ _ _ _ _)
        (repeat refine Sat.seq ?_)
        refine Sat.block ?_
        refine Sat.loop (ι := Nat × (Nat → SV) × SV) (fun x => ⟨143, [(16, .i .i64 (x.1 : Int)), (14, .os 2 av (j + 1) cv), (13, .i .i64 ((n + 1 : Nat) : Int)), (12, x.2.2), (11, .sl ac (j + 1) cc 1 (fun i _ => sv i)), (7, .i .i64 (most : Int)), (6, .sl aw j cw 1 (fun i _ => .i .i64 (st i : Nat))), (0, .i .i64 j), (3, .op 0 b3 0), (4, .op 1 b4 0)], [.box b3 30 [.b false, .sl a1 x1.length c1 z1 r1, .sl a2 x2.length c2 z2 r2], .box b4 30 [.b false, .sl none 0 0 0 (fun _ _ => .v undef), .sl none 0 0 0 (fun _ _ => .v undef)], .row av 28 (j + 1) cv 1 (fun i _ => x.2.1 i)]⟩)
          (fun x => 1 ≤ x.1 ∧ x.1 ≤ j ∧ RowN x.2.1 j (struckW j st n x.1) ∧ Nats x.2.2 (failN j st n * j + outN j st n x.1)) (fun x => j - x.1) (1, nv, .sl a24 x24.length c24 z24 r24) ⟨Nat.le_refl _, hkk1, hrow2, by rw [outN_one]; exact hq7⟩ (by simp -implicitDefEqProofs only [evr, id, reduceCtorEq, reduceIte, Nat.reduceMul, Nat.reduceAdd, Nat.reduceLT, Nat.reduceLeDiff, Nat.reduceEqDiff, Int.reduceLT, Int.reduceBEq, Int.reduceBNe, Nat.reduceBEq, List.append_nil, Int.toNat_zero, Nat.sub_self, frS, evl]; first | rfl | trace_state) ?_
        clear hrow hrow2 hq7
        rintro ⟨i, nv, sg⟩ ⟨hi1, hi, hrow, hsg⟩
        simp only at hi1 hi hrow hsg ⊢
        have hsg' := hsg
        obtain ⟨a34, c34, z34, r34, x34, rfl, _⟩ := hsg
        (repeat refine Sat.seq ?_)
        (refine Sat.region_k fun k hk => ?_; simp -implicitDefEqProofs only [evr, id, reduceCtorEq, reduceIte, Nat.reduceMul, Nat.reduceAdd, Nat.reduceLT, Nat.reduceLeDiff, Nat.reduceEqDiff, Int.reduceLT, Int.reduceBEq, Int.reduceBNe, Nat.reduceBEq, List.append_nil, Int.toNat_zero, Nat.sub_self, frS]; refine hk _ ?_; clear hk k; try show Sat _ _ _ _ _)
        (repeat refine Sat.seq ?_)
        refine Sat.cond_b rfl (fun h => ?_) (fun h => ?_)
        · have hlt : i < j := by simp only [decide_eq_true_eq] at h; omega
          have ei1 : IntKind.i64.wrap ((i : Int) + 1) = ((i + 1 : Nat) : Int) := by rw [w64 (by omega)]; omega
          have hst := outN_step j st n i
          have hle := outN_le j st n (j := i) hi
          have bout : failN j st n * j + outN j st n i ≤ 2 ^ xb := Nat.le_trans hle bn
          have hna := hrow i hi
          rw [struckW_at] at hna
          have hna' := hna
          obtain ⟨a11, c11, z11, r11, x11, ea, _⟩ := hna
          rw [ea] at hna'
          have braw := Nat.le_trans (rawW_le j st n (j := i) hi) bn
          refine Sat.skip ?_
          simp only [thenK]
          (repeat refine Sat.seq ?_)
          refine Sat.block ?_
          (repeat refine Sat.seq ?_)
          (refine Sat.region_k fun k hk => ?_; simp -implicitDefEqProofs only [evr, id, reduceCtorEq, reduceIte, Nat.reduceMul, Nat.reduceAdd, Nat.reduceLT, Nat.reduceLeDiff, Nat.reduceEqDiff, Int.reduceLT, Int.reduceBEq, Int.reduceBNe, Nat.reduceBEq, List.append_nil, Int.toNat_zero, Nat.sub_self, frS])
          refine ⟨by omega, ?_⟩
          (refine hk _ ?_; clear hk k; try show Sat _ _ _ _ _)
          refine Sat.cond_b rfl (fun h => ?_) (fun h => ?_)
          · have hsat : stopAt j st (n + 1) i := ⟨hi1, hlt, by simp only [decide_eq_true_eq] at h; omega⟩
            rw [if_pos hsat] at hst
            (repeat refine Sat.seq ?_)
            (refine Sat.region_k fun k hk => ?_; simp -implicitDefEqProofs only [evr, id, reduceCtorEq, reduceIte, Nat.reduceMul, Nat.reduceAdd, Nat.reduceLT, Nat.reduceLeDiff, Nat.reduceEqDiff, Int.reduceLT, Int.reduceBEq, Int.reduceBNe, Nat.reduceBEq, List.append_nil, Int.toNat_zero, Nat.sub_self, frS])
            refine ⟨by omega, by omega, ?_⟩
            rw [ea]
            refine wcall_slice (refPlusC F hsg' hna' (lt_pw bout (by rw [xb_eq]; decide)) (lt_pw braw (by rw [xb_eq]; decide))) rfl (by simp -implicitDefEqProofs only [evr, id, reduceCtorEq, reduceIte, Nat.reduceMul, Nat.reduceAdd, Nat.reduceLT, Nat.reduceLeDiff, Nat.reduceEqDiff, Int.reduceLT, Int.reduceBEq, Int.reduceBNe, Nat.reduceBEq, List.append_nil, Int.toNat_zero, Nat.sub_self, frS]) ?_
            intro y hy
            rw [Nat.add_assoc, ← hst] at hy
            have hq8 := hy
            obtain ⟨a44, c44, z44, r44, x44, rfl, _⟩ := hy
            simp -implicitDefEqProofs only [evr, id, reduceCtorEq, reduceIte, Nat.reduceMul, Nat.reduceAdd, Nat.reduceLT, Nat.reduceLeDiff, Nat.reduceEqDiff, Int.reduceLT, Int.reduceBEq, Int.reduceBNe, Nat.reduceBEq, List.append_nil, Int.toNat_zero, Nat.sub_self, frS]
            (refine hk _ ?_; clear hk k; try show Sat _ _ _ _ _)
            (repeat refine Sat.seq ?_)
            (refine Sat.region_k fun k hk => ?_; simp -implicitDefEqProofs only [evr, id, reduceCtorEq, reduceIte, Nat.reduceMul, Nat.reduceAdd, Nat.reduceLT, Nat.reduceLeDiff, Nat.reduceEqDiff, Int.reduceLT, Int.reduceBEq, Int.reduceBNe, Nat.reduceBEq, List.append_nil, Int.toNat_zero, Nat.sub_self, frS])
            refine ⟨by omega, by omega, ?_⟩
            refine hk _ ?_
            clear hk k
            simp only [thenK, blockK, reduceIte]
            (repeat refine Sat.seq ?_)
            refine Sat.region_k fun k hk => ?_
            simp -implicitDefEqProofs only [evr, id, reduceCtorEq, reduceIte, Nat.reduceMul, Nat.reduceAdd, Nat.reduceLT, Nat.reduceLeDiff, Nat.reduceEqDiff, Int.reduceLT, Int.reduceBEq, Int.reduceBNe, Nat.reduceBEq, List.append_nil, Int.toNat_zero, Nat.sub_self, frS, ei1]
            refine hk _ ?_
            simp only [thenK, blockK]
            refine ⟨(i + 1, (fun q => if q = i then .sl none 0 0 0 (fun _ _ => .v undef) else nv q), _), ⟨by show 1 ≤ i + 1; omega, by show i + 1 ≤ j; omega, ?_, hq8⟩, by show j - (i + 1) < j - i; omega, ?_⟩
            · refine hrow.put (by rw [← struckW_take hsat, if_pos rfl]; exact Nats.nil) fun q _ hne => ?_
              rw [← struckW_take hsat, if_neg hne]
            simp -implicitDefEqProofs only [evr, id, reduceCtorEq, reduceIte, Nat.reduceMul, Nat.reduceAdd, Nat.reduceLT, Nat.reduceLeDiff, Nat.reduceEqDiff, Int.reduceLT, Int.reduceBEq, Int.reduceBNe, Nat.reduceBEq, List.append_nil, Int.toNat_zero, Nat.sub_self, frS, evl]
            try exact rd_put
          · have hsat : ¬ stopAt j st (n + 1) i := fun g => by simp only [decide_eq_false_iff_not] at h; have := g.2.2; omega
            rw [if_neg hsat, Nat.add_zero] at hst
            refine Sat.skip ?_
            simp only [thenK, blockK, reduceIte]
            (repeat refine Sat.seq ?_)
            refine Sat.region_k fun k hk => ?_
            simp -implicitDefEqProofs only [evr, id, reduceCtorEq, reduceIte, Nat.reduceMul, Nat.reduceAdd, Nat.reduceLT, Nat.reduceLeDiff, Nat.reduceEqDiff, Int.reduceLT, Int.reduceBEq, Int.reduceBNe, Nat.reduceBEq, List.append_nil, Int.toNat_zero, Nat.sub_self, frS, ei1]
            refine hk _ ?_
            simp only [thenK, blockK]
            refine ⟨(i + 1, nv, _), ⟨by show 1 ≤ i + 1; omega, by show i + 1 ≤ j; omega, hrow.same fun q _ => (struckW_skip hsat q).symm, by rw [hst]; exact hsg'⟩, by show j - (i + 1) < j - i; omega, ?_⟩
            simp -implicitDefEqProofs only [evr, id, reduceCtorEq, reduceIte, Nat.reduceMul, Nat.reduceAdd, Nat.reduceLT, Nat.reduceLeDiff, Nat.reduceEqDiff, Int.reduceLT, Int.reduceBEq, Int.reduceBNe, Nat.reduceBEq, List.append_nil, Int.toNat_zero, Nat.sub_self, frS, evl]
        · obtain rfl : i = j := by simp only [decide_eq_false_iff_not] at h; omega
          refine Sat.exit ?_
          simp only [thenK, blockK, reduceIte]
          refine Sat.settle2 14 rfl rfl ?_
          simp -implicitDefEqProofs only [evr, id, reduceCtorEq, reduceIte, Nat.reduceMul, Nat.reduceAdd, Nat.reduceLT, Nat.reduceLeDiff, Nat.reduceEqDiff, Int.reduceLT, Int.reduceBEq, Int.reduceBNe, Nat.reduceBEq, List.append_nil, Int.toNat_zero, Nat.sub_self, frS]
          (repeat refine Sat.seq ?_)
          (refine Sat.region_k fun k hk => ?_; simp -implicitDefEqProofs only [evr, id, reduceCtorEq, reduceIte, Nat.reduceMul, Nat.reduceAdd, Nat.reduceLT, Nat.reduceLeDiff, Nat.reduceEqDiff, Int.reduceLT, Int.reduceBEq, Int.reduceBNe, Nat.reduceBEq, List.append_nil, Int.toNat_zero, Nat.sub_self, frS]; refine hk _ ?_; clear hk k; try show Sat _ _ _ _ _)
          refine Sat.region_k fun k hk => ?_
          simp -implicitDefEqProofs only [evr, id, reduceCtorEq, reduceIte, Nat.reduceMul, Nat.reduceAdd, Nat.reduceLT, Nat.reduceLeDiff, Nat.reduceEqDiff, Int.reduceLT, Int.reduceBEq, Int.reduceBNe, Nat.reduceBEq, List.append_nil, Int.toNat_zero, Nat.sub_self, frS, en1]
          refine hk _ ?_
          simp only [thenK, blockK]
          refine ⟨(n + 1, nv, _, (av, cv)), ⟨by show n + 1 ≤ most; omega, hrow.same fun q _ => struckW_end i st n q, hsg'⟩, by show most - (n + 1) < most - n; omega, ?_⟩
          simp -implicitDefEqProofs only [evr, id, reduceCtorEq, reduceIte, Nat.reduceMul, Nat.reduceAdd, Nat.reduceLT, Nat.reduceLeDiff, Nat.reduceEqDiff, Int.reduceLT, Int.reduceBEq, Int.reduceBNe, Nat.reduceBEq, List.append_nil, Int.toNat_zero, Nat.sub_self, frS, evl]
          try first | rfl | exact ⟨rfl, rfl⟩
    · simp only [decide_eq_false_iff_not] at h
      obtain rfl : n = most := by omega
      have bfail := Nat.le_trans (failN_le j st n) (kn_le (k := j) (n := n) hkk hm128)
      have hpos : 1 ≤ n ∨ j ≤ 1 := by
        by_cases e : j ≤ 1
        · exact .inr e
        · exact .inl (Nat.le_trans (isNeed_pos (Nat.le_refl 1) (hst 1 (Nat.le_refl 1) (by omega)) h1) (hmost 1 (Nat.le_refl 1) (by omega)))
      have hend := failN_end hpos (fun i g1 g2 => hmost i g1 g2) (128 - n)
      rw [show n + (128 - n) = 128 by omega] at hend
      have hpow : j ^ 128 = j ^ n * j ^ (128 - n) := by rw [← Nat.pow_add, show n + (128 - n) = 128 by omega]
      obtain ⟨r1', r2'⟩ := red_mul (failN j st n) (j ^ n) (x := j ^ (128 - n)) (Nat.pow_pos hkk1)
      refine Sat.exit ?_
      simp only [thenK, blockK, reduceIte]
      (repeat refine Sat.seq ?_)
      (refine Sat.region_k fun k hk => ?_; simp -implicitDefEqProofs only [evr, id, reduceCtorEq, reduceIte, Nat.reduceMul, Nat.reduceAdd, Nat.reduceLT, Nat.reduceLeDiff, Nat.reduceEqDiff, Int.reduceLT, Int.reduceBEq, Int.reduceBNe, Nat.reduceBEq, List.append_nil, Int.toNat_zero, Nat.sub_self, frS])
      refine wcall_slice (refPower23C F j n hkk hm128) rfl rfl ?_
      intro y hy
      have hq8 := hy
      obtain ⟨a44, c44, z44, r44, x44, rfl, _⟩ := hy
      simp -implicitDefEqProofs only [evr, id, reduceCtorEq, reduceIte, Nat.reduceMul, Nat.reduceAdd, Nat.reduceLT, Nat.reduceLeDiff, Nat.reduceEqDiff, Int.reduceLT, Int.reduceBEq, Int.reduceBNe, Nat.reduceBEq, List.append_nil, Int.toNat_zero, Nat.sub_self, frS]
      refine wcall_slice (refReduceC F false hfail' hq8 (lt_pw bfail (by rw [xb_eq]; decide)) (kn_pw hkk hm128) (Nat.pow_pos hkk1)) rfl (by simp -implicitDefEqProofs only [evr, id, reduceCtorEq, reduceIte, Nat.reduceMul, Nat.reduceAdd, Nat.reduceLT, Nat.reduceLeDiff, Nat.reduceEqDiff, Int.reduceLT, Int.reduceBEq, Int.reduceBNe, Nat.reduceBEq, List.append_nil, Int.toNat_zero, Nat.sub_self, frS]; try rfl) ?_
      rintro y ⟨sp, sq, rfl, hp, hq⟩
      have hp' : Nats sp (redP (failN j st n) (j ^ n)) := hp
      have hq' : Nats sq (redQ (failN j st n) (j ^ n)) := hq
      obtain ⟨a5, c5, z5, r5, x5, rfl, _⟩ := hp
      obtain ⟨a6, c6, z6, r6, x6, rfl, _⟩ := hq
      simp -implicitDefEqProofs only [evr, id, reduceCtorEq, reduceIte, Nat.reduceMul, Nat.reduceAdd, Nat.reduceLT, Nat.reduceLeDiff, Nat.reduceEqDiff, Int.reduceLT, Int.reduceBEq, Int.reduceBNe, Nat.reduceBEq, List.append_nil, Int.toNat_zero, Nat.sub_self, frS, Bool.false_and]
      (refine hk _ ?_; clear hk k; try show Sat _ _ _ _ _)
      refine Sat.ret ?_
      simp only [Try.results26, evr, id, reduceCtorEq, reduceIte, Nat.reduceMul, Nat.reduceAdd, Nat.reduceLT, Nat.reduceLeDiff, Nat.reduceEqDiff, Int.reduceLT, Int.reduceBEq, Int.reduceBNe, Nat.reduceBEq, List.append_nil, Int.toNat_zero, Nat.sub_self, frS]
      refine .inl ⟨st, _, hst, rfl, _, _, rfl, ?_, ?_⟩
      · rw [hend, hpow, r1']; exact hp'
      · rw [hend, hpow, r2']; exact hq'
set_option maxRecDepth 100000 in
theorem refFailC (F : Frm) (m : Int) (neg : Bool) (hp : Nats sp p) (hq : Nats sq q) (h1 : p < 1073741824) (h2 : q < 1073741824) :
    Contract F Try.prog 26 [.i .i64 m, frS neg sp sq] (FailG m neg p q) := by
  by_cases e : failIn m neg p q = true
  · obtain ⟨k, rfl, k1, k2, rfl, hp0, hpq⟩ := failIn_of e
    refine (refFail0C F k k2 k1 hp hq hp0 hpq h2).mono ?_
    intro r hr
    unfold FailG
    rw [if_pos e]
    exact hr
  have e : failIn m neg p q = false := by simpa using e
  have hp' := hp
  have hq' := hq
  obtain ⟨a1, c1, z1, r1, x1, rfl, _⟩ := hp
  obtain ⟨a2, c2, z2, r2, x2, rfl, _⟩ := hq
  refine contract_of Try.func26 rfl (by kernel_rfl) ?_
  simp only [Try.ntmps26, argEnv, frS]
  (repeat refine Sat.seq ?_)
  (refine Sat.region_k fun k hk => ?_; simp -implicitDefEqProofs only [evr, id, reduceCtorEq, reduceIte, Nat.reduceMul, Nat.reduceAdd, Nat.reduceLT, Nat.reduceLeDiff, Nat.reduceEqDiff, Int.reduceLT, Int.reduceBEq, Int.reduceBNe, Nat.reduceBEq, List.append_nil, Int.toNat_zero, Nat.sub_self, frS])
  intro b3 b4
  (refine hk _ ?_; clear hk k; try show Sat _ _ _ _ _)
  (repeat refine Sat.seq ?_)
  refine Sat.region_at ⟨143, [(27, .b true), (3, .op 0 b3 0), (4, .op 1 b4 0), (0, .i .i64 m)], [.box b3 30 [.b neg, .sl a1 x1.length c1 z1 r1, .sl a2 x2.length c2 z2 r2], .box b4 30 [.b false, .sl none 0 0 0 (fun _ _ => .v undef), .sl none 0 0 0 (fun _ _ => .v undef)]]⟩ (fun k hk => ?_) ?_
  · simp -implicitDefEqProofs only [evr, id, reduceCtorEq, reduceIte, Nat.reduceMul, Nat.reduceAdd, Nat.reduceLT, Nat.reduceLeDiff, Nat.reduceEqDiff, Int.reduceLT, Int.reduceBEq, Int.reduceBNe, Nat.reduceBEq, List.append_nil, Int.toNat_zero, Nat.sub_self, frS]
    refine ⟨fun g1 => ?_, fun g1 => ⟨fun g2 => ?_, fun g2 => ?_⟩⟩
    · refine hk _ ?_
      simp -implicitDefEqProofs only [evr, id, reduceCtorEq, reduceIte, Nat.reduceMul, Nat.reduceAdd, Nat.reduceLT, Nat.reduceLeDiff, Nat.reduceEqDiff, Int.reduceLT, Int.reduceBEq, Int.reduceBNe, Nat.reduceBEq, List.append_nil, Int.toNat_zero, Nat.sub_self, frS, evl]
      try rfl
    · refine hk _ ?_
      simp -implicitDefEqProofs only [evr, id, reduceCtorEq, reduceIte, Nat.reduceMul, Nat.reduceAdd, Nat.reduceLT, Nat.reduceLeDiff, Nat.reduceEqDiff, Int.reduceLT, Int.reduceBEq, Int.reduceBNe, Nat.reduceBEq, List.append_nil, Int.toNat_zero, Nat.sub_self, frS, evl]
      try rfl
    refine wcall_plain (refBetweenC F neg hp' hq' h1 h2) (by simp -implicitDefEqProofs only [evr, id, reduceCtorEq, reduceIte, Nat.reduceMul, Nat.reduceAdd, Nat.reduceLT, Nat.reduceLeDiff, Nat.reduceEqDiff, Int.reduceLT, Int.reduceBEq, Int.reduceBNe, Nat.reduceBEq, List.append_nil, Int.toNat_zero, Nat.sub_self, frS]; try rfl) (by rintro _ rfl; exact ok_plain rfl) ?_
    rintro y rfl
    have ec : chB neg p q = false := by
      have : decide (1 ≤ m ∧ m ≤ 16) = true := decide_eq_true (by omega)
      simpa [failIn, this] using e
    simp -implicitDefEqProofs only [evr, id, reduceCtorEq, reduceIte, Nat.reduceMul, Nat.reduceAdd, Nat.reduceLT, Nat.reduceLeDiff, Nat.reduceEqDiff, Int.reduceLT, Int.reduceBEq, Int.reduceBNe, Nat.reduceBEq, List.append_nil, Int.toNat_zero, Nat.sub_self, frS, ec]
    refine hk _ ?_
    simp -implicitDefEqProofs only [evr, id, reduceCtorEq, reduceIte, Nat.reduceMul, Nat.reduceAdd, Nat.reduceLT, Nat.reduceLeDiff, Nat.reduceEqDiff, Int.reduceLT, Int.reduceBEq, Int.reduceBNe, Nat.reduceBEq, List.append_nil, Int.toNat_zero, Nat.sub_self, frS, evl]
    try rfl
  simp only [thenK]
  refine Sat.cond_b rfl (fun h => ?_) (fun h => by cases h)
  (repeat refine Sat.seq ?_)
  (refine Sat.region_k fun k hk => ?_; simp -implicitDefEqProofs only [evr, id, reduceCtorEq, reduceIte, Nat.reduceMul, Nat.reduceAdd, Nat.reduceLT, Nat.reduceLeDiff, Nat.reduceEqDiff, Int.reduceLT, Int.reduceBEq, Int.reduceBNe, Nat.reduceBEq, List.append_nil, Int.toNat_zero, Nat.sub_self, frS])
  (refine hk _ ?_; clear hk k; try show Sat _ _ _ _ _)
  refine Sat.ret ?_
  simp only [Try.results26, evr, id, reduceCtorEq, reduceIte, Nat.reduceMul, Nat.reduceAdd, Nat.reduceLT, Nat.reduceLeDiff, Nat.reduceEqDiff, Int.reduceLT, Int.reduceBEq, Int.reduceBNe, Nat.reduceBEq, List.append_nil, Int.toNat_zero, Nat.sub_self, frS]
  unfold FailG
  rw [if_neg (by rw [e]; decide)]
  exact ⟨frS false (.sl none 0 0 0 (fun _ _ => .v undef)) (.sl none 0 0 0 (fun _ _ => .v undef)), rfl, _, _, rfl, Nats.nil, Nats.nil⟩
/-! ### What the posts say of two calls -/
theorem need_unique {j n n' : Nat} (h : IsNeed j p q n) (g : IsNeed j p q n') : n = n' := by
  rcases Nat.lt_trichotomy n n' with h1 | h1 | h1
  · exact absurd (g.2.2 n h1) h.2.1
  · exact h1
  · exact absurd (h.2.2 n' h1) g.2.1
theorem need_none {j n : Nat} (h : IsNeed j p q n) (g : NoNeed j p q) : False := h.2.1 (g n h.1)
theorem needG_eq {m : Int} {neg : Bool} {r1 r2 : SV} (h : NeedG m neg p q r1) (g : NeedG m neg p q r2) : r2 = r1 := by
  unfold NeedG at h g
  by_cases e : needIn m neg p q = true
  · rw [if_pos e] at h g
    rcases needPost_cases h with ⟨n, rfl, hn⟩ | ⟨rfl, hn⟩ <;> rcases needPost_cases g with ⟨n', rfl, gn⟩ | ⟨rfl, gn⟩
    · rw [need_unique hn gn]
    · exact (need_none hn gn).elim
    · exact (need_none gn hn).elim
    · rfl
  · rw [if_neg e] at h g
    rw [h, g]
theorem needG_shape {m : Int} {neg : Bool} {r : SV} (h : NeedG m neg p q r) : ∃ u e : Int, r = tupL [.i .i64 u, .i .i64 e] := by
  unfold NeedG at h
  split at h
  · rcases needPost_cases h with ⟨n, rfl, _⟩ | ⟨rfl, _⟩
    · exact ⟨_, _, rfl⟩
    · exact ⟨_, _, rfl⟩
  · exact ⟨_, _, h⟩
def FailD (m : Int) (neg : Bool) (p q : Nat) (e : Int) (P Q : Nat) : Prop :=
  (failIn m neg p q = true ∧ ((e = 0 ∧ ∃ st, Stops m.toNat p q st ∧ P = redP (failN m.toNat st 128) (m.toNat ^ 128) ∧ Q = redQ (failN m.toNat st 128) (m.toNat ^ 128)) ∨ (e = 5 ∧ Beyond m.toNat p q ∧ P = 0 ∧ Q = 0))) ∨ (failIn m neg p q = false ∧ e = 1 ∧ P = 0 ∧ Q = 0)
theorem failG_cases {m : Int} {neg : Bool} {r : SV} (h : FailG m neg p q r) : ∃ f e P Q, r = tupL [f, .i .i64 e] ∧ FrS f false P Q ∧ FailD m neg p q e P Q ∧ ((P : Int) < pw 512) ∧ ((Q : Int) < pw 512) := by
  have z : ((0 : Nat) : Int) < pw 512 := pw_pos 512
  unfold FailG at h
  by_cases e : failIn m neg p q = true
  · rw [if_pos e] at h
    have hk : m.toNat ≤ 16 := by
      obtain ⟨k, rfl, _, h2, _⟩ := failIn_of e
      omega
    rcases h with ⟨st, f, h1, rfl, h3⟩ | ⟨h1, f, rfl, h3⟩
    · refine ⟨f, 0, _, _, rfl, h3, .inl ⟨e, .inl ⟨rfl, st, h1, rfl, rfl⟩⟩, ?_, ?_⟩
      · exact lt_pw (Nat.le_trans (redP_le _ _) (Nat.le_trans (failN_le m.toNat st 128) (kn_le hk (Nat.le_refl _)))) (by rw [xb_eq]; decide)
      · exact lt_pw (Nat.le_trans (redQ_le _ _) (kn_le hk (Nat.le_refl _))) (by rw [xb_eq]; decide)
    · exact ⟨f, 5, 0, 0, rfl, h3, .inl ⟨e, .inr ⟨rfl, h1, rfl, rfl⟩⟩, z, z⟩
  · rw [if_neg e] at h
    obtain ⟨f, rfl, h3⟩ := h
    exact ⟨f, 1, 0, 0, rfl, h3, .inr ⟨by simpa using e, rfl, rfl, rfl⟩, z, z⟩
theorem stops_same {k : Nat} {st st' : Nat → Nat} (h : Stops k p q st) (g : Stops k p q st') (n : Nat) : failN k st n = failN k st' n := by
  have e : ∀ j, 1 ≤ j → j < k → st j = st' j := fun j h1 h2 => need_unique (h j h1 h2) (g j h1 h2)
  have a := failN_mono (fun j h1 h2 => Nat.le_of_eq (e j h1 h2)) n
  have b := failN_mono (fun j h1 h2 => Nat.le_of_eq (e j h1 h2).symm) n
  omega
theorem failD_eq {m : Int} {neg : Bool} {e e' : Int} {P P' Q Q' : Nat} (h : FailD m neg p q e P Q) (g : FailD m neg p q e' P' Q') : e = e' ∧ P = P' ∧ Q = Q' := by
  rcases h with ⟨h0, ⟨rfl, st, h1, rfl, rfl⟩ | ⟨rfl, ⟨j, j1, j2, j3⟩, rfl, rfl⟩⟩ | ⟨h0, rfl, rfl, rfl⟩ <;> rcases g with ⟨g0, ⟨rfl, st', g1, rfl, rfl⟩ | ⟨rfl, ⟨i, i1, i2, i3⟩, rfl, rfl⟩⟩ | ⟨g0, rfl, rfl, rfl⟩
  · rw [stops_same h1 g1]; exact ⟨rfl, rfl, rfl⟩
  · exact (need_none (h1 i i1 i2) i3).elim
  · rw [h0] at g0; cases g0
  · exact (need_none (g1 j j1 j2) j3).elim
  · exact ⟨rfl, rfl, rfl⟩
  · rw [h0] at g0; cases g0
  · rw [h0] at g0; cases g0
  · rw [h0] at g0; cases g0
  · exact ⟨rfl, rfl, rfl⟩
theorem onto_open {n m : Int} {r : SV} (h : OntoPost n m r) (e : Int) (V : Nat) (he : e = if ontoIn n m then 0 else 1) (hV : V = if ontoIn n m then cnt m.toNat n.toNat m.toNat else 0) : ∃ s, Nats s V ∧ r = tupL [s, .i .i64 e] := by
  subst he; subst hV; exact h
theorem mis_open {n m : Int} {r : SV} (h : MisPost n m r) (e : Int) (P Q : Nat) (he : e = if misIn n m then 0 else 1) (hP : P = if misIn n m then misP n.toNat m.toNat else 0) (hQ : Q = if misIn n m then misQ n.toNat m.toNat else 0) : ∃ f, FrS f false P Q ∧ r = tupL [f, .i .i64 e] := by
  subst he; subst hP; subst hQ; exact h
end Go.Proofs.Ytagmohpafjncfaa

/- Choices of numbers and fractions: Codes.Natural, Codes.Fraction: what each gives. -/
set_option linter.unusedSimpArgs false
set_option linter.unusedVariables false
namespace Go.Proofs.Ytagmohpafjncfaa
open Eng Lmb Go.RowKit
theorem limb_choice (u v : Int) (hu : 0 ≤ u) (hv : 0 ≤ v) : ∀ y : Nat, y < 5 → ∃ x : Int, rdL [SV.i .i64 0, SV.i .i64 1, SV.i .i64 1073741823, SV.i .i64 u, SV.i .i64 v] 1 y 0 = .i .i64 x ∧ 0 ≤ x := by
  intro y hy
  rcases (show y = 0 ∨ y = 1 ∨ y = 2 ∨ y = 3 ∨ y = 4 by omega) with rfl | rfl | rfl | rfl | rfl
  · exact ⟨0, rfl, by decide⟩
  · exact ⟨1, rfl, by decide⟩
  · exact ⟨1073741823, rfl, by decide⟩
  · exact ⟨u, rfl, hu⟩
  · exact ⟨v, rfl, hv⟩
def NatPost (n : Nat) (r : SV) : Prop := ∃ m, Nats r m ∧ (m : Int) < pw n
set_option maxRecDepth 100000 in
theorem naturalC (cb : Nat) (n : Nat) (hn : n ≤ 100) : Contract (Frm.codes cb) Try.prog 41 [ptr cb, .i .i64 n] (NatPost n) := by
  refine contract_of Try.func41 rfl (by kernel_rfl) ?_
  simp only [Try.ntmps41, argEnv]
  have e1 : IntKind.i64.wrap ((n : Int) + 1) = ((n + 1 : Nat) : Int) := by rw [w64 (by omega)]; omega
  (repeat refine Sat.seq ?_)
  (refine Sat.region_k fun k hk => ?_; simp -implicitDefEqProofs only [evr, id, reduceCtorEq, reduceIte, Nat.reduceMul, Nat.reduceAdd, Nat.reduceLT, Nat.reduceLeDiff, Nat.reduceEqDiff, Int.reduceLT, Int.reduceBEq, Int.reduceBNe, Nat.reduceBEq, List.append_nil, Int.toNat_zero, Nat.sub_self, frS, ptr]; refine hk _ ?_; clear hk k; try show Sat _ _ _ _ _)
  (repeat refine Sat.seq ?_)
  (refine Sat.region_k fun k hk => ?_; simp -implicitDefEqProofs only [evr, id, reduceCtorEq, reduceIte, Nat.reduceMul, Nat.reduceAdd, Nat.reduceLT, Nat.reduceLeDiff, Nat.reduceEqDiff, Int.reduceLT, Int.reduceBEq, Int.reduceBNe, Nat.reduceBEq, List.append_nil, Int.toNat_zero, Nat.sub_self, frS, ptr]; refine hk _ ?_; clear hk k; try show Sat _ _ _ _ _)
  (repeat refine Sat.seq ?_)
  refine Sat.region_k fun k hk => ?_
  simp -implicitDefEqProofs only [evr, id, reduceCtorEq, reduceIte, Nat.reduceMul, Nat.reduceAdd, Nat.reduceLT, Nat.reduceLeDiff, Nat.reduceEqDiff, Int.reduceLT, Int.reduceBEq, Int.reduceBNe, Nat.reduceBEq, List.append_nil, Int.toNat_zero, Nat.sub_self, frS, ptr, e1]
  refine wcall_plain (nextC cb ((n + 1 : Nat) : Int) (by omega) (by omega)) rfl (by rintro _ ⟨x, rfl, _⟩; exact ok_plain rfl) ?_
  rintro r ⟨x, rfl, hx0, hx1⟩
  obtain ⟨t, rfl⟩ := Int.eq_ofNat_of_zero_le hx0
  have ht : t ≤ n := by omega
  simp -implicitDefEqProofs only [evr, id, reduceCtorEq, reduceIte, Nat.reduceMul, Nat.reduceAdd, Nat.reduceLT, Nat.reduceLeDiff, Nat.reduceEqDiff, Int.reduceLT, Int.reduceBEq, Int.reduceBNe, Nat.reduceBEq, List.append_nil, Int.toNat_zero, Nat.sub_self, frS, ptr]
  (refine hk _ ?_; clear hk k; try show Sat _ _ _ _ _)
  (repeat refine Sat.seq ?_)
  refine Sat.block ?_
  refine Sat.adopt 5 3 1 (fun p _ => .i .i64 (([] : List Int).getD p 0)) rfl ?_
  refine Sat.loop (ι := Nat × List Int × Option Addr × Nat) (fun x => ⟨34, [(6, .i .i64 (x.1 : Int)), (5, .os 0 x.2.2.1 x.2.1.length x.2.2.2), (0, ptr cb)], [.row x.2.2.1 3 x.2.1.length x.2.2.2 1 (fun p _ => .i .i64 (x.2.1.getD p 0))]⟩)
    (fun x => Limbs x.2.1 ∧ x.1 + x.2.1.length ≤ n) (fun x => x.1) (t, [], none, 0) ⟨limbs_nil, by simpa using ht⟩ (by simp -implicitDefEqProofs only [evr, id, reduceCtorEq, reduceIte, Nat.reduceMul, Nat.reduceAdd, Nat.reduceLT, Nat.reduceLeDiff, Nat.reduceEqDiff, Int.reduceLT, Int.reduceBEq, Int.reduceBNe, Nat.reduceBEq, List.append_nil, Int.toNat_zero, Nat.sub_self, frS, ptr, evl]; try rfl) ?_
  rintro ⟨q, xs, a, c⟩ ⟨hlim, hlen⟩
  simp only at hlim hlen ⊢
  (repeat refine Sat.seq ?_)
  (refine Sat.region_k fun k hk => ?_; simp -implicitDefEqProofs only [evr, id, reduceCtorEq, reduceIte, Nat.reduceMul, Nat.reduceAdd, Nat.reduceLT, Nat.reduceLeDiff, Nat.reduceEqDiff, Int.reduceLT, Int.reduceBEq, Int.reduceBNe, Nat.reduceBEq, List.append_nil, Int.toNat_zero, Nat.sub_self, frS, ptr]; refine hk _ ?_; clear hk k; try show Sat _ _ _ _ _)
  (repeat refine Sat.seq ?_)
  refine Sat.cond_b rfl (fun h => ?_) (fun h => ?_)
  · have hq : 0 < q := by have := of_decide_eq_true h; omega
    have eq1 : IntKind.i64.wrap ((q : Int) - 1) = ((q - 1 : Nat) : Int) := by rw [w64 (by omega)]; omega
    refine Sat.skip ?_
    simp only [thenK]
    (repeat refine Sat.seq ?_)
    refine Sat.block ?_
    (repeat refine Sat.seq ?_)
    (refine Sat.region_k fun k hk => ?_; simp -implicitDefEqProofs only [evr, id, reduceCtorEq, reduceIte, Nat.reduceMul, Nat.reduceAdd, Nat.reduceLT, Nat.reduceLeDiff, Nat.reduceEqDiff, Int.reduceLT, Int.reduceBEq, Int.reduceBNe, Nat.reduceBEq, List.append_nil, Int.toNat_zero, Nat.sub_self, frS, ptr])
    refine wcall_plain (nextC cb 256 (by decide) (by decide)) rfl (by rintro _ ⟨x, rfl, _⟩; exact ok_plain rfl) ?_
    rintro r ⟨u, rfl, hu0, hu1⟩
    simp -implicitDefEqProofs only [evr, id, reduceCtorEq, reduceIte, Nat.reduceMul, Nat.reduceAdd, Nat.reduceLT, Nat.reduceLeDiff, Nat.reduceEqDiff, Int.reduceLT, Int.reduceBEq, Int.reduceBNe, Nat.reduceBEq, List.append_nil, Int.toNat_zero, Nat.sub_self, frS, ptr]
    refine wcall_plain (nextC cb 65536 (by decide) (by decide)) rfl (by rintro _ ⟨x, rfl, _⟩; exact ok_plain rfl) ?_
    rintro r ⟨v, rfl, hv0, hv1⟩
    simp -implicitDefEqProofs only [evr, id, reduceCtorEq, reduceIte, Nat.reduceMul, Nat.reduceAdd, Nat.reduceLT, Nat.reduceLeDiff, Nat.reduceEqDiff, Int.reduceLT, Int.reduceBEq, Int.reduceBNe, Nat.reduceBEq, List.append_nil, Int.toNat_zero, Nat.sub_self, frS, ptr]
    refine wcall_plain (nextC cb 16000 (by decide) (by decide)) rfl (by rintro _ ⟨x, rfl, _⟩; exact ok_plain rfl) ?_
    rintro r ⟨w, rfl, hw0, hw1⟩
    have e2 : IntKind.i64.wrap (1 + w) = 1 + w := w64 (by omega)
    have hvw : 0 ≤ v * (1 + w) := Int.mul_nonneg hv0 (by omega)
    have hvw2 : v * (1 + w) ≤ 65536 * 16001 := Int.mul_le_mul (by omega) (by omega) (by omega) (by omega)
    have e3 : IntKind.i64.wrap (v * (1 + w)) = v * (1 + w) := w64 (by omega)
    simp -implicitDefEqProofs only [evr, id, reduceCtorEq, reduceIte, Nat.reduceMul, Nat.reduceAdd, Nat.reduceLT, Nat.reduceLeDiff, Nat.reduceEqDiff, Int.reduceLT, Int.reduceBEq, Int.reduceBNe, Nat.reduceBEq, List.append_nil, Int.toNat_zero, Nat.sub_self, frS, ptr, e2, e3]
    intro blk
    refine wcall_plain (nextC cb 5 (by decide) (by decide)) rfl (by rintro _ ⟨x, rfl, _⟩; exact ok_plain rfl) ?_
    rintro r ⟨y0, rfl, hy0, hy1⟩
    obtain ⟨y, rfl⟩ := Int.eq_ofNat_of_zero_le hy0
    obtain ⟨xl, hxl, hxl0⟩ := limb_choice u (v * (1 + w)) hu0 hvw y (by omega)
    have em : xl.tmod 1073741824 = xl % 1073741824 := Int.tmod_eq_emod_of_nonneg hxl0
    simp -implicitDefEqProofs only [evr, id, reduceCtorEq, reduceIte, Nat.reduceMul, Nat.reduceAdd, Nat.reduceLT, Nat.reduceLeDiff, Nat.reduceEqDiff, Int.reduceLT, Int.reduceBEq, Int.reduceBNe, Nat.reduceBEq, List.append_nil, Int.toNat_zero, Nat.sub_self, frS, ptr]
    refine ⟨by omega, by omega, ?_⟩
    rw [hxl]
    simp -implicitDefEqProofs only [evr, id, reduceCtorEq, reduceIte, Nat.reduceMul, Nat.reduceAdd, Nat.reduceLT, Nat.reduceLeDiff, Nat.reduceEqDiff, Int.reduceLT, Int.reduceBEq, Int.reduceBNe, Nat.reduceBEq, List.append_nil, Int.toNat_zero, Nat.sub_self, frS, ptr, em]
    refine ⟨by decide, fun blk2 => ?_⟩
    refine ⟨⟨by unfold maxLen; omega, by omega⟩, fun a2 cap2 => ?_⟩
    refine hk _ ?_
    clear hk k
    simp only [thenK, blockK]
    (repeat refine Sat.seq ?_)
    refine Sat.region_k fun k hk => ?_
    simp -implicitDefEqProofs only [evr, id, reduceCtorEq, reduceIte, Nat.reduceMul, Nat.reduceAdd, Nat.reduceLT, Nat.reduceLeDiff, Nat.reduceEqDiff, Int.reduceLT, Int.reduceBEq, Int.reduceBNe, Nat.reduceBEq, List.append_nil, Int.toNat_zero, Nat.sub_self, frS, ptr, eq1]
    refine hk _ ?_
    simp only [thenK, blockK]
    refine ⟨(q - 1, xs ++ [xl % 1073741824], a2, cap2), ⟨limbs_append.2 ⟨hlim, limbs_cons.2 ⟨by omega, limbs_nil⟩⟩, by simp; omega⟩, by show q - 1 < q; omega, ?_⟩
    simp -implicitDefEqProofs only [evr, id, reduceCtorEq, reduceIte, Nat.reduceMul, Nat.reduceAdd, Nat.reduceLT, Nat.reduceLeDiff, Nat.reduceEqDiff, Int.reduceLT, Int.reduceBEq, Int.reduceBNe, Nat.reduceBEq, List.append_nil, Int.toNat_zero, Nat.sub_self, frS, ptr, evl]
    simp only [List.length_append, List.length_cons, List.length_nil]
    exact ⟨trivial, trivial, rd_snoc rfl rfl⟩
  · have hq : q = 0 := by have := of_decide_eq_false h; omega
    subst hq
    refine Sat.exit ?_
    simp only [thenK, blockK, reduceIte]
    (repeat refine Sat.seq ?_)
    (refine Sat.region_k fun k hk => ?_; simp -implicitDefEqProofs only [evr, id, reduceCtorEq, reduceIte, Nat.reduceMul, Nat.reduceAdd, Nat.reduceLT, Nat.reduceLeDiff, Nat.reduceEqDiff, Int.reduceLT, Int.reduceBEq, Int.reduceBNe, Nat.reduceBEq, List.append_nil, Int.toNat_zero, Nat.sub_self, frS, ptr])
    refine wcall_slice (refTrimC (Frm.codes cb) (s := .sl a xs.length c 1 (fun p _ => .i .i64 (xs.getD p 0))) ⟨a, c, 1, _, rfl, .inr rfl, fun p _ => rfl⟩ hlim) (by simp -implicitDefEqProofs only [evr, id, reduceCtorEq, reduceIte, Nat.reduceMul, Nat.reduceAdd, Nat.reduceLT, Nat.reduceLeDiff, Nat.reduceEqDiff, Int.reduceLT, Int.reduceBEq, Int.reduceBNe, Nat.reduceBEq, List.append_nil, Int.toNat_zero, Nat.sub_self, frS, ptr]; try rfl) (by simp -implicitDefEqProofs only [evr, id, reduceCtorEq, reduceIte, Nat.reduceMul, Nat.reduceAdd, Nat.reduceLT, Nat.reduceLeDiff, Nat.reduceEqDiff, Int.reduceLT, Int.reduceBEq, Int.reduceBNe, Nat.reduceBEq, List.append_nil, Int.toNat_zero, Nat.sub_self, frS, ptr]; try rfl) ?_
    intro z hz
    have hz1 := hz
    obtain ⟨a8, c8, z8, r8, x8, rfl, _⟩ := hz
    simp -implicitDefEqProofs only [evr, id, reduceCtorEq, reduceIte, Nat.reduceMul, Nat.reduceAdd, Nat.reduceLT, Nat.reduceLeDiff, Nat.reduceEqDiff, Int.reduceLT, Int.reduceBEq, Int.reduceBNe, Nat.reduceBEq, List.append_nil, Int.toNat_zero, Nat.sub_self, frS, ptr]
    (refine hk _ ?_; clear hk k; try show Sat _ _ _ _ _)
    refine Sat.ret ?_
    simp only [Try.results41, evr, id, reduceCtorEq, reduceIte, Nat.reduceMul, Nat.reduceAdd, Nat.reduceLT, Nat.reduceLeDiff, Nat.reduceEqDiff, Int.reduceLT, Int.reduceBEq, Int.reduceBNe, Nat.reduceBEq, List.append_nil, Int.toNat_zero, Nat.sub_self, frS, ptr]
    refine ⟨_, hz1, ?_⟩
    rw [Int.toNat_of_nonneg (val_nonneg hlim)]
    have h1 := val_lt hlim
    have h2 := pw_mono (show xs.length ≤ n by omega)
    omega
def FrcPost (n : Nat) (r : SV) : Prop := ∃ neg p q, FrS r neg p q ∧ (p : Int) < pw n ∧ (q : Int) < pw n ∧ 0 < q ∧ (neg = true → 0 < p)
set_option maxRecDepth 100000 in
theorem fractionCdC (cb : Nat) (n : Nat) (hn : n ≤ 100) (hn1 : 1 ≤ n) : Contract (Frm.codes cb) Try.prog 20 [ptr cb, .i .i64 n] (FrcPost n) := by
  have up : pw n ≤ pw 256 := pw_mono (by omega)
  refine contract_of Try.func20 rfl (by kernel_rfl) ?_
  simp only [Try.ntmps20, argEnv]
  (repeat refine Sat.seq ?_)
  (refine Sat.region_k fun k hk => ?_; simp -implicitDefEqProofs only [evr, id, reduceCtorEq, reduceIte, Nat.reduceMul, Nat.reduceAdd, Nat.reduceLT, Nat.reduceLeDiff, Nat.reduceEqDiff, Int.reduceLT, Int.reduceBEq, Int.reduceBNe, Nat.reduceBEq, List.append_nil, Int.toNat_zero, Nat.sub_self, frS, ptr])
  intro b4
  (refine hk _ ?_; clear hk k; try show Sat _ _ _ _ _)
  (repeat refine Sat.seq ?_)
  (refine Sat.region_k fun k hk => ?_; simp -implicitDefEqProofs only [evr, id, reduceCtorEq, reduceIte, Nat.reduceMul, Nat.reduceAdd, Nat.reduceLT, Nat.reduceLeDiff, Nat.reduceEqDiff, Int.reduceLT, Int.reduceBEq, Int.reduceBNe, Nat.reduceBEq, List.append_nil, Int.toNat_zero, Nat.sub_self, frS, ptr])
  refine wcall_plain (nextC cb 2 (by decide) (by decide)) rfl (by rintro _ ⟨x, rfl, _⟩; exact ok_plain rfl) ?_
  rintro r ⟨x, rfl, hx0, hx1⟩
  simp -implicitDefEqProofs only [evr, id, reduceCtorEq, reduceIte, Nat.reduceMul, Nat.reduceAdd, Nat.reduceLT, Nat.reduceLeDiff, Nat.reduceEqDiff, Int.reduceLT, Int.reduceBEq, Int.reduceBNe, Nat.reduceBEq, List.append_nil, Int.toNat_zero, Nat.sub_self, frS, ptr]
  refine wcall_slice (naturalC cb n hn) rfl rfl ?_
  rintro r ⟨p, hp, hpn⟩
  have hp1 := hp
  obtain ⟨a1, c1, z1, r1, x1, rfl, _⟩ := hp
  simp -implicitDefEqProofs only [evr, id, reduceCtorEq, reduceIte, Nat.reduceMul, Nat.reduceAdd, Nat.reduceLT, Nat.reduceLeDiff, Nat.reduceEqDiff, Int.reduceLT, Int.reduceBEq, Int.reduceBNe, Nat.reduceBEq, List.append_nil, Int.toNat_zero, Nat.sub_self, frS, ptr]
  refine wcall_slice (naturalC cb n hn) rfl rfl ?_
  rintro r ⟨q0, hq, hqn⟩
  have hq1 := hq
  obtain ⟨a2, c2, z2, r2, x2, rfl, _⟩ := hq
  simp -implicitDefEqProofs only [evr, id, reduceCtorEq, reduceIte, Nat.reduceMul, Nat.reduceAdd, Nat.reduceLT, Nat.reduceLeDiff, Nat.reduceEqDiff, Int.reduceLT, Int.reduceBEq, Int.reduceBNe, Nat.reduceBEq, List.append_nil, Int.toNat_zero, Nat.sub_self, frS, ptr]
  intro b5
  (refine hk _ ?_; clear hk k; try show Sat _ _ _ _ _)
  have hl1 := hp1.len
  have hl2 := hq1.len0
  (repeat refine Sat.seq ?_)
  (refine Sat.region_k fun k hk => ?_; simp -implicitDefEqProofs only [evr, id, reduceCtorEq, reduceIte, Nat.reduceMul, Nat.reduceAdd, Nat.reduceLT, Nat.reduceLeDiff, Nat.reduceEqDiff, Int.reduceLT, Int.reduceBEq, Int.reduceBNe, Nat.reduceBEq, List.append_nil, Int.toNat_zero, Nat.sub_self, frS, ptr]; refine hk _ ?_; clear hk k; try show Sat _ _ _ _ _)
  refine Sat.join2 (ι := Nat × SV) (fun z => ⟨40, [(5, .op 1 b5 0), (4, .op 0 b4 0), (0, ptr cb)], [.box b4 30 [.b false, .sl none 0 0 0 (fun _ _ => .v undef), .sl none 0 0 0 (fun _ _ => .v undef)], .box b5 30 [.b (x == 1), .sl a1 x1.length c1 z1 r1, z.2]]⟩)
    (fun z => Nats z.2 z.1 ∧ (z.1 : Int) < pw n ∧ 0 < z.1) (fun hrest => ?_) ?_
  · refine Sat.cond_b rfl (fun h => ?_) (fun h => ?_)
    · (repeat refine Sat.seq ?_)
      (refine Sat.region_k fun k hk => ?_; simp -implicitDefEqProofs only [evr, id, reduceCtorEq, reduceIte, Nat.reduceMul, Nat.reduceAdd, Nat.reduceLT, Nat.reduceLeDiff, Nat.reduceEqDiff, Int.reduceLT, Int.reduceBEq, Int.reduceBNe, Nat.reduceBEq, List.append_nil, Int.toNat_zero, Nat.sub_self, frS, ptr])
      refine wcall_plain (nextC cb 12 (by decide) (by decide)) rfl (by rintro _ ⟨x, rfl, _⟩; exact ok_plain rfl) ?_
      rintro r ⟨y, rfl, hy0, hy1⟩
      obtain ⟨y, rfl⟩ := Int.eq_ofNat_of_zero_le hy0
      have e1 : IntKind.i64.wrap (1 + (y : Int)) = ((y + 1 : Nat) : Int) := by rw [w64 (by omega)]; omega
      simp -implicitDefEqProofs only [evr, id, reduceCtorEq, reduceIte, Nat.reduceMul, Nat.reduceAdd, Nat.reduceLT, Nat.reduceLeDiff, Nat.reduceEqDiff, Int.reduceLT, Int.reduceBEq, Int.reduceBNe, Nat.reduceBEq, List.append_nil, Int.toNat_zero, Nat.sub_self, frS, ptr, e1]
      intro blk
      refine hk _ ?_
      clear hk k
      simp only [thenK]
      refine Sat.settleLeafF 1 2 rfl rfl rfl ?_
      simp only [List.set_cons_succ, List.set_cons_zero]
      refine Sat.le (hrest (y + 1, .sl (some ⟨blk, 0, none⟩) 1 1 1 (rdL [SV.i .i64 ((y + 1 : Nat) : Int)] 1)) ⟨nats_one (by omega) (by omega), ?_, by show 0 < y + 1; omega⟩) ?_
      · have := pw_mono hn1
        rw [pw_succ, pw_zero] at this
        show ((y + 1 : Nat) : Int) < pw n
        omega
      · simp -implicitDefEqProofs only [evr, id, reduceCtorEq, reduceIte, Nat.reduceMul, Nat.reduceAdd, Nat.reduceLT, Nat.reduceLeDiff, Nat.reduceEqDiff, Int.reduceLT, Int.reduceBEq, Int.reduceBNe, Nat.reduceBEq, List.append_nil, Int.toNat_zero, Nat.sub_self, frS, ptr, evl]
    · rw [hl2] at h
      refine Sat.skip ?_
      simp only [thenK]
      refine Sat.le (hrest (q0, _) ⟨hq1, hqn, by have := of_decide_eq_false h; show 0 < q0; omega⟩) ?_
      simp -implicitDefEqProofs only [evr, id, reduceCtorEq, reduceIte, Nat.reduceMul, Nat.reduceAdd, Nat.reduceLT, Nat.reduceLeDiff, Nat.reduceEqDiff, Int.reduceLT, Int.reduceBEq, Int.reduceBNe, Nat.reduceBEq, List.append_nil, Int.toNat_zero, Nat.sub_self, frS, ptr, evl]
  clear hl2
  rintro ⟨q, sq⟩ ⟨hq, hqn2, hq0⟩
  simp only at hq hqn2 hq0 ⊢
  have hq2 := hq
  obtain ⟨a3, c3, z3, r3, x3, rfl, _⟩ := hq
  (repeat refine Sat.seq ?_)
  refine Sat.join2 (ι := Unit) (fun _ => ⟨40, [(5, .op 1 b5 0), (4, .op 0 b4 0), (0, ptr cb)], [.box b4 30 [.b false, .sl none 0 0 0 (fun _ _ => .v undef), .sl none 0 0 0 (fun _ _ => .v undef)], .box b5 30 [.b ((x == 1) && decide (0 < p)), .sl a1 x1.length c1 z1 r1, .sl a3 x3.length c3 z3 r3]]⟩)
    (fun _ => True) (fun hrest => ?_) ?_
  · (refine Sat.region_k fun k hk => ?_; simp -implicitDefEqProofs only [evr, id, reduceCtorEq, reduceIte, Nat.reduceMul, Nat.reduceAdd, Nat.reduceLT, Nat.reduceLeDiff, Nat.reduceEqDiff, Int.reduceLT, Int.reduceBEq, Int.reduceBNe, Nat.reduceBEq, List.append_nil, Int.toNat_zero, Nat.sub_self, frS, ptr])
    simp only [hl1]
    refine ⟨fun h => ?_, fun h => ?_⟩
    · refine hk _ ?_
      clear hk k
      simp only [thenK]
      refine Sat.le (hrest () trivial) ?_
      rw [h, Bool.true_and]
      simp -implicitDefEqProofs only [evr, id, reduceCtorEq, reduceIte, Nat.reduceMul, Nat.reduceAdd, Nat.reduceLT, Nat.reduceLeDiff, Nat.reduceEqDiff, Int.reduceLT, Int.reduceBEq, Int.reduceBNe, Nat.reduceBEq, List.append_nil, Int.toNat_zero, Nat.sub_self, frS, ptr, evl]
    · refine hk _ ?_
      clear hk k
      simp only [thenK]
      refine Sat.boxBools 1 rfl ?_
      simp only [roB, List.map_cons, List.map_nil, List.set_cons_zero, List.set_cons_succ]
      refine Sat.le (hrest () trivial) ?_
      rw [h, Bool.false_and]
      simp -implicitDefEqProofs only [evr, id, reduceCtorEq, reduceIte, Nat.reduceMul, Nat.reduceAdd, Nat.reduceLT, Nat.reduceLeDiff, Nat.reduceEqDiff, Int.reduceLT, Int.reduceBEq, Int.reduceBNe, Nat.reduceBEq, List.append_nil, Int.toNat_zero, Nat.sub_self, frS, ptr, evl]
  rintro _ _
  have hneg : ((x == 1) && decide (0 < p)) = true → 0 < p := fun h => by
    rw [Bool.and_eq_true] at h
    exact of_decide_eq_true h.2
  generalize ((x == 1) && decide (0 < p)) = neg at hneg
  (repeat refine Sat.seq ?_)
  (refine Sat.region_k fun k hk => ?_; simp -implicitDefEqProofs only [evr, id, reduceCtorEq, reduceIte, Nat.reduceMul, Nat.reduceAdd, Nat.reduceLT, Nat.reduceLeDiff, Nat.reduceEqDiff, Int.reduceLT, Int.reduceBEq, Int.reduceBNe, Nat.reduceBEq, List.append_nil, Int.toNat_zero, Nat.sub_self, frS, ptr])
  refine wcall_plain (nextC cb 2 (by decide) (by decide)) rfl (by rintro _ ⟨x, rfl, _⟩; exact ok_plain rfl) ?_
  rintro r ⟨y, rfl, hy0, hy1⟩
  simp -implicitDefEqProofs only [evr, id, reduceCtorEq, reduceIte, Nat.reduceMul, Nat.reduceAdd, Nat.reduceLT, Nat.reduceLeDiff, Nat.reduceEqDiff, Int.reduceLT, Int.reduceBEq, Int.reduceBNe, Nat.reduceBEq, List.append_nil, Int.toNat_zero, Nat.sub_self, frS, ptr]
  (refine hk _ ?_; clear hk k; try show Sat _ _ _ _ _)
  refine Sat.cond_b rfl (fun h => ?_) (fun h => ?_)
  · have hg : 0 < Nat.gcd p q := Nat.gcd_pos_of_pos_right _ hq0
    have e1 : p / Nat.gcd p q * Nat.gcd p q = p := Nat.div_mul_cancel (Nat.gcd_dvd_left p q)
    (repeat refine Sat.seq ?_)
    (refine Sat.region_k fun k hk => ?_; simp -implicitDefEqProofs only [evr, id, reduceCtorEq, reduceIte, Nat.reduceMul, Nat.reduceAdd, Nat.reduceLT, Nat.reduceLeDiff, Nat.reduceEqDiff, Int.reduceLT, Int.reduceBEq, Int.reduceBNe, Nat.reduceBEq, List.append_nil, Int.toNat_zero, Nat.sub_self, frS, ptr])
    refine wcall_slice (refReduceC (Frm.codes cb) neg hp1 hq2 (by omega) (by omega) hq0) rfl (by simp only [frS, evr, id, reduceCtorEq, reduceIte, Nat.reduceMul, Nat.reduceAdd, Nat.reduceLT, Nat.reduceLeDiff, Nat.reduceEqDiff, Int.reduceLT, Int.reduceBEq, Int.reduceBNe, Nat.reduceBEq, List.append_nil, Int.toNat_zero, Nat.sub_self, frS, ptr]; try rfl) ?_
    rintro r ⟨sp3, sq3, rfl, h3, h4⟩
    have h3' := h3
    have h4' := h4
    obtain ⟨a5, c5, z5, r5, x5, rfl, _⟩ := h3
    obtain ⟨a6, c6, z6, r6, x6, rfl, _⟩ := h4
    simp only [frS, evr, id, reduceCtorEq, reduceIte, Nat.reduceMul, Nat.reduceAdd, Nat.reduceLT, Nat.reduceLeDiff, Nat.reduceEqDiff, Int.reduceLT, Int.reduceBEq, Int.reduceBNe, Nat.reduceBEq, List.append_nil, Int.toNat_zero, Nat.sub_self, frS, ptr]
    (refine hk _ ?_; clear hk k; try show Sat _ _ _ _ _)
    (repeat refine Sat.seq ?_)
    (refine Sat.region_k fun k hk => ?_; simp -implicitDefEqProofs only [evr, id, reduceCtorEq, reduceIte, Nat.reduceMul, Nat.reduceAdd, Nat.reduceLT, Nat.reduceLeDiff, Nat.reduceEqDiff, Int.reduceLT, Int.reduceBEq, Int.reduceBNe, Nat.reduceBEq, List.append_nil, Int.toNat_zero, Nat.sub_self, frS, ptr]; refine hk _ ?_; clear hk k; try show Sat _ _ _ _ _)
    refine Sat.ret ?_
    simp only [Try.results20, evr, id, reduceCtorEq, reduceIte, Nat.reduceMul, Nat.reduceAdd, Nat.reduceLT, Nat.reduceLeDiff, Nat.reduceEqDiff, Int.reduceLT, Int.reduceBEq, Int.reduceBNe, Nat.reduceBEq, List.append_nil, Int.toNat_zero, Nat.sub_self, frS, ptr]
    refine ⟨_, _, _, ⟨_, _, rfl, h3', h4'⟩, ?_, ?_, Nat.div_pos (Nat.le_of_dvd hq0 (Nat.gcd_dvd_right p q)) hg, fun h9 => ?_⟩
    · have := Nat.div_le_self p (Nat.gcd p q); omega
    · have := Nat.div_le_self q (Nat.gcd p q); omega
    · rw [Bool.and_eq_true] at h9
      have h8 := hneg h9.1
      rcases Nat.eq_zero_or_pos (p / Nat.gcd p q) with h7 | h7
      · rw [h7] at e1; omega
      · exact h7
  · refine Sat.skip ?_
    simp only [thenK]
    (repeat refine Sat.seq ?_)
    (refine Sat.region_k fun k hk => ?_; simp -implicitDefEqProofs only [evr, id, reduceCtorEq, reduceIte, Nat.reduceMul, Nat.reduceAdd, Nat.reduceLT, Nat.reduceLeDiff, Nat.reduceEqDiff, Int.reduceLT, Int.reduceBEq, Int.reduceBNe, Nat.reduceBEq, List.append_nil, Int.toNat_zero, Nat.sub_self, frS, ptr]; refine hk _ ?_; clear hk k; try show Sat _ _ _ _ _)
    refine Sat.ret ?_
    simp only [Try.results20, evr, id, reduceCtorEq, reduceIte, Nat.reduceMul, Nat.reduceAdd, Nat.reduceLT, Nat.reduceLeDiff, Nat.reduceEqDiff, Int.reduceLT, Int.reduceBEq, Int.reduceBNe, Nat.reduceBEq, List.append_nil, Int.toNat_zero, Nat.sub_self, frS, ptr]
    exact ⟨_, _, _, ⟨_, _, rfl, hp1, hq2⟩, hpn, hqn2, hq0, hneg⟩
end Go.Proofs.Ytagmohpafjncfaa
