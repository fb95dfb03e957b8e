/- Choices of results, by the evaluator. -/
import Derived.Test.YthhofjkbmnklmaaCodesR
import Derived.Test.YthhofjkbmnklmaaEngS
import Derived.Test.YthhofjkbmnklmaaLedE
set_option linter.unusedSimpArgs false
set_option linter.unusedVariables false
namespace Go.Proofs.Ythhofjkbmnklmaa
open Go.Sort Eng

theorem plain_int (r : SV) (h : ∃ x : Int, r = .i .i64 x) : ∀ R w, r.ok R w := by
  obtain ⟨x, rfl⟩ := h; exact ok_plain rfl
/-- a number of 32 bits -/
def u32 (x : Int) : Prop := 0 ≤ x ∧ x < 4294967296
theorem u32_wrap (x : Int) : u32 (IntKind.u32.wrap x) := by
  simp only [u32, IntKind.wrap, IntKind.signed, IntKind.bits, Bool.false_and, Bool.false_eq_true, if_false]
  omega
theorem u32_keep {x : Int} (h : u32 x) : IntKind.i64.wrap x = x := by
  unfold u32 at h
  exact w64 (by omega)
/-- the addresses of a result are addresses -/
def wfR (x : Res) : Prop := u32 x.dst ∧ u32 x.from_
theorem plain_addr (r : SV) (h : ∃ x : Int, r = .i .u32 x ∧ u32 x) : ∀ R w, r.ok R w := by
  obtain ⟨x, rfl, _⟩ := h; exact ok_plain rfl
theorem plain_next {n : Int} (r : SV) (h : ∃ x : Int, r = .i .i64 x ∧ 0 ≤ x ∧ (x < n ∨ x = 0)) : ∀ R w, r.ok R w := by
  obtain ⟨x, rfl, _⟩ := h; exact ok_plain rfl
theorem ints_at (xs : List Int) (i : Nat) (h : i < xs.length) : rdL (xs.map (SV.i .i64)) 1 i 0 = .i .i64 (xs.getD i 0) := by simp [rdL, List.getD, h]

set_option maxRecDepth 100000 in
theorem addressRC (cb : Nat) : Contract (Frm.codes cb) Try.prog 54 [ptr cb] (fun r => ∃ x : Int, r = .i .u32 x ∧ u32 x) := by
  refine contract_of Try.func54 rfl (by kernel_rfl) ?_
  simp only [Try.ntmps54, argEnv, ptr]
  (repeat refine Sat.seq ?_)
  (refine Sat.region_k fun k hk => ?_; simp -implicitDefEqProofs only [evr, id, reduceCtorEq, reduceIte, Nat.reduceMul, Nat.reduceAdd, Nat.reduceLT, Nat.reduceLeDiff, Nat.reduceEqDiff, Int.reduceLT, Int.reduceBEq, Int.reduceBNe, Nat.reduceBEq, ptr, List.append_nil, Int.toNat_zero, Nat.sub_self, res_one, resRow]; refine hk _ ?_; clear hk k; try show Sat _ _ _ _ _)
  (repeat refine Sat.seq ?_)
  (refine Sat.region_k fun k hk => ?_; simp -implicitDefEqProofs only [evr, id, reduceCtorEq, reduceIte, Nat.reduceMul, Nat.reduceAdd, Nat.reduceLT, Nat.reduceLeDiff, Nat.reduceEqDiff, Int.reduceLT, Int.reduceBEq, Int.reduceBNe, Nat.reduceBEq, ptr, List.append_nil, Int.toNat_zero, Nat.sub_self, res_one, resRow])
  refine wcall_plain (nextC cb 12 (by decide) (by decide)) rfl plain_next ?_
  rintro r ⟨x1, rfl, _⟩
  simp -implicitDefEqProofs only [evr, id, reduceCtorEq, reduceIte, Nat.reduceMul, Nat.reduceAdd, Nat.reduceLT, Nat.reduceLeDiff, Nat.reduceEqDiff, Int.reduceLT, Int.reduceBEq, Int.reduceBNe, Nat.reduceBEq, ptr, List.append_nil, Int.toNat_zero, Nat.sub_self, res_one, resRow]
  (refine hk _ ?_; clear hk k; try show Sat _ _ _ _ _)
  (repeat refine Sat.seq ?_)
  refine Sat.cond_b rfl (fun _ => ?_) (fun _ => ?_)
  · (repeat refine Sat.seq ?_)
    (refine Sat.region_k fun k hk => ?_; simp -implicitDefEqProofs only [evr, id, reduceCtorEq, reduceIte, Nat.reduceMul, Nat.reduceAdd, Nat.reduceLT, Nat.reduceLeDiff, Nat.reduceEqDiff, Int.reduceLT, Int.reduceBEq, Int.reduceBNe, Nat.reduceBEq, ptr, List.append_nil, Int.toNat_zero, Nat.sub_self, res_one, resRow])
    refine wcall_plain (nextC cb 65536 (by decide) (by decide)) rfl plain_next ?_
    rintro r ⟨x2, rfl, _⟩
    simp -implicitDefEqProofs only [evr, id, reduceCtorEq, reduceIte, Nat.reduceMul, Nat.reduceAdd, Nat.reduceLT, Nat.reduceLeDiff, Nat.reduceEqDiff, Int.reduceLT, Int.reduceBEq, Int.reduceBNe, Nat.reduceBEq, ptr, List.append_nil, Int.toNat_zero, Nat.sub_self, res_one, resRow]
    refine ⟨by decide, ?_⟩
    refine wcall_plain (nextC cb 65536 (by decide) (by decide)) rfl plain_next ?_
    rintro r ⟨x3, rfl, _⟩
    simp -implicitDefEqProofs only [evr, id, reduceCtorEq, reduceIte, Nat.reduceMul, Nat.reduceAdd, Nat.reduceLT, Nat.reduceLeDiff, Nat.reduceEqDiff, Int.reduceLT, Int.reduceBEq, Int.reduceBNe, Nat.reduceBEq, ptr, List.append_nil, Int.toNat_zero, Nat.sub_self, res_one, resRow]
    (refine hk _ ?_; clear hk k; try show Sat _ _ _ _ _)
    refine Sat.ret ?_
    simp only [Try.results54, evr, id, reduceCtorEq, reduceIte, Nat.reduceMul, Nat.reduceAdd, Nat.reduceLT, Nat.reduceLeDiff, Nat.reduceEqDiff, Int.reduceLT, Int.reduceBEq, Int.reduceBNe, Nat.reduceBEq, ptr, List.append_nil, Int.toNat_zero, Nat.sub_self, res_one, resRow]
    exact ⟨_, rfl, u32_wrap _⟩
  · refine Sat.skip ?_
    simp only [thenK]
    (repeat refine Sat.seq ?_)
    (refine Sat.region_k fun k hk => ?_; simp -implicitDefEqProofs only [evr, id, reduceCtorEq, reduceIte, Nat.reduceMul, Nat.reduceAdd, Nat.reduceLT, Nat.reduceLeDiff, Nat.reduceEqDiff, Int.reduceLT, Int.reduceBEq, Int.reduceBNe, Nat.reduceBEq, ptr, List.append_nil, Int.toNat_zero, Nat.sub_self, res_one, resRow])
    refine wcall_plain (nextC cb 3 (by decide) (by decide)) rfl plain_next ?_
    rintro r ⟨x2, rfl, _⟩
    simp -implicitDefEqProofs only [evr, id, reduceCtorEq, reduceIte, Nat.reduceMul, Nat.reduceAdd, Nat.reduceLT, Nat.reduceLeDiff, Nat.reduceEqDiff, Int.reduceLT, Int.reduceBEq, Int.reduceBNe, Nat.reduceBEq, ptr, List.append_nil, Int.toNat_zero, Nat.sub_self, res_one, resRow]
    refine ⟨by decide, ?_⟩
    refine wcall_plain (nextC cb 8 (by decide) (by decide)) rfl plain_next ?_
    rintro r ⟨x3, rfl, _⟩
    simp -implicitDefEqProofs only [evr, id, reduceCtorEq, reduceIte, Nat.reduceMul, Nat.reduceAdd, Nat.reduceLT, Nat.reduceLeDiff, Nat.reduceEqDiff, Int.reduceLT, Int.reduceBEq, Int.reduceBNe, Nat.reduceBEq, ptr, List.append_nil, Int.toNat_zero, Nat.sub_self, res_one, resRow]
    (refine hk _ ?_; clear hk k; try show Sat _ _ _ _ _)
    refine Sat.ret ?_
    simp only [Try.results54, evr, id, reduceCtorEq, reduceIte, Nat.reduceMul, Nat.reduceAdd, Nat.reduceLT, Nat.reduceLeDiff, Nat.reduceEqDiff, Int.reduceLT, Int.reduceBEq, Int.reduceBNe, Nat.reduceBEq, ptr, List.append_nil, Int.toNat_zero, Nat.sub_self, res_one, resRow]
    exact ⟨_, rfl, u32_wrap _⟩

set_option maxRecDepth 100000 in
theorem protoRC (cb : Nat) : Contract (Frm.codes cb) Try.prog 55 [ptr cb] (fun r => ∃ x : Int, r = .i .i64 x) := by
  refine contract_of Try.func55 rfl (by kernel_rfl) ?_
  simp only [Try.ntmps55, argEnv, ptr]
  (repeat refine Sat.seq ?_)
  (refine Sat.region_k fun k hk => ?_; simp -implicitDefEqProofs only [evr, id, reduceCtorEq, reduceIte, Nat.reduceMul, Nat.reduceAdd, Nat.reduceLT, Nat.reduceLeDiff, Nat.reduceEqDiff, Int.reduceLT, Int.reduceBEq, Int.reduceBNe, Nat.reduceBEq, ptr, List.append_nil, Int.toNat_zero, Nat.sub_self, res_one, resRow]; refine hk _ ?_; clear hk k; try show Sat _ _ _ _ _)
  (repeat refine Sat.seq ?_)
  (refine Sat.region_k fun k hk => ?_; simp -implicitDefEqProofs only [evr, id, reduceCtorEq, reduceIte, Nat.reduceMul, Nat.reduceAdd, Nat.reduceLT, Nat.reduceLeDiff, Nat.reduceEqDiff, Int.reduceLT, Int.reduceBEq, Int.reduceBNe, Nat.reduceBEq, ptr, List.append_nil, Int.toNat_zero, Nat.sub_self, res_one, resRow])
  intro blk
  refine wcall_plain (nextC cb 3 (by decide) (by decide)) rfl plain_next ?_
  rintro r ⟨x, rfl, hx0, hx1⟩
  obtain ⟨i, rfl⟩ := Int.eq_ofNat_of_zero_le hx0
  have e := ints_at [17, 1, 6] i (by show i < 3; omega)
  simp only [List.map_cons, List.map_nil] at e
  simp -implicitDefEqProofs only [evr, id, reduceCtorEq, reduceIte, Nat.reduceMul, Nat.reduceAdd, Nat.reduceLT, Nat.reduceLeDiff, Nat.reduceEqDiff, Int.reduceLT, Int.reduceBEq, Int.reduceBNe, Nat.reduceBEq, ptr, List.append_nil, Int.toNat_zero, Nat.sub_self, res_one, resRow, e]
  refine ⟨by omega, by omega, ?_⟩
  (refine hk _ ?_; clear hk k; try show Sat _ _ _ _ _)
  refine Sat.ret ?_
  simp only [Try.results55, evr, id, reduceCtorEq, reduceIte, Nat.reduceMul, Nat.reduceAdd, Nat.reduceLT, Nat.reduceLeDiff, Nat.reduceEqDiff, Int.reduceLT, Int.reduceBEq, Int.reduceBNe, Nat.reduceBEq, ptr, List.append_nil, Int.toNat_zero, Nat.sub_self, res_one, resRow]
  exact ⟨_, rfl⟩

set_option maxRecDepth 100000 in
theorem intRC (cb : Nat) : Contract (Frm.codes cb) Try.prog 56 [ptr cb] (fun r => ∃ x : Int, r = .i .i64 x) := by
  refine contract_of Try.func56 rfl (by kernel_rfl) ?_
  simp only [Try.ntmps56, argEnv, ptr]
  (repeat refine Sat.seq ?_)
  (refine Sat.region_k fun k hk => ?_; simp -implicitDefEqProofs only [evr, id, reduceCtorEq, reduceIte, Nat.reduceMul, Nat.reduceAdd, Nat.reduceLT, Nat.reduceLeDiff, Nat.reduceEqDiff, Int.reduceLT, Int.reduceBEq, Int.reduceBNe, Nat.reduceBEq, ptr, List.append_nil, Int.toNat_zero, Nat.sub_self, res_one, resRow]; refine hk _ ?_; clear hk k; try show Sat _ _ _ _ _)
  (repeat refine Sat.seq ?_)
  (refine Sat.region_k fun k hk => ?_; simp -implicitDefEqProofs only [evr, id, reduceCtorEq, reduceIte, Nat.reduceMul, Nat.reduceAdd, Nat.reduceLT, Nat.reduceLeDiff, Nat.reduceEqDiff, Int.reduceLT, Int.reduceBEq, Int.reduceBNe, Nat.reduceBEq, ptr, List.append_nil, Int.toNat_zero, Nat.sub_self, res_one, resRow])
  refine wcall_plain (nextC cb 10 (by decide) (by decide)) rfl plain_next ?_
  rintro r ⟨x1, rfl, _⟩
  simp -implicitDefEqProofs only [evr, id, reduceCtorEq, reduceIte, Nat.reduceMul, Nat.reduceAdd, Nat.reduceLT, Nat.reduceLeDiff, Nat.reduceEqDiff, Int.reduceLT, Int.reduceBEq, Int.reduceBNe, Nat.reduceBEq, ptr, List.append_nil, Int.toNat_zero, Nat.sub_self, res_one, resRow]
  (refine hk _ ?_; clear hk k; try show Sat _ _ _ _ _)
  (repeat refine Sat.seq ?_)
  refine Sat.block ?_
  (repeat refine Sat.seq ?_)
  (refine Sat.region_k fun k hk => ?_; simp -implicitDefEqProofs only [evr, id, reduceCtorEq, reduceIte, Nat.reduceMul, Nat.reduceAdd, Nat.reduceLT, Nat.reduceLeDiff, Nat.reduceEqDiff, Int.reduceLT, Int.reduceBEq, Int.reduceBNe, Nat.reduceBEq, ptr, List.append_nil, Int.toNat_zero, Nat.sub_self, res_one, resRow]; refine hk _ ?_; clear hk k; try show Sat _ _ _ _ _)
  (repeat refine Sat.seq ?_)
  refine Sat.cond_b rfl (fun _ => ?_) (fun _ => ?_)
  · (repeat refine Sat.seq ?_)
    (refine Sat.region_k fun k hk => ?_; simp -implicitDefEqProofs only [evr, id, reduceCtorEq, reduceIte, Nat.reduceMul, Nat.reduceAdd, Nat.reduceLT, Nat.reduceLeDiff, Nat.reduceEqDiff, Int.reduceLT, Int.reduceBEq, Int.reduceBNe, Nat.reduceBEq, ptr, List.append_nil, Int.toNat_zero, Nat.sub_self, res_one, resRow])
    refine wcall_plain (nextC cb 3 (by decide) (by decide)) rfl plain_next ?_
    rintro r ⟨x2, rfl, _⟩
    simp -implicitDefEqProofs only [evr, id, reduceCtorEq, reduceIte, Nat.reduceMul, Nat.reduceAdd, Nat.reduceLT, Nat.reduceLeDiff, Nat.reduceEqDiff, Int.reduceLT, Int.reduceBEq, Int.reduceBNe, Nat.reduceBEq, ptr, List.append_nil, Int.toNat_zero, Nat.sub_self, res_one, resRow]
    (refine hk _ ?_; clear hk k; try show Sat _ _ _ _ _)
    refine Sat.ret ?_
    simp only [blockK, Try.results56, evr, id, reduceCtorEq, reduceIte, Nat.reduceMul, Nat.reduceAdd, Nat.reduceLT, Nat.reduceLeDiff, Nat.reduceEqDiff, Int.reduceLT, Int.reduceBEq, Int.reduceBNe, Nat.reduceBEq, ptr, List.append_nil, Int.toNat_zero, Nat.sub_self, res_one, resRow]
    exact ⟨_, rfl⟩
  · (repeat refine Sat.seq ?_)
    (refine Sat.region_k fun k hk => ?_; simp -implicitDefEqProofs only [evr, id, reduceCtorEq, reduceIte, Nat.reduceMul, Nat.reduceAdd, Nat.reduceLT, Nat.reduceLeDiff, Nat.reduceEqDiff, Int.reduceLT, Int.reduceBEq, Int.reduceBNe, Nat.reduceBEq, ptr, List.append_nil, Int.toNat_zero, Nat.sub_self, res_one, resRow]; refine hk _ ?_; clear hk k; try show Sat _ _ _ _ _)
    refine Sat.cond_b rfl (fun _ => ?_) (fun _ => ?_)
    · (repeat refine Sat.seq ?_)
      (refine Sat.region_k fun k hk => ?_; simp -implicitDefEqProofs only [evr, id, reduceCtorEq, reduceIte, Nat.reduceMul, Nat.reduceAdd, Nat.reduceLT, Nat.reduceLeDiff, Nat.reduceEqDiff, Int.reduceLT, Int.reduceBEq, Int.reduceBNe, Nat.reduceBEq, ptr, List.append_nil, Int.toNat_zero, Nat.sub_self, res_one, resRow])
      intro blk
      refine wcall_plain (nextC cb 14 (by decide) (by decide)) rfl plain_next ?_
      rintro r ⟨x, rfl, hx0, hx1⟩
      obtain ⟨i, rfl⟩ := Int.eq_ofNat_of_zero_le hx0
      have e := ints_at [9223372036854775807, -9223372036854775808, 1125899906842624, 1125899906842625, 65535, 65536, 255, 256, 1023, 1024, 65534, 65535, 4294967296, 4611686018427387905] i (by show i < 14; omega)
      simp only [List.map_cons, List.map_nil] at e
      simp -implicitDefEqProofs only [evr, id, reduceCtorEq, reduceIte, Nat.reduceMul, Nat.reduceAdd, Nat.reduceLT, Nat.reduceLeDiff, Nat.reduceEqDiff, Int.reduceLT, Int.reduceBEq, Int.reduceBNe, Nat.reduceBEq, ptr, List.append_nil, Int.toNat_zero, Nat.sub_self, res_one, resRow, e]
      refine ⟨by omega, by omega, ?_⟩
      (refine hk _ ?_; clear hk k; try show Sat _ _ _ _ _)
      refine Sat.ret ?_
      simp only [blockK, Try.results56, evr, id, reduceCtorEq, reduceIte, Nat.reduceMul, Nat.reduceAdd, Nat.reduceLT, Nat.reduceLeDiff, Nat.reduceEqDiff, Int.reduceLT, Int.reduceBEq, Int.reduceBNe, Nat.reduceBEq, ptr, List.append_nil, Int.toNat_zero, Nat.sub_self, res_one, resRow]
      exact ⟨_, rfl⟩
    · (repeat refine Sat.seq ?_)
      (refine Sat.region_k fun k hk => ?_; simp -implicitDefEqProofs only [evr, id, reduceCtorEq, reduceIte, Nat.reduceMul, Nat.reduceAdd, Nat.reduceLT, Nat.reduceLeDiff, Nat.reduceEqDiff, Int.reduceLT, Int.reduceBEq, Int.reduceBNe, Nat.reduceBEq, ptr, List.append_nil, Int.toNat_zero, Nat.sub_self, res_one, resRow]; refine hk _ ?_; clear hk k; try show Sat _ _ _ _ _)
      refine Sat.cond_b rfl (fun _ => ?_) (fun _ => ?_)
      · (repeat refine Sat.seq ?_)
        (refine Sat.region_k fun k hk => ?_; simp -implicitDefEqProofs only [evr, id, reduceCtorEq, reduceIte, Nat.reduceMul, Nat.reduceAdd, Nat.reduceLT, Nat.reduceLeDiff, Nat.reduceEqDiff, Int.reduceLT, Int.reduceBEq, Int.reduceBNe, Nat.reduceBEq, ptr, List.append_nil, Int.toNat_zero, Nat.sub_self, res_one, resRow])
        refine wcall_plain (nextC cb 256 (by decide) (by decide)) rfl plain_next ?_
        rintro r ⟨x2, rfl, _⟩
        simp -implicitDefEqProofs only [evr, id, reduceCtorEq, reduceIte, Nat.reduceMul, Nat.reduceAdd, Nat.reduceLT, Nat.reduceLeDiff, Nat.reduceEqDiff, Int.reduceLT, Int.reduceBEq, Int.reduceBNe, Nat.reduceBEq, ptr, List.append_nil, Int.toNat_zero, Nat.sub_self, res_one, resRow]
        refine wcall_plain (nextC cb 256 (by decide) (by decide)) rfl plain_next ?_
        rintro r ⟨x3, rfl, _⟩
        simp -implicitDefEqProofs only [evr, id, reduceCtorEq, reduceIte, Nat.reduceMul, Nat.reduceAdd, Nat.reduceLT, Nat.reduceLeDiff, Nat.reduceEqDiff, Int.reduceLT, Int.reduceBEq, Int.reduceBNe, Nat.reduceBEq, ptr, List.append_nil, Int.toNat_zero, Nat.sub_self, res_one, resRow]
        (refine hk _ ?_; clear hk k; try show Sat _ _ _ _ _)
        refine Sat.ret ?_
        simp only [blockK, Try.results56, evr, id, reduceCtorEq, reduceIte, Nat.reduceMul, Nat.reduceAdd, Nat.reduceLT, Nat.reduceLeDiff, Nat.reduceEqDiff, Int.reduceLT, Int.reduceBEq, Int.reduceBNe, Nat.reduceBEq, ptr, List.append_nil, Int.toNat_zero, Nat.sub_self, res_one, resRow]
        exact ⟨_, rfl⟩
      · refine Sat.skip ?_
        simp only [thenK, blockK]
        (repeat refine Sat.seq ?_)
        (refine Sat.region_k fun k hk => ?_; simp -implicitDefEqProofs only [evr, id, reduceCtorEq, reduceIte, Nat.reduceMul, Nat.reduceAdd, Nat.reduceLT, Nat.reduceLeDiff, Nat.reduceEqDiff, Int.reduceLT, Int.reduceBEq, Int.reduceBNe, Nat.reduceBEq, ptr, List.append_nil, Int.toNat_zero, Nat.sub_self, res_one, resRow])
        refine wcall_plain (nextC cb 40 (by decide) (by decide)) rfl plain_next ?_
        rintro r ⟨x2, rfl, _⟩
        simp -implicitDefEqProofs only [evr, id, reduceCtorEq, reduceIte, Nat.reduceMul, Nat.reduceAdd, Nat.reduceLT, Nat.reduceLeDiff, Nat.reduceEqDiff, Int.reduceLT, Int.reduceBEq, Int.reduceBNe, Nat.reduceBEq, ptr, List.append_nil, Int.toNat_zero, Nat.sub_self, res_one, resRow]
        (refine hk _ ?_; clear hk k; try show Sat _ _ _ _ _)
        refine Sat.ret ?_
        simp only [Try.results56, evr, id, reduceCtorEq, reduceIte, Nat.reduceMul, Nat.reduceAdd, Nat.reduceLT, Nat.reduceLeDiff, Nat.reduceEqDiff, Int.reduceLT, Int.reduceBEq, Int.reduceBNe, Nat.reduceBEq, ptr, List.append_nil, Int.toNat_zero, Nat.sub_self, res_one, resRow]
        exact ⟨_, rfl⟩
end Go.Proofs.Ythhofjkbmnklmaa
