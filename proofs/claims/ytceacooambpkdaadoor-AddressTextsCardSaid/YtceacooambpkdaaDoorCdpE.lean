/- Choices of addresses and prefixes. -/
import Derived.Test.YtceacooambpkdaaDoorLzE
import Derived.Test.YtceacooambpkdaaDoorDrwB
set_option linter.unusedSimpArgs false
set_option linter.unusedVariables false
namespace Go.Proofs.YtceacooambpkdaaDoor
open Go.Sort Eng

theorem u32_some (z : Int) : ∃ a : Nat, IntKind.u32.wrap z = (a : Int) ∧ a < 2 ^ 32 := by
  rw [IntKind.wrap_u32]
  exact ⟨(z % 2 ^ 32).toNat, by omega, by omega⟩
set_option maxRecDepth 100000 in
theorem addressC (cb : Nat) : Contract (Frm.codes cb) Tryd.prog 30 [ptr cb] (fun r => ∃ a : Nat, r = .i .u32 a ∧ a < 2 ^ 32) := by
  refine contract_of Tryd.func30 rfl (by kernel_rfl) ?_
  simp only [Tryd.ntmps30, argEnv]
  (repeat refine Sat.seq ?_)
  (refine Sat.region_k fun k hk => ?_; simp -implicitDefEqProofs only [evr, id, reduceCtorEq, reduceIte, Nat.reduceMul, Nat.reduceAdd, Nat.reduceLT, Nat.reduceLeDiff, Nat.reduceEqDiff, Int.reduceLT, Int.reduceBEq, Int.reduceBNe, Nat.reduceBEq, List.append_nil, Int.toNat_zero, Nat.sub_self, Int.reduceNeg, ptr]; refine hk _ ?_; clear hk k; try show Sat _ _ _ _ _)
  (repeat refine Sat.seq ?_)
  (refine Sat.region_k fun k hk => ?_; simp -implicitDefEqProofs only [evr, id, reduceCtorEq, reduceIte, Nat.reduceMul, Nat.reduceAdd, Nat.reduceLT, Nat.reduceLeDiff, Nat.reduceEqDiff, Int.reduceLT, Int.reduceBEq, Int.reduceBNe, Nat.reduceBEq, List.append_nil, Int.toNat_zero, Nat.sub_self, Int.reduceNeg, ptr])
  refine wcall_plain (nextC cb 12 (by decide) (by decide)) rfl (by rintro _ ⟨x, rfl, _⟩; exact ok_plain rfl) ?_
  rintro r ⟨x, rfl, hx0, hx1⟩
  simp -implicitDefEqProofs only [evr, id, reduceCtorEq, reduceIte, Nat.reduceMul, Nat.reduceAdd, Nat.reduceLT, Nat.reduceLeDiff, Nat.reduceEqDiff, Int.reduceLT, Int.reduceBEq, Int.reduceBNe, Nat.reduceBEq, List.append_nil, Int.toNat_zero, Nat.sub_self, Int.reduceNeg, ptr]
  (refine hk _ ?_; clear hk k; try show Sat _ _ _ _ _)
  refine Sat.cond_b rfl (fun h => ?_) (fun h => ?_)
  · (repeat refine Sat.seq ?_)
    (refine Sat.region_k fun k hk => ?_; simp -implicitDefEqProofs only [evr, id, reduceCtorEq, reduceIte, Nat.reduceMul, Nat.reduceAdd, Nat.reduceLT, Nat.reduceLeDiff, Nat.reduceEqDiff, Int.reduceLT, Int.reduceBEq, Int.reduceBNe, Nat.reduceBEq, List.append_nil, Int.toNat_zero, Nat.sub_self, Int.reduceNeg, ptr])
    refine wcall_plain (nextC cb 65536 (by decide) (by decide)) rfl (by rintro _ ⟨x, rfl, _⟩; exact ok_plain rfl) ?_
    rintro r ⟨y, rfl, hy0, hy1⟩
    simp -implicitDefEqProofs only [evr, id, reduceCtorEq, reduceIte, Nat.reduceMul, Nat.reduceAdd, Nat.reduceLT, Nat.reduceLeDiff, Nat.reduceEqDiff, Int.reduceLT, Int.reduceBEq, Int.reduceBNe, Nat.reduceBEq, List.append_nil, Int.toNat_zero, Nat.sub_self, Int.reduceNeg, ptr]
    refine ⟨by decide, ?_⟩
    refine wcall_plain (nextC cb 65536 (by decide) (by decide)) rfl (by rintro _ ⟨x, rfl, _⟩; exact ok_plain rfl) ?_
    rintro r ⟨z, rfl, hz0, hz1⟩
    simp -implicitDefEqProofs only [evr, id, reduceCtorEq, reduceIte, Nat.reduceMul, Nat.reduceAdd, Nat.reduceLT, Nat.reduceLeDiff, Nat.reduceEqDiff, Int.reduceLT, Int.reduceBEq, Int.reduceBNe, Nat.reduceBEq, List.append_nil, Int.toNat_zero, Nat.sub_self, Int.reduceNeg, ptr]
    refine hk _ ?_
    clear hk
    refine Sat.ret ?_
    simp only [Tryd.results30, evr, id, reduceCtorEq, reduceIte, Nat.reduceMul, Nat.reduceAdd, Nat.reduceLT, Nat.reduceLeDiff, Nat.reduceEqDiff, Int.reduceLT, Int.reduceBEq, Int.reduceBNe, Nat.reduceBEq, List.append_nil, Int.toNat_zero, Nat.sub_self, Int.reduceNeg, ptr]
    obtain ⟨a, e, ha⟩ := u32_some (IntKind.i64.wrap (IntKind.i64.wrap (y * 2 ^ min (Int.toNat 16) IntKind.i64.bits) + z))
    exact ⟨a, by rw [← e], ha⟩
  · refine Sat.skip ?_
    simp only [thenK]
    (repeat refine Sat.seq ?_)
    (refine Sat.region_k fun k hk => ?_; simp -implicitDefEqProofs only [evr, id, reduceCtorEq, reduceIte, Nat.reduceMul, Nat.reduceAdd, Nat.reduceLT, Nat.reduceLeDiff, Nat.reduceEqDiff, Int.reduceLT, Int.reduceBEq, Int.reduceBNe, Nat.reduceBEq, List.append_nil, Int.toNat_zero, Nat.sub_self, Int.reduceNeg, ptr])
    refine wcall_plain (nextC cb 3 (by decide) (by decide)) rfl (by rintro _ ⟨x, rfl, _⟩; exact ok_plain rfl) ?_
    rintro r ⟨y, rfl, hy0, hy1⟩
    simp -implicitDefEqProofs only [evr, id, reduceCtorEq, reduceIte, Nat.reduceMul, Nat.reduceAdd, Nat.reduceLT, Nat.reduceLeDiff, Nat.reduceEqDiff, Int.reduceLT, Int.reduceBEq, Int.reduceBNe, Nat.reduceBEq, List.append_nil, Int.toNat_zero, Nat.sub_self, Int.reduceNeg, ptr]
    refine ⟨by decide, ?_⟩
    refine wcall_plain (nextC cb 8 (by decide) (by decide)) rfl (by rintro _ ⟨x, rfl, _⟩; exact ok_plain rfl) ?_
    rintro r ⟨z, rfl, hz0, hz1⟩
    simp -implicitDefEqProofs only [evr, id, reduceCtorEq, reduceIte, Nat.reduceMul, Nat.reduceAdd, Nat.reduceLT, Nat.reduceLeDiff, Nat.reduceEqDiff, Int.reduceLT, Int.reduceBEq, Int.reduceBNe, Nat.reduceBEq, List.append_nil, Int.toNat_zero, Nat.sub_self, Int.reduceNeg, ptr]
    refine hk _ ?_
    clear hk
    refine Sat.ret ?_
    simp only [Tryd.results30, evr, id, reduceCtorEq, reduceIte, Nat.reduceMul, Nat.reduceAdd, Nat.reduceLT, Nat.reduceLeDiff, Nat.reduceEqDiff, Int.reduceLT, Int.reduceBEq, Int.reduceBNe, Nat.reduceBEq, List.append_nil, Int.toNat_zero, Nat.sub_self, Int.reduceNeg, ptr]
    obtain ⟨a, e, ha⟩ := u32_some (IntKind.i64.wrap (IntKind.i64.wrap (167772160 + IntKind.i64.wrap (y * 2 ^ min (Int.toNat 16) IntKind.i64.bits)) + z))
    exact ⟨a, by rw [← e], ha⟩

def PrfPost (r : SV) : Prop := ∃ p : Prf, r = prS p ∧ prOk p ∧ vld p = true
theorem len_choice : ∀ y : Nat, y < 8 → ∃ l : Nat, rdL [SV.i .i64 0, SV.i .i64 8, SV.i .i64 16, SV.i .i64 24, SV.i .i64 29, SV.i .i64 30, SV.i .i64 31, SV.i .i64 32] 1 y 0 = .i .i64 (l : Nat) ∧ l ≤ 32 := by
  intro y hy
  rcases (show y = 0 ∨ y = 1 ∨ y = 2 ∨ y = 3 ∨ y = 4 ∨ y = 5 ∨ y = 6 ∨ y = 7 by omega) with rfl | rfl | rfl | rfl | rfl | rfl | rfl | rfl
  · exact ⟨0, rfl, by decide⟩
  · exact ⟨8, rfl, by decide⟩
  · exact ⟨16, rfl, by decide⟩
  · exact ⟨24, rfl, by decide⟩
  · exact ⟨29, rfl, by decide⟩
  · exact ⟨30, rfl, by decide⟩
  · exact ⟨31, rfl, by decide⟩
  · exact ⟨32, rfl, by decide⟩
/-- an address whose last bits are made zero -/
def cutP (a l : Nat) : Prf := ⟨a / 2 ^ (32 - l) * 2 ^ (32 - l), l⟩
theorem cutP_ok {a l : Nat} (ha : a < 2 ^ 32) (hl : l ≤ 32) : prOk (cutP a l) ∧ vld (cutP a l) = true := by
  have hk : (cutP a l).k = 32 - l := by unfold cutP Prf.k; simp only; omega
  have hle : a / 2 ^ (32 - l) * 2 ^ (32 - l) ≤ a := Nat.div_mul_le_self _ _
  refine ⟨Nat.lt_of_le_of_lt hle ha, vld_iff.2 ⟨by show (0 : Int) ≤ (l : Int); omega, by show (l : Int) ≤ 32; omega, ?_⟩⟩
  rw [hk]
  exact Nat.mul_mod_left _ _
theorem cut_u32 {a l : Nat} (ha : a < 2 ^ 32) (hl : l ≤ 32) : (IntKind.u32.wrap ((a : Int).fdiv (2 ^ min (32 - l) IntKind.u32.bits) * 2 ^ min (32 - l) IntKind.u32.bits)) = ((cutP a l).addr : Int) := by
  have e1 : min (32 - l) IntKind.u32.bits = 32 - l := by show min (32 - l) 32 = _; omega
  have e2 : (2 : Int) ^ (32 - l) = ((2 ^ (32 - l) : Nat) : Int) := by simp
  have h := (cutP_ok ha hl).1
  rw [e1, e2, Int.fdiv_eq_ediv_of_nonneg _ (Int.natCast_nonneg _), ← Int.natCast_ediv, ← Int.natCast_mul]
  exact w32u _ (Int.natCast_nonneg _) (by exact_mod_cast h)
set_option maxRecDepth 100000 in
theorem prefixC (cb : Nat) : Contract (Frm.codes cb) Tryd.prog 11 [ptr cb] PrfPost := by
  refine contract_of Tryd.func11 rfl (by kernel_rfl) ?_
  simp only [Tryd.ntmps11, argEnv]
  (repeat refine Sat.seq ?_)
  (refine Sat.region_k fun k hk => ?_; simp -implicitDefEqProofs only [evr, id, reduceCtorEq, reduceIte, Nat.reduceMul, Nat.reduceAdd, Nat.reduceLT, Nat.reduceLeDiff, Nat.reduceEqDiff, Int.reduceLT, Int.reduceBEq, Int.reduceBNe, Nat.reduceBEq, List.append_nil, Int.toNat_zero, Nat.sub_self, Int.reduceNeg, ptr])
  intro b1
  (refine hk _ ?_; clear hk k; try show Sat _ _ _ _ _)
  (repeat refine Sat.seq ?_)
  (refine Sat.region_k fun k hk => ?_; simp -implicitDefEqProofs only [evr, id, reduceCtorEq, reduceIte, Nat.reduceMul, Nat.reduceAdd, Nat.reduceLT, Nat.reduceLeDiff, Nat.reduceEqDiff, Int.reduceLT, Int.reduceBEq, Int.reduceBNe, Nat.reduceBEq, List.append_nil, Int.toNat_zero, Nat.sub_self, Int.reduceNeg, ptr])
  intro b2
  refine wcall_plain (nextC cb 8 (by decide) (by decide)) rfl (by rintro _ ⟨x, rfl, _⟩; exact ok_plain rfl) ?_
  rintro r ⟨x, rfl, hx0, hx1⟩
  obtain ⟨y, rfl⟩ := Int.eq_ofNat_of_zero_le hx0
  have hy : y < 8 := by omega
  obtain ⟨l, hl, hl2⟩ := len_choice y hy
  simp -implicitDefEqProofs only [evr, id, reduceCtorEq, reduceIte, Nat.reduceMul, Nat.reduceAdd, Nat.reduceLT, Nat.reduceLeDiff, Nat.reduceEqDiff, Int.reduceLT, Int.reduceBEq, Int.reduceBNe, Nat.reduceBEq, List.append_nil, Int.toNat_zero, Nat.sub_self, Int.reduceNeg, ptr, hl]
  refine ⟨by omega, hy, ?_⟩
  (refine hk _ ?_; clear hk k; try show Sat _ _ _ _ _)
  (repeat refine Sat.seq ?_)
  (refine Sat.region_k fun k hk => ?_; simp -implicitDefEqProofs only [evr, id, reduceCtorEq, reduceIte, Nat.reduceMul, Nat.reduceAdd, Nat.reduceLT, Nat.reduceLeDiff, Nat.reduceEqDiff, Int.reduceLT, Int.reduceBEq, Int.reduceBNe, Nat.reduceBEq, List.append_nil, Int.toNat_zero, Nat.sub_self, Int.reduceNeg, ptr]; refine hk _ ?_; clear hk k; try show Sat _ _ _ _ _)
  refine Sat.cond_b rfl (fun h => ?_) (fun h => ?_)
  · (repeat refine Sat.seq ?_)
    (refine Sat.region_k fun k hk => ?_; simp -implicitDefEqProofs only [evr, id, reduceCtorEq, reduceIte, Nat.reduceMul, Nat.reduceAdd, Nat.reduceLT, Nat.reduceLeDiff, Nat.reduceEqDiff, Int.reduceLT, Int.reduceBEq, Int.reduceBNe, Nat.reduceBEq, List.append_nil, Int.toNat_zero, Nat.sub_self, Int.reduceNeg, ptr]; refine hk _ ?_; clear hk k; try show Sat _ _ _ _ _)
    refine Sat.ret ?_
    simp only [Tryd.results11, evr, id, reduceCtorEq, reduceIte, Nat.reduceMul, Nat.reduceAdd, Nat.reduceLT, Nat.reduceLeDiff, Nat.reduceEqDiff, Int.reduceLT, Int.reduceBEq, Int.reduceBNe, Nat.reduceBEq, List.append_nil, Int.toNat_zero, Nat.sub_self, Int.reduceNeg, ptr]
    exact ⟨⟨0, 0⟩, rfl, by unfold prOk; decide, by decide⟩
  · have e1 : IntKind.i64.wrap (32 - (l : Int)) = ((32 - l : Nat) : Int) := by rw [w64 (by omega)]; omega
    refine Sat.skip ?_
    simp only [thenK]
    (repeat refine Sat.seq ?_)
    (refine Sat.region_k fun k hk => ?_; simp -implicitDefEqProofs only [evr, id, reduceCtorEq, reduceIte, Nat.reduceMul, Nat.reduceAdd, Nat.reduceLT, Nat.reduceLeDiff, Nat.reduceEqDiff, Int.reduceLT, Int.reduceBEq, Int.reduceBNe, Nat.reduceBEq, List.append_nil, Int.toNat_zero, Nat.sub_self, Int.reduceNeg, ptr])
    refine wcall_plain (addressC cb) rfl (by rintro _ ⟨x, rfl, _⟩; exact ok_plain rfl) ?_
    rintro r ⟨a, rfl, ha⟩
    have e2 := cut_u32 ha hl2
    simp -implicitDefEqProofs only [evr, id, reduceCtorEq, reduceIte, Nat.reduceMul, Nat.reduceAdd, Nat.reduceLT, Nat.reduceLeDiff, Nat.reduceEqDiff, Int.reduceLT, Int.reduceBEq, Int.reduceBNe, Nat.reduceBEq, List.append_nil, Int.toNat_zero, Nat.sub_self, Int.reduceNeg, ptr, e1, e2]
    refine hk _ ?_
    clear hk
    refine Sat.ret ?_
    simp only [Tryd.results11, evr, id, reduceCtorEq, reduceIte, Nat.reduceMul, Nat.reduceAdd, Nat.reduceLT, Nat.reduceLeDiff, Nat.reduceEqDiff, Int.reduceLT, Int.reduceBEq, Int.reduceBNe, Nat.reduceBEq, List.append_nil, Int.toNat_zero, Nat.sub_self, Int.reduceNeg, ptr]
    exact ⟨cutP a l, rfl, (cutP_ok ha hl2).1, (cutP_ok ha hl2).2⟩
end Go.Proofs.YtceacooambpkdaaDoor
