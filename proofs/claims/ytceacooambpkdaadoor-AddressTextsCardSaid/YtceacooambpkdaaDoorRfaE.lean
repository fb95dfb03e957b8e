/- The reference of package address: prefixes. -/
import Derived.Test.YtceacooambpkdaaDoorCmpI
import Derived.Test.YtceacooambpkdaaDoorDrwB
import Derived.Test.YtceacooambpkdaaDoorCdpE
set_option linter.unusedSimpArgs false
set_option linter.unusedVariables false
namespace Go.Proofs.YtceacooambpkdaaDoor
open Go.Sort Eng

theorem pow2_i64 {k : Nat} (hk : k ≤ 32) : IntKind.i64.wrap (1 * 2 ^ min k IntKind.i64.bits) = ((2 ^ k : Nat) : Int) := by
  have h := pow_le32 hk
  have e : min k IntKind.i64.bits = k := by show min k 64 = k; omega
  have pe : (2 : Int) ^ k = ((2 ^ k : Nat) : Int) := by simp
  rw [e, Int.one_mul, pe]
  have p := Nat.two_pow_pos k
  exact w64 (by omega)
set_option maxRecDepth 100000 in
theorem sizeC (F : Frm) (n : Int) (h0 : 0 ≤ n) (h1 : n ≤ 32) : Contract F Tryd.prog 54 [.i .i64 n] (fun r => r = .i .i64 (2 ^ (32 - n.toNat) : Nat)) := by
  have e1 : IntKind.i64.wrap (32 - n) = ((32 - n.toNat : Nat) : Int) := by rw [w64 (by omega)]; omega
  have e2 := pow2_i64 (k := 32 - n.toNat) (by omega)
  refine contract_of Tryd.func54 rfl (by kernel_rfl) ?_
  simp only [Tryd.ntmps54, argEnv]
  (repeat refine Sat.seq ?_)
  (refine Sat.region_k fun k hk => ?_; simp -implicitDefEqProofs only [evr, id, reduceCtorEq, reduceIte, Nat.reduceMul, Nat.reduceAdd, Nat.reduceLT, Nat.reduceLeDiff, Nat.reduceEqDiff, Int.reduceLT, Int.reduceBEq, Int.reduceBNe, Nat.reduceBEq, List.append_nil, Int.toNat_zero, Nat.sub_self, Int.reduceNeg]; refine hk _ ?_; clear hk k; try show Sat _ _ _ _ _)
  refine Sat.seq ?_
  refine Sat.region_k fun k hk => ?_
  simp -implicitDefEqProofs only [evr, id, reduceCtorEq, reduceIte, Nat.reduceMul, Nat.reduceAdd, Nat.reduceLT, Nat.reduceLeDiff, Nat.reduceEqDiff, Int.reduceLT, Int.reduceBEq, Int.reduceBNe, Nat.reduceBEq, List.append_nil, Int.toNat_zero, Nat.sub_self, Int.reduceNeg, e1, Int.toNat_natCast, e2]
  (refine hk _ ?_; clear hk k; try show Sat _ _ _ _ _)
  refine Sat.ret ?_
  simp only [Tryd.results54, evr, id, reduceCtorEq, reduceIte, Nat.reduceMul, Nat.reduceAdd, Nat.reduceLT, Nat.reduceLeDiff, Nat.reduceEqDiff, Int.reduceLT, Int.reduceBEq, Int.reduceBNe, Nat.reduceBEq, List.append_nil, Int.toNat_zero, Nat.sub_self, Int.reduceNeg]

theorem u32_64 {n : Nat} (h : n < 2 ^ 32) : IntKind.i64.wrap (n : Int) = n := w64 (by omega)
set_option maxRecDepth 100000 in
theorem rfValidC (F : Frm) (p : Prf) (hp : prOk p) : Contract F Tryd.prog 38 [prS p] (fun r => r = .b (vld p)) := by
  have hp2 := u32_64 hp
  refine contract_of Tryd.func38 rfl (by kernel_rfl) ?_
  simp only [Tryd.ntmps38, argEnv, prS, prC]
  (repeat refine Sat.seq ?_)
  (refine Sat.region_k fun k hk => ?_; simp -implicitDefEqProofs only [evr, id, reduceCtorEq, reduceIte, Nat.reduceMul, Nat.reduceAdd, Nat.reduceLT, Nat.reduceLeDiff, Nat.reduceEqDiff, Int.reduceLT, Int.reduceBEq, Int.reduceBNe, Nat.reduceBEq, List.append_nil, Int.toNat_zero, Nat.sub_self, Int.reduceNeg])
  intro b1
  (refine hk _ ?_; clear hk k; try show Sat _ _ _ _ _)
  refine Sat.seq ?_
  refine Sat.region_qat (by kernel_rfl) (by kernel_rfl) ⟨21, [(2, .b (vld p))], []⟩ (fun k hk => ?_) ?_
  · simp -implicitDefEqProofs only [evr, id, reduceCtorEq, reduceIte, Nat.reduceMul, Nat.reduceAdd, Nat.reduceLT, Nat.reduceLeDiff, Nat.reduceEqDiff, Int.reduceLT, Int.reduceBEq, Int.reduceBNe, Nat.reduceBEq, List.append_nil, Int.toNat_zero, Nat.sub_self, Int.reduceNeg]
    refine ⟨fun h1 => ⟨fun h2 => ?_, fun h2 => ?_⟩, fun h1 => ?_⟩
    · simp only [hp2]
      refine qcall (sizeC Frm.nil p.len h1 h2) rfl (ok_plain rfl) ?_
      simp -implicitDefEqProofs only [evr, id, reduceCtorEq, reduceIte, Nat.reduceMul, Nat.reduceAdd, Nat.reduceLT, Nat.reduceLeDiff, Nat.reduceEqDiff, Int.reduceLT, Int.reduceBEq, Int.reduceBNe, Nat.reduceBEq, List.append_nil, Int.toNat_zero, Nat.sub_self, Int.reduceNeg]
      have hpp := Nat.two_pow_pos (32 - p.len.toNat)
      refine ⟨by omega, ?_⟩
      refine hk _ ?_
      have e : vld p = (Int.tmod (p.addr : Int) ((2 ^ (32 - p.len.toNat) : Nat) : Int) == 0) := by
        rw [Int.tmod_eq_emod_of_nonneg (Int.natCast_nonneg _), ← Int.natCast_emod]
        unfold vld Prf.k
        rw [decide_eq_true h1, decide_eq_true h2]
        apply Bool.eq_iff_iff.2
        simp only [Bool.true_and, decide_eq_true_eq, beq_iff_eq]
        omega
      simp only [e]
      simp -implicitDefEqProofs only [evr, id, reduceCtorEq, reduceIte, Nat.reduceMul, Nat.reduceAdd, Nat.reduceLT, Nat.reduceLeDiff, Nat.reduceEqDiff, Int.reduceLT, Int.reduceBEq, Int.reduceBNe, Nat.reduceBEq, List.append_nil, Int.toNat_zero, Nat.sub_self, Int.reduceNeg, evl]
    · refine hk _ ?_
      have e : vld p = false := by unfold vld; rw [decide_eq_false h2]; simp
      simp only [e]
      simp -implicitDefEqProofs only [evr, id, reduceCtorEq, reduceIte, Nat.reduceMul, Nat.reduceAdd, Nat.reduceLT, Nat.reduceLeDiff, Nat.reduceEqDiff, Int.reduceLT, Int.reduceBEq, Int.reduceBNe, Nat.reduceBEq, List.append_nil, Int.toNat_zero, Nat.sub_self, Int.reduceNeg, evl]
    · refine hk _ ?_
      have e : vld p = false := by unfold vld; rw [decide_eq_false h1]; simp
      simp only [e]
      simp -implicitDefEqProofs only [evr, id, reduceCtorEq, reduceIte, Nat.reduceMul, Nat.reduceAdd, Nat.reduceLT, Nat.reduceLeDiff, Nat.reduceEqDiff, Int.reduceLT, Int.reduceBEq, Int.reduceBNe, Nat.reduceBEq, List.append_nil, Int.toNat_zero, Nat.sub_self, Int.reduceNeg, evl]
  simp only [thenK]
  refine Sat.ret ?_
  simp only [Tryd.results38, evr, id, reduceCtorEq, reduceIte, Nat.reduceMul, Nat.reduceAdd, Nat.reduceLT, Nat.reduceLeDiff, Nat.reduceEqDiff, Int.reduceLT, Int.reduceBEq, Int.reduceBNe, Nat.reduceBEq, List.append_nil, Int.toNat_zero, Nat.sub_self, Int.reduceNeg]

theorem high_lt {p : Prf} (hp : prOk p) (h : vld p = true) : p.addr + 2 ^ p.k ≤ 2 ^ 32 := by
  have h3 := (vld_iff.1 h).2.2
  have e1 := mul_of_mod h3
  have e2 : (2 : Nat) ^ 32 = 2 ^ (32 - p.k) * 2 ^ p.k := pow_split (k_le p)
  have : p.addr / 2 ^ p.k < 2 ^ (32 - p.k) := by
    rw [Nat.div_lt_iff_lt_mul (Nat.two_pow_pos _), ← e2]; exact hp
  have := Nat.mul_le_mul_right (2 ^ p.k) (Nat.succ_le_of_lt this)
  rw [Nat.succ_mul, e1, ← e2] at this
  exact this
set_option maxRecDepth 100000 in
theorem rfBoundsC (F : Frm) (p : Prf) (hp : prOk p) : Contract F Tryd.prog 36 [prS p] (fun r => r = bndS p) := by
  have hp2 := u32_64 hp
  refine contract_of Tryd.func36 rfl (by kernel_rfl) ?_
  simp only [Tryd.ntmps36, argEnv, prS, prC]
  (repeat refine Sat.seq ?_)
  (refine Sat.region_k fun k hk => ?_; simp -implicitDefEqProofs only [evr, id, reduceCtorEq, reduceIte, Nat.reduceMul, Nat.reduceAdd, Nat.reduceLT, Nat.reduceLeDiff, Nat.reduceEqDiff, Int.reduceLT, Int.reduceBEq, Int.reduceBNe, Nat.reduceBEq, List.append_nil, Int.toNat_zero, Nat.sub_self, Int.reduceNeg])
  intro b1 b2
  (refine hk _ ?_; clear hk k; try show Sat _ _ _ _ _)
  (repeat refine Sat.seq ?_)
  (refine Sat.region_k fun k hk => ?_; simp -implicitDefEqProofs only [evr, id, reduceCtorEq, reduceIte, Nat.reduceMul, Nat.reduceAdd, Nat.reduceLT, Nat.reduceLeDiff, Nat.reduceEqDiff, Int.reduceLT, Int.reduceBEq, Int.reduceBNe, Nat.reduceBEq, List.append_nil, Int.toNat_zero, Nat.sub_self, Int.reduceNeg])
  refine wcall_plain (rfValidC F p hp) (by simp -implicitDefEqProofs only [evr, id, reduceCtorEq, reduceIte, Nat.reduceMul, Nat.reduceAdd, Nat.reduceLT, Nat.reduceLeDiff, Nat.reduceEqDiff, Int.reduceLT, Int.reduceBEq, Int.reduceBNe, Nat.reduceBEq, List.append_nil, Int.toNat_zero, Nat.sub_self, Int.reduceNeg]; rfl) (by rintro _ rfl; exact ok_plain rfl) ?_
  rintro r rfl
  simp -implicitDefEqProofs only [evr, id, reduceCtorEq, reduceIte, Nat.reduceMul, Nat.reduceAdd, Nat.reduceLT, Nat.reduceLeDiff, Nat.reduceEqDiff, Int.reduceLT, Int.reduceBEq, Int.reduceBNe, Nat.reduceBEq, List.append_nil, Int.toNat_zero, Nat.sub_self, Int.reduceNeg]
  (refine hk _ ?_; clear hk k; try show Sat _ _ _ _ _)
  refine Sat.cond_b rfl (fun h => ?_) (fun h => ?_)
  · have hv : ¬ vld p = true := by simpa using h
    (repeat refine Sat.seq ?_)
    (refine Sat.region_k fun k hk => ?_; simp -implicitDefEqProofs only [evr, id, reduceCtorEq, reduceIte, Nat.reduceMul, Nat.reduceAdd, Nat.reduceLT, Nat.reduceLeDiff, Nat.reduceEqDiff, Int.reduceLT, Int.reduceBEq, Int.reduceBNe, Nat.reduceBEq, List.append_nil, Int.toNat_zero, Nat.sub_self, Int.reduceNeg]; refine hk _ ?_; clear hk k; try show Sat _ _ _ _ _)
    refine Sat.ret ?_
    simp only [Tryd.results36, evr, id, reduceCtorEq, reduceIte, Nat.reduceMul, Nat.reduceAdd, Nat.reduceLT, Nat.reduceLeDiff, Nat.reduceEqDiff, Int.reduceLT, Int.reduceBEq, Int.reduceBNe, Nat.reduceBEq, List.append_nil, Int.toNat_zero, Nat.sub_self, Int.reduceNeg]
    unfold bndS
    rw [if_neg hv]
  · have hv : vld p = true := by simpa using h
    obtain ⟨h1, h2, h3⟩ := vld_iff.1 hv
    have hpp := Nat.two_pow_pos p.k
    have hh := high_lt hp hv
    refine Sat.skip ?_
    simp only [thenK]
    (repeat refine Sat.seq ?_)
    (refine Sat.region_tree (.keep [0, 2, 5, 1, 3, 4, 6] [7, 8, 9, 10] (.one 7 (.one 8 (.one 9 (.one 10 (.one 11 (.one 12 (.one 13 .done)))))))) (by kernel_rfl) (by kernel_rfl) (fun _ _ h => h) fun k hk => ?_; simp only [WOT, List.map_cons, List.map_nil, List.getD_cons_zero, List.getD_cons_succ]; simp -implicitDefEqProofs only [evr, id, reduceCtorEq, reduceIte, Nat.reduceMul, Nat.reduceAdd, Nat.reduceLT, Nat.reduceLeDiff, Nat.reduceEqDiff, Int.reduceLT, Int.reduceBEq, Int.reduceBNe, Nat.reduceBEq, List.append_nil, Int.toNat_zero, Nat.sub_self, Int.reduceNeg, WOT])
    simp only [hp2]
    refine wcall_plain (sizeC F p.len h1 h2) rfl (by rintro _ rfl; exact ok_plain rfl) ?_
    rintro r rfl
    have e1 : IntKind.i64.wrap ((p.addr : Int) + ((2 ^ (32 - p.len.toNat) : Nat) : Int)) = ((p.addr + 2 ^ p.k : Nat) : Int) := by
      show IntKind.i64.wrap ((p.addr : Int) + ((2 ^ p.k : Nat) : Int)) = _
      rw [w64 (by omega)]; omega
    have e2 : IntKind.i64.wrap (((p.addr + 2 ^ p.k : Nat) : Int) - 1) = (p.high : Int) := by
      unfold Prf.high
      rw [w64 (by omega)]; omega
    have e3 : IntKind.u32.wrap (p.high : Int) = (p.high : Int) := w32u _ (Int.natCast_nonneg _) (by unfold Prf.high; omega)
    simp -implicitDefEqProofs only [evr, id, reduceCtorEq, reduceIte, Nat.reduceMul, Nat.reduceAdd, Nat.reduceLT, Nat.reduceLeDiff, Nat.reduceEqDiff, Int.reduceLT, Int.reduceBEq, Int.reduceBNe, Nat.reduceBEq, List.append_nil, Int.toNat_zero, Nat.sub_self, Int.reduceNeg, e1, e2, e3]
    (refine hk _ ?_; clear hk k; try show Sat _ _ _ _ _)
    refine Sat.ret ?_
    simp only [Tryd.results36, evr, id, reduceCtorEq, reduceIte, Nat.reduceMul, Nat.reduceAdd, Nat.reduceLT, Nat.reduceLeDiff, Nat.reduceEqDiff, Int.reduceLT, Int.reduceBEq, Int.reduceBNe, Nat.reduceBEq, List.append_nil, Int.toNat_zero, Nat.sub_self, Int.reduceNeg]
    unfold bndS
    rw [if_pos hv]

set_option maxRecDepth 100000 in
theorem rfContainsC (F : Frm) (p : Prf) (hp : prOk p) (a : Nat) (ha : a < 2 ^ 32) : Contract F Tryd.prog 39 [prS p, .i .u32 a] (fun r => r = .b (cont p a)) := by
  refine contract_of Tryd.func39 rfl (by kernel_rfl) ?_
  simp only [Tryd.ntmps39, argEnv, prS, prC]
  (repeat refine Sat.seq ?_)
  (refine Sat.region_k fun k hk => ?_; simp -implicitDefEqProofs only [evr, id, reduceCtorEq, reduceIte, Nat.reduceMul, Nat.reduceAdd, Nat.reduceLT, Nat.reduceLeDiff, Nat.reduceEqDiff, Int.reduceLT, Int.reduceBEq, Int.reduceBNe, Nat.reduceBEq, List.append_nil, Int.toNat_zero, Nat.sub_self, Int.reduceNeg])
  intro b1
  (refine hk _ ?_; clear hk k; try show Sat _ _ _ _ _)
  have hB : ∃ lo hi er : Int, bndS p = tupL [.agg 2 fun j => [SV.i .u32 lo, .i .u32 hi].getD j default, .i .i64 er] ∧ cont p a = ((er == 0) && (decide (lo ≤ a) && decide ((a : Int) ≤ hi))) := by
    unfold bndS
    split
    · rename_i h
      refine ⟨_, _, _, rfl, ?_⟩
      rw [cont_range h]
      apply Bool.eq_iff_iff.2
      simp
    · rename_i h
      refine ⟨_, _, _, rfl, ?_⟩
      unfold cont
      rw [Bool.eq_false_iff.2 h]
      rfl
  obtain ⟨lo, hi, er, hB1, hB2⟩ := hB
  (repeat refine Sat.seq ?_)
  (refine Sat.region_k fun k hk => ?_; simp -implicitDefEqProofs only [evr, id, reduceCtorEq, reduceIte, Nat.reduceMul, Nat.reduceAdd, Nat.reduceLT, Nat.reduceLeDiff, Nat.reduceEqDiff, Int.reduceLT, Int.reduceBEq, Int.reduceBNe, Nat.reduceBEq, List.append_nil, Int.toNat_zero, Nat.sub_self, Int.reduceNeg])
  refine wcall_slice (rfBoundsC F p hp) rfl (by simp only [prS, prC, evr, id, reduceCtorEq, reduceIte, Nat.reduceMul, Nat.reduceAdd, Nat.reduceLT, Nat.reduceLeDiff, Nat.reduceEqDiff, Int.reduceLT, Int.reduceBEq, Int.reduceBNe, Nat.reduceBEq, List.append_nil, Int.toNat_zero, Nat.sub_self, Int.reduceNeg]; try rfl) ?_
  rintro r rfl
  rw [hB1]
  simp -implicitDefEqProofs only [evr, id, reduceCtorEq, reduceIte, Nat.reduceMul, Nat.reduceAdd, Nat.reduceLT, Nat.reduceLeDiff, Nat.reduceEqDiff, Int.reduceLT, Int.reduceBEq, Int.reduceBNe, Nat.reduceBEq, List.append_nil, Int.toNat_zero, Nat.sub_self, Int.reduceNeg]
  intro b2
  (refine hk _ ?_; clear hk k; try show Sat _ _ _ _ _)
  refine Sat.seq ?_
  refine Sat.region_at ⟨26, [(4, .b (cont p a))], []⟩ (fun k hk => ?_) ?_
  · simp -implicitDefEqProofs only [evr, id, reduceCtorEq, reduceIte, Nat.reduceMul, Nat.reduceAdd, Nat.reduceLT, Nat.reduceLeDiff, Nat.reduceEqDiff, Int.reduceLT, Int.reduceBEq, Int.reduceBNe, Nat.reduceBEq, List.append_nil, Int.toNat_zero, Nat.sub_self, Int.reduceNeg, beq_iff_eq]
    refine ⟨fun h1 => ⟨fun h2 => ?_, fun h2 => ?_⟩, fun h1 => ?_⟩
    · refine hk _ ?_
      have e : cont p a = decide ((a : Int) ≤ hi) := by rw [hB2, h1, decide_eq_true h2]; simp
      simp only [e]
      simp -implicitDefEqProofs only [evr, id, reduceCtorEq, reduceIte, Nat.reduceMul, Nat.reduceAdd, Nat.reduceLT, Nat.reduceLeDiff, Nat.reduceEqDiff, Int.reduceLT, Int.reduceBEq, Int.reduceBNe, Nat.reduceBEq, List.append_nil, Int.toNat_zero, Nat.sub_self, Int.reduceNeg, evl]
    · refine hk _ ?_
      have e : cont p a = false := by rw [hB2, decide_eq_false h2]; simp
      simp only [e]
      simp -implicitDefEqProofs only [evr, id, reduceCtorEq, reduceIte, Nat.reduceMul, Nat.reduceAdd, Nat.reduceLT, Nat.reduceLeDiff, Nat.reduceEqDiff, Int.reduceLT, Int.reduceBEq, Int.reduceBNe, Nat.reduceBEq, List.append_nil, Int.toNat_zero, Nat.sub_self, Int.reduceNeg, evl]
    · refine hk _ ?_
      have e : cont p a = false := by rw [hB2]; simp [h1]
      simp only [e]
      simp -implicitDefEqProofs only [evr, id, reduceCtorEq, reduceIte, Nat.reduceMul, Nat.reduceAdd, Nat.reduceLT, Nat.reduceLeDiff, Nat.reduceEqDiff, Int.reduceLT, Int.reduceBEq, Int.reduceBNe, Nat.reduceBEq, List.append_nil, Int.toNat_zero, Nat.sub_self, Int.reduceNeg, evl]
  simp only [thenK]
  refine Sat.ret ?_
  simp only [Tryd.results39, evr, id, reduceCtorEq, reduceIte, Nat.reduceMul, Nat.reduceAdd, Nat.reduceLT, Nat.reduceLeDiff, Nat.reduceEqDiff, Int.reduceLT, Int.reduceBEq, Int.reduceBNe, Nat.reduceBEq, List.append_nil, Int.toNat_zero, Nat.sub_self, Int.reduceNeg]

set_option maxRecDepth 100000 in
theorem rfCoversC (F : Frm) (p q : Prf) (hp : prOk p) (hq : prOk q) : Contract F Tryd.prog 40 [prS p, prS q] (fun r => r = .b (cov p q)) := by
  refine contract_of Tryd.func40 rfl (by kernel_rfl) ?_
  simp only [Tryd.ntmps40, argEnv, prS, prC]
  (repeat refine Sat.seq ?_)
  (refine Sat.region_k fun k hk => ?_; simp -implicitDefEqProofs only [evr, id, reduceCtorEq, reduceIte, Nat.reduceMul, Nat.reduceAdd, Nat.reduceLT, Nat.reduceLeDiff, Nat.reduceEqDiff, Int.reduceLT, Int.reduceBEq, Int.reduceBNe, Nat.reduceBEq, List.append_nil, Int.toNat_zero, Nat.sub_self, Int.reduceNeg])
  intro b1 b2
  (refine hk _ ?_; clear hk k; try show Sat _ _ _ _ _)
  have hB : ∃ lo hi : Nat, ∃ er : Int, bndS q = tupL [.agg 2 fun j => [SV.i .u32 lo, .i .u32 hi].getD j default, .i .i64 er] ∧ lo < 2 ^ 32 ∧ hi < 2 ^ 32 ∧ cov p q = ((er == 0) && (cont p lo && cont p hi)) := by
    unfold bndS
    split
    · rename_i h
      have hh := high_lt hq h
      have hpp := Nat.two_pow_pos q.k
      refine ⟨_, _, _, rfl, hq, by unfold Prf.high; omega, ?_⟩
      unfold cov
      rw [cov_ends h, h]
      rfl
    · rename_i h
      refine ⟨0, 0, _, rfl, by decide, by decide, ?_⟩
      unfold cov
      rw [Bool.eq_false_iff.2 h]
      rfl
  obtain ⟨lo, hi, er, hB1, hlo, hhi, hB2⟩ := hB
  (repeat refine Sat.seq ?_)
  (refine Sat.region_k fun k hk => ?_; simp -implicitDefEqProofs only [evr, id, reduceCtorEq, reduceIte, Nat.reduceMul, Nat.reduceAdd, Nat.reduceLT, Nat.reduceLeDiff, Nat.reduceEqDiff, Int.reduceLT, Int.reduceBEq, Int.reduceBNe, Nat.reduceBEq, List.append_nil, Int.toNat_zero, Nat.sub_self, Int.reduceNeg])
  refine wcall_slice (rfBoundsC F q hq) rfl (by simp only [prS, prC, evr, id, reduceCtorEq, reduceIte, Nat.reduceMul, Nat.reduceAdd, Nat.reduceLT, Nat.reduceLeDiff, Nat.reduceEqDiff, Int.reduceLT, Int.reduceBEq, Int.reduceBNe, Nat.reduceBEq, List.append_nil, Int.toNat_zero, Nat.sub_self, Int.reduceNeg]; try rfl) ?_
  rintro r rfl
  rw [hB1]
  simp -implicitDefEqProofs only [evr, id, reduceCtorEq, reduceIte, Nat.reduceMul, Nat.reduceAdd, Nat.reduceLT, Nat.reduceLeDiff, Nat.reduceEqDiff, Int.reduceLT, Int.reduceBEq, Int.reduceBNe, Nat.reduceBEq, List.append_nil, Int.toNat_zero, Nat.sub_self, Int.reduceNeg]
  intro b3
  (refine hk _ ?_; clear hk k; try show Sat _ _ _ _ _)
  refine Sat.seq ?_
  refine Sat.region_at ⟨26, [(4, .b (cov p q))], []⟩ (fun k hk => ?_) ?_
  · simp -implicitDefEqProofs only [evr, id, reduceCtorEq, reduceIte, Nat.reduceMul, Nat.reduceAdd, Nat.reduceLT, Nat.reduceLeDiff, Nat.reduceEqDiff, Int.reduceLT, Int.reduceBEq, Int.reduceBNe, Nat.reduceBEq, List.append_nil, Int.toNat_zero, Nat.sub_self, Int.reduceNeg, beq_iff_eq]
    refine ⟨fun h1 => ?_, fun h1 => ?_⟩
    · refine wcall_plain (rfContainsC F p hp lo hlo) (by simp only [prS, prC, evr, id, reduceCtorEq, reduceIte, Nat.reduceMul, Nat.reduceAdd, Nat.reduceLT, Nat.reduceLeDiff, Nat.reduceEqDiff, Int.reduceLT, Int.reduceBEq, Int.reduceBNe, Nat.reduceBEq, List.append_nil, Int.toNat_zero, Nat.sub_self, Int.reduceNeg]; try rfl) (by rintro _ rfl; exact ok_plain rfl) ?_
      rintro r rfl
      simp -implicitDefEqProofs only [evr, id, reduceCtorEq, reduceIte, Nat.reduceMul, Nat.reduceAdd, Nat.reduceLT, Nat.reduceLeDiff, Nat.reduceEqDiff, Int.reduceLT, Int.reduceBEq, Int.reduceBNe, Nat.reduceBEq, List.append_nil, Int.toNat_zero, Nat.sub_self, Int.reduceNeg]
      refine ⟨fun h2 => ?_, fun h2 => ?_⟩
      · refine wcall_plain (rfContainsC F p hp hi hhi) (by simp only [prS, prC, evr, id, reduceCtorEq, reduceIte, Nat.reduceMul, Nat.reduceAdd, Nat.reduceLT, Nat.reduceLeDiff, Nat.reduceEqDiff, Int.reduceLT, Int.reduceBEq, Int.reduceBNe, Nat.reduceBEq, List.append_nil, Int.toNat_zero, Nat.sub_self, Int.reduceNeg]; try rfl) (by rintro _ rfl; exact ok_plain rfl) ?_
        rintro r rfl
        simp -implicitDefEqProofs only [evr, id, reduceCtorEq, reduceIte, Nat.reduceMul, Nat.reduceAdd, Nat.reduceLT, Nat.reduceLeDiff, Nat.reduceEqDiff, Int.reduceLT, Int.reduceBEq, Int.reduceBNe, Nat.reduceBEq, List.append_nil, Int.toNat_zero, Nat.sub_self, Int.reduceNeg]
        refine hk _ ?_
        have e : cov p q = cont p hi := by rw [hB2, h1, h2]; simp
        simp only [e]
        simp -implicitDefEqProofs only [evr, id, reduceCtorEq, reduceIte, Nat.reduceMul, Nat.reduceAdd, Nat.reduceLT, Nat.reduceLeDiff, Nat.reduceEqDiff, Int.reduceLT, Int.reduceBEq, Int.reduceBNe, Nat.reduceBEq, List.append_nil, Int.toNat_zero, Nat.sub_self, Int.reduceNeg, evl]
      · refine hk _ ?_
        have e : cov p q = false := by rw [hB2, h2]; simp
        simp only [e]
        simp -implicitDefEqProofs only [evr, id, reduceCtorEq, reduceIte, Nat.reduceMul, Nat.reduceAdd, Nat.reduceLT, Nat.reduceLeDiff, Nat.reduceEqDiff, Int.reduceLT, Int.reduceBEq, Int.reduceBNe, Nat.reduceBEq, List.append_nil, Int.toNat_zero, Nat.sub_self, Int.reduceNeg, evl]
    · refine hk _ ?_
      have e : cov p q = false := by rw [hB2]; simp [h1]
      simp only [e]
      simp -implicitDefEqProofs only [evr, id, reduceCtorEq, reduceIte, Nat.reduceMul, Nat.reduceAdd, Nat.reduceLT, Nat.reduceLeDiff, Nat.reduceEqDiff, Int.reduceLT, Int.reduceBEq, Int.reduceBNe, Nat.reduceBEq, List.append_nil, Int.toNat_zero, Nat.sub_self, Int.reduceNeg, evl]
  simp only [thenK]
  refine Sat.ret ?_
  simp only [Tryd.results40, evr, id, reduceCtorEq, reduceIte, Nat.reduceMul, Nat.reduceAdd, Nat.reduceLT, Nat.reduceLeDiff, Nat.reduceEqDiff, Int.reduceLT, Int.reduceBEq, Int.reduceBNe, Nat.reduceBEq, List.append_nil, Int.toNat_zero, Nat.sub_self, Int.reduceNeg]

set_option maxRecDepth 100000 in
theorem orderC (F : Frm) (a b : Int) : Contract F Tryd.prog 59 [.i .i64 a, .i .i64 b] (fun r => r = .i .i64 (ordI a b)) := by
  refine contract_of Tryd.func59 rfl (by kernel_rfl) ?_
  simp only [Tryd.ntmps59, argEnv]
  (repeat refine Sat.seq ?_)
  (refine Sat.region_k fun k hk => ?_; simp -implicitDefEqProofs only [evr, id, reduceCtorEq, reduceIte, Nat.reduceMul, Nat.reduceAdd, Nat.reduceLT, Nat.reduceLeDiff, Nat.reduceEqDiff, Int.reduceLT, Int.reduceBEq, Int.reduceBNe, Nat.reduceBEq, List.append_nil, Int.toNat_zero, Nat.sub_self, Int.reduceNeg]; refine hk _ ?_; clear hk k; try show Sat _ _ _ _ _)
  (repeat refine Sat.seq ?_)
  (refine Sat.region_k fun k hk => ?_; simp -implicitDefEqProofs only [evr, id, reduceCtorEq, reduceIte, Nat.reduceMul, Nat.reduceAdd, Nat.reduceLT, Nat.reduceLeDiff, Nat.reduceEqDiff, Int.reduceLT, Int.reduceBEq, Int.reduceBNe, Nat.reduceBEq, List.append_nil, Int.toNat_zero, Nat.sub_self, Int.reduceNeg]; refine hk _ ?_; clear hk k; try show Sat _ _ _ _ _)
  (repeat refine Sat.seq ?_)
  refine Sat.cond_b rfl (fun h => ?_) (fun h => ?_)
  · simp only [decide_eq_true_eq] at h
    (repeat refine Sat.seq ?_)
    (refine Sat.region_k fun k hk => ?_; simp -implicitDefEqProofs only [evr, id, reduceCtorEq, reduceIte, Nat.reduceMul, Nat.reduceAdd, Nat.reduceLT, Nat.reduceLeDiff, Nat.reduceEqDiff, Int.reduceLT, Int.reduceBEq, Int.reduceBNe, Nat.reduceBEq, List.append_nil, Int.toNat_zero, Nat.sub_self, Int.reduceNeg]; refine hk _ ?_; clear hk k; try show Sat _ _ _ _ _)
    refine Sat.ret ?_
    simp only [Tryd.results59, evr, id, reduceCtorEq, reduceIte, Nat.reduceMul, Nat.reduceAdd, Nat.reduceLT, Nat.reduceLeDiff, Nat.reduceEqDiff, Int.reduceLT, Int.reduceBEq, Int.reduceBNe, Nat.reduceBEq, List.append_nil, Int.toNat_zero, Nat.sub_self, Int.reduceNeg]
    rw [ordI, if_pos h]
  · simp only [decide_eq_false_iff_not] at h
    refine Sat.skip ?_
    simp only [thenK]
    (repeat refine Sat.seq ?_)
    (refine Sat.region_k fun k hk => ?_; simp -implicitDefEqProofs only [evr, id, reduceCtorEq, reduceIte, Nat.reduceMul, Nat.reduceAdd, Nat.reduceLT, Nat.reduceLeDiff, Nat.reduceEqDiff, Int.reduceLT, Int.reduceBEq, Int.reduceBNe, Nat.reduceBEq, List.append_nil, Int.toNat_zero, Nat.sub_self, Int.reduceNeg]; refine hk _ ?_; clear hk k; try show Sat _ _ _ _ _)
    (repeat refine Sat.seq ?_)
    refine Sat.cond_b rfl (fun h1 => ?_) (fun h1 => ?_)
    · simp only [decide_eq_true_eq] at h1
      (repeat refine Sat.seq ?_)
      (refine Sat.region_k fun k hk => ?_; simp -implicitDefEqProofs only [evr, id, reduceCtorEq, reduceIte, Nat.reduceMul, Nat.reduceAdd, Nat.reduceLT, Nat.reduceLeDiff, Nat.reduceEqDiff, Int.reduceLT, Int.reduceBEq, Int.reduceBNe, Nat.reduceBEq, List.append_nil, Int.toNat_zero, Nat.sub_self, Int.reduceNeg]; refine hk _ ?_; clear hk k; try show Sat _ _ _ _ _)
      refine Sat.ret ?_
      simp only [Tryd.results59, evr, id, reduceCtorEq, reduceIte, Nat.reduceMul, Nat.reduceAdd, Nat.reduceLT, Nat.reduceLeDiff, Nat.reduceEqDiff, Int.reduceLT, Int.reduceBEq, Int.reduceBNe, Nat.reduceBEq, List.append_nil, Int.toNat_zero, Nat.sub_self, Int.reduceNeg]
      rw [ordI, if_neg h, if_pos h1]
    · simp only [decide_eq_false_iff_not] at h1
      refine Sat.skip ?_
      simp only [thenK]
      (repeat refine Sat.seq ?_)
      (refine Sat.region_k fun k hk => ?_; simp -implicitDefEqProofs only [evr, id, reduceCtorEq, reduceIte, Nat.reduceMul, Nat.reduceAdd, Nat.reduceLT, Nat.reduceLeDiff, Nat.reduceEqDiff, Int.reduceLT, Int.reduceBEq, Int.reduceBNe, Nat.reduceBEq, List.append_nil, Int.toNat_zero, Nat.sub_self, Int.reduceNeg]; refine hk _ ?_; clear hk k; try show Sat _ _ _ _ _)
      refine Sat.ret ?_
      simp only [Tryd.results59, evr, id, reduceCtorEq, reduceIte, Nat.reduceMul, Nat.reduceAdd, Nat.reduceLT, Nat.reduceLeDiff, Nat.reduceEqDiff, Int.reduceLT, Int.reduceBEq, Int.reduceBNe, Nat.reduceBEq, List.append_nil, Int.toNat_zero, Nat.sub_self, Int.reduceNeg]
      rw [ordI, if_neg h, if_neg h1]

set_option maxRecDepth 100000 in
theorem isNaNAdC (F : Frm) (a : Int) : Contract F Tryd.prog 68 [.i .u32 a] (fun r => r = .b false) := by
  refine contract_of Tryd.func68 rfl (by kernel_rfl) ?_
  simp only [Tryd.ntmps68, argEnv]
  (repeat refine Sat.seq ?_)
  (refine Sat.region_k fun k hk => ?_; simp -implicitDefEqProofs only [evr, id, reduceCtorEq, reduceIte, Nat.reduceMul, Nat.reduceAdd, Nat.reduceLT, Nat.reduceLeDiff, Nat.reduceEqDiff, Int.reduceLT, Int.reduceBEq, Int.reduceBNe, Nat.reduceBEq, List.append_nil, Int.toNat_zero, Nat.sub_self, Int.reduceNeg]; refine hk _ ?_; clear hk k; try show Sat _ _ _ _ _)
  (repeat refine Sat.seq ?_)
  (refine Sat.region_k fun k hk => ?_; simp -implicitDefEqProofs only [evr, id, reduceCtorEq, reduceIte, Nat.reduceMul, Nat.reduceAdd, Nat.reduceLT, Nat.reduceLeDiff, Nat.reduceEqDiff, Int.reduceLT, Int.reduceBEq, Int.reduceBNe, Nat.reduceBEq, List.append_nil, Int.toNat_zero, Nat.sub_self, Int.reduceNeg]; refine hk _ ?_; clear hk k; try show Sat _ _ _ _ _)
  refine Sat.ret ?_
  simp only [Tryd.results68, evr, id, reduceCtorEq, reduceIte, Nat.reduceMul, Nat.reduceAdd, Nat.reduceLT, Nat.reduceLeDiff, Nat.reduceEqDiff, Int.reduceLT, Int.reduceBEq, Int.reduceBNe, Nat.reduceBEq, List.append_nil, Int.toNat_zero, Nat.sub_self, Int.reduceNeg]

set_option maxRecDepth 100000 in
theorem cmpAdC (F : Frm) (a b : Int) : Contract F Tryd.prog 57 [.i .u32 a, .i .u32 b] (fun r => r = .i .i64 (ordI a b)) := by
  refine contract_of Tryd.func57 rfl (by kernel_rfl) ?_
  simp only [Tryd.ntmps57, argEnv]
  (repeat refine Sat.seq ?_)
  (refine Sat.region_k fun k hk => ?_; simp -implicitDefEqProofs only [evr, id, reduceCtorEq, reduceIte, Nat.reduceMul, Nat.reduceAdd, Nat.reduceLT, Nat.reduceLeDiff, Nat.reduceEqDiff, Int.reduceLT, Int.reduceBEq, Int.reduceBNe, Nat.reduceBEq, List.append_nil, Int.toNat_zero, Nat.sub_self, Int.reduceNeg]; refine hk _ ?_; clear hk k; try show Sat _ _ _ _ _)
  (repeat refine Sat.seq ?_)
  (refine Sat.region_k fun k hk => ?_; simp -implicitDefEqProofs only [evr, id, reduceCtorEq, reduceIte, Nat.reduceMul, Nat.reduceAdd, Nat.reduceLT, Nat.reduceLeDiff, Nat.reduceEqDiff, Int.reduceLT, Int.reduceBEq, Int.reduceBNe, Nat.reduceBEq, List.append_nil, Int.toNat_zero, Nat.sub_self, Int.reduceNeg])
  refine wcall_plain (isNaNAdC F a) rfl (by rintro _ rfl; exact ok_plain rfl) ?_
  rintro r rfl
  simp -implicitDefEqProofs only [evr, id, reduceCtorEq, reduceIte, Nat.reduceMul, Nat.reduceAdd, Nat.reduceLT, Nat.reduceLeDiff, Nat.reduceEqDiff, Int.reduceLT, Int.reduceBEq, Int.reduceBNe, Nat.reduceBEq, List.append_nil, Int.toNat_zero, Nat.sub_self, Int.reduceNeg]
  (refine hk _ ?_; clear hk k; try show Sat _ _ _ _ _)
  (repeat refine Sat.seq ?_)
  (refine Sat.region_k fun k hk => ?_; simp -implicitDefEqProofs only [evr, id, reduceCtorEq, reduceIte, Nat.reduceMul, Nat.reduceAdd, Nat.reduceLT, Nat.reduceLeDiff, Nat.reduceEqDiff, Int.reduceLT, Int.reduceBEq, Int.reduceBNe, Nat.reduceBEq, List.append_nil, Int.toNat_zero, Nat.sub_self, Int.reduceNeg])
  refine wcall_plain (isNaNAdC F b) rfl (by rintro _ rfl; exact ok_plain rfl) ?_
  rintro r rfl
  simp -implicitDefEqProofs only [evr, id, reduceCtorEq, reduceIte, Nat.reduceMul, Nat.reduceAdd, Nat.reduceLT, Nat.reduceLeDiff, Nat.reduceEqDiff, Int.reduceLT, Int.reduceBEq, Int.reduceBNe, Nat.reduceBEq, List.append_nil, Int.toNat_zero, Nat.sub_self, Int.reduceNeg]
  (refine hk _ ?_; clear hk k; try show Sat _ _ _ _ _)
  (repeat refine Sat.seq ?_)
  (refine Sat.region_k fun k hk => ?_; simp -implicitDefEqProofs only [evr, id, reduceCtorEq, reduceIte, Nat.reduceMul, Nat.reduceAdd, Nat.reduceLT, Nat.reduceLeDiff, Nat.reduceEqDiff, Int.reduceLT, Int.reduceBEq, Int.reduceBNe, Nat.reduceBEq, List.append_nil, Int.toNat_zero, Nat.sub_self, Int.reduceNeg]; refine hk _ ?_; clear hk k; try show Sat _ _ _ _ _)
  (repeat refine Sat.seq ?_)
  refine Sat.cond_b rfl (fun h => absurd h (by decide)) (fun _ => ?_)
  refine Sat.skip ?_
  simp only [thenK]
  (repeat refine Sat.seq ?_)
  (refine Sat.region_k fun k hk => ?_; simp -implicitDefEqProofs only [evr, id, reduceCtorEq, reduceIte, Nat.reduceMul, Nat.reduceAdd, Nat.reduceLT, Nat.reduceLeDiff, Nat.reduceEqDiff, Int.reduceLT, Int.reduceBEq, Int.reduceBNe, Nat.reduceBEq, List.append_nil, Int.toNat_zero, Nat.sub_self, Int.reduceNeg]; refine hk _ ?_; clear hk k; try show Sat _ _ _ _ _)
  (repeat refine Sat.seq ?_)
  refine Sat.cond_b rfl (fun h => absurd h (by decide)) (fun _ => ?_)
  refine Sat.skip ?_
  simp only [thenK]
  (repeat refine Sat.seq ?_)
  (refine Sat.region_k fun k hk => ?_; simp -implicitDefEqProofs only [evr, id, reduceCtorEq, reduceIte, Nat.reduceMul, Nat.reduceAdd, Nat.reduceLT, Nat.reduceLeDiff, Nat.reduceEqDiff, Int.reduceLT, Int.reduceBEq, Int.reduceBNe, Nat.reduceBEq, List.append_nil, Int.toNat_zero, Nat.sub_self, Int.reduceNeg]; refine hk _ ?_; clear hk k; try show Sat _ _ _ _ _)
  (repeat refine Sat.seq ?_)
  refine Sat.cond_b rfl (fun h => ?_) (fun h => ?_)
  · simp only [decide_eq_true_eq] at h
    (repeat refine Sat.seq ?_)
    (refine Sat.region_k fun k hk => ?_; simp -implicitDefEqProofs only [evr, id, reduceCtorEq, reduceIte, Nat.reduceMul, Nat.reduceAdd, Nat.reduceLT, Nat.reduceLeDiff, Nat.reduceEqDiff, Int.reduceLT, Int.reduceBEq, Int.reduceBNe, Nat.reduceBEq, List.append_nil, Int.toNat_zero, Nat.sub_self, Int.reduceNeg]; refine hk _ ?_; clear hk k; try show Sat _ _ _ _ _)
    refine Sat.ret ?_
    simp only [Tryd.results57, evr, id, reduceCtorEq, reduceIte, Nat.reduceMul, Nat.reduceAdd, Nat.reduceLT, Nat.reduceLeDiff, Nat.reduceEqDiff, Int.reduceLT, Int.reduceBEq, Int.reduceBNe, Nat.reduceBEq, List.append_nil, Int.toNat_zero, Nat.sub_self, Int.reduceNeg]
    rw [ordI, if_pos h]
  · simp only [decide_eq_false_iff_not] at h
    refine Sat.skip ?_
    simp only [thenK]
    (repeat refine Sat.seq ?_)
    (refine Sat.region_k fun k hk => ?_; simp -implicitDefEqProofs only [evr, id, reduceCtorEq, reduceIte, Nat.reduceMul, Nat.reduceAdd, Nat.reduceLT, Nat.reduceLeDiff, Nat.reduceEqDiff, Int.reduceLT, Int.reduceBEq, Int.reduceBNe, Nat.reduceBEq, List.append_nil, Int.toNat_zero, Nat.sub_self, Int.reduceNeg]; refine hk _ ?_; clear hk k; try show Sat _ _ _ _ _)
    (repeat refine Sat.seq ?_)
    refine Sat.cond_b rfl (fun h1 => ?_) (fun h1 => ?_)
    · simp only [decide_eq_true_eq] at h1
      (repeat refine Sat.seq ?_)
      (refine Sat.region_k fun k hk => ?_; simp -implicitDefEqProofs only [evr, id, reduceCtorEq, reduceIte, Nat.reduceMul, Nat.reduceAdd, Nat.reduceLT, Nat.reduceLeDiff, Nat.reduceEqDiff, Int.reduceLT, Int.reduceBEq, Int.reduceBNe, Nat.reduceBEq, List.append_nil, Int.toNat_zero, Nat.sub_self, Int.reduceNeg]; refine hk _ ?_; clear hk k; try show Sat _ _ _ _ _)
      refine Sat.ret ?_
      simp only [Tryd.results57, evr, id, reduceCtorEq, reduceIte, Nat.reduceMul, Nat.reduceAdd, Nat.reduceLT, Nat.reduceLeDiff, Nat.reduceEqDiff, Int.reduceLT, Int.reduceBEq, Int.reduceBNe, Nat.reduceBEq, List.append_nil, Int.toNat_zero, Nat.sub_self, Int.reduceNeg]
      rw [ordI, if_neg h, if_pos h1]
    · simp only [decide_eq_false_iff_not] at h1
      refine Sat.skip ?_
      simp only [thenK]
      (repeat refine Sat.seq ?_)
      (refine Sat.region_k fun k hk => ?_; simp -implicitDefEqProofs only [evr, id, reduceCtorEq, reduceIte, Nat.reduceMul, Nat.reduceAdd, Nat.reduceLT, Nat.reduceLeDiff, Nat.reduceEqDiff, Int.reduceLT, Int.reduceBEq, Int.reduceBNe, Nat.reduceBEq, List.append_nil, Int.toNat_zero, Nat.sub_self, Int.reduceNeg]; refine hk _ ?_; clear hk k; try show Sat _ _ _ _ _)
      refine Sat.ret ?_
      simp only [Tryd.results57, evr, id, reduceCtorEq, reduceIte, Nat.reduceMul, Nat.reduceAdd, Nat.reduceLT, Nat.reduceLeDiff, Nat.reduceEqDiff, Int.reduceLT, Int.reduceBEq, Int.reduceBNe, Nat.reduceBEq, List.append_nil, Int.toNat_zero, Nat.sub_self, Int.reduceNeg]
      rw [ordI, if_neg h, if_neg h1]


/-- the order of prefixes -/
def cmpP (p q : Prf) : Int := orL [ordI p.addr q.addr, ordI p.len q.len]
theorem cmpP_eq (p q : Prf) : cmpP p q = if p.addr ≠ q.addr then ordI p.addr q.addr else ordI p.len q.len := by
  unfold cmpP orL orL orL ordI
  repeat' split
  all_goals omega
set_option maxRecDepth 100000 in
theorem rfCompareC (F : Frm) (p q : Prf) (hp : prOk p) (hq : prOk q) : Contract F Tryd.prog 42 [prS p, prS q] (fun r => r = .i .i64 (cmpP p q)) := by
  have hp2 := u32_64 hp
  have hq2 := u32_64 hq
  refine contract_of Tryd.func42 rfl (by kernel_rfl) ?_
  simp only [Tryd.ntmps42, argEnv, prS, prC]
  (repeat refine Sat.seq ?_)
  (refine Sat.region_k fun k hk => ?_; simp -implicitDefEqProofs only [evr, id, reduceCtorEq, reduceIte, Nat.reduceMul, Nat.reduceAdd, Nat.reduceLT, Nat.reduceLeDiff, Nat.reduceEqDiff, Int.reduceLT, Int.reduceBEq, Int.reduceBNe, Nat.reduceBEq, List.append_nil, Int.toNat_zero, Nat.sub_self, Int.reduceNeg])
  intro b1 b2
  (refine hk _ ?_; clear hk k; try show Sat _ _ _ _ _)
  (repeat refine Sat.seq ?_)
  (refine Sat.region_k fun k hk => ?_; simp -implicitDefEqProofs only [evr, id, reduceCtorEq, reduceIte, Nat.reduceMul, Nat.reduceAdd, Nat.reduceLT, Nat.reduceLeDiff, Nat.reduceEqDiff, Int.reduceLT, Int.reduceBEq, Int.reduceBNe, Nat.reduceBEq, List.append_nil, Int.toNat_zero, Nat.sub_self, Int.reduceNeg]; refine hk _ ?_; clear hk k; try show Sat _ _ _ _ _)
  (repeat refine Sat.seq ?_)
  refine Sat.cond_b rfl (fun h => ?_) (fun h => ?_)
  · have hn : p.addr ≠ q.addr := by
      have : ¬ (p.addr : Int) = q.addr := by simpa using h
      omega
    (repeat refine Sat.seq ?_)
    refine Sat.region_k fun k hk => ?_
    simp -implicitDefEqProofs only [evr, id, reduceCtorEq, reduceIte, Nat.reduceMul, Nat.reduceAdd, Nat.reduceLT, Nat.reduceLeDiff, Nat.reduceEqDiff, Int.reduceLT, Int.reduceBEq, Int.reduceBNe, Nat.reduceBEq, List.append_nil, Int.toNat_zero, Nat.sub_self, Int.reduceNeg, hp2, hq2]
    refine wcall_plain (orderC F p.addr q.addr) rfl (by rintro _ rfl; exact ok_plain rfl) ?_
    rintro r rfl
    simp -implicitDefEqProofs only [evr, id, reduceCtorEq, reduceIte, Nat.reduceMul, Nat.reduceAdd, Nat.reduceLT, Nat.reduceLeDiff, Nat.reduceEqDiff, Int.reduceLT, Int.reduceBEq, Int.reduceBNe, Nat.reduceBEq, List.append_nil, Int.toNat_zero, Nat.sub_self, Int.reduceNeg]
    (refine hk _ ?_; clear hk k; try show Sat _ _ _ _ _)
    refine Sat.ret ?_
    simp only [Tryd.results42, evr, id, reduceCtorEq, reduceIte, Nat.reduceMul, Nat.reduceAdd, Nat.reduceLT, Nat.reduceLeDiff, Nat.reduceEqDiff, Int.reduceLT, Int.reduceBEq, Int.reduceBNe, Nat.reduceBEq, List.append_nil, Int.toNat_zero, Nat.sub_self, Int.reduceNeg]
    rw [cmpP_eq, if_pos hn]
  · have hn : p.addr = q.addr := by
      have : (p.addr : Int) = q.addr := by simpa using h
      omega
    refine Sat.skip ?_
    simp only [thenK]
    (repeat refine Sat.seq ?_)
    (refine Sat.region_k fun k hk => ?_; simp -implicitDefEqProofs only [evr, id, reduceCtorEq, reduceIte, Nat.reduceMul, Nat.reduceAdd, Nat.reduceLT, Nat.reduceLeDiff, Nat.reduceEqDiff, Int.reduceLT, Int.reduceBEq, Int.reduceBNe, Nat.reduceBEq, List.append_nil, Int.toNat_zero, Nat.sub_self, Int.reduceNeg])
    refine wcall_plain (orderC F p.len q.len) rfl (by rintro _ rfl; exact ok_plain rfl) ?_
    rintro r rfl
    simp -implicitDefEqProofs only [evr, id, reduceCtorEq, reduceIte, Nat.reduceMul, Nat.reduceAdd, Nat.reduceLT, Nat.reduceLeDiff, Nat.reduceEqDiff, Int.reduceLT, Int.reduceBEq, Int.reduceBNe, Nat.reduceBEq, List.append_nil, Int.toNat_zero, Nat.sub_self, Int.reduceNeg]
    (refine hk _ ?_; clear hk k; try show Sat _ _ _ _ _)
    refine Sat.ret ?_
    simp only [Tryd.results42, evr, id, reduceCtorEq, reduceIte, Nat.reduceMul, Nat.reduceAdd, Nat.reduceLT, Nat.reduceLeDiff, Nat.reduceEqDiff, Int.reduceLT, Int.reduceBEq, Int.reduceBNe, Nat.reduceBEq, List.append_nil, Int.toNat_zero, Nat.sub_self, Int.reduceNeg]
    rw [cmpP_eq, if_neg (by simp [hn])]

set_option maxRecDepth 100000 in
theorem adCompareC (F : Frm) (p q : Prf) : Contract F Tryd.prog 41 [prS p, prS q] (fun r => r = .i .i64 (cmpP p q)) := by
  refine contract_of Tryd.func41 rfl (by kernel_rfl) ?_
  simp only [Tryd.ntmps41, argEnv, prS, prC]
  (repeat refine Sat.seq ?_)
  (refine Sat.region_k fun k hk => ?_; simp -implicitDefEqProofs only [evr, id, reduceCtorEq, reduceIte, Nat.reduceMul, Nat.reduceAdd, Nat.reduceLT, Nat.reduceLeDiff, Nat.reduceEqDiff, Int.reduceLT, Int.reduceBEq, Int.reduceBNe, Nat.reduceBEq, List.append_nil, Int.toNat_zero, Nat.sub_self, Int.reduceNeg])
  intro b1 b2
  (refine hk _ ?_; clear hk k; try show Sat _ _ _ _ _)
  (repeat refine Sat.seq ?_)
  (refine Sat.region_rows [⟨0, 6, 4, 0⟩, ⟨1, 7, 32, 1⟩, ⟨0, 8, 8, 0⟩, ⟨4, 9, 128, 1⟩, ⟨10, 10, 320, 2⟩, ⟨0, 11, 4, 0⟩, ⟨32, 12, 1024, 1⟩, ⟨0, 13, 8, 0⟩, ⟨128, 14, 4096, 1⟩, ⟨336, 15, 10240, 2⟩, ⟨528, 16, 16896, 2⟩, ⟨1536, 17, 32768, 2⟩, ⟨4095, 5, 65536, 0⟩] [0, 2, 5, 7, 1, 3, 6, 8] [(4, false), (9, false), (10, false), (11, false), (12, false)] [4] (by kernel_rfl) (by kernel_rfl) (fun _ _ h => h) fun k hk => ?_; simp only [List.map_cons, List.map_nil, List.getD_cons_zero, List.getD_cons_succ, btseq_cons, btseq_free, btseq_nil]; simp -implicitDefEqProofs only [evr, id, reduceCtorEq, reduceIte, Nat.reduceMul, Nat.reduceAdd, Nat.reduceLT, Nat.reduceLeDiff, Nat.reduceEqDiff, Int.reduceLT, Int.reduceBEq, Int.reduceBNe, Nat.reduceBEq, List.append_nil, Int.toNat_zero, Nat.sub_self, Int.reduceNeg])
  refine wcall_plain (cmpAdC F p.addr q.addr) rfl (by rintro _ rfl; exact ok_plain rfl) ?_
  rintro r rfl
  simp -implicitDefEqProofs only [evr, id, reduceCtorEq, reduceIte, Nat.reduceMul, Nat.reduceAdd, Nat.reduceLT, Nat.reduceLeDiff, Nat.reduceEqDiff, Int.reduceLT, Int.reduceBEq, Int.reduceBNe, Nat.reduceBEq, List.append_nil, Int.toNat_zero, Nat.sub_self, Int.reduceNeg]
  refine wcall_plain (cmpC F p.len q.len) rfl (by rintro _ rfl; exact ok_plain rfl) ?_
  rintro r rfl
  simp -implicitDefEqProofs only [evr, id, reduceCtorEq, reduceIte, Nat.reduceMul, Nat.reduceAdd, Nat.reduceLT, Nat.reduceLeDiff, Nat.reduceEqDiff, Int.reduceLT, Int.reduceBEq, Int.reduceBNe, Nat.reduceBEq, List.append_nil, Int.toNat_zero, Nat.sub_self, Int.reduceNeg]
  intro blk3
  refine wcall_plain (orC F (some ⟨blk3, 0, none⟩) 2 [ordI p.addr q.addr, ordI p.len q.len] (by simp)) (by simp -implicitDefEqProofs only [evr, id, reduceCtorEq, reduceIte, Nat.reduceMul, Nat.reduceAdd, Nat.reduceLT, Nat.reduceLeDiff, Nat.reduceEqDiff, Int.reduceLT, Int.reduceBEq, Int.reduceBNe, Nat.reduceBEq, List.append_nil, Int.toNat_zero, Nat.sub_self, Int.reduceNeg, intsRd]) (by rintro _ rfl; exact ok_plain rfl) ?_
  rintro r rfl
  simp -implicitDefEqProofs only [evr, id, reduceCtorEq, reduceIte, Nat.reduceMul, Nat.reduceAdd, Nat.reduceLT, Nat.reduceLeDiff, Nat.reduceEqDiff, Int.reduceLT, Int.reduceBEq, Int.reduceBNe, Nat.reduceBEq, List.append_nil, Int.toNat_zero, Nat.sub_self, Int.reduceNeg]
  (refine hk _ ?_; clear hk k; try show Sat _ _ _ _ _)
  refine Sat.ret ?_
  simp only [Tryd.results41, evr, id, reduceCtorEq, reduceIte, Nat.reduceMul, Nat.reduceAdd, Nat.reduceLT, Nat.reduceLeDiff, Nat.reduceEqDiff, Int.reduceLT, Int.reduceBEq, Int.reduceBNe, Nat.reduceBEq, List.append_nil, Int.toNat_zero, Nat.sub_self, Int.reduceNeg]
  rfl

theorem nat_i64 {x : Nat} (h : x < 2 ^ 63) : IntKind.i64.wrap (x : Int) = x := w64 (by omega)
theorem comP_at {a b n : Nat} (ha : a < 2 ^ 32) (hb : b < 2 ^ 32) (hn : n ≤ 32) (h1 : a / 2 ^ (32 - n) = b / 2 ^ (32 - n)) (h2 : ∀ m, n < m → m ≤ 32 → a / 2 ^ (32 - m) ≠ b / 2 ^ (32 - m)) : comP a b = ⟨a / 2 ^ (32 - n) * 2 ^ (32 - n), n⟩ := by
  have hk : a / 2 ^ 32 = b / 2 ^ 32 := by omega
  have e : comK a b 32 = 32 - n := comK_unique hk (by omega) h1 fun j hj e => h2 (32 - j) (by omega) (by omega) (by rw [show 32 - (32 - j) = j by omega]; exact e)
  unfold comP
  rw [e]
  congr 1
  omega
set_option maxRecDepth 100000 in
theorem rfCommonC (F : Frm) (a b : Nat) (ha : a < 2 ^ 32) (hb : b < 2 ^ 32) : Contract F Tryd.prog 43 [.i .u32 a, .i .u32 b] (fun r => r = prS (comP a b)) := by
  have ha2 := u32_64 ha
  refine contract_of Tryd.func43 rfl (by kernel_rfl) ?_
  simp only [Tryd.ntmps43, argEnv]
  (repeat refine Sat.seq ?_)
  (refine Sat.region_k fun k hk => ?_; simp -implicitDefEqProofs only [evr, id, reduceCtorEq, reduceIte, Nat.reduceMul, Nat.reduceAdd, Nat.reduceLT, Nat.reduceLeDiff, Nat.reduceEqDiff, Int.reduceLT, Int.reduceBEq, Int.reduceBNe, Nat.reduceBEq, List.append_nil, Int.toNat_zero, Nat.sub_self, Int.reduceNeg])
  intro b1
  (refine hk _ ?_; clear hk k; try show Sat _ _ _ _ _)
  (repeat refine Sat.seq ?_)
  (refine Sat.region_k fun k hk => ?_; simp -implicitDefEqProofs only [evr, id, reduceCtorEq, reduceIte, Nat.reduceMul, Nat.reduceAdd, Nat.reduceLT, Nat.reduceLeDiff, Nat.reduceEqDiff, Int.reduceLT, Int.reduceBEq, Int.reduceBNe, Nat.reduceBEq, List.append_nil, Int.toNat_zero, Nat.sub_self, Int.reduceNeg]; refine hk _ ?_; clear hk k; try show Sat _ _ _ _ _)
  (repeat refine Sat.seq ?_)
  refine Sat.block ?_
  refine Sat.loop (ι := Nat) (fun n => ⟨27, [(5, .i .i64 n), (4, .op 0 b1 0), (0, .i .u32 a), (1, .i .u32 b)], [.box b1 25 [.i .u32 0, .i .i64 0]]⟩)
    (fun n => n ≤ 32 ∧ ∀ m, n < m → m ≤ 32 → a / 2 ^ (32 - m) ≠ b / 2 ^ (32 - m)) (fun n => n) 32 ⟨Nat.le_refl _, fun m h1 h2 => by omega⟩ (by simp -implicitDefEqProofs only [evr, id, reduceCtorEq, reduceIte, Nat.reduceMul, Nat.reduceAdd, Nat.reduceLT, Nat.reduceLeDiff, Nat.reduceEqDiff, Int.reduceLT, Int.reduceBEq, Int.reduceBNe, Nat.reduceBEq, List.append_nil, Int.toNat_zero, Nat.sub_self, Int.reduceNeg, evl]; rfl) ?_
  rintro n ⟨hn, hnot⟩
  (repeat refine Sat.seq ?_)
  (refine Sat.region_k fun k hk => ?_; simp -implicitDefEqProofs only [evr, id, reduceCtorEq, reduceIte, Nat.reduceMul, Nat.reduceAdd, Nat.reduceLT, Nat.reduceLeDiff, Nat.reduceEqDiff, Int.reduceLT, Int.reduceBEq, Int.reduceBNe, Nat.reduceBEq, List.append_nil, Int.toNat_zero, Nat.sub_self, Int.reduceNeg]; refine hk _ ?_; clear hk k; try show Sat _ _ _ _ _)
  (repeat refine Sat.seq ?_)
  refine Sat.cond_b rfl (fun h => ?_) (fun h => ?_)
  · have h0 : 0 < n := by simp only [decide_eq_true_eq] at h; omega
    have hpp := Nat.two_pow_pos (32 - n)
    have hple : 2 ^ (32 - n) ≤ 2 ^ 32 := pow_le32 (by omega)
    have hle : a / 2 ^ (32 - n) * 2 ^ (32 - n) ≤ a := Nat.div_mul_le_self _ _
    have e1 : IntKind.i64.wrap (Int.tdiv (a : Int) ((2 ^ (32 - n) : Nat) : Int)) = ((a / 2 ^ (32 - n) : Nat) : Int) := by
      rw [Int.tdiv_eq_ediv_of_nonneg (Int.natCast_nonneg _), ← Int.natCast_ediv]
      exact nat_i64 (Nat.lt_of_le_of_lt (Nat.div_le_self _ _) (Nat.lt_trans ha (by decide)))
    have e2 : IntKind.i64.wrap (((a / 2 ^ (32 - n) : Nat) : Int) * ((2 ^ (32 - n) : Nat) : Int)) = ((a / 2 ^ (32 - n) * 2 ^ (32 - n) : Nat) : Int) := by
      rw [← Int.natCast_mul]
      exact nat_i64 (Nat.lt_of_le_of_lt hle (Nat.lt_trans ha (by decide)))
    have e3 : IntKind.u32.wrap ((a / 2 ^ (32 - n) * 2 ^ (32 - n) : Nat) : Int) = ((a / 2 ^ (32 - n) * 2 ^ (32 - n) : Nat) : Int) := w32u _ (Int.natCast_nonneg _) (by have := Nat.lt_of_le_of_lt hle ha; exact_mod_cast this)
    have e4 : IntKind.i64.wrap ((n : Int) - 1) = ((n - 1 : Nat) : Int) := by rw [w64 (by omega)]; omega
    refine Sat.skip ?_
    simp only [thenK]
    (repeat refine Sat.seq ?_)
    refine Sat.block ?_
    (repeat refine Sat.seq ?_)
    have hne : ((2 ^ (32 - n) : Nat) : Int) ≠ 0 := by omega
    refine Sat.join2 (ι := Nat) (fun blk => ⟨27, [(6, .op 1 blk 0), (5, .i .i64 n), (4, .op 0 b1 0), (0, .i .u32 a), (1, .i .u32 b)], [.box b1 25 [.i .u32 0, .i .i64 0], .box blk 25 [.i .u32 ((a / 2 ^ (32 - n) * 2 ^ (32 - n) : Nat) : Int), .i .i64 n]]⟩) (fun _ => True) (fun hrest => ?_) ?_
    · (refine Sat.region_tree (.keep [0, 2, 5, 9, 1] [3, 4, 6, 7, 11] (.alt 3 (.free 4 (.alt 6 (.free 7 (.alt 8 (.alt 10 (.one 11 (.one 12 .done)) (.alt 11 (.one 10 (.one 12 .done)) .none)) (.alt 11 (.one 8 (.one 10 (.one 12 .done))) .none))) (.alt 11 (.one 6 (.one 7 (.one 8 (.one 10 (.one 12 .done))))) .none))) (.alt 11 (.one 3 (.free 4 (.one 6 (.one 7 (.one 8 (.one 10 (.one 12 .done))))))) .none))) (by kernel_rfl) (by kernel_rfl) (fun _ _ h => h) fun k hk => ?_; simp only [WOT, List.map_cons, List.map_nil, List.getD_cons_zero, List.getD_cons_succ]; simp -implicitDefEqProofs only [evr, id, reduceCtorEq, reduceIte, Nat.reduceMul, Nat.reduceAdd, Nat.reduceLT, Nat.reduceLeDiff, Nat.reduceEqDiff, Int.reduceLT, Int.reduceBEq, Int.reduceBNe, Nat.reduceBEq, List.append_nil, Int.toNat_zero, Nat.sub_self, Int.reduceNeg, WOT])
      simp only [ha2]
      repeat' (first
        | (refine And.intro ?_ ?_)
        | (refine wcall_plain (sizeC F n (by omega) (by omega)) ?_ (by rintro _ rfl; exact ok_plain rfl) ?_; (focus (simp -implicitDefEqProofs only [evr, id, reduceCtorEq, reduceIte, Nat.reduceMul, Nat.reduceAdd, Nat.reduceLT, Nat.reduceLeDiff, Nat.reduceEqDiff, Int.reduceLT, Int.reduceBEq, Int.reduceBNe, Nat.reduceBEq, List.append_nil, Int.toNat_zero, Nat.sub_self, Int.reduceNeg]; try rfl)); rintro r rfl; simp -implicitDefEqProofs only [evr, id, reduceCtorEq, reduceIte, Nat.reduceMul, Nat.reduceAdd, Nat.reduceLT, Nat.reduceLeDiff, Nat.reduceEqDiff, Int.reduceLT, Int.reduceBEq, Int.reduceBNe, Nat.reduceBEq, List.append_nil, Int.toNat_zero, Nat.sub_self, Int.reduceNeg, Int.toNat_natCast, e1, e2, e3])
        | rfl
        | exact hne
        | intro blkA)
      all_goals
        refine hk _ ?_
        clear hk
        simp only [thenK]
        refine Sat.le (hrest blkA trivial) ?_
        simp -implicitDefEqProofs only [evr, id, reduceCtorEq, reduceIte, Nat.reduceMul, Nat.reduceAdd, Nat.reduceLT, Nat.reduceLeDiff, Nat.reduceEqDiff, Int.reduceLT, Int.reduceBEq, Int.reduceBNe, Nat.reduceBEq, List.append_nil, Int.toNat_zero, Nat.sub_self, Int.reduceNeg, evl]
        try rfl
    rintro blk _
    try simp only [thenK]
    (repeat refine Sat.seq ?_)
    (refine Sat.region_k fun k hk => ?_; simp -implicitDefEqProofs only [evr, id, reduceCtorEq, reduceIte, Nat.reduceMul, Nat.reduceAdd, Nat.reduceLT, Nat.reduceLeDiff, Nat.reduceEqDiff, Int.reduceLT, Int.reduceBEq, Int.reduceBNe, Nat.reduceBEq, List.append_nil, Int.toNat_zero, Nat.sub_self, Int.reduceNeg])
    have hpo : prOk ⟨a / 2 ^ (32 - n) * 2 ^ (32 - n), n⟩ := Nat.lt_of_le_of_lt hle ha
    have hv : vld ⟨a / 2 ^ (32 - n) * 2 ^ (32 - n), n⟩ = true := (cutP_ok ha hn).2
    have hkk : (Prf.mk (a / 2 ^ (32 - n) * 2 ^ (32 - n)) n).k = 32 - n := by unfold Prf.k; simp only; omega
    have hct : cont ⟨a / 2 ^ (32 - n) * 2 ^ (32 - n), n⟩ b = decide (a / 2 ^ (32 - n) = b / 2 ^ (32 - n)) := by
      apply Bool.eq_iff_iff.2
      rw [decide_eq_true_eq]
      unfold cont
      rw [hv, Bool.true_and, hkk, decide_eq_true_eq]
      constructor
      · intro e; exact (Nat.eq_of_mul_eq_mul_right hpp e).symm
      · intro e; rw [e]
    have hC := rfContainsC F ⟨a / 2 ^ (32 - n) * 2 ^ (32 - n), n⟩ hpo b hb
    rw [hct] at hC
    refine wcall_plain hC (by simp only [prS, prC, evr, id, reduceCtorEq, reduceIte, Nat.reduceMul, Nat.reduceAdd, Nat.reduceLT, Nat.reduceLeDiff, Nat.reduceEqDiff, Int.reduceLT, Int.reduceBEq, Int.reduceBNe, Nat.reduceBEq, List.append_nil, Int.toNat_zero, Nat.sub_self, Int.reduceNeg]; try rfl) (by rintro _ rfl; exact ok_plain rfl) ?_
    rintro r rfl
    simp -implicitDefEqProofs only [evr, id, reduceCtorEq, reduceIte, Nat.reduceMul, Nat.reduceAdd, Nat.reduceLT, Nat.reduceLeDiff, Nat.reduceEqDiff, Int.reduceLT, Int.reduceBEq, Int.reduceBNe, Nat.reduceBEq, List.append_nil, Int.toNat_zero, Nat.sub_self, Int.reduceNeg]
    (refine hk _ ?_; clear hk k; try show Sat _ _ _ _ _)
    refine Sat.cond_b rfl (fun h => ?_) (fun h => ?_)
    · simp only [decide_eq_true_eq] at h
      (repeat refine Sat.seq ?_)
      (refine Sat.region_k fun k hk => ?_; simp -implicitDefEqProofs only [evr, id, reduceCtorEq, reduceIte, Nat.reduceMul, Nat.reduceAdd, Nat.reduceLT, Nat.reduceLeDiff, Nat.reduceEqDiff, Int.reduceLT, Int.reduceBEq, Int.reduceBNe, Nat.reduceBEq, List.append_nil, Int.toNat_zero, Nat.sub_self, Int.reduceNeg]; refine hk _ ?_; clear hk k; try show Sat _ _ _ _ _)
      refine Sat.ret ?_
      simp only [Tryd.results43, evr, id, reduceCtorEq, reduceIte, Nat.reduceMul, Nat.reduceAdd, Nat.reduceLT, Nat.reduceLeDiff, Nat.reduceEqDiff, Int.reduceLT, Int.reduceBEq, Int.reduceBNe, Nat.reduceBEq, List.append_nil, Int.toNat_zero, Nat.sub_self, Int.reduceNeg]
      rw [comP_at (n := n) ha hb hn h hnot]
      rfl
    · simp only [decide_eq_false_iff_not] at h
      refine Sat.skip ?_
      simp only [thenK, blockK]
      refine Sat.region_k fun k hk => ?_
      simp -implicitDefEqProofs only [evr, id, reduceCtorEq, reduceIte, Nat.reduceMul, Nat.reduceAdd, Nat.reduceLT, Nat.reduceLeDiff, Nat.reduceEqDiff, Int.reduceLT, Int.reduceBEq, Int.reduceBNe, Nat.reduceBEq, List.append_nil, Int.toNat_zero, Nat.sub_self, Int.reduceNeg, e4]
      refine hk _ ?_
      simp only [thenK, blockK]
      refine ⟨n - 1, ⟨by omega, fun m h1 h2 => ?_⟩, by omega, ?_⟩
      · rcases (show m = n ∨ n < m by omega) with rfl | h3
        · exact h
        · exact hnot m h3 h2
      · simp -implicitDefEqProofs only [evr, id, reduceCtorEq, reduceIte, Nat.reduceMul, Nat.reduceAdd, Nat.reduceLT, Nat.reduceLeDiff, Nat.reduceEqDiff, Int.reduceLT, Int.reduceBEq, Int.reduceBNe, Nat.reduceBEq, List.append_nil, Int.toNat_zero, Nat.sub_self, Int.reduceNeg, evl]
  · have h0 : n = 0 := by simp only [decide_eq_false_iff_not] at h; omega
    subst h0
    refine Sat.exit ?_
    simp only [thenK, blockK, reduceIte]
    (repeat refine Sat.seq ?_)
    (refine Sat.region_k fun k hk => ?_; simp -implicitDefEqProofs only [evr, id, reduceCtorEq, reduceIte, Nat.reduceMul, Nat.reduceAdd, Nat.reduceLT, Nat.reduceLeDiff, Nat.reduceEqDiff, Int.reduceLT, Int.reduceBEq, Int.reduceBNe, Nat.reduceBEq, List.append_nil, Int.toNat_zero, Nat.sub_self, Int.reduceNeg]; refine hk _ ?_; clear hk k; try show Sat _ _ _ _ _)
    refine Sat.ret ?_
    simp only [Tryd.results43, evr, id, reduceCtorEq, reduceIte, Nat.reduceMul, Nat.reduceAdd, Nat.reduceLT, Nat.reduceLeDiff, Nat.reduceEqDiff, Int.reduceLT, Int.reduceBEq, Int.reduceBNe, Nat.reduceBEq, List.append_nil, Int.toNat_zero, Nat.sub_self, Int.reduceNeg]
    rw [comP_at (n := 0) ha hb (by omega) (by omega) hnot]
    have e : a / 2 ^ (32 - 0) * 2 ^ (32 - 0) = 0 := by omega
    rw [e]
    rfl
set_option maxRecDepth 100000 in
theorem rfHalvesC (F : Frm) (p : Prf) (hp : prOk p) : Contract F Tryd.prog 37 [prS p] (fun r => r = hlvS p) := by
  refine contract_of Tryd.func37 rfl (by kernel_rfl) ?_
  simp only [Tryd.ntmps37, argEnv, prS, prC]
  (repeat refine Sat.seq ?_)
  (refine Sat.region_k fun k hk => ?_; simp -implicitDefEqProofs only [evr, id, reduceCtorEq, reduceIte, Nat.reduceMul, Nat.reduceAdd, Nat.reduceLT, Nat.reduceLeDiff, Nat.reduceEqDiff, Int.reduceLT, Int.reduceBEq, Int.reduceBNe, Nat.reduceBEq, List.append_nil, Int.toNat_zero, Nat.sub_self, Int.reduceNeg])
  intro b1 b2 b3
  (refine hk _ ?_; clear hk k; try show Sat _ _ _ _ _)
  (repeat refine Sat.seq ?_)
  refine Sat.region_at ⟨31, [(13, .b (!(vld p && !(p.len == 32)))), (1, .op 0 b1 0), (2, .op 1 b2 0), (3, .op 2 b3 0)], [.box b1 25 (prC p), .box b2 25 [.i .u32 0, .i .i64 0], .box b3 25 [.i .u32 0, .i .i64 0]]⟩ (fun k hk => ?_) ?_
  · simp -implicitDefEqProofs only [evr, id, reduceCtorEq, reduceIte, Nat.reduceMul, Nat.reduceAdd, Nat.reduceLT, Nat.reduceLeDiff, Nat.reduceEqDiff, Int.reduceLT, Int.reduceBEq, Int.reduceBNe, Nat.reduceBEq, List.append_nil, Int.toNat_zero, Nat.sub_self, Int.reduceNeg]
    refine wcall_plain (rfValidC F p hp) (by simp -implicitDefEqProofs only [evr, id, reduceCtorEq, reduceIte, Nat.reduceMul, Nat.reduceAdd, Nat.reduceLT, Nat.reduceLeDiff, Nat.reduceEqDiff, Int.reduceLT, Int.reduceBEq, Int.reduceBNe, Nat.reduceBEq, List.append_nil, Int.toNat_zero, Nat.sub_self, Int.reduceNeg]; rfl) (by rintro _ rfl; exact ok_plain rfl) ?_
    rintro r rfl
    simp -implicitDefEqProofs only [evr, id, reduceCtorEq, reduceIte, Nat.reduceMul, Nat.reduceAdd, Nat.reduceLT, Nat.reduceLeDiff, Nat.reduceEqDiff, Int.reduceLT, Int.reduceBEq, Int.reduceBNe, Nat.reduceBEq, List.append_nil, Int.toNat_zero, Nat.sub_self, Int.reduceNeg]
    refine ⟨fun h => ?_, fun h => ?_⟩
    · refine hk _ ?_
      have e : (!(vld p && !(p.len == 32))) = true := by
        have : vld p = false := by simpa using h
        simp [this]
      simp only [e, prC]
      simp -implicitDefEqProofs only [evr, id, reduceCtorEq, reduceIte, Nat.reduceMul, Nat.reduceAdd, Nat.reduceLT, Nat.reduceLeDiff, Nat.reduceEqDiff, Int.reduceLT, Int.reduceBEq, Int.reduceBNe, Nat.reduceBEq, List.append_nil, Int.toNat_zero, Nat.sub_self, Int.reduceNeg, evl]
    · refine hk _ ?_
      have e : (!(vld p && !(p.len == 32))) = (p.len == 32) := by
        have : vld p = true := by simpa using h
        simp [this]
      simp only [e, prC]
      simp -implicitDefEqProofs only [evr, id, reduceCtorEq, reduceIte, Nat.reduceMul, Nat.reduceAdd, Nat.reduceLT, Nat.reduceLeDiff, Nat.reduceEqDiff, Int.reduceLT, Int.reduceBEq, Int.reduceBNe, Nat.reduceBEq, List.append_nil, Int.toNat_zero, Nat.sub_self, Int.reduceNeg, evl]
  simp only [thenK, prC]
  refine Sat.cond_b rfl (fun h => ?_) (fun h => ?_)
  · have hv : ¬ (vld p = true ∧ p.len ≠ 32) := fun ⟨h1, h2⟩ => by simp [h1, h2] at h
    (repeat refine Sat.seq ?_)
    (refine Sat.region_k fun k hk => ?_; simp -implicitDefEqProofs only [evr, id, reduceCtorEq, reduceIte, Nat.reduceMul, Nat.reduceAdd, Nat.reduceLT, Nat.reduceLeDiff, Nat.reduceEqDiff, Int.reduceLT, Int.reduceBEq, Int.reduceBNe, Nat.reduceBEq, List.append_nil, Int.toNat_zero, Nat.sub_self, Int.reduceNeg]; refine hk _ ?_; clear hk k; try show Sat _ _ _ _ _)
    refine Sat.ret ?_
    simp only [Tryd.results37, evr, id, reduceCtorEq, reduceIte, Nat.reduceMul, Nat.reduceAdd, Nat.reduceLT, Nat.reduceLeDiff, Nat.reduceEqDiff, Int.reduceLT, Int.reduceBEq, Int.reduceBNe, Nat.reduceBEq, List.append_nil, Int.toNat_zero, Nat.sub_self, Int.reduceNeg]
    unfold hlvS
    rw [if_neg hv]
    rfl
  · have hv : vld p = true ∧ p.len ≠ 32 := by simpa using h
    obtain ⟨h1, h2, h3⟩ := vld_iff.1 hv.1
    have hl := hv.2
    obtain ⟨k1, k2, k3⟩ := half_k hv.1 hv.2
    have e1 : IntKind.i64.wrap (p.len + 1) = p.len + 1 := w64 (by omega)
    have hz : 2 ^ (32 - (p.len + 1).toNat) = 2 ^ (p.k - 1) := by unfold Prf.k; congr 1 <;> omega
    have pl : (2 : Nat) ^ (p.k - 1) < 2 ^ 32 := Nat.pow_lt_pow_right (by decide) (by have := k_le p; omega)
    have e2 : IntKind.u32.wrap ((2 ^ (p.k - 1) : Nat) : Int) = ((2 ^ (p.k - 1) : Nat) : Int) := w32u _ (Int.natCast_nonneg _) (by exact_mod_cast pl)
    have e3 : IntKind.u32.wrap ((p.addr : Int) + ((2 ^ (p.k - 1) : Nat) : Int)) = ((half2 p).addr : Int) := by
      have h6 := half2_ok hp hv.1 hl
      have : ((p.addr : Int) + ((2 ^ (p.k - 1) : Nat) : Int)) = ((half2 p).addr : Int) := by unfold half2; push_cast; rfl
      rw [this]
      exact w32u _ (Int.natCast_nonneg _) (by exact_mod_cast h6)
    refine Sat.skip ?_
    simp only [thenK]
    (repeat refine Sat.seq ?_)
    refine Sat.region_k fun k hk => ?_
    simp -implicitDefEqProofs only [evr, id, reduceCtorEq, reduceIte, Nat.reduceMul, Nat.reduceAdd, Nat.reduceLT, Nat.reduceLeDiff, Nat.reduceEqDiff, Int.reduceLT, Int.reduceBEq, Int.reduceBNe, Nat.reduceBEq, List.append_nil, Int.toNat_zero, Nat.sub_self, Int.reduceNeg, e1]
    (refine hk _ ?_; clear hk k; try show Sat _ _ _ _ _)
    (repeat refine Sat.seq ?_)
    (refine Sat.region_tree (.keep [0, 2, 4, 6, 10, 1] [5, 7, 8, 9, 11] (.alt 3 (.alt 5 (.one 7 (.alt 8 (.free 9 (.alt 11 (.one 12 (.one 13 (.one 14 .done))) (.alt 12 (.one 11 (.one 13 (.one 14 .done))) .none))) (.alt 12 (.one 8 (.one 9 (.one 11 (.one 13 (.one 14 .done))))) .none))) (.alt 7 (.alt 5 (.alt 8 (.free 9 (.alt 11 (.one 12 (.one 13 (.one 14 .done))) (.alt 12 (.one 11 (.one 13 (.one 14 .done))) .none))) (.alt 12 (.one 8 (.one 9 (.one 11 (.one 13 (.one 14 .done))))) .none)) (.alt 8 (.alt 5 (.free 9 (.alt 11 (.one 12 (.one 13 (.one 14 .done))) (.alt 12 (.one 11 (.one 13 (.one 14 .done))) .none))) (.alt 12 (.one 5 (.one 9 (.one 11 (.one 13 (.one 14 .done))))) .none)) (.alt 12 (.alt 5 (.one 8 (.one 9 (.one 11 (.one 13 (.one 14 .done))))) (.alt 8 (.one 5 (.one 9 (.one 11 (.one 13 (.one 14 .done))))) .none)) .none))) .none)) (.alt 5 (.alt 3 (.one 7 (.alt 8 (.free 9 (.alt 11 (.one 12 (.one 13 (.one 14 .done))) (.alt 12 (.one 11 (.one 13 (.one 14 .done))) .none))) (.alt 12 (.one 8 (.one 9 (.one 11 (.one 13 (.one 14 .done))))) .none))) (.alt 7 (.alt 3 (.alt 8 (.free 9 (.alt 11 (.one 12 (.one 13 (.one 14 .done))) (.alt 12 (.one 11 (.one 13 (.one 14 .done))) .none))) (.alt 12 (.one 8 (.one 9 (.one 11 (.one 13 (.one 14 .done))))) .none)) (.alt 8 (.free 9 (.alt 3 (.alt 11 (.one 12 (.one 13 (.one 14 .done))) (.alt 12 (.one 11 (.one 13 (.one 14 .done))) .none)) (.alt 11 (.one 3 (.one 12 (.one 13 (.one 14 .done)))) .none))) .none)) .none)) (.alt 7 (.alt 3 (.alt 5 (.alt 8 (.free 9 (.alt 11 (.one 12 (.one 13 (.one 14 .done))) (.alt 12 (.one 11 (.one 13 (.one 14 .done))) .none))) (.alt 12 (.one 8 (.one 9 (.one 11 (.one 13 (.one 14 .done))))) .none)) (.alt 8 (.alt 5 (.free 9 (.alt 11 (.one 12 (.one 13 (.one 14 .done))) (.alt 12 (.one 11 (.one 13 (.one 14 .done))) .none))) (.alt 12 (.one 5 (.one 9 (.one 11 (.one 13 (.one 14 .done))))) .none)) (.alt 12 (.alt 5 (.one 8 (.one 9 (.one 11 (.one 13 (.one 14 .done))))) (.alt 8 (.one 5 (.one 9 (.one 11 (.one 13 (.one 14 .done))))) .none)) .none))) (.alt 5 (.alt 3 (.alt 8 (.free 9 (.alt 11 (.one 12 (.one 13 (.one 14 .done))) (.alt 12 (.one 11 (.one 13 (.one 14 .done))) .none))) (.alt 12 (.one 8 (.one 9 (.one 11 (.one 13 (.one 14 .done))))) .none)) (.alt 8 (.free 9 (.alt 3 (.alt 11 (.one 12 (.one 13 (.one 14 .done))) (.alt 12 (.one 11 (.one 13 (.one 14 .done))) .none)) (.alt 11 (.one 3 (.one 12 (.one 13 (.one 14 .done)))) .none))) .none)) (.alt 8 (.alt 3 (.alt 5 (.free 9 (.alt 11 (.one 12 (.one 13 (.one 14 .done))) (.alt 12 (.one 11 (.one 13 (.one 14 .done))) .none))) (.alt 12 (.one 5 (.one 9 (.one 11 (.one 13 (.one 14 .done))))) .none)) (.alt 5 (.free 9 (.alt 3 (.alt 11 (.one 12 (.one 13 (.one 14 .done))) (.alt 12 (.one 11 (.one 13 (.one 14 .done))) .none)) (.alt 11 (.one 3 (.one 12 (.one 13 (.one 14 .done)))) .none))) .none)) .none))) .none)))) (by kernel_rfl) (by kernel_rfl) (fun _ _ h => h) fun k hk => ?_; simp only [WOT, List.map_cons, List.map_nil, List.getD_cons_zero, List.getD_cons_succ]; simp -implicitDefEqProofs only [evr, id, reduceCtorEq, reduceIte, Nat.reduceMul, Nat.reduceAdd, Nat.reduceLT, Nat.reduceLeDiff, Nat.reduceEqDiff, Int.reduceLT, Int.reduceBEq, Int.reduceBNe, Nat.reduceBEq, List.append_nil, Int.toNat_zero, Nat.sub_self, Int.reduceNeg, WOT])
    repeat' (first
      | (refine And.intro ?_ ?_)
      | (refine wcall_plain (sizeC F (p.len + 1) (by omega) (by omega)) ?_ (by rintro _ rfl; exact ok_plain rfl) ?_; (focus (simp -implicitDefEqProofs only [evr, id, reduceCtorEq, reduceIte, Nat.reduceMul, Nat.reduceAdd, Nat.reduceLT, Nat.reduceLeDiff, Nat.reduceEqDiff, Int.reduceLT, Int.reduceBEq, Int.reduceBNe, Nat.reduceBEq, List.append_nil, Int.toNat_zero, Nat.sub_self, Int.reduceNeg]; try rfl)); rintro r rfl; simp -implicitDefEqProofs only [evr, id, reduceCtorEq, reduceIte, Nat.reduceMul, Nat.reduceAdd, Nat.reduceLT, Nat.reduceLeDiff, Nat.reduceEqDiff, Int.reduceLT, Int.reduceBEq, Int.reduceBNe, Nat.reduceBEq, List.append_nil, Int.toNat_zero, Nat.sub_self, Int.reduceNeg, hz, e2, e3])
      | rfl
      | intro blkA)
    all_goals
      refine hk _ ?_
      simp only [thenK]
      refine Sat.ret ?_
      simp only [Tryd.results37, evr, id, reduceCtorEq, reduceIte, Nat.reduceMul, Nat.reduceAdd, Nat.reduceLT, Nat.reduceLeDiff, Nat.reduceEqDiff, Int.reduceLT, Int.reduceBEq, Int.reduceBNe, Nat.reduceBEq, List.append_nil, Int.toNat_zero, Nat.sub_self, Int.reduceNeg]
      unfold hlvS
      rw [if_pos hv]
      rfl
end Go.Proofs.YtceacooambpkdaaDoor
