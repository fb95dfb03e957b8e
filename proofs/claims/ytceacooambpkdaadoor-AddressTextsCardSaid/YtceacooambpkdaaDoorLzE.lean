/- math/bits.LeadingZeros32; address.Common. -/
import Derived.Test.YtceacooambpkdaaDoorAdrE
import Derived.Test.YtceacooambpkdaaDoorComM
set_option linter.unusedSimpArgs false
set_option linter.unusedVariables false
namespace Go.Proofs.YtceacooambpkdaaDoor
open Go.Sort Eng

theorem bitsLen_eq3 {n m : Nat} (h : ∀ k, n < 2 ^ k ↔ m ≤ k) : bitsLen n = m := by
  have h1 := (bitsLen_le_iff n m).2 ((h m).2 (Nat.le_refl _))
  have h2 := (h (bitsLen n)).1 ((bitsLen_le_iff n _).1 (Nat.le_refl _))
  omega
theorem bitsLen_shift3 {x k : Nat} (h : 2 ^ k ≤ x) : bitsLen x = bitsLen (x / 2 ^ k) + k := by
  refine bitsLen_eq3 fun m => ?_
  by_cases hm : k ≤ m
  · obtain ⟨r, rfl⟩ : ∃ r, m = k + r := ⟨m - k, by omega⟩
    rw [show bitsLen (x / 2 ^ k) + k ≤ k + r ↔ bitsLen (x / 2 ^ k) ≤ r by omega, bitsLen_le_iff, Nat.div_lt_iff_lt_mul (Nat.two_pow_pos k), Nat.pow_add, Nat.mul_comm]
  · refine ⟨fun h2 => absurd h2 ?_, fun h2 => absurd h2 (by omega)⟩
    have : 2 ^ m ≤ 2 ^ k := Nat.pow_le_pow_right (by omega) (by omega)
    omega


set_option maxRecDepth 100000 in
theorem len32C (F : Frm) (n : Nat) (hn : n < 4294967296) : Contract F Tryd.prog 67 [.i .u32 n] (fun r => r = .i .i64 (bitsLen n : Nat)) := by
  refine contract_of Tryd.func67 rfl (by kernel_rfl) ?_
  simp only [Tryd.ntmps67, argEnv]
  (repeat refine Sat.seq ?_)
  (refine Sat.region_k fun k hk => ?_; simp -implicitDefEqProofs only [evr, id, reduceCtorEq, reduceIte, Nat.reduceMul, Nat.reduceAdd, Nat.reduceLT, Nat.reduceLeDiff, Nat.reduceEqDiff, Int.reduceLT, Int.reduceBEq, Int.reduceBNe, Nat.reduceBEq, List.append_nil, Int.toNat_zero, Nat.sub_self, Int.reduceNeg]; refine hk _ ?_; clear hk k; try show Sat _ _ _ _ _)
  (repeat refine Sat.seq ?_)
  (refine Sat.region_k fun k hk => ?_; simp -implicitDefEqProofs only [evr, id, reduceCtorEq, reduceIte, Nat.reduceMul, Nat.reduceAdd, Nat.reduceLT, Nat.reduceLeDiff, Nat.reduceEqDiff, Int.reduceLT, Int.reduceBEq, Int.reduceBNe, Nat.reduceBEq, List.append_nil, Int.toNat_zero, Nat.sub_self, Int.reduceNeg]; refine hk _ ?_; clear hk k; try show Sat _ _ _ _ _)
  refine Sat.atF (ι := Nat × Nat) (fun x => ⟨19, [(0, .i .u32 x.1), (2, .i .i64 x.2)], []⟩) (fun x => x.1 < 65536 ∧ x.2 ≤ 16 ∧ bitsLen n = bitsLen x.1 + x.2) ?_ ?_
  · refine Sat.cond_b rfl (fun h => ?_) (fun h => ?_)
    · simp only [decide_eq_true_eq] at h
      have e1 : (n : Int).fdiv (2 ^ min (Int.toNat 16) IntKind.u32.bits) = ((n / 2 ^ 16 : Nat) : Int) := by
        rw [show (2 ^ min (Int.toNat 16) IntKind.u32.bits : Int) = ((2 ^ 16 : Nat) : Int) by decide, Int.fdiv_eq_ediv_of_nonneg _ (by omega)]; omega
      (repeat refine Sat.seq ?_)
      refine Sat.region_k fun k hk => ?_
      simp -implicitDefEqProofs only [evr, id, reduceCtorEq, reduceIte, Nat.reduceMul, Nat.reduceAdd, Nat.reduceLT, Nat.reduceLeDiff, Nat.reduceEqDiff, Int.reduceLT, Int.reduceBEq, Int.reduceBNe, Nat.reduceBEq, List.append_nil, Int.toNat_zero, Nat.sub_self, Int.reduceNeg, e1]
      refine ⟨by decide, ?_⟩
      (refine hk _ ?_; clear hk k; try show Sat _ _ _ _ _)
      (refine Sat.region_k fun k hk => ?_; simp -implicitDefEqProofs only [evr, id, reduceCtorEq, reduceIte, Nat.reduceMul, Nat.reduceAdd, Nat.reduceLT, Nat.reduceLeDiff, Nat.reduceEqDiff, Int.reduceLT, Int.reduceBEq, Int.reduceBNe, Nat.reduceBEq, List.append_nil, Int.toNat_zero, Nat.sub_self, Int.reduceNeg])
      refine hk _ ?_
      simp only [thenK]
      refine ⟨(n / 2 ^ 16, 16), ⟨by show n / 2 ^ 16 < _; omega, by show 16 ≤ 16; omega, bitsLen_shift3 (by omega)⟩, ?_⟩
      simp -implicitDefEqProofs only [evr, id, reduceCtorEq, reduceIte, Nat.reduceMul, Nat.reduceAdd, Nat.reduceLT, Nat.reduceLeDiff, Nat.reduceEqDiff, Int.reduceLT, Int.reduceBEq, Int.reduceBNe, Nat.reduceBEq, List.append_nil, Int.toNat_zero, Nat.sub_self, Int.reduceNeg, evl]
      rfl
    · simp only [decide_eq_false_iff_not] at h
      refine Sat.skip ?_
      simp only [thenK]
      refine ⟨(n, 0), ⟨by show n < _; omega, by show 0 ≤ 16; omega, rfl⟩, ?_⟩
      simp -implicitDefEqProofs only [evr, id, reduceCtorEq, reduceIte, Nat.reduceMul, Nat.reduceAdd, Nat.reduceLT, Nat.reduceLeDiff, Nat.reduceEqDiff, Int.reduceLT, Int.reduceBEq, Int.reduceBNe, Nat.reduceBEq, List.append_nil, Int.toNat_zero, Nat.sub_self, Int.reduceNeg, evl]
      rfl
  · rintro ⟨x, m⟩ ⟨hx, hm, hb⟩
    simp only at hx hm hb ⊢
    simp only [thenK]
    (repeat refine Sat.seq ?_)
    (refine Sat.region_k fun k hk => ?_; simp -implicitDefEqProofs only [evr, id, reduceCtorEq, reduceIte, Nat.reduceMul, Nat.reduceAdd, Nat.reduceLT, Nat.reduceLeDiff, Nat.reduceEqDiff, Int.reduceLT, Int.reduceBEq, Int.reduceBNe, Nat.reduceBEq, List.append_nil, Int.toNat_zero, Nat.sub_self, Int.reduceNeg]; refine hk _ ?_; clear hk k; try show Sat _ _ _ _ _)
    (repeat refine Sat.seq ?_)
    refine Sat.atF (ι := Nat × Nat) (fun x => ⟨19, [(0, .i .u32 x.1), (2, .i .i64 x.2)], []⟩) (fun x => x.1 < 256 ∧ x.2 ≤ 24 ∧ bitsLen n = bitsLen x.1 + x.2) ?_ ?_
    · refine Sat.cond_b rfl (fun h => ?_) (fun h => ?_)
      · simp only [decide_eq_true_eq] at h
        have e1 : (x : Int).fdiv (2 ^ min (Int.toNat 8) IntKind.u32.bits) = ((x / 2 ^ 8 : Nat) : Int) := by
          rw [show (2 ^ min (Int.toNat 8) IntKind.u32.bits : Int) = ((2 ^ 8 : Nat) : Int) by decide, Int.fdiv_eq_ediv_of_nonneg _ (by omega)]; omega
        have e2 : IntKind.i64.wrap ((m : Int) + 8) = ((m + 8 : Nat) : Int) := by rw [w64 (by omega)]; omega
        (repeat refine Sat.seq ?_)
        refine Sat.region_k fun k hk => ?_
        simp -implicitDefEqProofs only [evr, id, reduceCtorEq, reduceIte, Nat.reduceMul, Nat.reduceAdd, Nat.reduceLT, Nat.reduceLeDiff, Nat.reduceEqDiff, Int.reduceLT, Int.reduceBEq, Int.reduceBNe, Nat.reduceBEq, List.append_nil, Int.toNat_zero, Nat.sub_self, Int.reduceNeg, e1]
        refine ⟨by decide, ?_⟩
        (refine hk _ ?_; clear hk k; try show Sat _ _ _ _ _)
        refine Sat.region_k fun k hk => ?_
        simp -implicitDefEqProofs only [evr, id, reduceCtorEq, reduceIte, Nat.reduceMul, Nat.reduceAdd, Nat.reduceLT, Nat.reduceLeDiff, Nat.reduceEqDiff, Int.reduceLT, Int.reduceBEq, Int.reduceBNe, Nat.reduceBEq, List.append_nil, Int.toNat_zero, Nat.sub_self, Int.reduceNeg, e2]
        refine hk _ ?_
        simp only [thenK]
        refine ⟨(x / 2 ^ 8, m + 8), ⟨by show x / 2 ^ 8 < _; omega, by show m + 8 ≤ 24; omega, ?_⟩, ?_⟩
        · show bitsLen n = bitsLen (x / 2 ^ 8) + (m + 8)
          rw [hb, bitsLen_shift3 (x := x) (k := 8) (by omega)]; omega
        · simp -implicitDefEqProofs only [evr, id, reduceCtorEq, reduceIte, Nat.reduceMul, Nat.reduceAdd, Nat.reduceLT, Nat.reduceLeDiff, Nat.reduceEqDiff, Int.reduceLT, Int.reduceBEq, Int.reduceBNe, Nat.reduceBEq, List.append_nil, Int.toNat_zero, Nat.sub_self, Int.reduceNeg, evl]
      · simp only [decide_eq_false_iff_not] at h
        refine Sat.skip ?_
        simp only [thenK]
        refine ⟨(x, m), ⟨by show x < _; omega, by show m ≤ 24; omega, hb⟩, ?_⟩
        simp -implicitDefEqProofs only [evr, id, reduceCtorEq, reduceIte, Nat.reduceMul, Nat.reduceAdd, Nat.reduceLT, Nat.reduceLeDiff, Nat.reduceEqDiff, Int.reduceLT, Int.reduceBEq, Int.reduceBNe, Nat.reduceBEq, List.append_nil, Int.toNat_zero, Nat.sub_self, Int.reduceNeg, evl]
    · clear hx hm hb
      rintro ⟨x, m⟩ ⟨hx, hm, hb⟩
      simp only at hx hm hb ⊢
      simp only [thenK]
      (repeat refine Sat.seq ?_)
      have e1 : IntKind.u8.wrap (x : Int) = (x : Int) := IntWalk.u8_in _ (by omega)
      refine Sat.region_k fun k hk => ?_
      simp -implicitDefEqProofs only [evr, id, reduceCtorEq, reduceIte, Nat.reduceMul, Nat.reduceAdd, Nat.reduceLT, Nat.reduceLeDiff, Nat.reduceEqDiff, Int.reduceLT, Int.reduceBEq, Int.reduceBNe, Nat.reduceBEq, List.append_nil, Int.toNat_zero, Nat.sub_self, Int.reduceNeg, e1]
      generalize hs : (ByteArray.mk _) = tb
      have hsz : tb.size = 256 := by rw [← hs]; kernel_rfl
      have hall : ∀ i, i < 256 → byteAt tb i = (bitsLen i : Int) := by subst hs; exact of_decide_eq_true (by kernel_rfl)
      rw [hsz]
      have hbl : bitsLen x ≤ 8 := (bitsLen_le_iff x 8).2 (by omega)
      have e2 : IntKind.i64.wrap (bitsLen x : Int) = (bitsLen x : Int) := w64 (by omega)
      have e3 : IntKind.i64.wrap ((m : Int) + (bitsLen x : Int)) = (bitsLen n : Int) := by rw [w64 (by omega)]; omega
      simp only [hall x hx, e2, e3]
      refine ⟨by omega, ?_⟩
      (refine hk _ ?_; clear hk k; try show Sat _ _ _ _ _)
      refine Sat.ret ?_
      simp only [Tryd.results67, evr, id, reduceCtorEq, reduceIte, Nat.reduceMul, Nat.reduceAdd, Nat.reduceLT, Nat.reduceLeDiff, Nat.reduceEqDiff, Int.reduceLT, Int.reduceBEq, Int.reduceBNe, Nat.reduceBEq, List.append_nil, Int.toNat_zero, Nat.sub_self, Int.reduceNeg]
set_option maxRecDepth 100000 in
theorem lz32C (F : Frm) (n : Nat) (hn : n < 4294967296) : Contract F Tryd.prog 55 [.i .u32 n] (fun r => r = .i .i64 (32 - (bitsLen n : Int))) := by
  refine contract_of Tryd.func55 rfl (by kernel_rfl) ?_
  simp only [Tryd.ntmps55, argEnv]
  have hbl : bitsLen n ≤ 32 := (bitsLen_le_iff n 32).2 (by omega)
  have e1 : IntKind.i64.wrap (32 - (bitsLen n : Int)) = 32 - (bitsLen n : Int) := w64 (by omega)
  (repeat refine Sat.seq ?_)
  (refine Sat.region_k fun k hk => ?_; simp -implicitDefEqProofs only [evr, id, reduceCtorEq, reduceIte, Nat.reduceMul, Nat.reduceAdd, Nat.reduceLT, Nat.reduceLeDiff, Nat.reduceEqDiff, Int.reduceLT, Int.reduceBEq, Int.reduceBNe, Nat.reduceBEq, List.append_nil, Int.toNat_zero, Nat.sub_self, Int.reduceNeg]; refine hk _ ?_; clear hk k; try show Sat _ _ _ _ _)
  (repeat refine Sat.seq ?_)
  (refine Sat.region_k fun k hk => ?_; simp -implicitDefEqProofs only [evr, id, reduceCtorEq, reduceIte, Nat.reduceMul, Nat.reduceAdd, Nat.reduceLT, Nat.reduceLeDiff, Nat.reduceEqDiff, Int.reduceLT, Int.reduceBEq, Int.reduceBNe, Nat.reduceBEq, List.append_nil, Int.toNat_zero, Nat.sub_self, Int.reduceNeg])
  refine wcall_plain (len32C F n hn) (by simp -implicitDefEqProofs only [evr, id, reduceCtorEq, reduceIte, Nat.reduceMul, Nat.reduceAdd, Nat.reduceLT, Nat.reduceLeDiff, Nat.reduceEqDiff, Int.reduceLT, Int.reduceBEq, Int.reduceBNe, Nat.reduceBEq, List.append_nil, Int.toNat_zero, Nat.sub_self, Int.reduceNeg]) (by rintro _ rfl; exact ok_plain rfl) ?_
  rintro r rfl
  simp -implicitDefEqProofs only [evr, id, reduceCtorEq, reduceIte, Nat.reduceMul, Nat.reduceAdd, Nat.reduceLT, Nat.reduceLeDiff, Nat.reduceEqDiff, Int.reduceLT, Int.reduceBEq, Int.reduceBNe, Nat.reduceBEq, List.append_nil, Int.toNat_zero, Nat.sub_self, Int.reduceNeg, e1]
  (refine hk _ ?_; clear hk k; try show Sat _ _ _ _ _)
  refine Sat.ret ?_
  simp only [Tryd.results55, evr, id, reduceCtorEq, reduceIte, Nat.reduceMul, Nat.reduceAdd, Nat.reduceLT, Nat.reduceLeDiff, Nat.reduceEqDiff, Int.reduceLT, Int.reduceBEq, Int.reduceBNe, Nat.reduceBEq, List.append_nil, Int.toNat_zero, Nat.sub_self, Int.reduceNeg]
set_option maxRecDepth 100000 in
theorem commonC (F : Frm) (a b : Nat) (ha : a < 2 ^ 32) (hb : b < 2 ^ 32) : Contract F Tryd.prog 26 [.i .u32 a, .i .u32 b] (fun r => r = prS (comP a b)) := by
  refine contract_of Tryd.func26 rfl (by kernel_rfl) ?_
  simp only [Tryd.ntmps26, argEnv]
  obtain ⟨hl, hc⟩ := len_xor ha hb
  have hx : bits .xor .u32 (a : Int) (b : Int) = ((a ^^^ b : Nat) : Int) := xor_u32 ha hb
  have hm := and_mask (k := comK a b 32) ha hc
  (repeat refine Sat.seq ?_)
  (refine Sat.region_k fun k hk => ?_; simp -implicitDefEqProofs only [evr, id, reduceCtorEq, reduceIte, Nat.reduceMul, Nat.reduceAdd, Nat.reduceLT, Nat.reduceLeDiff, Nat.reduceEqDiff, Int.reduceLT, Int.reduceBEq, Int.reduceBNe, Nat.reduceBEq, List.append_nil, Int.toNat_zero, Nat.sub_self, Int.reduceNeg])
  intro b1
  (refine hk _ ?_; clear hk k; try show Sat _ _ _ _ _)
  (repeat refine Sat.seq ?_)
  refine Sat.region_k fun k hk => ?_
  simp -implicitDefEqProofs only [evr, id, reduceCtorEq, reduceIte, Nat.reduceMul, Nat.reduceAdd, Nat.reduceLT, Nat.reduceLeDiff, Nat.reduceEqDiff, Int.reduceLT, Int.reduceBEq, Int.reduceBNe, Nat.reduceBEq, List.append_nil, Int.toNat_zero, Nat.sub_self, Int.reduceNeg, hx]
  refine wcall_plain (lz32C F (a ^^^ b) (xor_lt32 ha hb)) (by simp -implicitDefEqProofs only [evr, id, reduceCtorEq, reduceIte, Nat.reduceMul, Nat.reduceAdd, Nat.reduceLT, Nat.reduceLeDiff, Nat.reduceEqDiff, Int.reduceLT, Int.reduceBEq, Int.reduceBNe, Nat.reduceBEq, List.append_nil, Int.toNat_zero, Nat.sub_self, Int.reduceNeg]) (by rintro _ rfl; exact ok_plain rfl) ?_
  rintro r rfl
  rw [hl]
  simp -implicitDefEqProofs only [evr, id, reduceCtorEq, reduceIte, Nat.reduceMul, Nat.reduceAdd, Nat.reduceLT, Nat.reduceLeDiff, Nat.reduceEqDiff, Int.reduceLT, Int.reduceBEq, Int.reduceBNe, Nat.reduceBEq, List.append_nil, Int.toNat_zero, Nat.sub_self, Int.reduceNeg]
  (refine hk _ ?_; clear hk k; try show Sat _ _ _ _ _)
  (repeat refine Sat.seq ?_)
  (refine Sat.region_k fun k hk => ?_; simp -implicitDefEqProofs only [evr, id, reduceCtorEq, reduceIte, Nat.reduceMul, Nat.reduceAdd, Nat.reduceLT, Nat.reduceLeDiff, Nat.reduceEqDiff, Int.reduceLT, Int.reduceBEq, Int.reduceBNe, Nat.reduceBEq, List.append_nil, Int.toNat_zero, Nat.sub_self, Int.reduceNeg])
  refine wcall_plain (maskC F (32 - (comK a b 32 : Int)) (by omega) (by omega)) (by simp -implicitDefEqProofs only [evr, id, reduceCtorEq, reduceIte, Nat.reduceMul, Nat.reduceAdd, Nat.reduceLT, Nat.reduceLeDiff, Nat.reduceEqDiff, Int.reduceLT, Int.reduceBEq, Int.reduceBNe, Nat.reduceBEq, List.append_nil, Int.toNat_zero, Nat.sub_self, Int.reduceNeg]) (by rintro _ rfl; exact ok_plain rfl) ?_
  rintro r rfl
  rw [show 32 - (32 - (comK a b 32 : Int)).toNat = comK a b 32 by omega]
  simp -implicitDefEqProofs only [evr, id, reduceCtorEq, reduceIte, Nat.reduceMul, Nat.reduceAdd, Nat.reduceLT, Nat.reduceLeDiff, Nat.reduceEqDiff, Int.reduceLT, Int.reduceBEq, Int.reduceBNe, Nat.reduceBEq, List.append_nil, Int.toNat_zero, Nat.sub_self, Int.reduceNeg, hm]
  (refine hk _ ?_; clear hk k; try show Sat _ _ _ _ _)
  refine Sat.ret ?_
  simp only [Tryd.results26, evr, id, reduceCtorEq, reduceIte, Nat.reduceMul, Nat.reduceAdd, Nat.reduceLT, Nat.reduceLeDiff, Nat.reduceEqDiff, Int.reduceLT, Int.reduceBEq, Int.reduceBNe, Nat.reduceBEq, List.append_nil, Int.toNat_zero, Nat.sub_self, Int.reduceNeg]
  rfl
end Go.Proofs.YtceacooambpkdaaDoor
