import Derived.Test.YtepbdjpcoleegaaEv
import Derived.Sort.AssemblyPlain

/- math/bits.Len, by the evaluator. -/
set_option linter.unusedSimpArgs false
set_option linter.unusedVariables false
namespace Go.Proofs.Ytepbdjpcoleegaa
open Go.Sort Eng
theorem bitsLen_eq {n m : Nat} (h : ∀ k, n < 2 ^ k ↔ m ≤ k) : bitsLen n = m := by
 have h1 := (bitsLen_le_iff n m).2 ((h m).2 (Nat.le_refl _))
 have h2 := (h (bitsLen n)).1 ((bitsLen_le_iff n _).1 (Nat.le_refl _))
 omega
theorem bitsLen_shift {x k : Nat} (h : 2 ^ k ≤ x) : bitsLen x = bitsLen (x / 2 ^ k) + k := by
 refine bitsLen_eq fun m => ?_
 by_cases hm : k ≤ m
 ·obtain ⟨r, rfl⟩ : ∃ r, m = k + r := ⟨m - k, by omega⟩
  rw [show bitsLen (x / 2 ^ k) + k ≤ k + r ↔ bitsLen (x / 2 ^ k) ≤ r by omega, bitsLen_le_iff, Nat.div_lt_iff_lt_mul (Nat.two_pow_pos k), Nat.pow_add, Nat.mul_comm]
 ·refine ⟨fun h2 => absurd h2 ?_, fun h2 => absurd h2 (by omega)⟩
  have : 2 ^ m ≤ 2 ^ k := Nat.pow_le_pow_right (by omega) (by omega)
  omega
set_option maxRecDepth 100000 in
theorem len64C (F : Frm) (n : Nat) (hn : n < 18446744073709551616) : Contract F Try.prog 77 [.i .u64 n] (fun r => r = .i .i64 (bitsLen n : Nat)) := by
 refine contract_of Try.func77 rfl (by kernel_rfl) ?_
 simp only [Try.ntmps77, argEnv]
 (repeat refine Sat.seq ?_)
 (refine Sat.region_k fun k hk => ?_; simp -implicitDefEqProofs only [evr, id, seval, List.append_nil]; refine hk _ ?_; clear hk k; try show Sat _ _ _ _ _)
 (repeat refine Sat.seq ?_)
 (refine Sat.region_k fun k hk => ?_; simp -implicitDefEqProofs only [evr, id, seval, List.append_nil]; refine hk _ ?_; clear hk k; try show Sat _ _ _ _ _)
 refine Sat.atF (ι := Nat × Nat) (fun x => ⟨25, [(0, .i .u64 x.1), (2, .i .i64 x.2)], []⟩) (fun x => x.1 < 4294967296 ∧ x.2 ≤ 32 ∧ bitsLen n = bitsLen x.1 + x.2) ?_ ?_
 ·refine Sat.cond_b rfl (fun h => ?_) (fun h => ?_)
  ·simp only [decide_eq_true_eq] at h
   have e1 : (n : Int).fdiv (2 ^ min (Int.toNat 32) IntKind.u64.bits) = ((n / 2 ^ 32 : Nat) : Int) := by
    rw [show (2 ^ min (Int.toNat 32) IntKind.u64.bits : Int) = ((2 ^ 32 : Nat) : Int) by decide, Int.fdiv_eq_ediv_of_nonneg _ (by omega)]; omega
   (repeat refine Sat.seq ?_)
   refine Sat.region_k fun k hk => ?_
   simp -implicitDefEqProofs only [evr, id, reduceCtorEq, reduceIte, Nat.reduceMul, Nat.reduceAdd, Nat.reduceLT, Nat.reduceLeDiff, Nat.reduceEqDiff, Int.reduceLT, Int.reduceBEq, Int.reduceBNe, Nat.reduceBEq, List.append_nil, e1]
   refine ⟨by decide, ?_⟩
   (refine hk _ ?_; clear hk k; try show Sat _ _ _ _ _)
   (refine Sat.region_k fun k hk => ?_; simp -implicitDefEqProofs only [evr, id, seval, List.append_nil])
   refine hk _ ?_
   simp only [thenK]
   refine ⟨(n / 2 ^ 32, 32), ⟨by show n / 2 ^ 32 < _; omega, by show 32 ≤ 32; omega, bitsLen_shift (by omega)⟩, ?_⟩
   simp -implicitDefEqProofs only [evr, id, reduceCtorEq, reduceIte, Nat.reduceMul, Nat.reduceAdd, Nat.reduceLT, Nat.reduceLeDiff, Nat.reduceEqDiff, Int.reduceLT, Int.reduceBEq, Int.reduceBNe, Nat.reduceBEq, List.append_nil, evl]
   rfl
  ·simp only [decide_eq_false_iff_not] at h
   refine Sat.skip ?_
   simp only [thenK]
   refine ⟨(n, 0), ⟨by show n < _; omega, by show 0 ≤ 32; omega, rfl⟩, ?_⟩
   simp -implicitDefEqProofs only [evr, id, reduceCtorEq, reduceIte, Nat.reduceMul, Nat.reduceAdd, Nat.reduceLT, Nat.reduceLeDiff, Nat.reduceEqDiff, Int.reduceLT, Int.reduceBEq, Int.reduceBNe, Nat.reduceBEq, List.append_nil, evl]
   rfl
 ·rintro ⟨x, m⟩ ⟨hx, hm, hb⟩
  simp only at hx hm hb ⊢
  simp only [thenK]
  (repeat refine Sat.seq ?_)
  (refine Sat.region_k fun k hk => ?_; simp -implicitDefEqProofs only [evr, id, seval, List.append_nil]; refine hk _ ?_; clear hk k; try show Sat _ _ _ _ _)
  (repeat refine Sat.seq ?_)
  refine Sat.atF (ι := Nat × Nat) (fun x => ⟨25, [(0, .i .u64 x.1), (2, .i .i64 x.2)], []⟩) (fun x => x.1 < 65536 ∧ x.2 ≤ 48 ∧ bitsLen n = bitsLen x.1 + x.2) ?_ ?_
  ·refine Sat.cond_b rfl (fun h => ?_) (fun h => ?_)
   ·simp only [decide_eq_true_eq] at h
    have e1 : (x : Int).fdiv (2 ^ min (Int.toNat 16) IntKind.u64.bits) = ((x / 2 ^ 16 : Nat) : Int) := by
     rw [show (2 ^ min (Int.toNat 16) IntKind.u64.bits : Int) = ((2 ^ 16 : Nat) : Int) by decide, Int.fdiv_eq_ediv_of_nonneg _ (by omega)]; omega
    have e2 : IntKind.i64.wrap ((m : Int) + 16) = ((m + 16 : Nat) : Int) := by rw [w64 (by omega)]; omega
    (repeat refine Sat.seq ?_)
    refine Sat.region_k fun k hk => ?_
    simp -implicitDefEqProofs only [evr, id, reduceCtorEq, reduceIte, Nat.reduceMul, Nat.reduceAdd, Nat.reduceLT, Nat.reduceLeDiff, Nat.reduceEqDiff, Int.reduceLT, Int.reduceBEq, Int.reduceBNe, Nat.reduceBEq, List.append_nil, e1]
    refine ⟨by decide, ?_⟩
    (refine hk _ ?_; clear hk k; try show Sat _ _ _ _ _)
    refine Sat.region_k fun k hk => ?_
    simp -implicitDefEqProofs only [evr, id, seval, List.append_nil, e2]
    refine hk _ ?_
    simp only [thenK]
    refine ⟨(x / 2 ^ 16, m + 16), ⟨by show x / 2 ^ 16 < _; omega, by show m + 16 ≤ 48; omega, ?_⟩, ?_⟩
    ·show bitsLen n = bitsLen (x / 2 ^ 16) + (m + 16)
     rw [hb, bitsLen_shift (x := x) (k := 16) (by omega)]; omega
    ·simp -implicitDefEqProofs only [evr, id, seval, List.append_nil, evl]
   ·simp only [decide_eq_false_iff_not] at h
    refine Sat.skip ?_
    simp only [thenK]
    refine ⟨(x, m), ⟨by show x < _; omega, by show m ≤ 48; omega, hb⟩, ?_⟩
    simp -implicitDefEqProofs only [evr, id, seval, List.append_nil, evl]
  ·clear hx hm hb
   rintro ⟨x, m⟩ ⟨hx, hm, hb⟩
   simp only at hx hm hb ⊢
   simp only [thenK]
   (repeat refine Sat.seq ?_)
   (refine Sat.region_k fun k hk => ?_; simp -implicitDefEqProofs only [evr, id, seval, List.append_nil]; refine hk _ ?_; clear hk k; try show Sat _ _ _ _ _)
   (repeat refine Sat.seq ?_)
   refine Sat.atF (ι := Nat × Nat) (fun x => ⟨25, [(0, .i .u64 x.1), (2, .i .i64 x.2)], []⟩) (fun x => x.1 < 256 ∧ x.2 ≤ 56 ∧ bitsLen n = bitsLen x.1 + x.2) ?_ ?_
   ·refine Sat.cond_b rfl (fun h => ?_) (fun h => ?_)
    ·simp only [decide_eq_true_eq] at h
     have e1 : (x : Int).fdiv (2 ^ min (Int.toNat 8) IntKind.u64.bits) = ((x / 2 ^ 8 : Nat) : Int) := by
      rw [show (2 ^ min (Int.toNat 8) IntKind.u64.bits : Int) = ((2 ^ 8 : Nat) : Int) by decide, Int.fdiv_eq_ediv_of_nonneg _ (by omega)]; omega
     have e2 : IntKind.i64.wrap ((m : Int) + 8) = ((m + 8 : Nat) : Int) := by rw [w64 (by omega)]; omega
     (repeat refine Sat.seq ?_)
     refine Sat.region_k fun k hk => ?_
     simp -implicitDefEqProofs only [evr, id, reduceCtorEq, reduceIte, Nat.reduceMul, Nat.reduceAdd, Nat.reduceLT, Nat.reduceLeDiff, Nat.reduceEqDiff, Int.reduceLT, Int.reduceBEq, Int.reduceBNe, Nat.reduceBEq, List.append_nil, e1]
     refine ⟨by decide, ?_⟩
     (refine hk _ ?_; clear hk k; try show Sat _ _ _ _ _)
     refine Sat.region_k fun k hk => ?_
     simp -implicitDefEqProofs only [evr, id, seval, List.append_nil, e2]
     refine hk _ ?_
     simp only [thenK]
     refine ⟨(x / 2 ^ 8, m + 8), ⟨by show x / 2 ^ 8 < _; omega, by show m + 8 ≤ 56; omega, ?_⟩, ?_⟩
     ·show bitsLen n = bitsLen (x / 2 ^ 8) + (m + 8)
      rw [hb, bitsLen_shift (x := x) (k := 8) (by omega)]; omega
     ·simp -implicitDefEqProofs only [evr, id, seval, List.append_nil, evl]
    ·simp only [decide_eq_false_iff_not] at h
     refine Sat.skip ?_
     simp only [thenK]
     refine ⟨(x, m), ⟨by show x < _; omega, by show m ≤ 56; omega, hb⟩, ?_⟩
     simp -implicitDefEqProofs only [evr, id, seval, List.append_nil, evl]
   ·clear hx hm hb
    rintro ⟨x, m⟩ ⟨hx, hm, hb⟩
    simp only at hx hm hb ⊢
    simp only [thenK]
    (repeat refine Sat.seq ?_)
    have e1 : IntKind.u8.wrap (x : Int) = (x : Int) := IntWalk.u8_in _ (by omega)
    refine Sat.region_k fun k hk => ?_
    simp -implicitDefEqProofs only [evr, id, seval, List.append_nil, e1]
    generalize hs : (ByteArray.mk _) = tb
    have hsz : tb.size = 256 := by rw [← hs]; kernel_rfl
    have hall : ∀ i, i < 256 → byteAt tb i = (bitsLen i : Int) := by subst hs; exact of_decide_eq_true (by kernel_rfl)
    rw [hsz]
    have hbl : bitsLen x ≤ 8 := (bitsLen_le_iff x 8).2 (by omega)
    have e2 : IntKind.i64.wrap (bitsLen x : Int) = (bitsLen x : Int) := w64 (by omega)
    have e3 : IntKind.i64.wrap ((m : Int) + (bitsLen x : Int)) = (bitsLen n : Int) := by rw [w64 (by omega)]; omega
    simp only [hall x hx, e2, e3]
    refine ⟨by omega, ?_⟩
    (refine hk _ ?_; clear hk k; try show Sat _ _ _ _ _)
    refine Sat.ret ?_
    simp only [Try.results77, evr, id, reduceCtorEq, reduceIte, Nat.reduceMul, Nat.reduceAdd, Nat.reduceLT, Nat.reduceLeDiff, Nat.reduceEqDiff, Int.reduceLT, Int.reduceBEq, Int.reduceBNe, Nat.reduceBEq, List.append_nil]
set_option maxRecDepth 100000 in
theorem lenC (F : Frm) (n : Nat) (hn : n < 18446744073709551616) : Contract F Try.prog 57 [.i .u64 n] (fun r => r = .i .i64 (bitsLen n : Nat)) := by
 refine contract_of Try.func57 rfl (by kernel_rfl) ?_
 simp only [Try.ntmps57, argEnv]
 (repeat refine Sat.seq ?_)
 (refine Sat.region_k fun k hk => ?_; simp -implicitDefEqProofs only [evr, id, seval, List.append_nil]; refine hk _ ?_; clear hk k; try show Sat _ _ _ _ _)
 (repeat refine Sat.seq ?_)
 refine Sat.cond_ff rfl ?_
 refine Sat.skip ?_
 simp only [thenK]
 have e1 : IntKind.u64.wrap (n : Int) = (n : Int) := IntWalk.u64_in _ (by omega)
 (repeat refine Sat.seq ?_)
 refine Sat.region_k fun k hk => ?_
 simp -implicitDefEqProofs only [evr, id, seval, List.append_nil, e1]
 refine wcall_plain (len64C F n hn) rfl (by rintro _ rfl; exact ok_plain rfl) ?_
 rintro r rfl
 simp -implicitDefEqProofs only [evr, id, seval, List.append_nil]
 (refine hk _ ?_; clear hk k; try show Sat _ _ _ _ _)
 refine Sat.ret ?_
 simp only [Try.results57, evr, id, reduceCtorEq, reduceIte, Nat.reduceMul, Nat.reduceAdd, Nat.reduceLT, Nat.reduceLeDiff, Nat.reduceEqDiff, Int.reduceLT, Int.reduceBEq, Int.reduceBNe, Nat.reduceBEq, List.append_nil]
end Go.Proofs.Ytepbdjpcoleegaa
