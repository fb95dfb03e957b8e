/- natural.Int; the reference's Same: what each gives. -/
import Derived.Test.YtagmohpafjncfaaPk1
import Derived.Test.YtagmohpafjncfaaEngR
import Derived.Test.YtagmohpafjncfaaStopM
import Derived.WalkKit
import Derived.Carry
import Derived.Deep.Draws
import Derived.Test.YtagmohpafjncfaaProg
import Derived.Lib.Hide
import Derived.Deep.LoopGhost
import Derived.Deep.QuietTactic
import Derived.BigQuiet
import Derived.Outline
import Derived.OpenShut
import Derived.Test.YtagmohpafjncfaaEv
import Derived.Test.YtagmohpafjncfaaEngL
import Derived.Test.YtagmohpafjncfaaFailM
import Derived.Test.YtagmohpafjncfaaRows
import Derived.ProofKit
import Derived.ShutString
import Derived.ChangeOld
import Derived.Below
set_option linter.unusedSimpArgs false
set_option linter.unusedVariables false
namespace Go.Proofs.Ytagmohpafjncfaa
open Eng Lmb Go.RowKit

theorem val_drop_le {xs : List Int} (h : Limbs xs) : ∀ q, val (xs.drop q) ≤ val xs
  | 0 => by simp
  | q + 1 => by
    refine Int.le_trans ?_ (val_drop_le h q)
    by_cases hq : q < xs.length
    · rw [val_drop xs q hq]
      have := limbs_getD h q
      have h2 : 0 ≤ val (xs.drop (q + 1)) := val_nonneg fun x hx => h x (List.mem_of_mem_drop hx)
      omega
    · rw [List.drop_eq_nil_of_le (by omega), List.drop_eq_nil_of_le (by omega)]
      exact Int.le_refl _
def intV (n : Nat) : Int := if n ≤ 4611686018427387904 then n else 0
def intE (n : Nat) : Int := if n ≤ 4611686018427387904 then 0 else 1

set_option maxRecDepth 100000 in
theorem natIntC (F : Frm) {s : SV} {n : Nat} (hs : Nats s n) (hb : (n : Int) < pw 512) : Contract F Try.prog 17 [s] (fun r => r = tupL [.i .i64 (intV n), .i .i64 (intE n)]) := by
  obtain ⟨xs, hi1, d1⟩ := hs.ints
  have l1 := (d1.len_le 512).2 hb
  obtain ⟨a1, c1, z1, r1, rfl, hz1, hr1⟩ := hi1
  refine contract_of Try.func17 rfl (by kernel_rfl) ?_
  simp only [Try.ntmps17, argEnv]
  have e0 : IntKind.i64.wrap ((xs.length : Int) - 1) = (xs.length : Int) - 1 := w64 (by omega)
  (repeat refine Sat.seq ?_)
  (refine Sat.region_k fun k hk => ?_; simp -implicitDefEqProofs only [evr, id, reduceCtorEq, reduceIte, Nat.reduceMul, Nat.reduceAdd, Nat.reduceLT, Nat.reduceLeDiff, Nat.reduceEqDiff, Int.reduceLT, Int.reduceBEq, Int.reduceBNe, Nat.reduceBEq, List.append_nil, Int.toNat_zero, Nat.sub_self, frS]; refine hk _ ?_; clear hk k; try show Sat _ _ _ _ _)
  (repeat refine Sat.seq ?_)
  (refine Sat.region_k fun k hk => ?_; simp -implicitDefEqProofs only [evr, id, reduceCtorEq, reduceIte, Nat.reduceMul, Nat.reduceAdd, Nat.reduceLT, Nat.reduceLeDiff, Nat.reduceEqDiff, Int.reduceLT, Int.reduceBEq, Int.reduceBNe, Nat.reduceBEq, List.append_nil, Int.toNat_zero, Nat.sub_self, frS]; refine hk _ ?_; clear hk k; try show Sat _ _ _ _ _)
  (repeat refine Sat.seq ?_)
  refine Sat.region_k fun k hk => ?_
  simp -implicitDefEqProofs only [evr, id, reduceCtorEq, reduceIte, Nat.reduceMul, Nat.reduceAdd, Nat.reduceLT, Nat.reduceLeDiff, Nat.reduceEqDiff, Int.reduceLT, Int.reduceBEq, Int.reduceBNe, Nat.reduceBEq, List.append_nil, Int.toNat_zero, Nat.sub_self, frS, e0]
  (refine hk _ ?_; clear hk k; try show Sat _ _ _ _ _)
  (repeat refine Sat.seq ?_)
  refine Sat.block ?_
  (repeat refine Sat.seq ?_)
  refine Sat.loop (ι := Nat) (fun q => ⟨29, [(5, .i .i64 ((q : Int) - 1)), (4, .i .i64 (val (xs.drop q))), (0, .sl a1 xs.length c1 z1 r1)], []⟩)
    (fun q => q ≤ xs.length ∧ val (xs.drop q) ≤ 4611686018427387904) (fun q => q) xs.length ⟨Nat.le_refl _, by rw [List.drop_length]; decide⟩ (by rw [List.drop_length]; simp -implicitDefEqProofs only [evr, id, reduceCtorEq, reduceIte, Nat.reduceMul, Nat.reduceAdd, Nat.reduceLT, Nat.reduceLeDiff, Nat.reduceEqDiff, Int.reduceLT, Int.reduceBEq, Int.reduceBNe, Nat.reduceBEq, List.append_nil, Int.toNat_zero, Nat.sub_self, frS, evl]; try rfl) ?_
  rintro q ⟨hq, hv⟩
  have hv0 : 0 ≤ val (xs.drop q) := val_nonneg fun x hx => d1.limbs x (List.mem_of_mem_drop hx)
  (repeat refine Sat.seq ?_)
  (refine Sat.region_k fun k hk => ?_; simp -implicitDefEqProofs only [evr, id, reduceCtorEq, reduceIte, Nat.reduceMul, Nat.reduceAdd, Nat.reduceLT, Nat.reduceLeDiff, Nat.reduceEqDiff, Int.reduceLT, Int.reduceBEq, Int.reduceBNe, Nat.reduceBEq, List.append_nil, Int.toNat_zero, Nat.sub_self, frS]; refine hk _ ?_; clear hk k; try show Sat _ _ _ _ _)
  (repeat refine Sat.seq ?_)
  refine Sat.cond_b rfl (fun h => ?_) (fun h => ?_)
  · simp only [decide_eq_true_eq] at h
    obtain ⟨j, rfl⟩ : ∃ j, q = j + 1 := ⟨q - 1, by omega⟩
    have hj : j < xs.length := by omega
    have ej : (((j + 1 : Nat) : Int) - 1) = (j : Int) := by omega
    have ej2 : IntKind.i64.wrap ((j : Int) - 1) = (j : Int) - 1 := w64 (by omega)
    have hsz1 : z1 = 1 := by
      rcases hz1 with hz | hz
      · omega
      · exact hz
    subst hsz1
    have g1 := hr1 j hj
    have bx := limbs_getD d1.limbs j
    have hd := val_drop xs j hj
    have hle := val_drop_le d1.limbs j
    rw [d1.val] at hle
    generalize val (xs.drop (j + 1)) = v at hv hv0 hd
    generalize hx : xs.getD j 0 = x at g1 bx hd
    have w1 : IntKind.i64.wrap (4611686018427387904 - x) = 4611686018427387904 - x := w64 (by omega)
    have p30 : ((2 : Int) ^ min (Int.toNat 30) IntKind.i64.bits) = 1073741824 := by decide
    have w2 : (4611686018427387904 - x).fdiv 1073741824 = (4611686018427387904 - x) / 1073741824 := Int.fdiv_eq_ediv_of_nonneg _ (by decide)
    refine Sat.skip ?_
    simp only [thenK, ej]
    (repeat refine Sat.seq ?_)
    refine Sat.block ?_
    (repeat refine Sat.seq ?_)
    refine Sat.region_k fun k hk => ?_
    simp -implicitDefEqProofs only [evr, id, reduceCtorEq, reduceIte, Nat.reduceMul, Nat.reduceAdd, Nat.reduceLT, Nat.reduceLeDiff, Nat.reduceEqDiff, Int.reduceLT, Int.reduceBEq, Int.reduceBNe, Nat.reduceBEq, List.append_nil, Int.toNat_zero, Nat.sub_self, frS]
    refine ⟨by omega, ?_⟩
    rw [g1]
    simp -implicitDefEqProofs only [evr, id, reduceCtorEq, reduceIte, Nat.reduceMul, Nat.reduceAdd, Nat.reduceLT, Nat.reduceLeDiff, Nat.reduceEqDiff, Int.reduceLT, Int.reduceBEq, Int.reduceBNe, Nat.reduceBEq, List.append_nil, Int.toNat_zero, Nat.sub_self, frS, w1, p30, w2]
    refine ⟨by decide, ?_⟩
    (refine hk _ ?_; clear hk k; try show Sat _ _ _ _ _)
    refine Sat.cond_b rfl (fun h9 => ?_) (fun h9 => ?_)
    · have h10 := of_decide_eq_true h9
      have hbig : ¬ n ≤ 4611686018427387904 := by omega
      (repeat refine Sat.seq ?_)
      (refine Sat.region_k fun k hk => ?_; simp -implicitDefEqProofs only [evr, id, reduceCtorEq, reduceIte, Nat.reduceMul, Nat.reduceAdd, Nat.reduceLT, Nat.reduceLeDiff, Nat.reduceEqDiff, Int.reduceLT, Int.reduceBEq, Int.reduceBNe, Nat.reduceBEq, List.append_nil, Int.toNat_zero, Nat.sub_self, frS]; refine hk _ ?_; clear hk k; try show Sat _ _ _ _ _)
      refine Sat.ret ?_
      simp only [thenK, blockK, Try.results17, evr, id, reduceCtorEq, reduceIte, Nat.reduceMul, Nat.reduceAdd, Nat.reduceLT, Nat.reduceLeDiff, Nat.reduceEqDiff, Int.reduceLT, Int.reduceBEq, Int.reduceBNe, Nat.reduceBEq, List.append_nil, Int.toNat_zero, Nat.sub_self, frS]
      unfold intV intE
      rw [if_neg hbig, if_neg hbig]
    · have h10 := of_decide_eq_false h9
      have w3 : IntKind.i64.wrap (v * 1073741824) = v * 1073741824 := w64 (by omega)
      have w4 : bits .or .i64 (v * 1073741824) x = v * 1073741824 + x := Zn.or_limb v x hv0 (by omega) bx.1 bx.2
      refine Sat.skip ?_
      simp only [thenK]
      (repeat refine Sat.seq ?_)
      refine Sat.region_k fun k hk => ?_
      simp -implicitDefEqProofs only [evr, id, reduceCtorEq, reduceIte, Nat.reduceMul, Nat.reduceAdd, Nat.reduceLT, Nat.reduceLeDiff, Nat.reduceEqDiff, Int.reduceLT, Int.reduceBEq, Int.reduceBNe, Nat.reduceBEq, List.append_nil, Int.toNat_zero, Nat.sub_self, frS, p30, w3]
      refine ⟨by decide, by omega, ?_⟩
      rw [g1]
      simp -implicitDefEqProofs only [evr, id, reduceCtorEq, reduceIte, Nat.reduceMul, Nat.reduceAdd, Nat.reduceLT, Nat.reduceLeDiff, Nat.reduceEqDiff, Int.reduceLT, Int.reduceBEq, Int.reduceBNe, Nat.reduceBEq, List.append_nil, Int.toNat_zero, Nat.sub_self, frS, w4]
      refine hk _ ?_
      clear hk k
      simp only [thenK, blockK]
      (repeat refine Sat.seq ?_)
      refine Sat.region_k fun k hk => ?_
      simp -implicitDefEqProofs only [evr, id, reduceCtorEq, reduceIte, Nat.reduceMul, Nat.reduceAdd, Nat.reduceLT, Nat.reduceLeDiff, Nat.reduceEqDiff, Int.reduceLT, Int.reduceBEq, Int.reduceBNe, Nat.reduceBEq, List.append_nil, Int.toNat_zero, Nat.sub_self, frS, ej2]
      refine hk _ ?_
      simp only [thenK, blockK]
      refine ⟨j, ⟨by omega, by rw [hd]; omega⟩, by omega, ?_⟩
      simp -implicitDefEqProofs only [evr, id, reduceCtorEq, reduceIte, Nat.reduceMul, Nat.reduceAdd, Nat.reduceLT, Nat.reduceLeDiff, Nat.reduceEqDiff, Int.reduceLT, Int.reduceBEq, Int.reduceBNe, Nat.reduceBEq, List.append_nil, Int.toNat_zero, Nat.sub_self, frS, evl]
      omega
  · simp only [decide_eq_false_iff_not] at h
    obtain rfl : q = 0 := by omega
    rw [List.drop_zero, d1.val] at hv
    have hsm : n ≤ 4611686018427387904 := by omega
    refine Sat.exit ?_
    simp only [thenK, blockK, reduceIte]
    (repeat refine Sat.seq ?_)
    (refine Sat.region_k fun k hk => ?_; simp -implicitDefEqProofs only [evr, id, reduceCtorEq, reduceIte, Nat.reduceMul, Nat.reduceAdd, Nat.reduceLT, Nat.reduceLeDiff, Nat.reduceEqDiff, Int.reduceLT, Int.reduceBEq, Int.reduceBNe, Nat.reduceBEq, List.append_nil, Int.toNat_zero, Nat.sub_self, frS]; refine hk _ ?_; clear hk k; try show Sat _ _ _ _ _)
    refine Sat.ret ?_
    simp only [Try.results17, evr, id, reduceCtorEq, reduceIte, Nat.reduceMul, Nat.reduceAdd, Nat.reduceLT, Nat.reduceLeDiff, Nat.reduceEqDiff, Int.reduceLT, Int.reduceBEq, Int.reduceBNe, Nat.reduceBEq, List.append_nil, Int.toNat_zero, Nat.sub_self, frS]
    unfold intV intE
    rw [if_pos hsm, if_pos hsm, d1.val]

set_option maxRecDepth 100000 in
theorem refSameC (F : Frm) {sa sb : SV} {m n : Nat} (ha : Nats sa m) (hb : Nats sb n) (b1 : (m : Int) < pw 512) (b2 : (n : Int) < pw 512) : Contract F Try.prog 24 [sa, sb] (fun r => r = .b (decide (m = n))) := by
  obtain ⟨xs, hi1, d1⟩ := ha.ints
  obtain ⟨ys, hi2, d2⟩ := hb.ints
  have l1 := (d1.len_le 512).2 b1
  have l2 := (d2.len_le 512).2 b2
  obtain ⟨a1, c1, z1, r1, rfl, hz1, hr1⟩ := hi1
  obtain ⟨a2, c2, z2, r2, rfl, hz2, hr2⟩ := hi2
  have hxy : xs = ys ↔ m = n := d1.inj d2
  refine contract_of Try.func24 rfl (by kernel_rfl) ?_
  simp only [Try.ntmps24, argEnv]
  (repeat refine Sat.seq ?_)
  (refine Sat.region_k fun k hk => ?_; simp -implicitDefEqProofs only [evr, id, reduceCtorEq, reduceIte, Nat.reduceMul, Nat.reduceAdd, Nat.reduceLT, Nat.reduceLeDiff, Nat.reduceEqDiff, Int.reduceLT, Int.reduceBEq, Int.reduceBNe, Nat.reduceBEq, List.append_nil, Int.toNat_zero, Nat.sub_self, frS]; refine hk _ ?_; clear hk k; try show Sat _ _ _ _ _)
  (repeat refine Sat.seq ?_)
  (refine Sat.region_k fun k hk => ?_; simp -implicitDefEqProofs only [evr, id, reduceCtorEq, reduceIte, Nat.reduceMul, Nat.reduceAdd, Nat.reduceLT, Nat.reduceLeDiff, Nat.reduceEqDiff, Int.reduceLT, Int.reduceBEq, Int.reduceBNe, Nat.reduceBEq, List.append_nil, Int.toNat_zero, Nat.sub_self, frS]; refine hk _ ?_; clear hk k; try show Sat _ _ _ _ _)
  refine Sat.cond_b rfl (fun h => ?_) (fun h => ?_)
  · have hne : xs.length ≠ ys.length := by
      simp only [bne_iff_ne] at h
      omega
    (repeat refine Sat.seq ?_)
    (refine Sat.region_k fun k hk => ?_; simp -implicitDefEqProofs only [evr, id, reduceCtorEq, reduceIte, Nat.reduceMul, Nat.reduceAdd, Nat.reduceLT, Nat.reduceLeDiff, Nat.reduceEqDiff, Int.reduceLT, Int.reduceBEq, Int.reduceBNe, Nat.reduceBEq, List.append_nil, Int.toNat_zero, Nat.sub_self, frS]; refine hk _ ?_; clear hk k; try show Sat _ _ _ _ _)
    refine Sat.ret ?_
    simp only [Try.results24, evr, id, reduceCtorEq, reduceIte, Nat.reduceMul, Nat.reduceAdd, Nat.reduceLT, Nat.reduceLeDiff, Nat.reduceEqDiff, Int.reduceLT, Int.reduceBEq, Int.reduceBNe, Nat.reduceBEq, List.append_nil, Int.toNat_zero, Nat.sub_self, frS]
    rw [decide_eq_false fun h9 => hne (by rw [hxy.2 h9])]
  have hlen : ys.length = xs.length := by
    have h9 : ¬ ((xs.length : Int) ≠ ys.length) := by
      intro h9
      rw [bne_iff_ne.2 h9] at h
      cases h
    omega
  refine Sat.skip ?_
  simp only [thenK]
  (repeat refine Sat.seq ?_)
  (refine Sat.region_k fun k hk => ?_; simp -implicitDefEqProofs only [evr, id, reduceCtorEq, reduceIte, Nat.reduceMul, Nat.reduceAdd, Nat.reduceLT, Nat.reduceLeDiff, Nat.reduceEqDiff, Int.reduceLT, Int.reduceBEq, Int.reduceBNe, Nat.reduceBEq, List.append_nil, Int.toNat_zero, Nat.sub_self, frS]; refine hk _ ?_; clear hk k; try show Sat _ _ _ _ _)
  (repeat refine Sat.seq ?_)
  refine Sat.block ?_
  (repeat refine Sat.seq ?_)
  refine Sat.loop (ι := Nat) (fun q => ⟨26, [(5, .i .i64 (q : Int)), (0, .sl a1 xs.length c1 z1 r1), (1, .sl a2 ys.length c2 z2 r2)], []⟩)
    (fun q => q ≤ xs.length ∧ ∀ i, i < q → xs.getD i 0 = ys.getD i 0) (fun q => xs.length - q) 0 ⟨Nat.zero_le _, fun i hi => by omega⟩ (by simp -implicitDefEqProofs only [evr, id, reduceCtorEq, reduceIte, Nat.reduceMul, Nat.reduceAdd, Nat.reduceLT, Nat.reduceLeDiff, Nat.reduceEqDiff, Int.reduceLT, Int.reduceBEq, Int.reduceBNe, Nat.reduceBEq, List.append_nil, Int.toNat_zero, Nat.sub_self, frS, evl]; try rfl) ?_
  rintro q ⟨hq, heq⟩
  (repeat refine Sat.seq ?_)
  (refine Sat.region_k fun k hk => ?_; simp -implicitDefEqProofs only [evr, id, reduceCtorEq, reduceIte, Nat.reduceMul, Nat.reduceAdd, Nat.reduceLT, Nat.reduceLeDiff, Nat.reduceEqDiff, Int.reduceLT, Int.reduceBEq, Int.reduceBNe, Nat.reduceBEq, List.append_nil, Int.toNat_zero, Nat.sub_self, frS]; refine hk _ ?_; clear hk k; try show Sat _ _ _ _ _)
  (repeat refine Sat.seq ?_)
  refine Sat.cond_b rfl (fun h => ?_) (fun h => ?_)
  · simp only [decide_eq_true_eq] at h
    have hj : q < xs.length := by omega
    have hsz1 : z1 = 1 := hz1.resolve_left (by omega)
    have hsz2 : z2 = 1 := hz2.resolve_left (by omega)
    subst hsz1 hsz2
    have g1 := hr1 q hj
    have g2 := hr2 q (by omega)
    have ej1 : IntKind.i64.wrap ((q : Int) + 1) = ((q + 1 : Nat) : Int) := by rw [w64 (by omega)]; omega
    refine Sat.skip ?_
    simp only [thenK]
    (repeat refine Sat.seq ?_)
    refine Sat.block ?_
    (repeat refine Sat.seq ?_)
    refine Sat.region_qk (by kernel_rfl) (by kernel_rfl) fun k hk => ?_
    simp -implicitDefEqProofs only [evr, id, reduceCtorEq, reduceIte, Nat.reduceMul, Nat.reduceAdd, Nat.reduceLT, Nat.reduceLeDiff, Nat.reduceEqDiff, Int.reduceLT, Int.reduceBEq, Int.reduceBNe, Nat.reduceBEq, List.append_nil, Int.toNat_zero, Nat.sub_self, frS]
    refine ⟨by omega, by omega, ?_⟩
    rw [g1, g2]
    simp -implicitDefEqProofs only [evr, id, reduceCtorEq, reduceIte, Nat.reduceMul, Nat.reduceAdd, Nat.reduceLT, Nat.reduceLeDiff, Nat.reduceEqDiff, Int.reduceLT, Int.reduceBEq, Int.reduceBNe, Nat.reduceBEq, List.append_nil, Int.toNat_zero, Nat.sub_self, frS]
    (refine hk _ ?_; clear hk k; try show Sat _ _ _ _ _)
    refine Sat.cond_b rfl (fun h9 => ?_) (fun h9 => ?_)
    · have hne : xs ≠ ys := fun h10 => by
        subst h10
        rw [bne_self_eq_false] at h9
        cases h9
      (repeat refine Sat.seq ?_)
      (refine Sat.region_k fun k hk => ?_; simp -implicitDefEqProofs only [evr, id, reduceCtorEq, reduceIte, Nat.reduceMul, Nat.reduceAdd, Nat.reduceLT, Nat.reduceLeDiff, Nat.reduceEqDiff, Int.reduceLT, Int.reduceBEq, Int.reduceBNe, Nat.reduceBEq, List.append_nil, Int.toNat_zero, Nat.sub_self, frS]; refine hk _ ?_; clear hk k; try show Sat _ _ _ _ _)
      refine Sat.ret ?_
      simp only [thenK, blockK, Try.results24, evr, id, reduceCtorEq, reduceIte, Nat.reduceMul, Nat.reduceAdd, Nat.reduceLT, Nat.reduceLeDiff, Nat.reduceEqDiff, Int.reduceLT, Int.reduceBEq, Int.reduceBNe, Nat.reduceBEq, List.append_nil, Int.toNat_zero, Nat.sub_self, frS]
      rw [decide_eq_false fun h10 => hne (hxy.2 h10)]
    · have hee : xs.getD q 0 = ys.getD q 0 := by
        by_cases h10 : xs.getD q 0 = ys.getD q 0
        · exact h10
        · rw [bne_iff_ne.2 h10] at h9; cases h9
      refine Sat.skip ?_
      simp only [thenK, blockK]
      (repeat refine Sat.seq ?_)
      refine Sat.region_k fun k hk => ?_
      simp -implicitDefEqProofs only [evr, id, reduceCtorEq, reduceIte, Nat.reduceMul, Nat.reduceAdd, Nat.reduceLT, Nat.reduceLeDiff, Nat.reduceEqDiff, Int.reduceLT, Int.reduceBEq, Int.reduceBNe, Nat.reduceBEq, List.append_nil, Int.toNat_zero, Nat.sub_self, frS, ej1]
      refine hk _ ?_
      simp only [thenK, blockK]
      refine ⟨q + 1, ⟨by omega, fun i hi => ?_⟩, by omega, ?_⟩
      · rcases (show i < q ∨ i = q by omega) with h10 | rfl
        · exact heq i h10
        · exact hee
      simp -implicitDefEqProofs only [evr, id, reduceCtorEq, reduceIte, Nat.reduceMul, Nat.reduceAdd, Nat.reduceLT, Nat.reduceLeDiff, Nat.reduceEqDiff, Int.reduceLT, Int.reduceBEq, Int.reduceBNe, Nat.reduceBEq, List.append_nil, Int.toNat_zero, Nat.sub_self, frS, evl]
  · simp only [decide_eq_false_iff_not] at h
    have hq2 : q = xs.length := by omega
    have hxs : xs = ys := by
      apply List.ext_getElem hlen.symm
      intro i h1 h2
      have := heq i (by omega)
      simpa [List.getD, h1, h2] using this
    refine Sat.exit ?_
    simp only [thenK, blockK, reduceIte]
    (repeat refine Sat.seq ?_)
    (refine Sat.region_k fun k hk => ?_; simp -implicitDefEqProofs only [evr, id, reduceCtorEq, reduceIte, Nat.reduceMul, Nat.reduceAdd, Nat.reduceLT, Nat.reduceLeDiff, Nat.reduceEqDiff, Int.reduceLT, Int.reduceBEq, Int.reduceBNe, Nat.reduceBEq, List.append_nil, Int.toNat_zero, Nat.sub_self, frS]; refine hk _ ?_; clear hk k; try show Sat _ _ _ _ _)
    refine Sat.ret ?_
    simp only [Try.results24, evr, id, reduceCtorEq, reduceIte, Nat.reduceMul, Nat.reduceAdd, Nat.reduceLT, Nat.reduceLeDiff, Nat.reduceEqDiff, Int.reduceLT, Int.reduceBEq, Int.reduceBNe, Nat.reduceBEq, List.append_nil, Int.toNat_zero, Nat.sub_self, frS]
    rw [decide_eq_true (hxy.1 hxs)]

set_option maxRecDepth 100000 in
theorem refSame3C (F : Frm) (na nb : Bool) {sp sq sr ss : SV} {p q r s : Nat} (hp : Nats sp p) (hq : Nats sq q) (hr : Nats sr r) (hs : Nats ss s) (b1 : (p : Int) < pw 512) (b2 : (q : Int) < pw 512) (b3 : (r : Int) < pw 512) (b4 : (s : Int) < pw 512) :
    Contract F Try.prog 19 [frS na sp sq, frS nb sr ss] (fun x => x = .b (decide (na = nb ∧ p = r ∧ q = s))) := by
  have hp' := hp
  have hq' := hq
  have hr' := hr
  have hs' := hs
  obtain ⟨a1, c1, z1, r1, x1, rfl, _⟩ := hp
  obtain ⟨a2, c2, z2, r2, x2, rfl, _⟩ := hq
  obtain ⟨a3, c3, z3, r3, x3, rfl, _⟩ := hr
  obtain ⟨a4, c4, z4, r4, x4, rfl, _⟩ := hs
  refine contract_of Try.func19 rfl (by kernel_rfl) ?_
  simp only [Try.ntmps19, argEnv, frS]
  (repeat refine Sat.seq ?_)
  (refine Sat.region_k fun k hk => ?_; simp -implicitDefEqProofs only [evr, id, reduceCtorEq, reduceIte, Nat.reduceMul, Nat.reduceAdd, Nat.reduceLT, Nat.reduceLeDiff, Nat.reduceEqDiff, Int.reduceLT, Int.reduceBEq, Int.reduceBNe, Nat.reduceBEq, List.append_nil, Int.toNat_zero, Nat.sub_self, frS])
  intro blk1 blk2
  (refine hk _ ?_; clear hk k; try show Sat _ _ _ _ _)
  (repeat refine Sat.seq ?_)
  refine Sat.region_at ⟨24, [(4, .b (decide (na = nb ∧ p = r ∧ q = s)))], []⟩ (fun k hk => ?_) ?_
  · simp -implicitDefEqProofs only [evr, id, reduceCtorEq, reduceIte, Nat.reduceMul, Nat.reduceAdd, Nat.reduceLT, Nat.reduceLeDiff, Nat.reduceEqDiff, Int.reduceLT, Int.reduceBEq, Int.reduceBNe, Nat.reduceBEq, List.append_nil, Int.toNat_zero, Nat.sub_self, frS]
    refine ⟨fun h => ?_, fun h => ?_⟩
    · have hn : na = nb := by simpa using h
      refine wcall_plain (refSameC F hp' hr' b1 b3) rfl (by rintro _ rfl; exact ok_plain rfl) ?_
      rintro y rfl
      simp -implicitDefEqProofs only [evr, id, reduceCtorEq, reduceIte, Nat.reduceMul, Nat.reduceAdd, Nat.reduceLT, Nat.reduceLeDiff, Nat.reduceEqDiff, Int.reduceLT, Int.reduceBEq, Int.reduceBNe, Nat.reduceBEq, List.append_nil, Int.toNat_zero, Nat.sub_self, frS]
      refine ⟨fun h2 => ?_, fun h2 => ?_⟩
      · refine wcall_plain (refSameC F hq' hs' b2 b4) rfl (by rintro _ rfl; exact ok_plain rfl) ?_
        rintro y rfl
        simp -implicitDefEqProofs only [evr, id, reduceCtorEq, reduceIte, Nat.reduceMul, Nat.reduceAdd, Nat.reduceLT, Nat.reduceLeDiff, Nat.reduceEqDiff, Int.reduceLT, Int.reduceBEq, Int.reduceBNe, Nat.reduceBEq, List.append_nil, Int.toNat_zero, Nat.sub_self, frS]
        refine hk _ ?_
        have e : decide (na = nb ∧ p = r ∧ q = s) = decide (q = s) := by simp [hn, h2]
        rw [e]
        simp -implicitDefEqProofs only [evr, id, reduceCtorEq, reduceIte, Nat.reduceMul, Nat.reduceAdd, Nat.reduceLT, Nat.reduceLeDiff, Nat.reduceEqDiff, Int.reduceLT, Int.reduceBEq, Int.reduceBNe, Nat.reduceBEq, List.append_nil, Int.toNat_zero, Nat.sub_self, frS, evl]
      · refine hk _ ?_
        have e : decide (na = nb ∧ p = r ∧ q = s) = false := by simp [h2]
        rw [e]
        simp -implicitDefEqProofs only [evr, id, reduceCtorEq, reduceIte, Nat.reduceMul, Nat.reduceAdd, Nat.reduceLT, Nat.reduceLeDiff, Nat.reduceEqDiff, Int.reduceLT, Int.reduceBEq, Int.reduceBNe, Nat.reduceBEq, List.append_nil, Int.toNat_zero, Nat.sub_self, frS, evl]
        try exact h2
    · have hn : ¬ na = nb := by simpa using h
      refine hk _ ?_
      have e : decide (na = nb ∧ p = r ∧ q = s) = false := by simp [hn]
      rw [e]
      simp -implicitDefEqProofs only [evr, id, reduceCtorEq, reduceIte, Nat.reduceMul, Nat.reduceAdd, Nat.reduceLT, Nat.reduceLeDiff, Nat.reduceEqDiff, Int.reduceLT, Int.reduceBEq, Int.reduceBNe, Nat.reduceBEq, List.append_nil, Int.toNat_zero, Nat.sub_self, frS, evl]
      try exact h
  simp only [thenK]
  refine Sat.ret ?_
  simp only [Try.results19, evr, id, reduceCtorEq, reduceIte, Nat.reduceMul, Nat.reduceAdd, Nat.reduceLT, Nat.reduceLeDiff, Nat.reduceEqDiff, Int.reduceLT, Int.reduceBEq, Int.reduceBNe, Nat.reduceBEq, List.append_nil, Int.toNat_zero, Nat.sub_self, frS]
end Go.Proofs.Ytagmohpafjncfaa

/- Fractions, by the evaluator: package fraction's Compare; package stopping's below, chance, power. -/
set_option linter.unusedSimpArgs false
set_option linter.unusedVariables false
namespace Go.Proofs.Ytagmohpafjncfaa
open Eng Lmb

/-- the order of two fractions -/
def cmpV (na : Bool) (p q : Nat) (nb : Bool) (r s : Nat) : Int :=
  if (sumV na (p * s) (!nb) (r * q)).2 = 0 then 0 else if (sumV na (p * s) (!nb) (r * q)).1 = true then -1 else 1
theorem cmpV_pos (p q r s : Nat) : cmpV false p q false r s = cmpI (p * s : Nat) (r * q : Nat) := by
  unfold cmpV sumV
  simp only [Bool.not_false, Bool.false_eq_true, if_false]
  by_cases h : p * s < r * q
  · rw [if_pos h, cmpI_lt (by omega)]
    have : ¬ r * q - p * s = 0 := by omega
    simp [this]
  · rw [if_neg h]
    by_cases h2 : r * q < p * s
    · rw [cmpI_gt (by omega)]
      have : ¬ p * s - r * q = 0 := by omega
      simp [this]
    · rw [cmpI_eq (by omega)]
      have : p * s - r * q = 0 := by omega
      simp [this]

theorem Nats.zero {a : Option Addr} {len cap sz n : Nat} {rd : Nat → Nat → SV} (h : Nats (.sl a len cap sz rd) n) : ((len : Int) == 0) = decide (n = 0) := by
  have := h.len
  by_cases h0 : n = 0
  · rw [decide_eq_true h0]
    have : ¬ 0 < (len : Int) := by rw [this]; omega
    have : (len : Int) = 0 := by omega
    rw [this]; rfl
  · rw [decide_eq_false h0, beq_eq_false_iff_ne]
    have : 0 < (len : Int) := by rw [this]; omega
    omega

set_option maxRecDepth 100000 in
theorem fractionCompareC (F : Frm) (na nb : Bool) {sp sq sr ss : SV} {p q r s : Nat} (hp : Nats sp p) (hq : Nats sq q) (hr : Nats sr r) (hs : Nats ss s)
    (b1 : (p : Int) < pw 256) (b2 : (q : Int) < pw 256) (b3 : (r : Int) < pw 256) (b4 : (s : Int) < pw 256) (b5 : ((p * s : Nat) : Int) < pw 256) (b6 : ((r * q : Nat) : Int) < pw 256) (b7 : ((p * s + r * q : Nat) : Int) < pw 256) :
    Contract F Try.prog 14 [frS na sp sq, frS nb sr ss] (fun x => x = tupL [.i .i64 (cmpV na p q nb r s), .i .i64 0]) := by
  have hp' := hp
  have hq' := hq
  have hr' := hr
  have hs' := hs
  obtain ⟨a1, c1, z1, r1, x1, rfl, _⟩ := hp
  obtain ⟨a2, c2, z2, r2, x2, rfl, _⟩ := hq
  obtain ⟨a3, c3, z3, r3, x3, rfl, _⟩ := hr
  obtain ⟨a4, c4, z4, r4, x4, rfl, _⟩ := hs
  refine contract_of Try.func14 rfl (by kernel_rfl) ?_
  simp only [Try.ntmps14, argEnv, frS]
  (repeat refine Sat.seq ?_)
  (refine Sat.region_k fun k hk => ?_; simp -implicitDefEqProofs only [evr, id, reduceCtorEq, reduceIte, Nat.reduceMul, Nat.reduceAdd, Nat.reduceLT, Nat.reduceLeDiff, Nat.reduceEqDiff, Int.reduceLT, Int.reduceBEq, Int.reduceBNe, Nat.reduceBEq, List.append_nil, Int.toNat_zero, Nat.sub_self, frS])
  intro k1 k2
  (refine hk _ ?_; clear hk k; try show Sat _ _ _ _ _)
  (repeat refine Sat.seq ?_)
  (refine Sat.region_rows [⟨0, 10, 4, 0⟩, ⟨1, 11, 512, 1⟩, ⟨0, 12, 4, 0⟩, ⟨4, 13, 2048, 1⟩, ⟨0, 14, 8, 0⟩, ⟨16, 15, 8192, 1⟩, ⟨40, 16, 20480, 2⟩, ⟨0, 17, 8, 0⟩, ⟨128, 18, 65536, 1⟩, ⟨256, 19, 131072, 0⟩, ⟨0, 20, 8, 0⟩, ⟨1024, 21, 524288, 1⟩, ⟨0, 22, 4, 0⟩, ⟨4096, 23, 2097152, 1⟩, ⟨10304, 24, 5242880, 2⟩, ⟨16962, 25, 8684544, 2⟩, ⟨32768, 9, 16777216, 0⟩, ⟨65536, 26, 256, 0⟩, ⟨65536, 27, 256, 0⟩, ⟨262143, 7, 33554432, 0⟩, ⟨1048575, 8, 67108864, 0⟩] [0, 2, 4, 7, 10, 12, 1, 3, 5, 8, 11, 13, 9] [(6, false), (14, false), (15, false), (16, false), (17, true), (18, true), (19, false), (20, false)] [6, 14] (by kernel_rfl) (by kernel_rfl) (fun _ _ h => h) fun k hk => ?_; simp only [List.map_cons, List.map_nil, List.getD_cons_zero, List.getD_cons_succ, btseq_cons, btseq_free, btseq_nil]; simp -implicitDefEqProofs only [evr, id, reduceCtorEq, reduceIte, Nat.reduceMul, Nat.reduceAdd, Nat.reduceLT, Nat.reduceLeDiff, Nat.reduceEqDiff, Int.reduceLT, Int.reduceBEq, Int.reduceBNe, Nat.reduceBEq, List.append_nil, Int.toNat_zero, Nat.sub_self, frS])
  refine wcall_slice (fractionProductC F hp' hs' b1 b4 b5) rfl (by simp -implicitDefEqProofs only [evr, id, reduceCtorEq, reduceIte, Nat.reduceMul, Nat.reduceAdd, Nat.reduceLT, Nat.reduceLeDiff, Nat.reduceEqDiff, Int.reduceLT, Int.reduceBEq, Int.reduceBNe, Nat.reduceBEq, List.append_nil, Int.toNat_zero, Nat.sub_self, frS]; try rfl) ?_
  intro y hy
  have hy1 := hy
  obtain ⟨a5, c5, z5, r5, x5, rfl, _⟩ := hy
  simp -implicitDefEqProofs only [evr, id, reduceCtorEq, reduceIte, Nat.reduceMul, Nat.reduceAdd, Nat.reduceLT, Nat.reduceLeDiff, Nat.reduceEqDiff, Int.reduceLT, Int.reduceBEq, Int.reduceBNe, Nat.reduceBEq, List.append_nil, Int.toNat_zero, Nat.sub_self, frS]
  refine wcall_slice (fractionProductC F hr' hq' b3 b2 b6) rfl (by simp -implicitDefEqProofs only [evr, id, reduceCtorEq, reduceIte, Nat.reduceMul, Nat.reduceAdd, Nat.reduceLT, Nat.reduceLeDiff, Nat.reduceEqDiff, Int.reduceLT, Int.reduceBEq, Int.reduceBNe, Nat.reduceBEq, List.append_nil, Int.toNat_zero, Nat.sub_self, frS]; try rfl) ?_
  intro y hy
  have hy2 := hy
  obtain ⟨a6, c6, z6, r6, x6, rfl, _⟩ := hy
  simp -implicitDefEqProofs only [evr, id, reduceCtorEq, reduceIte, Nat.reduceMul, Nat.reduceAdd, Nat.reduceLT, Nat.reduceLeDiff, Nat.reduceEqDiff, Int.reduceLT, Int.reduceBEq, Int.reduceBNe, Nat.reduceBEq, List.append_nil, Int.toNat_zero, Nat.sub_self, frS]
  refine wcall_slice (fractionSumC F na (!nb) hy1 hy2 b5 b6 b7) rfl (by simp -implicitDefEqProofs only [evr, id, reduceCtorEq, reduceIte, Nat.reduceMul, Nat.reduceAdd, Nat.reduceLT, Nat.reduceLeDiff, Nat.reduceEqDiff, Int.reduceLT, Int.reduceBEq, Int.reduceBNe, Nat.reduceBEq, List.append_nil, Int.toNat_zero, Nat.sub_self, frS]; try rfl) ?_
  rintro y ⟨sv, rfl, hy⟩
  have hy3 := hy
  obtain ⟨a7, c7, z7, r7, x7, rfl, _⟩ := hy
  have hz := hy3.zero
  simp -implicitDefEqProofs only [evr, id, reduceCtorEq, reduceIte, Nat.reduceMul, Nat.reduceAdd, Nat.reduceLT, Nat.reduceLeDiff, Nat.reduceEqDiff, Int.reduceLT, Int.reduceBEq, Int.reduceBNe, Nat.reduceBEq, List.append_nil, Int.toNat_zero, Nat.sub_self, frS]
  (refine hk _ ?_; clear hk k; try show Sat _ _ _ _ _)
  (repeat refine Sat.seq ?_)
  refine Sat.block ?_
  (repeat refine Sat.seq ?_)
  (refine Sat.region_k fun k hk => ?_; simp -implicitDefEqProofs only [evr, id, reduceCtorEq, reduceIte, Nat.reduceMul, Nat.reduceAdd, Nat.reduceLT, Nat.reduceLeDiff, Nat.reduceEqDiff, Int.reduceLT, Int.reduceBEq, Int.reduceBNe, Nat.reduceBEq, List.append_nil, Int.toNat_zero, Nat.sub_self, frS]; refine hk _ ?_; clear hk k; try show Sat _ _ _ _ _)
  refine Sat.cond_b rfl (fun h => ?_) (fun h => ?_)
  · rw [hz] at h
    have h0 := of_decide_eq_true h
    (repeat refine Sat.seq ?_)
    (refine Sat.region_k fun k hk => ?_; simp -implicitDefEqProofs only [evr, id, reduceCtorEq, reduceIte, Nat.reduceMul, Nat.reduceAdd, Nat.reduceLT, Nat.reduceLeDiff, Nat.reduceEqDiff, Int.reduceLT, Int.reduceBEq, Int.reduceBNe, Nat.reduceBEq, List.append_nil, Int.toNat_zero, Nat.sub_self, frS]; refine hk _ ?_; clear hk k; try show Sat _ _ _ _ _)
    refine Sat.ret ?_
    simp only [thenK, blockK, Try.results14, evr, id, reduceCtorEq, reduceIte, Nat.reduceMul, Nat.reduceAdd, Nat.reduceLT, Nat.reduceLeDiff, Nat.reduceEqDiff, Int.reduceLT, Int.reduceBEq, Int.reduceBNe, Nat.reduceBEq, List.append_nil, Int.toNat_zero, Nat.sub_self, frS]
    unfold cmpV
    rw [if_pos h0]
  · rw [hz] at h
    have h0 := of_decide_eq_false h
    (repeat refine Sat.seq ?_)
    (refine Sat.region_k fun k hk => ?_; simp -implicitDefEqProofs only [evr, id, reduceCtorEq, reduceIte, Nat.reduceMul, Nat.reduceAdd, Nat.reduceLT, Nat.reduceLeDiff, Nat.reduceEqDiff, Int.reduceLT, Int.reduceBEq, Int.reduceBNe, Nat.reduceBEq, List.append_nil, Int.toNat_zero, Nat.sub_self, frS]; refine hk _ ?_; clear hk k; try show Sat _ _ _ _ _)
    refine Sat.cond_b rfl (fun h2 => ?_) (fun h2 => ?_)
    · (repeat refine Sat.seq ?_)
      (refine Sat.region_k fun k hk => ?_; simp -implicitDefEqProofs only [evr, id, reduceCtorEq, reduceIte, Nat.reduceMul, Nat.reduceAdd, Nat.reduceLT, Nat.reduceLeDiff, Nat.reduceEqDiff, Int.reduceLT, Int.reduceBEq, Int.reduceBNe, Nat.reduceBEq, List.append_nil, Int.toNat_zero, Nat.sub_self, frS]; refine hk _ ?_; clear hk k; try show Sat _ _ _ _ _)
      refine Sat.ret ?_
      simp only [thenK, blockK, Try.results14, evr, id, reduceCtorEq, reduceIte, Nat.reduceMul, Nat.reduceAdd, Nat.reduceLT, Nat.reduceLeDiff, Nat.reduceEqDiff, Int.reduceLT, Int.reduceBEq, Int.reduceBNe, Nat.reduceBEq, List.append_nil, Int.toNat_zero, Nat.sub_self, frS]
      unfold cmpV
      rw [if_neg h0, if_pos h2]
    · refine Sat.skip ?_
      simp only [thenK, blockK]
      (repeat refine Sat.seq ?_)
      (refine Sat.region_k fun k hk => ?_; simp -implicitDefEqProofs only [evr, id, reduceCtorEq, reduceIte, Nat.reduceMul, Nat.reduceAdd, Nat.reduceLT, Nat.reduceLeDiff, Nat.reduceEqDiff, Int.reduceLT, Int.reduceBEq, Int.reduceBNe, Nat.reduceBEq, List.append_nil, Int.toNat_zero, Nat.sub_self, frS]; refine hk _ ?_; clear hk k; try show Sat _ _ _ _ _)
      refine Sat.ret ?_
      simp only [Try.results14, evr, id, reduceCtorEq, reduceIte, Nat.reduceMul, Nat.reduceAdd, Nat.reduceLT, Nat.reduceLeDiff, Nat.reduceEqDiff, Int.reduceLT, Int.reduceBEq, Int.reduceBNe, Nat.reduceBEq, List.append_nil, Int.toNat_zero, Nat.sub_self, frS]
      unfold cmpV
      rw [if_neg h0, if_neg (by simpa using h2)]

set_option maxRecDepth 100000 in
theorem stBelowC (F : Frm) (na nb : Bool) {sp sq sr ss : SV} {p q r s : Nat} (hp : Nats sp p) (hq : Nats sq q) (hr : Nats sr r) (hs : Nats ss s)
    (b1 : (p : Int) < pw 256) (b2 : (q : Int) < pw 256) (b3 : (r : Int) < pw 256) (b4 : (s : Int) < pw 256) (b5 : ((p * s : Nat) : Int) < pw 256) (b6 : ((r * q : Nat) : Int) < pw 256) (b7 : ((p * s + r * q : Nat) : Int) < pw 256) :
    Contract F Try.prog 30 [frS na sp sq, frS nb sr ss] (fun x => x = .b (decide (cmpV na p q nb r s < 0))) := by
  have hp' := hp
  have hq' := hq
  have hr' := hr
  have hs' := hs
  obtain ⟨a1, c1, z1, r1, x1, rfl, _⟩ := hp
  obtain ⟨a2, c2, z2, r2, x2, rfl, _⟩ := hq
  obtain ⟨a3, c3, z3, r3, x3, rfl, _⟩ := hr
  obtain ⟨a4, c4, z4, r4, x4, rfl, _⟩ := hs
  refine contract_of Try.func30 rfl (by kernel_rfl) ?_
  simp only [Try.ntmps30, argEnv, frS]
  (repeat refine Sat.seq ?_)
  (refine Sat.region_k fun k hk => ?_; simp -implicitDefEqProofs only [evr, id, reduceCtorEq, reduceIte, Nat.reduceMul, Nat.reduceAdd, Nat.reduceLT, Nat.reduceLeDiff, Nat.reduceEqDiff, Int.reduceLT, Int.reduceBEq, Int.reduceBNe, Nat.reduceBEq, List.append_nil, Int.toNat_zero, Nat.sub_self, frS])
  intro k1 k2
  (refine hk _ ?_; clear hk k; try show Sat _ _ _ _ _)
  (repeat refine Sat.seq ?_)
  (refine Sat.region_k fun k hk => ?_; simp -implicitDefEqProofs only [evr, id, reduceCtorEq, reduceIte, Nat.reduceMul, Nat.reduceAdd, Nat.reduceLT, Nat.reduceLeDiff, Nat.reduceEqDiff, Int.reduceLT, Int.reduceBEq, Int.reduceBNe, Nat.reduceBEq, List.append_nil, Int.toNat_zero, Nat.sub_self, frS])
  refine wcall_plain (fractionCompareC F na nb hp' hq' hr' hs' b1 b2 b3 b4 b5 b6 b7) (by simp -implicitDefEqProofs only [evr, id, reduceCtorEq, reduceIte, Nat.reduceMul, Nat.reduceAdd, Nat.reduceLT, Nat.reduceLeDiff, Nat.reduceEqDiff, Int.reduceLT, Int.reduceBEq, Int.reduceBNe, Nat.reduceBEq, List.append_nil, Int.toNat_zero, Nat.sub_self, frS]; try rfl) (by rintro _ rfl; exact ok_tupL rfl) ?_
  rintro y rfl
  simp -implicitDefEqProofs only [evr, id, reduceCtorEq, reduceIte, Nat.reduceMul, Nat.reduceAdd, Nat.reduceLT, Nat.reduceLeDiff, Nat.reduceEqDiff, Int.reduceLT, Int.reduceBEq, Int.reduceBNe, Nat.reduceBEq, List.append_nil, Int.toNat_zero, Nat.sub_self, frS]
  (refine hk _ ?_; clear hk k; try show Sat _ _ _ _ _)
  (repeat refine Sat.seq ?_)
  (refine Sat.region_k fun k hk => ?_; simp -implicitDefEqProofs only [evr, id, reduceCtorEq, reduceIte, Nat.reduceMul, Nat.reduceAdd, Nat.reduceLT, Nat.reduceLeDiff, Nat.reduceEqDiff, Int.reduceLT, Int.reduceBEq, Int.reduceBNe, Nat.reduceBEq, List.append_nil, Int.toNat_zero, Nat.sub_self, frS]; refine hk _ ?_; clear hk k; try show Sat _ _ _ _ _)
  refine Sat.ret ?_
  simp only [Try.results30, evr, id, reduceCtorEq, reduceIte, Nat.reduceMul, Nat.reduceAdd, Nat.reduceLT, Nat.reduceLeDiff, Nat.reduceEqDiff, Int.reduceLT, Int.reduceBEq, Int.reduceBNe, Nat.reduceBEq, List.append_nil, Int.toNat_zero, Nat.sub_self, frS]

theorem pw_one : (1 : Int) < pw 256 := by
  have := pw_mono (show 1 ≤ 256 by omega)
  rw [pw_succ, pw_zero] at this
  omega

set_option maxRecDepth 100000 in
theorem stChanceC (F : Frm) {sp sq : SV} {p q : Nat} (hp : Nats sp p) (hq : Nats sq q) (h0 : 0 < p) (h1 : p < q) (b1 : ((2 * q : Nat) : Int) < pw 256) :
    Contract F Try.prog 29 [frS false sp sq] (fun x => x = .b true) := by
  have hp' := hp
  have hq' := hq
  obtain ⟨a1, c1, z1, r1, x1, rfl, _⟩ := hp
  obtain ⟨a2, c2, z2, r2, x2, rfl, _⟩ := hq
  have e1 : 0 < (x1.length : Int) := by rw [hp'.len]; exact h0
  have e2 : 0 < (x2.length : Int) := by rw [hq'.len]; omega
  refine contract_of Try.func29 rfl (by kernel_rfl) ?_
  simp only [Try.ntmps29, argEnv, frS]
  (repeat refine Sat.seq ?_)
  (refine Sat.region_k fun k hk => ?_; simp -implicitDefEqProofs only [evr, id, reduceCtorEq, reduceIte, Nat.reduceMul, Nat.reduceAdd, Nat.reduceLT, Nat.reduceLeDiff, Nat.reduceEqDiff, Int.reduceLT, Int.reduceBEq, Int.reduceBNe, Nat.reduceBEq, List.append_nil, Int.toNat_zero, Nat.sub_self, frS])
  intro k1
  (refine hk _ ?_; clear hk k; try show Sat _ _ _ _ _)
  (repeat refine Sat.seq ?_)
  (refine Sat.region_k fun k hk => ?_; simp -implicitDefEqProofs only [evr, id, reduceCtorEq, reduceIte, Nat.reduceMul, Nat.reduceAdd, Nat.reduceLT, Nat.reduceLeDiff, Nat.reduceEqDiff, Int.reduceLT, Int.reduceBEq, Int.reduceBNe, Nat.reduceBEq, List.append_nil, Int.toNat_zero, Nat.sub_self, frS])
  refine wcall_slice (stSmallC F 1 (by decide)) rfl rfl ?_
  intro y hy
  have hy1 := hy
  obtain ⟨a3, c3, z3, r3, x3, rfl, _⟩ := hy
  simp -implicitDefEqProofs only [evr, id, reduceCtorEq, reduceIte, Nat.reduceMul, Nat.reduceAdd, Nat.reduceLT, Nat.reduceLeDiff, Nat.reduceEqDiff, Int.reduceLT, Int.reduceBEq, Int.reduceBNe, Nat.reduceBEq, List.append_nil, Int.toNat_zero, Nat.sub_self, frS]
  refine wcall_slice (stSmallC F 1 (by decide)) rfl rfl ?_
  intro y hy
  have hy2 := hy
  obtain ⟨a4, c4, z4, r4, x4, rfl, _⟩ := hy
  simp -implicitDefEqProofs only [evr, id, reduceCtorEq, reduceIte, Nat.reduceMul, Nat.reduceAdd, Nat.reduceLT, Nat.reduceLeDiff, Nat.reduceEqDiff, Int.reduceLT, Int.reduceBEq, Int.reduceBNe, Nat.reduceBEq, List.append_nil, Int.toNat_zero, Nat.sub_self, frS]
  intro k2
  (refine hk _ ?_; clear hk k; try show Sat _ _ _ _ _)
  (repeat refine Sat.seq ?_)
  (refine Sat.region_k fun k hk => ?_; simp -implicitDefEqProofs only [evr, id, reduceCtorEq, reduceIte, Nat.reduceMul, Nat.reduceAdd, Nat.reduceLT, Nat.reduceLeDiff, Nat.reduceEqDiff, Int.reduceLT, Int.reduceBEq, Int.reduceBNe, Nat.reduceBEq, List.append_nil, Int.toNat_zero, Nat.sub_self, frS])
  refine ⟨fun _ => ⟨fun _ => ?_, fun h => absurd e2 h⟩, fun h => absurd e1 h⟩
  refine wcall_plain (stBelowC F false false hp' hq' hy1 hy2 (by omega) (by omega) pw_one pw_one (by rw [Nat.mul_one]; omega) (by rw [Nat.one_mul]; omega) (by rw [Nat.mul_one, Nat.one_mul]; omega)) (by simp -implicitDefEqProofs only [evr, id, reduceCtorEq, reduceIte, Nat.reduceMul, Nat.reduceAdd, Nat.reduceLT, Nat.reduceLeDiff, Nat.reduceEqDiff, Int.reduceLT, Int.reduceBEq, Int.reduceBNe, Nat.reduceBEq, List.append_nil, Int.toNat_zero, Nat.sub_self, frS]; try rfl) (by rintro _ rfl; exact ok_plain rfl) ?_
  rintro y rfl
  have ed : decide (cmpV false p q false 1 1 < 0) = true := by
    rw [cmpV_pos, Nat.mul_one, Nat.one_mul, cmpI_lt (by omega)]
    rfl
  simp -implicitDefEqProofs only [evr, id, reduceCtorEq, reduceIte, Nat.reduceMul, Nat.reduceAdd, Nat.reduceLT, Nat.reduceLeDiff, Nat.reduceEqDiff, Int.reduceLT, Int.reduceBEq, Int.reduceBNe, Nat.reduceBEq, List.append_nil, Int.toNat_zero, Nat.sub_self, frS, ed]
  (refine hk _ ?_; clear hk k; try show Sat _ _ _ _ _)
  refine Sat.ret ?_
  simp only [Try.results29, evr, id, reduceCtorEq, reduceIte, Nat.reduceMul, Nat.reduceAdd, Nat.reduceLT, Nat.reduceLeDiff, Nat.reduceEqDiff, Int.reduceLT, Int.reduceBEq, Int.reduceBNe, Nat.reduceBEq, List.append_nil, Int.toNat_zero, Nat.sub_self, frS]
end Go.Proofs.Ytagmohpafjncfaa

/- Package fraction: Valid, checked, Add: what each gives. -/
set_option linter.unusedSimpArgs false
set_option linter.unusedVariables false
namespace Go.Proofs.Ytagmohpafjncfaa
open Eng Lmb Go.RowKit

theorem norm_last {xs : List Int} (h : Norm xs) (h0 : 0 < xs.length) : xs.getD (xs.length - 1) 0 ≠ 0 := by
  induction xs with
  | nil => simp at h0
  | cons x t ih =>
    cases t with
    | nil => rw [norm_one] at h; simpa using h
    | cons y t =>
      have h2 : Norm (y :: t) := by rwa [norm_cons] at h
      have := ih h2 (by simp)
      simpa using this

set_option maxRecDepth 100000 in
theorem natValidC (F : Frm) {s : SV} {n : Nat} (hs : Nats s n) (hb : (n : Int) < pw 512) : Contract F Try.prog 87 [s] (fun r => r = .b (decide ((n : Int) < pw 256))) := by
  obtain ⟨xs, hi1, d1⟩ := hs.ints
  have l1 := (d1.len_le 512).2 hb
  have l2 := d1.len_le 256
  obtain ⟨a1, c1, z1, r1, rfl, hz1, hr1⟩ := hi1
  refine contract_of Try.func87 rfl (by kernel_rfl) ?_
  simp only [Try.ntmps87, argEnv]
  (repeat refine Sat.seq ?_)
  (refine Sat.region_k fun k hk => ?_; simp -implicitDefEqProofs only [evr, id, reduceCtorEq, reduceIte, Nat.reduceMul, Nat.reduceAdd, Nat.reduceLT, Nat.reduceLeDiff, Nat.reduceEqDiff, Int.reduceLT, Int.reduceBEq, Int.reduceBNe, Nat.reduceBEq, List.append_nil, Int.toNat_zero, Nat.sub_self, frS]; refine hk _ ?_; clear hk k; try show Sat _ _ _ _ _)
  (repeat refine Sat.seq ?_)
  (refine Sat.region_k fun k hk => ?_; simp -implicitDefEqProofs only [evr, id, reduceCtorEq, reduceIte, Nat.reduceMul, Nat.reduceAdd, Nat.reduceLT, Nat.reduceLeDiff, Nat.reduceEqDiff, Int.reduceLT, Int.reduceBEq, Int.reduceBNe, Nat.reduceBEq, List.append_nil, Int.toNat_zero, Nat.sub_self, frS]; refine hk _ ?_; clear hk k; try show Sat _ _ _ _ _)
  (repeat refine Sat.seq ?_)
  refine Sat.block ?_
  (repeat refine Sat.seq ?_)
  refine Sat.loop (ι := Nat) (fun q => ⟨35, [(7, .i .i64 (q : Int)), (6, .i .i64 (xs.length : Nat)), (5, .sl a1 xs.length c1 z1 r1), (0, .sl a1 xs.length c1 z1 r1)], []⟩)
    (fun q => q ≤ xs.length) (fun q => xs.length - q) 0 (Nat.zero_le _) (by simp -implicitDefEqProofs only [evr, id, reduceCtorEq, reduceIte, Nat.reduceMul, Nat.reduceAdd, Nat.reduceLT, Nat.reduceLeDiff, Nat.reduceEqDiff, Int.reduceLT, Int.reduceBEq, Int.reduceBNe, Nat.reduceBEq, List.append_nil, Int.toNat_zero, Nat.sub_self, frS, evl]; try rfl) ?_
  rintro q hq
  (repeat refine Sat.seq ?_)
  (refine Sat.region_k fun k hk => ?_; simp -implicitDefEqProofs only [evr, id, reduceCtorEq, reduceIte, Nat.reduceMul, Nat.reduceAdd, Nat.reduceLT, Nat.reduceLeDiff, Nat.reduceEqDiff, Int.reduceLT, Int.reduceBEq, Int.reduceBNe, Nat.reduceBEq, List.append_nil, Int.toNat_zero, Nat.sub_self, frS]; refine hk _ ?_; clear hk k; try show Sat _ _ _ _ _)
  (repeat refine Sat.seq ?_)
  refine Sat.cond_b rfl (fun h => ?_) (fun h => ?_)
  · simp only [decide_eq_true_eq] at h
    have hj : q < xs.length := by omega
    have hsz1 : z1 = 1 := hz1.resolve_left (by omega)
    subst hsz1
    have g1 := hr1 q hj
    have bx := limbs_getD d1.limbs q
    have ej1 : IntKind.i64.wrap ((q : Int) + 1) = ((q + 1 : Nat) : Int) := by rw [w64 (by omega)]; omega
    refine Sat.skip ?_
    simp only [thenK]
    (repeat refine Sat.seq ?_)
    refine Sat.block ?_
    (repeat refine Sat.seq ?_)
    (refine Sat.region_k fun k hk => ?_; simp -implicitDefEqProofs only [evr, id, reduceCtorEq, reduceIte, Nat.reduceMul, Nat.reduceAdd, Nat.reduceLT, Nat.reduceLeDiff, Nat.reduceEqDiff, Int.reduceLT, Int.reduceBEq, Int.reduceBNe, Nat.reduceBEq, List.append_nil, Int.toNat_zero, Nat.sub_self, frS])
    refine ⟨by omega, ?_⟩
    rw [g1]
    (refine hk _ ?_; clear hk k; try show Sat _ _ _ _ _)
    (repeat refine Sat.seq ?_)
    refine Sat.region_at ⟨35, [(16, .b false), (7, .i .i64 (q : Int)), (6, .i .i64 (xs.length : Nat)), (5, .sl a1 xs.length c1 1 r1), (0, .sl a1 xs.length c1 1 r1)], []⟩ (fun k hk => ?_) ?_
    · simp -implicitDefEqProofs only [evr, id, reduceCtorEq, reduceIte, Nat.reduceMul, Nat.reduceAdd, Nat.reduceLT, Nat.reduceLeDiff, Nat.reduceEqDiff, Int.reduceLT, Int.reduceBEq, Int.reduceBNe, Nat.reduceBEq, List.append_nil, Int.toNat_zero, Nat.sub_self, frS]
      refine ⟨fun h9 => by omega, fun h9 => ?_⟩
      refine hk _ ?_
      rw [decide_eq_false (by omega)]
      simp -implicitDefEqProofs only [evr, id, reduceCtorEq, reduceIte, Nat.reduceMul, Nat.reduceAdd, Nat.reduceLT, Nat.reduceLeDiff, Nat.reduceEqDiff, Int.reduceLT, Int.reduceBEq, Int.reduceBNe, Nat.reduceBEq, List.append_nil, Int.toNat_zero, Nat.sub_self, frS, evl]
    simp only [thenK]
    refine Sat.cond_b rfl (fun h => by cases h) (fun h => ?_)
    refine Sat.skip ?_
    simp only [thenK, blockK]
    (repeat refine Sat.seq ?_)
    refine Sat.region_k fun k hk => ?_
    simp -implicitDefEqProofs only [evr, id, reduceCtorEq, reduceIte, Nat.reduceMul, Nat.reduceAdd, Nat.reduceLT, Nat.reduceLeDiff, Nat.reduceEqDiff, Int.reduceLT, Int.reduceBEq, Int.reduceBNe, Nat.reduceBEq, List.append_nil, Int.toNat_zero, Nat.sub_self, frS, ej1]
    refine hk _ ?_
    simp only [thenK, blockK]
    refine ⟨q + 1, by show q + 1 ≤ xs.length; omega, by omega, ?_⟩
    simp -implicitDefEqProofs only [evr, id, reduceCtorEq, reduceIte, Nat.reduceMul, Nat.reduceAdd, Nat.reduceLT, Nat.reduceLeDiff, Nat.reduceEqDiff, Int.reduceLT, Int.reduceBEq, Int.reduceBNe, Nat.reduceBEq, List.append_nil, Int.toNat_zero, Nat.sub_self, frS, evl]
  · refine Sat.exit ?_
    simp only [thenK, blockK, reduceIte]
    (repeat refine Sat.seq ?_)
    refine Sat.region_at ⟨35, [(2, .b (decide ((n : Int) < pw 256)))], []⟩ (fun k hk => ?_) ?_
    · simp -implicitDefEqProofs only [evr, id, reduceCtorEq, reduceIte, Nat.reduceMul, Nat.reduceAdd, Nat.reduceLT, Nat.reduceLeDiff, Nat.reduceEqDiff, Int.reduceLT, Int.reduceBEq, Int.reduceBNe, Nat.reduceBEq, List.append_nil, Int.toNat_zero, Nat.sub_self, frS]
      refine ⟨fun h9 => ⟨fun h8 => ?_, fun h8 => ?_⟩, fun h9 => ?_⟩
      · refine hk _ ?_
        have e : decide ((n : Int) < pw 256) = true := decide_eq_true (l2.1 (by omega))
        rw [e]
        simp -implicitDefEqProofs only [evr, id, reduceCtorEq, reduceIte, Nat.reduceMul, Nat.reduceAdd, Nat.reduceLT, Nat.reduceLeDiff, Nat.reduceEqDiff, Int.reduceLT, Int.reduceBEq, Int.reduceBNe, Nat.reduceBEq, List.append_nil, Int.toNat_zero, Nat.sub_self, frS, evl]
        try exact h8
      · have h7 : ¬ (xs.length : Int) = 0 := by
          intro h6
          rw [h6] at h8
          cases h8
        have hsz1 : z1 = 1 := hz1.resolve_left (by omega)
        subst hsz1
        have e1 : IntKind.i64.wrap ((xs.length : Int) - 1) = ((xs.length - 1 : Nat) : Int) := by rw [w64 (by omega)]; omega
        rw [e1]
        refine ⟨by omega, ?_⟩
        rw [Int.toNat_natCast, hr1 _ (by omega)]
        simp -implicitDefEqProofs only [evr, id, reduceCtorEq, reduceIte, Nat.reduceMul, Nat.reduceAdd, Nat.reduceLT, Nat.reduceLeDiff, Nat.reduceEqDiff, Int.reduceLT, Int.reduceBEq, Int.reduceBNe, Nat.reduceBEq, List.append_nil, Int.toNat_zero, Nat.sub_self, frS]
        refine hk _ ?_
        have e : decide ((n : Int) < pw 256) = true := decide_eq_true (l2.1 (by omega))
        rw [e, bne_iff_ne.2 (norm_last d1.norm (by omega))]
        simp -implicitDefEqProofs only [evr, id, reduceCtorEq, reduceIte, Nat.reduceMul, Nat.reduceAdd, Nat.reduceLT, Nat.reduceLeDiff, Nat.reduceEqDiff, Int.reduceLT, Int.reduceBEq, Int.reduceBNe, Nat.reduceBEq, List.append_nil, Int.toNat_zero, Nat.sub_self, frS, evl]
      · refine hk _ ?_
        have e : decide ((n : Int) < pw 256) = false := decide_eq_false (fun h6 => h9 (by have := l2.2 h6; omega))
        rw [e]
        simp -implicitDefEqProofs only [evr, id, reduceCtorEq, reduceIte, Nat.reduceMul, Nat.reduceAdd, Nat.reduceLT, Nat.reduceLeDiff, Nat.reduceEqDiff, Int.reduceLT, Int.reduceBEq, Int.reduceBNe, Nat.reduceBEq, List.append_nil, Int.toNat_zero, Nat.sub_self, frS, evl]
        try exact h9
    simp only [thenK]
    refine Sat.ret ?_
    simp only [Try.results87, evr, id, reduceCtorEq, reduceIte, Nat.reduceMul, Nat.reduceAdd, Nat.reduceLT, Nat.reduceLeDiff, Nat.reduceEqDiff, Int.reduceLT, Int.reduceBEq, Int.reduceBNe, Nat.reduceBEq, List.append_nil, Int.toNat_zero, Nat.sub_self, frS]

set_option maxRecDepth 100000 in
theorem fracTermC (F : Frm) {s : SV} {n : Nat} (hs : Nats s n) (hb : (n : Int) < pw 512) : Contract F Try.prog 86 [s] (fun r => r = .b (decide ((n : Int) < pw 64))) := by
  have hs' := hs
  obtain ⟨xs, hi1, d1⟩ := hs.ints
  have l2 := d1.len_le 64
  obtain ⟨a1, c1, z1, r1, rfl, hz1, hr1⟩ := hi1
  refine contract_of Try.func86 rfl (by kernel_rfl) ?_
  simp only [Try.ntmps86, argEnv]
  (repeat refine Sat.seq ?_)
  (refine Sat.region_k fun k hk => ?_; simp -implicitDefEqProofs only [evr, id, reduceCtorEq, reduceIte, Nat.reduceMul, Nat.reduceAdd, Nat.reduceLT, Nat.reduceLeDiff, Nat.reduceEqDiff, Int.reduceLT, Int.reduceBEq, Int.reduceBNe, Nat.reduceBEq, List.append_nil, Int.toNat_zero, Nat.sub_self, frS]; refine hk _ ?_; clear hk k; try show Sat _ _ _ _ _)
  (repeat refine Sat.seq ?_)
  refine Sat.region_at ⟨10, [(2, .b (decide ((n : Int) < pw 64)))], []⟩ (fun k hk => ?_) ?_
  · simp -implicitDefEqProofs only [evr, id, reduceCtorEq, reduceIte, Nat.reduceMul, Nat.reduceAdd, Nat.reduceLT, Nat.reduceLeDiff, Nat.reduceEqDiff, Int.reduceLT, Int.reduceBEq, Int.reduceBNe, Nat.reduceBEq, List.append_nil, Int.toNat_zero, Nat.sub_self, frS]
    refine wcall_plain (natValidC F hs' hb) rfl (by rintro _ rfl; exact ok_plain rfl) ?_
    rintro y rfl
    simp -implicitDefEqProofs only [evr, id, reduceCtorEq, reduceIte, Nat.reduceMul, Nat.reduceAdd, Nat.reduceLT, Nat.reduceLeDiff, Nat.reduceEqDiff, Int.reduceLT, Int.reduceBEq, Int.reduceBNe, Nat.reduceBEq, List.append_nil, Int.toNat_zero, Nat.sub_self, frS]
    refine ⟨fun h9 => ?_, fun h9 => ?_⟩
    · refine hk _ ?_
      have e : decide ((n : Int) < pw 64) = decide ((xs.length : Int) ≤ 64) := by
        congr 1
        apply propext
        rw [← l2]
        omega
      rw [e]
      simp -implicitDefEqProofs only [evr, id, reduceCtorEq, reduceIte, Nat.reduceMul, Nat.reduceAdd, Nat.reduceLT, Nat.reduceLeDiff, Nat.reduceEqDiff, Int.reduceLT, Int.reduceBEq, Int.reduceBNe, Nat.reduceBEq, List.append_nil, Int.toNat_zero, Nat.sub_self, frS, evl]
    · refine hk _ ?_
      have e : decide ((n : Int) < pw 64) = false := decide_eq_false fun h8 => h9 (by have := pw_mono (show 64 ≤ 256 by omega); omega)
      rw [e]
      simp -implicitDefEqProofs only [evr, id, reduceCtorEq, reduceIte, Nat.reduceMul, Nat.reduceAdd, Nat.reduceLT, Nat.reduceLeDiff, Nat.reduceEqDiff, Int.reduceLT, Int.reduceBEq, Int.reduceBNe, Nat.reduceBEq, List.append_nil, Int.toNat_zero, Nat.sub_self, frS, evl]
      try exact decide_eq_false h9
  simp only [thenK]
  refine Sat.ret ?_
  simp only [Try.results86, evr, id, reduceCtorEq, reduceIte, Nat.reduceMul, Nat.reduceAdd, Nat.reduceLT, Nat.reduceLeDiff, Nat.reduceEqDiff, Int.reduceLT, Int.reduceBEq, Int.reduceBNe, Nat.reduceBEq, List.append_nil, Int.toNat_zero, Nat.sub_self, frS]

/-- is a fraction of two numbers valid -/
def frOk (neg : Bool) (p q : Nat) : Bool := decide ((p : Int) < pw 64) && (decide ((q : Int) < pw 64) && (decide (0 < q) && !(neg && decide (p = 0))))
set_option maxRecDepth 100000 in
theorem fractionValidC (F : Frm) (neg : Bool) {sp sq : SV} {p q : Nat} (hp : Nats sp p) (hq : Nats sq q) (b1 : (p : Int) < pw 512) (b2 : (q : Int) < pw 512) : Contract F Try.prog 81 [frS neg sp sq] (fun r => r = .b (frOk neg p q)) := by
  have hp' := hp
  have hq' := hq
  obtain ⟨a1, c1, z1, r1, x1, rfl, _⟩ := hp
  obtain ⟨a2, c2, z2, r2, x2, rfl, _⟩ := hq
  have hl1 := hp'.len0
  have hl2 := hq'.len
  refine contract_of Try.func81 rfl (by kernel_rfl) ?_
  simp only [Try.ntmps81, argEnv, frS]
  (repeat refine Sat.seq ?_)
  (refine Sat.region_k fun k hk => ?_; simp -implicitDefEqProofs only [evr, id, reduceCtorEq, reduceIte, Nat.reduceMul, Nat.reduceAdd, Nat.reduceLT, Nat.reduceLeDiff, Nat.reduceEqDiff, Int.reduceLT, Int.reduceBEq, Int.reduceBNe, Nat.reduceBEq, List.append_nil, Int.toNat_zero, Nat.sub_self, frS])
  intro blk1
  (refine hk _ ?_; clear hk k; try show Sat _ _ _ _ _)
  (repeat refine Sat.seq ?_)
  (refine Sat.region_k fun k hk => ?_; simp -implicitDefEqProofs only [evr, id, reduceCtorEq, reduceIte, Nat.reduceMul, Nat.reduceAdd, Nat.reduceLT, Nat.reduceLeDiff, Nat.reduceEqDiff, Int.reduceLT, Int.reduceBEq, Int.reduceBNe, Nat.reduceBEq, List.append_nil, Int.toNat_zero, Nat.sub_self, frS]; refine hk _ ?_; clear hk k; try show Sat _ _ _ _ _)
  (repeat refine Sat.seq ?_)
  refine Sat.region_at ⟨31, [(2, .b (frOk neg p q))], []⟩ (fun k hk => ?_) ?_
  · simp -implicitDefEqProofs only [evr, id, reduceCtorEq, reduceIte, Nat.reduceMul, Nat.reduceAdd, Nat.reduceLT, Nat.reduceLeDiff, Nat.reduceEqDiff, Int.reduceLT, Int.reduceBEq, Int.reduceBNe, Nat.reduceBEq, List.append_nil, Int.toNat_zero, Nat.sub_self, frS]
    refine wcall_plain (fracTermC F hp' b1) rfl (by rintro _ rfl; exact ok_plain rfl) ?_
    rintro y rfl
    simp -implicitDefEqProofs only [evr, id, reduceCtorEq, reduceIte, Nat.reduceMul, Nat.reduceAdd, Nat.reduceLT, Nat.reduceLeDiff, Nat.reduceEqDiff, Int.reduceLT, Int.reduceBEq, Int.reduceBNe, Nat.reduceBEq, List.append_nil, Int.toNat_zero, Nat.sub_self, frS]
    unfold frOk at hk
    refine ⟨fun h9 => ?_, fun h9 => ?_⟩
    · rw [decide_eq_true h9, Bool.true_and] at hk
      refine wcall_plain (fracTermC F hq' b2) rfl (by rintro _ rfl; exact ok_plain rfl) ?_
      rintro y rfl
      simp -implicitDefEqProofs only [evr, id, reduceCtorEq, reduceIte, Nat.reduceMul, Nat.reduceAdd, Nat.reduceLT, Nat.reduceLeDiff, Nat.reduceEqDiff, Int.reduceLT, Int.reduceBEq, Int.reduceBNe, Nat.reduceBEq, List.append_nil, Int.toNat_zero, Nat.sub_self, frS, hl1, hl2]
      refine ⟨fun h8 => ?_, fun h8 => ?_⟩
      · rw [decide_eq_true h8, Bool.true_and] at hk
        refine ⟨fun h7 => ?_, fun h7 => ?_⟩
        · rw [decide_eq_true h7, Bool.true_and] at hk
          refine ⟨fun h6 => ?_, fun h6 => ?_⟩
          · refine hk _ ?_
            subst h6
            simp -implicitDefEqProofs only [evr, id, reduceCtorEq, reduceIte, Nat.reduceMul, Nat.reduceAdd, Nat.reduceLT, Nat.reduceLeDiff, Nat.reduceEqDiff, Int.reduceLT, Int.reduceBEq, Int.reduceBNe, Nat.reduceBEq, List.append_nil, Int.toNat_zero, Nat.sub_self, frS, evl]
          · refine hk _ ?_
            subst h6
            simp -implicitDefEqProofs only [evr, id, reduceCtorEq, reduceIte, Nat.reduceMul, Nat.reduceAdd, Nat.reduceLT, Nat.reduceLeDiff, Nat.reduceEqDiff, Int.reduceLT, Int.reduceBEq, Int.reduceBNe, Nat.reduceBEq, List.append_nil, Int.toNat_zero, Nat.sub_self, frS, evl]
            rfl
        · rw [decide_eq_false h7, Bool.false_and] at hk
          refine hk _ ?_
          simp -implicitDefEqProofs only [evr, id, reduceCtorEq, reduceIte, Nat.reduceMul, Nat.reduceAdd, Nat.reduceLT, Nat.reduceLeDiff, Nat.reduceEqDiff, Int.reduceLT, Int.reduceBEq, Int.reduceBNe, Nat.reduceBEq, List.append_nil, Int.toNat_zero, Nat.sub_self, frS, evl]
          try exact decide_eq_false h7
      · rw [decide_eq_false h8, Bool.false_and] at hk
        refine hk _ ?_
        simp -implicitDefEqProofs only [evr, id, reduceCtorEq, reduceIte, Nat.reduceMul, Nat.reduceAdd, Nat.reduceLT, Nat.reduceLeDiff, Nat.reduceEqDiff, Int.reduceLT, Int.reduceBEq, Int.reduceBNe, Nat.reduceBEq, List.append_nil, Int.toNat_zero, Nat.sub_self, frS, evl]
        try exact decide_eq_false h8
    · rw [decide_eq_false h9, Bool.false_and] at hk
      refine hk _ ?_
      simp -implicitDefEqProofs only [evr, id, reduceCtorEq, reduceIte, Nat.reduceMul, Nat.reduceAdd, Nat.reduceLT, Nat.reduceLeDiff, Nat.reduceEqDiff, Int.reduceLT, Int.reduceBEq, Int.reduceBNe, Nat.reduceBEq, List.append_nil, Int.toNat_zero, Nat.sub_self, frS, evl]
      try exact decide_eq_false h9
  simp only [thenK]
  refine Sat.ret ?_
  simp only [Try.results81, evr, id, reduceCtorEq, reduceIte, Nat.reduceMul, Nat.reduceAdd, Nat.reduceLT, Nat.reduceLeDiff, Nat.reduceEqDiff, Int.reduceLT, Int.reduceBEq, Int.reduceBNe, Nat.reduceBEq, List.append_nil, Int.toNat_zero, Nat.sub_self, frS]

set_option maxRecDepth 100000 in
theorem checkedC (F : Frm) (neg : Bool) {sp sq : SV} {p q : Nat} (hp : Nats sp p) (hq : Nats sq q) (b1 : (p : Int) < pw 512) (b2 : (q : Int) < pw 512) : Contract F Try.prog 72 [frS neg sp sq]
    (fun r => (frOk neg p q = true ∧ ∃ f, r = tupL [f, .i .i64 0] ∧ FrS f neg p q) ∨ (frOk neg p q = false ∧ ∃ f, r = tupL [f, .i .i64 5] ∧ FrS f false 0 0)) := by
  have hp' := hp
  have hq' := hq
  obtain ⟨a1, c1, z1, r1, x1, rfl, _⟩ := hp
  obtain ⟨a2, c2, z2, r2, x2, rfl, _⟩ := hq
  refine contract_of Try.func72 rfl (by kernel_rfl) ?_
  simp only [Try.ntmps72, argEnv, frS]
  (repeat refine Sat.seq ?_)
  (refine Sat.region_k fun k hk => ?_; simp -implicitDefEqProofs only [evr, id, reduceCtorEq, reduceIte, Nat.reduceMul, Nat.reduceAdd, Nat.reduceLT, Nat.reduceLeDiff, Nat.reduceEqDiff, Int.reduceLT, Int.reduceBEq, Int.reduceBNe, Nat.reduceBEq, List.append_nil, Int.toNat_zero, Nat.sub_self, frS])
  intro blk1 blk2
  (refine hk _ ?_; clear hk k; try show Sat _ _ _ _ _)
  (repeat refine Sat.seq ?_)
  (refine Sat.region_k fun k hk => ?_; simp -implicitDefEqProofs only [evr, id, reduceCtorEq, reduceIte, Nat.reduceMul, Nat.reduceAdd, Nat.reduceLT, Nat.reduceLeDiff, Nat.reduceEqDiff, Int.reduceLT, Int.reduceBEq, Int.reduceBNe, Nat.reduceBEq, List.append_nil, Int.toNat_zero, Nat.sub_self, frS])
  refine wcall_plain (fractionValidC F neg hp' hq' b1 b2) (by simp -implicitDefEqProofs only [evr, id, reduceCtorEq, reduceIte, Nat.reduceMul, Nat.reduceAdd, Nat.reduceLT, Nat.reduceLeDiff, Nat.reduceEqDiff, Int.reduceLT, Int.reduceBEq, Int.reduceBNe, Nat.reduceBEq, List.append_nil, Int.toNat_zero, Nat.sub_self, frS]; try rfl) (by rintro _ rfl; exact ok_plain rfl) ?_
  rintro y rfl
  simp -implicitDefEqProofs only [evr, id, reduceCtorEq, reduceIte, Nat.reduceMul, Nat.reduceAdd, Nat.reduceLT, Nat.reduceLeDiff, Nat.reduceEqDiff, Int.reduceLT, Int.reduceBEq, Int.reduceBNe, Nat.reduceBEq, List.append_nil, Int.toNat_zero, Nat.sub_self, frS]
  (refine hk _ ?_; clear hk k; try show Sat _ _ _ _ _)
  refine Sat.cond_b rfl (fun h => ?_) (fun h => ?_)
  · have h0 : frOk neg p q = false := by simpa using h
    (repeat refine Sat.seq ?_)
    (refine Sat.region_k fun k hk => ?_; simp -implicitDefEqProofs only [evr, id, reduceCtorEq, reduceIte, Nat.reduceMul, Nat.reduceAdd, Nat.reduceLT, Nat.reduceLeDiff, Nat.reduceEqDiff, Int.reduceLT, Int.reduceBEq, Int.reduceBNe, Nat.reduceBEq, List.append_nil, Int.toNat_zero, Nat.sub_self, frS]; refine hk _ ?_; clear hk k; try show Sat _ _ _ _ _)
    refine Sat.ret ?_
    simp only [Try.results72, evr, id, reduceCtorEq, reduceIte, Nat.reduceMul, Nat.reduceAdd, Nat.reduceLT, Nat.reduceLeDiff, Nat.reduceEqDiff, Int.reduceLT, Int.reduceBEq, Int.reduceBNe, Nat.reduceBEq, List.append_nil, Int.toNat_zero, Nat.sub_self, frS]
    exact .inr ⟨h0, _, rfl, _, _, rfl, Nats.nil, Nats.nil⟩
  · have h0 : frOk neg p q = true := by simpa using h
    refine Sat.skip ?_
    simp only [thenK]
    (repeat refine Sat.seq ?_)
    (refine Sat.region_k fun k hk => ?_; simp -implicitDefEqProofs only [evr, id, reduceCtorEq, reduceIte, Nat.reduceMul, Nat.reduceAdd, Nat.reduceLT, Nat.reduceLeDiff, Nat.reduceEqDiff, Int.reduceLT, Int.reduceBEq, Int.reduceBNe, Nat.reduceBEq, List.append_nil, Int.toNat_zero, Nat.sub_self, frS]; refine hk _ ?_; clear hk k; try show Sat _ _ _ _ _)
    refine Sat.ret ?_
    simp only [Try.results72, evr, id, reduceCtorEq, reduceIte, Nat.reduceMul, Nat.reduceAdd, Nat.reduceLT, Nat.reduceLeDiff, Nat.reduceEqDiff, Int.reduceLT, Int.reduceBEq, Int.reduceBNe, Nat.reduceBEq, List.append_nil, Int.toNat_zero, Nat.sub_self, frS]
    exact .inl ⟨h0, _, rfl, _, _, rfl, hp', hq'⟩

/-- the sum of two fractions: its sign, and its parts -/
def addG (na : Bool) (p q : Nat) (nb : Bool) (r s : Nat) : Nat := Nat.gcd (sumV na (p * s) nb (r * q)).2 (q * s)
def addP (na : Bool) (p q : Nat) (nb : Bool) (r s : Nat) : Nat := (sumV na (p * s) nb (r * q)).2 / addG na p q nb r s
def addQ (na : Bool) (p q : Nat) (nb : Bool) (r s : Nat) : Nat := q * s / addG na p q nb r s
def addN (na : Bool) (p q : Nat) (nb : Bool) (r s : Nat) : Bool := (sumV na (p * s) nb (r * q)).1 && decide (0 < addP na p q nb r s)
theorem sumV_le (na : Bool) (a : Nat) (nb : Bool) (b : Nat) : (sumV na a nb b).2 ≤ a + b := by
  unfold sumV
  split
  · exact Nat.le_refl _
  · split <;> simp <;> omega
set_option maxRecDepth 100000 in
theorem fractionAddC (F : Frm) (na nb : Bool) {sp sq sr ss : SV} {p q r s : Nat} (hp : Nats sp p) (hq : Nats sq q) (hr : Nats sr r) (hs : Nats ss s)
    (b1 : (p : Int) < pw 256) (b2 : (q : Int) < pw 256) (b3 : (r : Int) < pw 256) (b4 : (s : Int) < pw 256) (b5 : ((p * s : Nat) : Int) < pw 256) (b6 : ((r * q : Nat) : Int) < pw 256) (b7 : ((p * s + r * q : Nat) : Int) < pw 256) (b8 : ((q * s : Nat) : Int) < pw 256) (hq0 : 0 < q) (hs0 : 0 < s) :
    Contract F Try.prog 49 [frS na sp sq, frS nb sr ss]
      (fun x => (frOk (addN na p q nb r s) (addP na p q nb r s) (addQ na p q nb r s) = true ∧ ∃ f, x = tupL [f, .i .i64 0] ∧ FrS f (addN na p q nb r s) (addP na p q nb r s) (addQ na p q nb r s)) ∨ (frOk (addN na p q nb r s) (addP na p q nb r s) (addQ na p q nb r s) = false ∧ ∃ f, x = tupL [f, .i .i64 5] ∧ FrS f false 0 0)) := by
  have hp' := hp
  have hq' := hq
  have hr' := hr
  have hs' := hs
  have up : ∀ x : Nat, (x : Int) < pw 256 → (x : Int) < pw 512 := fun x hx => by have := pw_mono (show 256 ≤ 512 by omega); omega
  obtain ⟨a1, c1, z1, r1, x1, rfl, _⟩ := hp
  obtain ⟨a2, c2, z2, r2, x2, rfl, _⟩ := hq
  obtain ⟨a3, c3, z3, r3, x3, rfl, _⟩ := hr
  obtain ⟨a4, c4, z4, r4, x4, rfl, _⟩ := hs
  refine contract_of Try.func49 rfl (by kernel_rfl) ?_
  simp only [Try.ntmps49, argEnv, frS]
  (repeat refine Sat.seq ?_)
  (refine Sat.region_k fun k hk => ?_; simp -implicitDefEqProofs only [evr, id, reduceCtorEq, reduceIte, Nat.reduceMul, Nat.reduceAdd, Nat.reduceLT, Nat.reduceLeDiff, Nat.reduceEqDiff, Int.reduceLT, Int.reduceBEq, Int.reduceBNe, Nat.reduceBEq, List.append_nil, Int.toNat_zero, Nat.sub_self, frS])
  intro k1 k2 k3
  (refine hk _ ?_; clear hk k; try show Sat _ _ _ _ _)
  (repeat refine Sat.seq ?_)
  (refine Sat.region_rows [⟨0, 10, 4, 0⟩, ⟨1, 11, 512, 1⟩, ⟨0, 12, 4, 0⟩, ⟨4, 13, 2048, 1⟩, ⟨0, 14, 8, 0⟩, ⟨16, 15, 8192, 1⟩, ⟨40, 16, 20480, 2⟩, ⟨0, 17, 8, 0⟩, ⟨128, 18, 65536, 1⟩, ⟨0, 19, 8, 0⟩, ⟨512, 20, 262144, 1⟩, ⟨0, 21, 4, 0⟩, ⟨2048, 22, 1048576, 1⟩, ⟨5184, 23, 2621440, 2⟩, ⟨8514, 24, 4359168, 2⟩, ⟨16384, 9, 8388608, 0⟩, ⟨32768, 25, 256, 0⟩, ⟨32768, 26, 256, 0⟩, ⟨131071, 7, 16777216, 0⟩, ⟨524287, 8, 33554432, 0⟩] [0, 2, 4, 7, 9, 11, 1, 3, 5, 8, 10, 12] [(6, false), (13, false), (14, false), (15, false), (16, true), (17, true), (18, false), (19, false)] [6, 13] (by kernel_rfl) (by kernel_rfl) (fun _ _ h => h) fun k hk => ?_; simp only [List.map_cons, List.map_nil, List.getD_cons_zero, List.getD_cons_succ, btseq_cons, btseq_free, btseq_nil]; simp -implicitDefEqProofs only [evr, id, reduceCtorEq, reduceIte, Nat.reduceMul, Nat.reduceAdd, Nat.reduceLT, Nat.reduceLeDiff, Nat.reduceEqDiff, Int.reduceLT, Int.reduceBEq, Int.reduceBNe, Nat.reduceBEq, List.append_nil, Int.toNat_zero, Nat.sub_self, frS])
  refine wcall_slice (fractionProductC F hp' hs' b1 b4 b5) rfl (by simp -implicitDefEqProofs only [evr, id, reduceCtorEq, reduceIte, Nat.reduceMul, Nat.reduceAdd, Nat.reduceLT, Nat.reduceLeDiff, Nat.reduceEqDiff, Int.reduceLT, Int.reduceBEq, Int.reduceBNe, Nat.reduceBEq, List.append_nil, Int.toNat_zero, Nat.sub_self, frS]; try rfl) ?_
  intro y hy
  have hy1 := hy
  obtain ⟨a5, c5, z5, r5, x5, rfl, _⟩ := hy
  simp -implicitDefEqProofs only [evr, id, reduceCtorEq, reduceIte, Nat.reduceMul, Nat.reduceAdd, Nat.reduceLT, Nat.reduceLeDiff, Nat.reduceEqDiff, Int.reduceLT, Int.reduceBEq, Int.reduceBNe, Nat.reduceBEq, List.append_nil, Int.toNat_zero, Nat.sub_self, frS]
  refine wcall_slice (fractionProductC F hr' hq' b3 b2 b6) rfl (by simp -implicitDefEqProofs only [evr, id, reduceCtorEq, reduceIte, Nat.reduceMul, Nat.reduceAdd, Nat.reduceLT, Nat.reduceLeDiff, Nat.reduceEqDiff, Int.reduceLT, Int.reduceBEq, Int.reduceBNe, Nat.reduceBEq, List.append_nil, Int.toNat_zero, Nat.sub_self, frS]; try rfl) ?_
  intro y hy
  have hy2 := hy
  obtain ⟨a6, c6, z6, r6, x6, rfl, _⟩ := hy
  simp -implicitDefEqProofs only [evr, id, reduceCtorEq, reduceIte, Nat.reduceMul, Nat.reduceAdd, Nat.reduceLT, Nat.reduceLeDiff, Nat.reduceEqDiff, Int.reduceLT, Int.reduceBEq, Int.reduceBNe, Nat.reduceBEq, List.append_nil, Int.toNat_zero, Nat.sub_self, frS]
  refine wcall_slice (fractionSumC F na nb hy1 hy2 b5 b6 b7) rfl (by simp -implicitDefEqProofs only [evr, id, reduceCtorEq, reduceIte, Nat.reduceMul, Nat.reduceAdd, Nat.reduceLT, Nat.reduceLeDiff, Nat.reduceEqDiff, Int.reduceLT, Int.reduceBEq, Int.reduceBNe, Nat.reduceBEq, List.append_nil, Int.toNat_zero, Nat.sub_self, frS]; try rfl) ?_
  rintro y ⟨sv, rfl, hy⟩
  have hy3 := hy
  obtain ⟨a7, c7, z7, r7, x7, rfl, _⟩ := hy
  simp -implicitDefEqProofs only [evr, id, reduceCtorEq, reduceIte, Nat.reduceMul, Nat.reduceAdd, Nat.reduceLT, Nat.reduceLeDiff, Nat.reduceEqDiff, Int.reduceLT, Int.reduceBEq, Int.reduceBNe, Nat.reduceBEq, List.append_nil, Int.toNat_zero, Nat.sub_self, frS]
  (refine hk _ ?_; clear hk k; try show Sat _ _ _ _ _)
  have bs : (((sumV na (p * s) nb (r * q)).2 : Nat) : Int) < pw 256 := by have := sumV_le na (p * s) nb (r * q); omega
  have bP : ((addP na p q nb r s : Nat) : Int) < pw 512 := up _ (by have : addP na p q nb r s ≤ (sumV na (p * s) nb (r * q)).2 := Nat.div_le_self _ _; omega)
  have bQ : ((addQ na p q nb r s : Nat) : Int) < pw 512 := up _ (by have : addQ na p q nb r s ≤ q * s := Nat.div_le_self _ _; omega)
  (repeat refine Sat.seq ?_)
  (refine Sat.region_k fun k hk => ?_; simp -implicitDefEqProofs only [evr, id, reduceCtorEq, reduceIte, Nat.reduceMul, Nat.reduceAdd, Nat.reduceLT, Nat.reduceLeDiff, Nat.reduceEqDiff, Int.reduceLT, Int.reduceBEq, Int.reduceBNe, Nat.reduceBEq, List.append_nil, Int.toNat_zero, Nat.sub_self, frS])
  refine wcall_slice (fractionProductC F hq' hs' b2 b4 b8) rfl (by simp -implicitDefEqProofs only [evr, id, reduceCtorEq, reduceIte, Nat.reduceMul, Nat.reduceAdd, Nat.reduceLT, Nat.reduceLeDiff, Nat.reduceEqDiff, Int.reduceLT, Int.reduceBEq, Int.reduceBNe, Nat.reduceBEq, List.append_nil, Int.toNat_zero, Nat.sub_self, frS]; try rfl) ?_
  intro y hy
  have hy4 := hy
  obtain ⟨a8, c8, z8, r8, x8, rfl, _⟩ := hy
  simp -implicitDefEqProofs only [evr, id, reduceCtorEq, reduceIte, Nat.reduceMul, Nat.reduceAdd, Nat.reduceLT, Nat.reduceLeDiff, Nat.reduceEqDiff, Int.reduceLT, Int.reduceBEq, Int.reduceBNe, Nat.reduceBEq, List.append_nil, Int.toNat_zero, Nat.sub_self, frS]
  refine wcall_slice (fractionReducedC F _ hy3 hy4 bs b8 (Nat.mul_pos hq0 hs0)) rfl (by simp -implicitDefEqProofs only [evr, id, reduceCtorEq, reduceIte, Nat.reduceMul, Nat.reduceAdd, Nat.reduceLT, Nat.reduceLeDiff, Nat.reduceEqDiff, Int.reduceLT, Int.reduceBEq, Int.reduceBNe, Nat.reduceBEq, List.append_nil, Int.toNat_zero, Nat.sub_self, frS]; try rfl) ?_
  rintro y ⟨sp3, sq3, rfl, h3, h4⟩
  have h3' : Nats sp3 (addP na p q nb r s) := h3
  have h4' : Nats sq3 (addQ na p q nb r s) := h4
  have h3b := h3'
  have h4b := h4'
  clear h3 h4
  obtain ⟨a9, c9, z9, r9, x9, rfl, _⟩ := h3b
  obtain ⟨a10, c10, z10, r10, x10, rfl, _⟩ := h4b
  simp only [frS, evr, id, reduceCtorEq, reduceIte, Nat.reduceMul, Nat.reduceAdd, Nat.reduceLT, Nat.reduceLeDiff, Nat.reduceEqDiff, Int.reduceLT, Int.reduceBEq, Int.reduceBNe, Nat.reduceBEq, List.append_nil, Int.toNat_zero, Nat.sub_self, frS]
  refine wcall_slice (checkedC F (addN na p q nb r s) h3' h4' bP bQ) rfl (by simp -implicitDefEqProofs only [evr, id, reduceCtorEq, reduceIte, Nat.reduceMul, Nat.reduceAdd, Nat.reduceLT, Nat.reduceLeDiff, Nat.reduceEqDiff, Int.reduceLT, Int.reduceBEq, Int.reduceBNe, Nat.reduceBEq, List.append_nil, Int.toNat_zero, Nat.sub_self, frS]; try rfl) ?_
  rintro y (⟨hok, f, rfl, sp5, sq5, rfl, h5, h6⟩ | ⟨hok, f, rfl, sp5, sq5, rfl, h5, h6⟩)
  · have h5' := h5
    have h6' := h6
    obtain ⟨a11, c11, z11, r11, x11, rfl, _⟩ := h5
    obtain ⟨a12, c12, z12, r12, x12, rfl, _⟩ := h6
    simp only [frS, evr, id, reduceCtorEq, reduceIte, Nat.reduceMul, Nat.reduceAdd, Nat.reduceLT, Nat.reduceLeDiff, Nat.reduceEqDiff, Int.reduceLT, Int.reduceBEq, Int.reduceBNe, Nat.reduceBEq, List.append_nil, Int.toNat_zero, Nat.sub_self, frS]
    (refine hk _ ?_; clear hk k; try show Sat _ _ _ _ _)
    refine Sat.ret ?_
    simp only [Try.results49, evr, id, reduceCtorEq, reduceIte, Nat.reduceMul, Nat.reduceAdd, Nat.reduceLT, Nat.reduceLeDiff, Nat.reduceEqDiff, Int.reduceLT, Int.reduceBEq, Int.reduceBNe, Nat.reduceBEq, List.append_nil, Int.toNat_zero, Nat.sub_self, frS]
    exact .inl ⟨hok, _, rfl, _, _, rfl, h5', h6'⟩
  · have h5' := h5
    have h6' := h6
    obtain ⟨a11, c11, z11, r11, x11, rfl, _⟩ := h5
    obtain ⟨a12, c12, z12, r12, x12, rfl, _⟩ := h6
    simp only [frS, evr, id, reduceCtorEq, reduceIte, Nat.reduceMul, Nat.reduceAdd, Nat.reduceLT, Nat.reduceLeDiff, Nat.reduceEqDiff, Int.reduceLT, Int.reduceBEq, Int.reduceBNe, Nat.reduceBEq, List.append_nil, Int.toNat_zero, Nat.sub_self, frS]
    (refine hk _ ?_; clear hk k; try show Sat _ _ _ _ _)
    refine Sat.ret ?_
    simp only [Try.results49, evr, id, reduceCtorEq, reduceIte, Nat.reduceMul, Nat.reduceAdd, Nat.reduceLT, Nat.reduceLeDiff, Nat.reduceEqDiff, Int.reduceLT, Int.reduceBEq, Int.reduceBNe, Nat.reduceBEq, List.append_nil, Int.toNat_zero, Nat.sub_self, frS]
    exact .inr ⟨hok, _, rfl, _, _, rfl, h5', h6'⟩
end Go.Proofs.Ytagmohpafjncfaa

/- The reference's texts of small numbers, by the evaluator: Decimal, Text of one limb, and of a fraction. -/
set_option linter.unusedSimpArgs false
set_option linter.unusedVariables false
namespace Go.Proofs.Ytagmohpafjncfaa
open Eng Lmb Go.RowKit

/-- a number's digits -/
def decB (n : Nat) : ByteArray := if h : n < 10 then bytesOf [48 + (n : Int)] else decB (n / 10) ++ bytesOf [48 + ((n % 10 : Nat) : Int)]
theorem decB_small {n : Nat} (h : n < 10) : decB n = bytesOf [48 + (n : Int)] := by rw [decB, dif_pos h]
theorem decB_big {n : Nat} (h : ¬ n < 10) : decB n = decB (n / 10) ++ bytesOf [48 + ((n % 10 : Nat) : Int)] := by rw [decB, dif_neg h]
theorem bytesOf_one (z : Int) : (bytesOf [z]).size = 1 := rfl
theorem decB_size : ∀ (k n : Nat), n < 10 ^ (k + 1) → (decB n).size ≤ k + 1 ∧ 1 ≤ (decB n).size
  | 0, n, h => by
    rw [decB_small (by simpa using h), bytesOf_one]
    exact ⟨Nat.le_refl _, Nat.le_refl _⟩
  | k + 1, n, h => by
    by_cases h9 : n < 10
    · rw [decB_small h9, bytesOf_one]; omega
    · rw [decB_big h9, ByteArray.size_append, bytesOf_one]
      have := decB_size k (n / 10) (by
        rw [Nat.pow_succ] at h
        exact Nat.div_lt_of_lt_mul (by omega))
      omega

set_option maxRecDepth 100000 in
theorem refDecimalC (F : Frm) : ∀ (n : Nat), n < 9223372036854775808 → Contract F Try.prog 73 [.i .i64 n] (fun r => r = .v (.string (decB n))) := by
  intro n
  induction n using Nat.strongRecOn with
  | ind n ih =>
  intro hn
  refine contract_of Try.func73 rfl (by kernel_rfl) ?_
  simp only [Try.ntmps73, argEnv]
  have e1 : ((n : Int)).tmod 10 = ((n % 10 : Nat) : Int) := by rw [Int.tmod_eq_emod_of_nonneg (by omega)]; omega
  have e2 : IntKind.i64.wrap (48 + ((n % 10 : Nat) : Int)) = 48 + ((n % 10 : Nat) : Int) := w64 (by omega)
  have hw : ∀ z : Int, IntKind.u8.wrap z = z % 256 := fun z => by unfold IntKind.wrap; simp [IntKind.bits, IntKind.signed]
  have e3 : IntKind.u8.wrap (48 + ((n % 10 : Nat) : Int)) = 48 + ((n % 10 : Nat) : Int) := by rw [hw]; omega
  have e4 : IntKind.i64.wrap (((n : Int)).tdiv 10) = ((n / 10 : Nat) : Int) := by rw [Int.tdiv_eq_ediv_of_nonneg (by omega), w64 (by omega)]; omega
  (repeat refine Sat.seq ?_)
  (refine Sat.region_k fun k hk => ?_; simp -implicitDefEqProofs only [evr, id, reduceCtorEq, reduceIte, Nat.reduceMul, Nat.reduceAdd, Nat.reduceLT, Nat.reduceLeDiff, Nat.reduceEqDiff, Int.reduceLT, Int.reduceBEq, Int.reduceBNe, Nat.reduceBEq, List.append_nil, Int.toNat_zero, Nat.sub_self, frS]; refine hk _ ?_; clear hk k; try show Sat _ _ _ _ _)
  (repeat refine Sat.seq ?_)
  refine Sat.region_k fun k hk => ?_
  simp -implicitDefEqProofs only [evr, id, reduceCtorEq, reduceIte, Nat.reduceMul, Nat.reduceAdd, Nat.reduceLT, Nat.reduceLeDiff, Nat.reduceEqDiff, Int.reduceLT, Int.reduceBEq, Int.reduceBNe, Nat.reduceBEq, List.append_nil, Int.toNat_zero, Nat.sub_self, frS, e1, e2, e3]
  refine ⟨by decide, fun blk => ?_⟩
  refine ⟨fun i hi => by obtain rfl : i = 0 := by omega
                         exact ⟨_, rfl⟩, ?_⟩
  have e5 : Eng.intOf (rdL [SV.i .u8 (48 + ((n % 10 : Nat) : Int))] 1 0 0) = 48 + ((n % 10 : Nat) : Int) := rfl
  rw [e5]
  (refine hk _ ?_; clear hk k; try show Sat _ _ _ _ _)
  (repeat refine Sat.seq ?_)
  (refine Sat.region_k fun k hk => ?_; simp -implicitDefEqProofs only [evr, id, reduceCtorEq, reduceIte, Nat.reduceMul, Nat.reduceAdd, Nat.reduceLT, Nat.reduceLeDiff, Nat.reduceEqDiff, Int.reduceLT, Int.reduceBEq, Int.reduceBNe, Nat.reduceBEq, List.append_nil, Int.toNat_zero, Nat.sub_self, frS]; refine hk _ ?_; clear hk k; try show Sat _ _ _ _ _)
  refine Sat.cond_b rfl (fun h => ?_) (fun h => ?_)
  · have h10 : ¬ n < 10 := by have := of_decide_eq_true h; omega
    have hsz := decB_size 18 (n / 10) (by omega)
    (repeat refine Sat.seq ?_)
    refine Sat.region_k fun k hk => ?_
    simp -implicitDefEqProofs only [evr, id, reduceCtorEq, reduceIte, Nat.reduceMul, Nat.reduceAdd, Nat.reduceLT, Nat.reduceLeDiff, Nat.reduceEqDiff, Int.reduceLT, Int.reduceBEq, Int.reduceBNe, Nat.reduceBEq, List.append_nil, Int.toNat_zero, Nat.sub_self, frS, e4]
    refine ⟨by decide, ?_⟩
    refine wcall_plain (ih (n / 10) (by omega) (by omega)) rfl (by rintro _ rfl; exact ok_plain rfl) ?_
    rintro r rfl
    simp -implicitDefEqProofs only [evr, id, reduceCtorEq, reduceIte, Nat.reduceMul, Nat.reduceAdd, Nat.reduceLT, Nat.reduceLeDiff, Nat.reduceEqDiff, Int.reduceLT, Int.reduceBEq, Int.reduceBNe, Nat.reduceBEq, List.append_nil, Int.toNat_zero, Nat.sub_self, frS]
    rw [bytesOf_one, if_pos (by show _ ≤ (9223372036854775807 : Int); omega)]
    simp -implicitDefEqProofs only [evr, id, reduceCtorEq, reduceIte, Nat.reduceMul, Nat.reduceAdd, Nat.reduceLT, Nat.reduceLeDiff, Nat.reduceEqDiff, Int.reduceLT, Int.reduceBEq, Int.reduceBNe, Nat.reduceBEq, List.append_nil, Int.toNat_zero, Nat.sub_self, frS]
    (refine hk _ ?_; clear hk k; try show Sat _ _ _ _ _)
    refine Sat.ret ?_
    simp only [Try.results73, evr, id, reduceCtorEq, reduceIte, Nat.reduceMul, Nat.reduceAdd, Nat.reduceLT, Nat.reduceLeDiff, Nat.reduceEqDiff, Int.reduceLT, Int.reduceBEq, Int.reduceBNe, Nat.reduceBEq, List.append_nil, Int.toNat_zero, Nat.sub_self, frS]
    rw [decB_big h10]
  · have h10 : n < 10 := by have := of_decide_eq_false h; omega
    refine Sat.skip ?_
    simp only [thenK]
    (repeat refine Sat.seq ?_)
    (refine Sat.region_k fun k hk => ?_; simp -implicitDefEqProofs only [evr, id, reduceCtorEq, reduceIte, Nat.reduceMul, Nat.reduceAdd, Nat.reduceLT, Nat.reduceLeDiff, Nat.reduceEqDiff, Int.reduceLT, Int.reduceBEq, Int.reduceBNe, Nat.reduceBEq, List.append_nil, Int.toNat_zero, Nat.sub_self, frS]; refine hk _ ?_; clear hk k; try show Sat _ _ _ _ _)
    refine Sat.ret ?_
    simp only [Try.results73, evr, id, reduceCtorEq, reduceIte, Nat.reduceMul, Nat.reduceAdd, Nat.reduceLT, Nat.reduceLeDiff, Nat.reduceEqDiff, Int.reduceLT, Int.reduceBEq, Int.reduceBNe, Nat.reduceBEq, List.append_nil, Int.toNat_zero, Nat.sub_self, frS]
    rw [decB_small h10, Nat.mod_eq_of_lt h10]

theorem byteAt_app (a b : ByteArray) (h : 0 < a.size) : byteAt (a ++ b) 0 = byteAt a 0 := by
  unfold byteAt
  have h2 : 0 < (a ++ b).size := by rw [ByteArray.size_append]; omega
  rw [getElem?_pos (a ++ b) 0 h2, getElem?_pos a 0 h, ByteArray.getElem_append_left h]
theorem decB_first : ∀ (n : Nat), 0 < n → byteAt (decB n) 0 ≠ 48 := by
  intro n
  induction n using Nat.strongRecOn with
  | ind n ih =>
  intro h0
  by_cases h : n < 10
  · rw [decB_small h]
    have : n = 1 ∨ n = 2 ∨ n = 3 ∨ n = 4 ∨ n = 5 ∨ n = 6 ∨ n = 7 ∨ n = 8 ∨ n = 9 := by omega
    rcases this with rfl | rfl | rfl | rfl | rfl | rfl | rfl | rfl | rfl <;> decide
  · rw [decB_big h, byteAt_app _ _ (by have := (decB_size n (n / 10) (Nat.lt_of_le_of_lt (Nat.div_le_self _ _) (Nat.lt_trans (Nat.lt_succ_self n) (Nat.lt_pow_self (by decide))))).2; omega)]
    exact ih (n / 10) (by omega) (by omega)

/-- the text of a number of at most one limb -/
theorem app_empty (a : ByteArray) : a ++ ByteArray.empty = a := by simp

set_option maxRecDepth 100000 in
theorem refText1C (F : Frm) {s : SV} {n : Nat} (hs : Nats s n) (hn : n < 1073741824) : Contract F Try.prog 55 [s] (fun r => r = .v (.string (decB n))) := by
  obtain ⟨xs, hi1, d1⟩ := hs.ints
  have hlim := hi1
  have l1 := (d1.len_le 1).2 (by rw [pw_succ, pw_zero]; omega)
  obtain ⟨a1, c1, z1, r1, rfl, hz1, hr1⟩ := hi1
  refine contract_of Try.func55 rfl (by kernel_rfl) ?_
  simp only [Try.ntmps55, argEnv]
  have hx : xs.getD 0 0 = (n : Int) := by
    have hv := d1.val
    cases xs with
    | nil => rw [val_nil] at hv; rw [← hv]; rfl
    | cons x t =>
      have : t = [] := by
        cases t with
        | nil => rfl
        | cons y t => simp at l1
      subst this
      simpa [val_cons, val_nil] using hv
  have hl0 : ((xs.length : Int) == 0) = decide (n = 0) := by
    have := hs.len0
    exact this
  (repeat refine Sat.seq ?_)
  (refine Sat.region_k fun k hk => ?_; simp -implicitDefEqProofs only [evr, id, reduceCtorEq, reduceIte, Nat.reduceMul, Nat.reduceAdd, Nat.reduceLT, Nat.reduceLeDiff, Nat.reduceEqDiff, Int.reduceLT, Int.reduceBEq, Int.reduceBNe, Nat.reduceBEq, List.append_nil, Int.toNat_zero, Nat.sub_self, frS]; refine hk _ ?_; clear hk k; try show Sat _ _ _ _ _)
  (repeat refine Sat.seq ?_)
  (refine Sat.region_k fun k hk => ?_; simp -implicitDefEqProofs only [evr, id, reduceCtorEq, reduceIte, Nat.reduceMul, Nat.reduceAdd, Nat.reduceLT, Nat.reduceLeDiff, Nat.reduceEqDiff, Int.reduceLT, Int.reduceBEq, Int.reduceBNe, Nat.reduceBEq, List.append_nil, Int.toNat_zero, Nat.sub_self, frS]; refine hk _ ?_; clear hk k; try show Sat _ _ _ _ _)
  (repeat refine Sat.seq ?_)
  refine Sat.block ?_
  refine Sat.loop (ι := Unit) (fun _ => ⟨73, [(0, .sl a1 xs.length c1 z1 r1), (3, .v (.string ByteArray.empty))], []⟩) (fun _ => True) (fun _ => 0) () trivial (by simp -implicitDefEqProofs only [evr, id, reduceCtorEq, reduceIte, Nat.reduceMul, Nat.reduceAdd, Nat.reduceLT, Nat.reduceLeDiff, Nat.reduceEqDiff, Int.reduceLT, Int.reduceBEq, Int.reduceBNe, Nat.reduceBEq, List.append_nil, Int.toNat_zero, Nat.sub_self, frS, evl]; try rfl) ?_
  rintro _ _
  (repeat refine Sat.seq ?_)
  (refine Sat.region_k fun k hk => ?_; simp -implicitDefEqProofs only [evr, id, reduceCtorEq, reduceIte, Nat.reduceMul, Nat.reduceAdd, Nat.reduceLT, Nat.reduceLeDiff, Nat.reduceEqDiff, Int.reduceLT, Int.reduceBEq, Int.reduceBNe, Nat.reduceBEq, List.append_nil, Int.toNat_zero, Nat.sub_self, frS]; refine hk _ ?_; clear hk k; try show Sat _ _ _ _ _)
  (repeat refine Sat.seq ?_)
  refine Sat.cond_b rfl (fun h => ?_) (fun h => ?_)
  · have := of_decide_eq_true h; omega
  refine Sat.exit ?_
  simp only [thenK, blockK, reduceIte]
  (repeat refine Sat.seq ?_)
  (refine Sat.region_k fun k hk => ?_; simp -implicitDefEqProofs only [evr, id, reduceCtorEq, reduceIte, Nat.reduceMul, Nat.reduceAdd, Nat.reduceLT, Nat.reduceLeDiff, Nat.reduceEqDiff, Int.reduceLT, Int.reduceBEq, Int.reduceBNe, Nat.reduceBEq, List.append_nil, Int.toNat_zero, Nat.sub_self, frS])
  refine wcall_plain (refLimbC F hlim 0) rfl (by rintro _ rfl; exact ok_plain rfl) ?_
  rintro r rfl
  simp -implicitDefEqProofs only [evr, id, reduceCtorEq, reduceIte, Nat.reduceMul, Nat.reduceAdd, Nat.reduceLT, Nat.reduceLeDiff, Nat.reduceEqDiff, Int.reduceLT, Int.reduceBEq, Int.reduceBNe, Nat.reduceBEq, List.append_nil, Int.toNat_zero, Nat.sub_self, frS, hx]
  refine wcall_plain (refDecimalC F n (by omega)) rfl (by rintro _ rfl; exact ok_plain rfl) ?_
  rintro r rfl
  simp -implicitDefEqProofs only [evr, id, reduceCtorEq, reduceIte, Nat.reduceMul, Nat.reduceAdd, Nat.reduceLT, Nat.reduceLeDiff, Nat.reduceEqDiff, Int.reduceLT, Int.reduceBEq, Int.reduceBNe, Nat.reduceBEq, List.append_nil, Int.toNat_zero, Nat.sub_self, frS]
  (refine hk _ ?_; clear hk k; try show Sat _ _ _ _ _)
  (repeat refine Sat.seq ?_)
  refine Sat.region_at ⟨73, [(58, .b false), (9, .v (.string (decB n))), (0, .sl a1 xs.length c1 z1 r1), (3, .v (.string ByteArray.empty))], []⟩ (fun k hk => ?_) ?_
  · simp -implicitDefEqProofs only [evr, id, reduceCtorEq, reduceIte, Nat.reduceMul, Nat.reduceAdd, Nat.reduceLT, Nat.reduceLeDiff, Nat.reduceEqDiff, Int.reduceLT, Int.reduceBEq, Int.reduceBNe, Nat.reduceBEq, List.append_nil, Int.toNat_zero, Nat.sub_self, frS]
    have he : (!ByteArray.empty.toList == ByteArray.empty.toList) = false := by simp
    refine ⟨fun h => ?_, fun h => ?_⟩
    · refine hk _ ?_
      simp -implicitDefEqProofs only [evr, id, reduceCtorEq, reduceIte, Nat.reduceMul, Nat.reduceAdd, Nat.reduceLT, Nat.reduceLeDiff, Nat.reduceEqDiff, Int.reduceLT, Int.reduceBEq, Int.reduceBNe, Nat.reduceBEq, List.append_nil, Int.toNat_zero, Nat.sub_self, frS, evl]
      exact .inl he
    · refine hk _ ?_
      rw [h]
      simp -implicitDefEqProofs only [evr, id, reduceCtorEq, reduceIte, Nat.reduceMul, Nat.reduceAdd, Nat.reduceLT, Nat.reduceLeDiff, Nat.reduceEqDiff, Int.reduceLT, Int.reduceBEq, Int.reduceBNe, Nat.reduceBEq, List.append_nil, Int.toNat_zero, Nat.sub_self, frS, evl]
      try rfl
  simp only [thenK]
  refine Sat.cond_b rfl (fun h => by cases h) (fun h => ?_)
  refine Sat.skip ?_
  simp only [thenK]
  have hsz := decB_size 18 n (by omega)
  (repeat refine Sat.seq ?_)
  refine Sat.region_k fun k hk => ?_
  simp -implicitDefEqProofs only [evr, id, reduceCtorEq, reduceIte, Nat.reduceMul, Nat.reduceAdd, Nat.reduceLT, Nat.reduceLeDiff, Nat.reduceEqDiff, Int.reduceLT, Int.reduceBEq, Int.reduceBNe, Nat.reduceBEq, List.append_nil, Int.toNat_zero, Nat.sub_self, frS]
  rw [if_pos (by show ((_ + 0 : Nat) : Int) ≤ (9223372036854775807 : Int); omega), app_empty]
  simp -implicitDefEqProofs only [evr, id, reduceCtorEq, reduceIte, Nat.reduceMul, Nat.reduceAdd, Nat.reduceLT, Nat.reduceLeDiff, Nat.reduceEqDiff, Int.reduceLT, Int.reduceBEq, Int.reduceBNe, Nat.reduceBEq, List.append_nil, Int.toNat_zero, Nat.sub_self, frS]
  (refine hk _ ?_; clear hk k; try show Sat _ _ _ _ _)
  (repeat refine Sat.seq ?_)
  refine Sat.block ?_
  (repeat refine Sat.seq ?_)
  refine Sat.loop (ι := Unit) (fun _ => ⟨73, [(3, .v (.string (decB n)))], []⟩) (fun _ => True) (fun _ => 0) () trivial (by simp -implicitDefEqProofs only [evr, id, reduceCtorEq, reduceIte, Nat.reduceMul, Nat.reduceAdd, Nat.reduceLT, Nat.reduceLeDiff, Nat.reduceEqDiff, Int.reduceLT, Int.reduceBEq, Int.reduceBNe, Nat.reduceBEq, List.append_nil, Int.toNat_zero, Nat.sub_self, frS, evl]; try rfl) ?_
  rintro _ _
  (repeat refine Sat.seq ?_)
  refine Sat.region_at ⟨73, [(69, .b false), (3, .v (.string (decB n)))], []⟩ (fun k hk => ?_) ?_
  · simp -implicitDefEqProofs only [evr, id, reduceCtorEq, reduceIte, Nat.reduceMul, Nat.reduceAdd, Nat.reduceLT, Nat.reduceLeDiff, Nat.reduceEqDiff, Int.reduceLT, Int.reduceBEq, Int.reduceBNe, Nat.reduceBEq, List.append_nil, Int.toNat_zero, Nat.sub_self, frS]
    refine ⟨fun h => ?_, fun h => ?_⟩
    · have h0 : 0 < n := by
        rcases Nat.eq_zero_or_pos n with h9 | h9
        · subst h9
          rw [decB_small (by omega), bytesOf_one] at h
          omega
        · exact h9
      have hf : (byteAt (decB n) 0 == 48) = false := by
        rw [beq_eq_false_iff_ne]
        exact decB_first n h0
      refine ⟨by omega, ?_⟩
      refine hk _ ?_
      rw [hf]
      simp -implicitDefEqProofs only [evr, id, reduceCtorEq, reduceIte, Nat.reduceMul, Nat.reduceAdd, Nat.reduceLT, Nat.reduceLeDiff, Nat.reduceEqDiff, Int.reduceLT, Int.reduceBEq, Int.reduceBNe, Nat.reduceBEq, List.append_nil, Int.toNat_zero, Nat.sub_self, frS, evl]
      try rfl
    · refine hk _ ?_
      rw [decide_eq_false h]
      simp -implicitDefEqProofs only [evr, id, reduceCtorEq, reduceIte, Nat.reduceMul, Nat.reduceAdd, Nat.reduceLT, Nat.reduceLeDiff, Nat.reduceEqDiff, Int.reduceLT, Int.reduceBEq, Int.reduceBNe, Nat.reduceBEq, List.append_nil, Int.toNat_zero, Nat.sub_self, frS, evl]
      try rfl
  simp only [thenK]
  refine Sat.cond_b rfl (fun h => by cases h) (fun h => ?_)
  refine Sat.exit ?_
  simp only [thenK, blockK, reduceIte]
  (repeat refine Sat.seq ?_)
  (refine Sat.region_k fun k hk => ?_; simp -implicitDefEqProofs only [evr, id, reduceCtorEq, reduceIte, Nat.reduceMul, Nat.reduceAdd, Nat.reduceLT, Nat.reduceLeDiff, Nat.reduceEqDiff, Int.reduceLT, Int.reduceBEq, Int.reduceBNe, Nat.reduceBEq, List.append_nil, Int.toNat_zero, Nat.sub_self, frS]; refine hk _ ?_; clear hk k; try show Sat _ _ _ _ _)
  refine Sat.ret ?_
  simp only [Try.results55, evr, id, reduceCtorEq, reduceIte, Nat.reduceMul, Nat.reduceAdd, Nat.reduceLT, Nat.reduceLeDiff, Nat.reduceEqDiff, Int.reduceLT, Int.reduceBEq, Int.reduceBNe, Nat.reduceBEq, List.append_nil, Int.toNat_zero, Nat.sub_self, frS]

set_option maxRecDepth 100000 in
theorem refReduceC (F : Frm) (neg : Bool) {sp sq : SV} {p q : Nat} (hp : Nats sp p) (hq : Nats sq q) (h1 : (p : Int) < pw 256) (h2 : (q : Int) < pw 256) (h0 : 0 < q) : Contract F Try.prog 42 [frS neg sp sq] (fun r => FrS r (neg && decide (0 < p)) (p / Nat.gcd p q) (q / Nat.gcd p q)) := by
  have hp' := hp
  have hq' := hq
  obtain ⟨a1, c1, z1, r1, x1, rfl, _⟩ := hp
  obtain ⟨a2, c2, z2, r2, x2, rfl, _⟩ := hq
  refine contract_of Try.func42 rfl (by kernel_rfl) ?_
  simp only [Try.ntmps42, argEnv, frS]
  (repeat refine Sat.seq ?_)
  (refine Sat.region_k fun k hk => ?_; simp -implicitDefEqProofs only [evr, id, reduceCtorEq, reduceIte, Nat.reduceMul, Nat.reduceAdd, Nat.reduceLT, Nat.reduceLeDiff, Nat.reduceEqDiff, Int.reduceLT, Int.reduceBEq, Int.reduceBNe, Nat.reduceBEq, List.append_nil, Int.toNat_zero, Nat.sub_self, frS])
  intro b1 b2
  (refine hk _ ?_; clear hk k; try show Sat _ _ _ _ _)
  (repeat refine Sat.seq ?_)
  (refine Sat.region_k fun k hk => ?_; simp -implicitDefEqProofs only [evr, id, reduceCtorEq, reduceIte, Nat.reduceMul, Nat.reduceAdd, Nat.reduceLT, Nat.reduceLeDiff, Nat.reduceEqDiff, Int.reduceLT, Int.reduceBEq, Int.reduceBNe, Nat.reduceBEq, List.append_nil, Int.toNat_zero, Nat.sub_self, frS])
  refine wcall_slice (refReducedC F neg hp' hq' h1 h2 h0) rfl (by simp -implicitDefEqProofs only [evr, id, reduceCtorEq, reduceIte, Nat.reduceMul, Nat.reduceAdd, Nat.reduceLT, Nat.reduceLeDiff, Nat.reduceEqDiff, Int.reduceLT, Int.reduceBEq, Int.reduceBNe, Nat.reduceBEq, List.append_nil, Int.toNat_zero, Nat.sub_self, frS]; try rfl) ?_
  rintro r ⟨sp3, sq3, rfl, h3, h4⟩
  have h3' := h3
  have h4' := h4
  obtain ⟨a3, c3, z3, r3, x3, rfl, _⟩ := h3
  obtain ⟨a4, c4, z4, r4, x4, rfl, _⟩ := h4
  simp only [frS, evr, id, reduceCtorEq, reduceIte, Nat.reduceMul, Nat.reduceAdd, Nat.reduceLT, Nat.reduceLeDiff, Nat.reduceEqDiff, Int.reduceLT, Int.reduceBEq, Int.reduceBNe, Nat.reduceBEq, List.append_nil, Int.toNat_zero, Nat.sub_self, frS]
  (refine hk _ ?_; clear hk k; try show Sat _ _ _ _ _)
  refine Sat.ret ?_
  simp only [Try.results42, evr, id, reduceCtorEq, reduceIte, Nat.reduceMul, Nat.reduceAdd, Nat.reduceLT, Nat.reduceLeDiff, Nat.reduceEqDiff, Int.reduceLT, Int.reduceBEq, Int.reduceBNe, Nat.reduceBEq, List.append_nil, Int.toNat_zero, Nat.sub_self, frS]
  exact ⟨_, _, rfl, h3', h4'⟩

/-- the text of a fraction from 0 on, of one limb each, reduced and no whole number -/
def frB (p q : Nat) : ByteArray := decB p ++ (bytesOf [47] ++ decB q)
set_option maxRecDepth 100000 in
theorem refText3C (F : Frm) {sp sq : SV} {p q : Nat} (hp : Nats sp p) (hq : Nats sq q) (h1 : p < 1073741824) (h2 : q < 1073741824) (h0 : 1 < q) (hg : Nat.gcd p q = 1) : Contract F Try.prog 28 [frS false sp sq] (fun r => r = .v (.string (frB p q))) := by
  have hp' := hp
  have hq' := hq
  obtain ⟨a1, c1, z1, r1, x1, rfl, _⟩ := hp
  obtain ⟨a2, c2, z2, r2, x2, rfl, _⟩ := hq
  refine contract_of Try.func28 rfl (by kernel_rfl) ?_
  simp only [Try.ntmps28, argEnv, frS]
  (repeat refine Sat.seq ?_)
  (refine Sat.region_k fun k hk => ?_; simp -implicitDefEqProofs only [evr, id, reduceCtorEq, reduceIte, Nat.reduceMul, Nat.reduceAdd, Nat.reduceLT, Nat.reduceLeDiff, Nat.reduceEqDiff, Int.reduceLT, Int.reduceBEq, Int.reduceBNe, Nat.reduceBEq, List.append_nil, Int.toNat_zero, Nat.sub_self, frS])
  intro b1
  (refine hk _ ?_; clear hk k; try show Sat _ _ _ _ _)
  (repeat refine Sat.seq ?_)
  (refine Sat.region_k fun k hk => ?_; simp -implicitDefEqProofs only [evr, id, reduceCtorEq, reduceIte, Nat.reduceMul, Nat.reduceAdd, Nat.reduceLT, Nat.reduceLeDiff, Nat.reduceEqDiff, Int.reduceLT, Int.reduceBEq, Int.reduceBNe, Nat.reduceBEq, List.append_nil, Int.toNat_zero, Nat.sub_self, frS])
  refine wcall_slice (refReduceC F false hp' hq' (lt_pw (a := 30) (Nat.le_of_lt h1) (by decide)) (lt_pw (a := 30) (Nat.le_of_lt h2) (by decide)) (by omega)) rfl (by simp only [frS, evr, id, reduceCtorEq, reduceIte, Nat.reduceMul, Nat.reduceAdd, Nat.reduceLT, Nat.reduceLeDiff, Nat.reduceEqDiff, Int.reduceLT, Int.reduceBEq, Int.reduceBNe, Nat.reduceBEq, List.append_nil, Int.toNat_zero, Nat.sub_self, frS]; try rfl) ?_
  rintro r ⟨sp3, sq3, rfl, h3, h4⟩
  rw [hg, Nat.div_one] at h3 h4
  have h3' := h3
  have h4' := h4
  obtain ⟨xs4, hi4, d4⟩ := h4.ints
  have hl1 := (d4.len_le 1).2 (by rw [pw_succ, pw_zero]; omega)
  have hl0 : 0 < xs4.length := by
    have := d4.len_zero
    omega
  have hx : xs4.getD 0 0 = (q : Int) := by
    have hv := d4.val
    cases xs4 with
    | nil => simp at hl0
    | cons x t =>
      have : t = [] := by
        cases t with
        | nil => rfl
        | cons y t => simp at hl1
      subst this
      simpa [val_cons, val_nil] using hv
  obtain ⟨a3, c3, z3, r3, x3, rfl, _⟩ := h3
  obtain ⟨a4, c4, z4, r4, rfl, hz4, hr4⟩ := hi4
  have hsz : z4 = 1 := by
    rcases hz4 with hz | hz
    · omega
    · exact hz
  subst hsz
  have hg4 := hr4 0 hl0
  simp only [frS, evr, id, reduceCtorEq, reduceIte, Nat.reduceMul, Nat.reduceAdd, Nat.reduceLT, Nat.reduceLeDiff, Nat.reduceEqDiff, Int.reduceLT, Int.reduceBEq, Int.reduceBNe, Nat.reduceBEq, List.append_nil, Int.toNat_zero, Nat.sub_self, frS, Bool.false_and]
  (refine hk _ ?_; clear hk k; try show Sat _ _ _ _ _)
  (repeat refine Sat.seq ?_)
  (refine Sat.region_k fun k hk => ?_; simp -implicitDefEqProofs only [evr, id, reduceCtorEq, reduceIte, Nat.reduceMul, Nat.reduceAdd, Nat.reduceLT, Nat.reduceLeDiff, Nat.reduceEqDiff, Int.reduceLT, Int.reduceBEq, Int.reduceBNe, Nat.reduceBEq, List.append_nil, Int.toNat_zero, Nat.sub_self, frS])
  refine wcall_plain (refText1C F h3' h1) (by simp -implicitDefEqProofs only [evr, id, reduceCtorEq, reduceIte, Nat.reduceMul, Nat.reduceAdd, Nat.reduceLT, Nat.reduceLeDiff, Nat.reduceEqDiff, Int.reduceLT, Int.reduceBEq, Int.reduceBNe, Nat.reduceBEq, List.append_nil, Int.toNat_zero, Nat.sub_self, frS]; try rfl) (by rintro _ rfl; exact ok_plain rfl) ?_
  rintro r rfl
  simp -implicitDefEqProofs only [evr, id, reduceCtorEq, reduceIte, Nat.reduceMul, Nat.reduceAdd, Nat.reduceLT, Nat.reduceLeDiff, Nat.reduceEqDiff, Int.reduceLT, Int.reduceBEq, Int.reduceBNe, Nat.reduceBEq, List.append_nil, Int.toNat_zero, Nat.sub_self, frS]
  (refine hk _ ?_; clear hk k; try show Sat _ _ _ _ _)
  (repeat refine Sat.seq ?_)
  (refine Sat.region_k fun k hk => ?_; simp -implicitDefEqProofs only [evr, id, reduceCtorEq, reduceIte, Nat.reduceMul, Nat.reduceAdd, Nat.reduceLT, Nat.reduceLeDiff, Nat.reduceEqDiff, Int.reduceLT, Int.reduceBEq, Int.reduceBNe, Nat.reduceBEq, List.append_nil, Int.toNat_zero, Nat.sub_self, frS]; refine hk _ ?_; clear hk k; try show Sat _ _ _ _ _)
  refine Sat.cond_b rfl (fun h => by cases h) (fun h => ?_)
  refine Sat.skip ?_
  simp only [thenK]
  (repeat refine Sat.seq ?_)
  refine Sat.region_at ⟨31, [(23, .b true), (3, .v (.string (decB p))), (1, .op 0 b1 0)], [.box b1 30 [.b false, .sl a3 x3.length c3 z3 r3, .sl a4 xs4.length c4 1 r4]]⟩ (fun k hk => ?_) ?_
  · simp -implicitDefEqProofs only [evr, id, reduceCtorEq, reduceIte, Nat.reduceMul, Nat.reduceAdd, Nat.reduceLT, Nat.reduceLeDiff, Nat.reduceEqDiff, Int.reduceLT, Int.reduceBEq, Int.reduceBNe, Nat.reduceBEq, List.append_nil, Int.toNat_zero, Nat.sub_self, frS]
    refine ⟨fun h => by omega, fun h => ?_⟩
    refine ⟨by omega, ?_⟩
    rw [hg4, hx]
    simp -implicitDefEqProofs only [evr, id, reduceCtorEq, reduceIte, Nat.reduceMul, Nat.reduceAdd, Nat.reduceLT, Nat.reduceLeDiff, Nat.reduceEqDiff, Int.reduceLT, Int.reduceBEq, Int.reduceBNe, Nat.reduceBEq, List.append_nil, Int.toNat_zero, Nat.sub_self, frS]
    refine hk _ ?_
    have e : (((q : Nat) : Int) != 1) = true := by rw [bne_iff_ne]; omega
    rw [e]
    simp -implicitDefEqProofs only [evr, id, reduceCtorEq, reduceIte, Nat.reduceMul, Nat.reduceAdd, Nat.reduceLT, Nat.reduceLeDiff, Nat.reduceEqDiff, Int.reduceLT, Int.reduceBEq, Int.reduceBNe, Nat.reduceBEq, List.append_nil, Int.toNat_zero, Nat.sub_self, frS, evl]
    try rfl
  simp only [thenK]
  refine Sat.cond_b rfl (fun h => ?_) (fun h => by cases h)
  have s1 := decB_size 18 p (by omega)
  have s2 := decB_size 18 q (by omega)
  (repeat refine Sat.seq ?_)
  (refine Sat.region_k fun k hk => ?_; simp -implicitDefEqProofs only [evr, id, reduceCtorEq, reduceIte, Nat.reduceMul, Nat.reduceAdd, Nat.reduceLT, Nat.reduceLeDiff, Nat.reduceEqDiff, Int.reduceLT, Int.reduceBEq, Int.reduceBNe, Nat.reduceBEq, List.append_nil, Int.toNat_zero, Nat.sub_self, frS])
  refine wcall_plain (refText1C F h4' h2) (by simp -implicitDefEqProofs only [evr, id, reduceCtorEq, reduceIte, Nat.reduceMul, Nat.reduceAdd, Nat.reduceLT, Nat.reduceLeDiff, Nat.reduceEqDiff, Int.reduceLT, Int.reduceBEq, Int.reduceBNe, Nat.reduceBEq, List.append_nil, Int.toNat_zero, Nat.sub_self, frS]; try rfl) (by rintro _ rfl; exact ok_plain rfl) ?_
  rintro r rfl
  simp -implicitDefEqProofs only [evr, id, reduceCtorEq, reduceIte, Nat.reduceMul, Nat.reduceAdd, Nat.reduceLT, Nat.reduceLeDiff, Nat.reduceEqDiff, Int.reduceLT, Int.reduceBEq, Int.reduceBNe, Nat.reduceBEq, List.append_nil, Int.toNat_zero, Nat.sub_self, frS]
  have e47 : (⟨#[47]⟩ : ByteArray) = bytesOf [47] := rfl
  rw [e47, bytesOf_one, if_pos (by show _ ≤ (9223372036854775807 : Int); omega)]
  simp -implicitDefEqProofs only [evr, id, reduceCtorEq, reduceIte, Nat.reduceMul, Nat.reduceAdd, Nat.reduceLT, Nat.reduceLeDiff, Nat.reduceEqDiff, Int.reduceLT, Int.reduceBEq, Int.reduceBNe, Nat.reduceBEq, List.append_nil, Int.toNat_zero, Nat.sub_self, frS]
  rw [ByteArray.size_append, bytesOf_one, if_pos (by show _ ≤ (9223372036854775807 : Int); omega)]
  simp -implicitDefEqProofs only [evr, id, reduceCtorEq, reduceIte, Nat.reduceMul, Nat.reduceAdd, Nat.reduceLT, Nat.reduceLeDiff, Nat.reduceEqDiff, Int.reduceLT, Int.reduceBEq, Int.reduceBNe, Nat.reduceBEq, List.append_nil, Int.toNat_zero, Nat.sub_self, frS]
  (refine hk _ ?_; clear hk k; try show Sat _ _ _ _ _)
  (repeat refine Sat.seq ?_)
  (refine Sat.region_k fun k hk => ?_; simp -implicitDefEqProofs only [evr, id, reduceCtorEq, reduceIte, Nat.reduceMul, Nat.reduceAdd, Nat.reduceLT, Nat.reduceLeDiff, Nat.reduceEqDiff, Int.reduceLT, Int.reduceBEq, Int.reduceBNe, Nat.reduceBEq, List.append_nil, Int.toNat_zero, Nat.sub_self, frS]; refine hk _ ?_; clear hk k; try show Sat _ _ _ _ _)
  refine Sat.ret ?_
  simp only [Try.results28, evr, id, reduceCtorEq, reduceIte, Nat.reduceMul, Nat.reduceAdd, Nat.reduceLT, Nat.reduceLeDiff, Nat.reduceEqDiff, Int.reduceLT, Int.reduceBEq, Int.reduceBNe, Nat.reduceBEq, List.append_nil, Int.toNat_zero, Nat.sub_self, frS]
  try rfl
end Go.Proofs.Ytagmohpafjncfaa

/- Package stopping, by the evaluator: power, Onto, Missing. -/
set_option linter.unusedSimpArgs false
set_option linter.unusedVariables false
namespace Go.Proofs.Ytagmohpafjncfaa
open Eng Lmb

theorem zero_pow_step {o r k : Nat} (h : o * 0 ^ r = 0 ^ k) (hr : 0 < r) : 0 ^ k = 0 := by
  obtain ⟨q, rfl⟩ : ∃ q, r = q + 1 := ⟨r - 1, by omega⟩
  rw [Nat.pow_succ, Nat.mul_zero, Nat.mul_zero] at h
  exact h.symm

theorem half_e (r : Nat) : ((r : Int)).fdiv (2 ^ min (Int.toNat 1) IntKind.i64.bits) = ((r / 2 : Nat) : Int) := by
  have e1 : ((2 : Int) ^ min (Int.toNat 1) IntKind.i64.bits) = 2 := by decide
  rw [e1, Int.fdiv_eq_ediv_of_nonneg _ (by decide)]
  omega

set_option maxRecDepth 100000 in
theorem pow0C (F : Frm) {sa : SV} (k0 : Nat) (ha : Nats sa 0) (hk0 : k0 ≤ 65536) : Contract F Try.prog 56 [sa, .i .i64 k0] (natRes (0 ^ k0)) := by
  have ha' := ha
  obtain ⟨a1, c1, z1, r1, x1, rfl, _⟩ := ha
  refine contract_of Try.func56 rfl (by kernel_rfl) ?_
  simp only [Try.ntmps56, argEnv]
  (repeat refine Sat.seq ?_)
  (refine Sat.region_k fun k hk => ?_; simp -implicitDefEqProofs only [evr, id, reduceCtorEq, reduceIte, Nat.reduceMul, Nat.reduceAdd, Nat.reduceLT, Nat.reduceLeDiff, Nat.reduceEqDiff, Int.reduceLT, Int.reduceBEq, Int.reduceBNe, Nat.reduceBEq, List.append_nil, Int.toNat_zero, Nat.sub_self, frS]; refine hk _ ?_; clear hk k; try show Sat _ _ _ _ _)
  (repeat refine Sat.seq ?_)
  refine Sat.region_at ⟨46, [(14, .b false), (0, .sl a1 x1.length c1 z1 r1), (1, .i .i64 k0)], []⟩ (fun k hk => ?_) ?_
  · simp -implicitDefEqProofs only [evr, id, reduceCtorEq, reduceIte, Nat.reduceMul, Nat.reduceAdd, Nat.reduceLT, Nat.reduceLeDiff, Nat.reduceEqDiff, Int.reduceLT, Int.reduceBEq, Int.reduceBNe, Nat.reduceBEq, List.append_nil, Int.toNat_zero, Nat.sub_self, frS]
    refine ⟨fun h => ?_, fun h => ?_⟩
    · omega
    · refine hk _ ?_
      have e : decide (65536 < (k0 : Int)) = false := by simp; omega
      simp only [e]
      simp -implicitDefEqProofs only [evr, id, reduceCtorEq, reduceIte, Nat.reduceMul, Nat.reduceAdd, Nat.reduceLT, Nat.reduceLeDiff, Nat.reduceEqDiff, Int.reduceLT, Int.reduceBEq, Int.reduceBNe, Nat.reduceBEq, List.append_nil, Int.toNat_zero, Nat.sub_self, frS, evl]
  simp only [thenK]
  refine Sat.cond_b rfl (fun h => by cases h) (fun h => ?_)
  refine Sat.skip ?_
  simp only [thenK]
  (repeat refine Sat.seq ?_)
  (refine Sat.region_k fun k hk => ?_; simp -implicitDefEqProofs only [evr, id, reduceCtorEq, reduceIte, Nat.reduceMul, Nat.reduceAdd, Nat.reduceLT, Nat.reduceLeDiff, Nat.reduceEqDiff, Int.reduceLT, Int.reduceBEq, Int.reduceBNe, Nat.reduceBEq, List.append_nil, Int.toNat_zero, Nat.sub_self, frS])
  intro blk
  refine wcall_slice (cloneNatC F ha' (by have := pw_one; omega)) rfl rfl ?_
  intro y hy
  have hy1 := hy
  obtain ⟨a2, c2, z2, r2, x2, rfl, _⟩ := hy
  simp -implicitDefEqProofs only [evr, id, reduceCtorEq, reduceIte, Nat.reduceMul, Nat.reduceAdd, Nat.reduceLT, Nat.reduceLeDiff, Nat.reduceEqDiff, Int.reduceLT, Int.reduceBEq, Int.reduceBNe, Nat.reduceBEq, List.append_nil, Int.toNat_zero, Nat.sub_self, frS]
  (refine hk _ ?_; clear hk k; try show Sat _ _ _ _ _)
  have h1s : Nats (.sl (some ⟨blk, 0, none⟩) 1 1 1 (rdL [.i .i64 1] 1)) 1 := nats_of (xs := [1]) rfl (fun p hp => by have hp0 : p = 0 := by omega
                                                                                                                     subst hp0; rfl) (dig_one (x := 1) (by omega) (by omega))
  refine Sat.settle2 6 rfl rfl ?_
  simp -implicitDefEqProofs only [evr, id, reduceCtorEq, reduceIte, Nat.reduceMul, Nat.reduceAdd, Nat.reduceLT, Nat.reduceLeDiff, Nat.reduceEqDiff, Int.reduceLT, Int.reduceBEq, Int.reduceBNe, Nat.reduceBEq, List.append_nil, Int.toNat_zero, Nat.sub_self, frS]
  (repeat refine Sat.seq ?_)
  refine Sat.block ?_
  (repeat refine Sat.seq ?_)
  refine Sat.loop (ι := Nat × SV × SV) (fun x => ⟨46, [(1, .i .i64 x.1), (6, x.2.1), (7, x.2.2)], []⟩)
    (fun x => x.1 ≤ 65536 ∧ (∃ o, Nats x.2.1 o ∧ o ≤ 1 ∧ o * 0 ^ x.1 = 0 ^ k0) ∧ Nats x.2.2 0) (fun x => x.1) (k0, .sl (some ⟨blk, 0, none⟩) 1 1 1 (rdL [.i .i64 1] 1), .sl a2 x2.length c2 z2 r2) ⟨hk0, ⟨1, h1s, by omega, Nat.one_mul _⟩, hy1⟩ (by simp -implicitDefEqProofs only [evr, id, reduceCtorEq, reduceIte, Nat.reduceMul, Nat.reduceAdd, Nat.reduceLT, Nat.reduceLeDiff, Nat.reduceEqDiff, Int.reduceLT, Int.reduceBEq, Int.reduceBNe, Nat.reduceBEq, List.append_nil, Int.toNat_zero, Nat.sub_self, frS, evl]; try rfl) ?_
  rintro ⟨r, so, sq⟩ ⟨hr, ⟨o, ho, ho1, hoe⟩, hs⟩
  simp only at hr ho ho1 hoe hs ⊢
  have ho' := ho
  have hs0 := hs
  obtain ⟨a3, c3, z3, r3, x3, rfl, _⟩ := ho
  obtain ⟨a4, c4, z4, r4, x4, rfl, _⟩ := hs
  (repeat refine Sat.seq ?_)
  (refine Sat.region_k fun k hk => ?_; simp -implicitDefEqProofs only [evr, id, reduceCtorEq, reduceIte, Nat.reduceMul, Nat.reduceAdd, Nat.reduceLT, Nat.reduceLeDiff, Nat.reduceEqDiff, Int.reduceLT, Int.reduceBEq, Int.reduceBNe, Nat.reduceBEq, List.append_nil, Int.toNat_zero, Nat.sub_self, frS]; refine hk _ ?_; clear hk k; try show Sat _ _ _ _ _)
  (repeat refine Sat.seq ?_)
  refine Sat.cond_b rfl (fun h => ?_) (fun h => ?_)
  · simp only [decide_eq_true_eq] at h
    have hr0 : 0 < r := by omega
    have hz := zero_pow_step hoe hr0
    refine Sat.skip ?_
    simp only [thenK]
    (repeat refine Sat.seq ?_)
    refine Sat.block ?_
    (repeat refine Sat.seq ?_)
    (refine Sat.region_k fun k hk => ?_; simp -implicitDefEqProofs only [evr, id, reduceCtorEq, reduceIte, Nat.reduceMul, Nat.reduceAdd, Nat.reduceLT, Nat.reduceLeDiff, Nat.reduceEqDiff, Int.reduceLT, Int.reduceBEq, Int.reduceBNe, Nat.reduceBEq, List.append_nil, Int.toNat_zero, Nat.sub_self, frS]; refine hk _ ?_; clear hk k; try show Sat _ _ _ _ _)
    (repeat refine Sat.seq ?_)
    refine Sat.region_k fun k hk => ?_
    simp -implicitDefEqProofs only [evr, id, reduceCtorEq, reduceIte, Nat.reduceMul, Nat.reduceAdd, Nat.reduceLT, Nat.reduceLeDiff, Nat.reduceEqDiff, Int.reduceLT, Int.reduceBEq, Int.reduceBNe, Nat.reduceBEq, List.append_nil, Int.toNat_zero, Nat.sub_self, frS, Zn.and_one]
    (refine hk _ ?_; clear hk k; try show Sat _ _ _ _ _)
    (repeat refine Sat.seq ?_)
    refine Sat.cond_b rfl (fun h5 => ?_) (fun h5 => ?_)
    · (repeat refine Sat.seq ?_)
      (refine Sat.region_k fun k hk => ?_; simp -implicitDefEqProofs only [evr, id, reduceCtorEq, reduceIte, Nat.reduceMul, Nat.reduceAdd, Nat.reduceLT, Nat.reduceLeDiff, Nat.reduceEqDiff, Int.reduceLT, Int.reduceBEq, Int.reduceBNe, Nat.reduceBEq, List.append_nil, Int.toNat_zero, Nat.sub_self, frS])
      refine wcall_slice (mulC F ho' hs0 (by have := pw_one; omega) (by have := pw_one; omega) (by have := pw_one; omega)) rfl rfl ?_
      rintro y ⟨s, rfl, hy⟩
      have hs5 := hy
      obtain ⟨a5, c5, z5, r5, x5, rfl, _⟩ := hy
      simp -implicitDefEqProofs only [evr, id, reduceCtorEq, reduceIte, Nat.reduceMul, Nat.reduceAdd, Nat.reduceLT, Nat.reduceLeDiff, Nat.reduceEqDiff, Int.reduceLT, Int.reduceBEq, Int.reduceBNe, Nat.reduceBEq, List.append_nil, Int.toNat_zero, Nat.sub_self, frS]
      (refine hk _ ?_; clear hk k; try show Sat _ _ _ _ _)
      (repeat refine Sat.seq ?_)
      (refine Sat.region_k fun k hk => ?_; simp -implicitDefEqProofs only [evr, id, reduceCtorEq, reduceIte, Nat.reduceMul, Nat.reduceAdd, Nat.reduceLT, Nat.reduceLeDiff, Nat.reduceEqDiff, Int.reduceLT, Int.reduceBEq, Int.reduceBNe, Nat.reduceBEq, List.append_nil, Int.toNat_zero, Nat.sub_self, frS]; refine hk _ ?_; clear hk k; try show Sat _ _ _ _ _)
      refine Sat.cond_b rfl (fun h => by cases h) (fun h => ?_)
      refine Sat.skip ?_
      simp only [thenK, blockK]
      (repeat refine Sat.seq ?_)
      (refine Sat.region_k fun k hk => ?_; simp -implicitDefEqProofs only [evr, id, reduceCtorEq, reduceIte, Nat.reduceMul, Nat.reduceAdd, Nat.reduceLT, Nat.reduceLeDiff, Nat.reduceEqDiff, Int.reduceLT, Int.reduceBEq, Int.reduceBNe, Nat.reduceBEq, List.append_nil, Int.toNat_zero, Nat.sub_self, frS]; refine hk _ ?_; clear hk k; try show Sat _ _ _ _ _)
      (repeat refine Sat.seq ?_)
      refine Sat.cond_b rfl (fun h => ?_) (fun h => ?_)
      · simp only [decide_eq_true_eq] at h
        (repeat refine Sat.seq ?_)
        (refine Sat.region_k fun k hk => ?_; simp -implicitDefEqProofs only [evr, id, reduceCtorEq, reduceIte, Nat.reduceMul, Nat.reduceAdd, Nat.reduceLT, Nat.reduceLeDiff, Nat.reduceEqDiff, Int.reduceLT, Int.reduceBEq, Int.reduceBNe, Nat.reduceBEq, List.append_nil, Int.toNat_zero, Nat.sub_self, frS])
        refine wcall_slice (mulC F hs0 hs0 (by have := pw_one; omega) (by have := pw_one; omega) (by have := pw_one; omega)) rfl rfl ?_
        rintro y ⟨s, rfl, hy⟩
        have hs1 := hy
        obtain ⟨a7, c7, z7, r7, x7, rfl, _⟩ := hy
        simp -implicitDefEqProofs only [evr, id, reduceCtorEq, reduceIte, Nat.reduceMul, Nat.reduceAdd, Nat.reduceLT, Nat.reduceLeDiff, Nat.reduceEqDiff, Int.reduceLT, Int.reduceBEq, Int.reduceBNe, Nat.reduceBEq, List.append_nil, Int.toNat_zero, Nat.sub_self, frS]
        (refine hk _ ?_; clear hk k; try show Sat _ _ _ _ _)
        (repeat refine Sat.seq ?_)
        (refine Sat.region_k fun k hk => ?_; simp -implicitDefEqProofs only [evr, id, reduceCtorEq, reduceIte, Nat.reduceMul, Nat.reduceAdd, Nat.reduceLT, Nat.reduceLeDiff, Nat.reduceEqDiff, Int.reduceLT, Int.reduceBEq, Int.reduceBNe, Nat.reduceBEq, List.append_nil, Int.toNat_zero, Nat.sub_self, frS]; refine hk _ ?_; clear hk k; try show Sat _ _ _ _ _)
        refine Sat.cond_b rfl (fun h => by cases h) (fun h => ?_)
        refine Sat.skip ?_
        simp only [thenK, blockK]
        (repeat refine Sat.seq ?_)
        (refine Sat.region_k fun k hk => ?_; simp -implicitDefEqProofs only [evr, id, reduceCtorEq, reduceIte, Nat.reduceMul, Nat.reduceAdd, Nat.reduceLT, Nat.reduceLeDiff, Nat.reduceEqDiff, Int.reduceLT, Int.reduceBEq, Int.reduceBNe, Nat.reduceBEq, List.append_nil, Int.toNat_zero, Nat.sub_self, frS])
        refine ⟨by decide, ?_⟩
        refine hk _ ?_
        simp only [thenK, blockK]
        refine ⟨(r / 2, _, _), ⟨by show r / 2 ≤ 65536; omega, ⟨0, hs5, by omega, by rw [hz, Nat.zero_mul]⟩, hs1⟩, by show r / 2 < r; omega, ?_⟩
        simp -implicitDefEqProofs only [evr, id, reduceCtorEq, reduceIte, Nat.reduceMul, Nat.reduceAdd, Nat.reduceLT, Nat.reduceLeDiff, Nat.reduceEqDiff, Int.reduceLT, Int.reduceBEq, Int.reduceBNe, Nat.reduceBEq, List.append_nil, Int.toNat_zero, Nat.sub_self, frS, evl]
        try exact half_e r
      · simp only [decide_eq_false_iff_not] at h
        refine Sat.skip ?_
        simp only [thenK, blockK]
        (repeat refine Sat.seq ?_)
        (refine Sat.region_k fun k hk => ?_; simp -implicitDefEqProofs only [evr, id, reduceCtorEq, reduceIte, Nat.reduceMul, Nat.reduceAdd, Nat.reduceLT, Nat.reduceLeDiff, Nat.reduceEqDiff, Int.reduceLT, Int.reduceBEq, Int.reduceBNe, Nat.reduceBEq, List.append_nil, Int.toNat_zero, Nat.sub_self, frS])
        refine ⟨by decide, ?_⟩
        refine hk _ ?_
        simp only [thenK, blockK]
        refine ⟨(r / 2, _, _), ⟨by show r / 2 ≤ 65536; omega, ⟨0, hs5, by omega, by rw [hz, Nat.zero_mul]⟩, hs0⟩, by show r / 2 < r; omega, ?_⟩
        simp -implicitDefEqProofs only [evr, id, reduceCtorEq, reduceIte, Nat.reduceMul, Nat.reduceAdd, Nat.reduceLT, Nat.reduceLeDiff, Nat.reduceEqDiff, Int.reduceLT, Int.reduceBEq, Int.reduceBNe, Nat.reduceBEq, List.append_nil, Int.toNat_zero, Nat.sub_self, frS, evl]
        try exact half_e r
    · refine Sat.skip ?_
      simp only [thenK, blockK]
      have h6 : r % 2 = 0 := by simp only [beq_eq_false_iff_ne] at h5; omega
      have h7 : o * 0 ^ (r / 2) = 0 ^ k0 := by
        obtain ⟨q, hq⟩ : ∃ q, r / 2 = q + 1 := ⟨r / 2 - 1, by omega⟩
        rw [hq, Nat.pow_succ, Nat.mul_zero, Nat.mul_zero, hz]
      (repeat refine Sat.seq ?_)
      (refine Sat.region_k fun k hk => ?_; simp -implicitDefEqProofs only [evr, id, reduceCtorEq, reduceIte, Nat.reduceMul, Nat.reduceAdd, Nat.reduceLT, Nat.reduceLeDiff, Nat.reduceEqDiff, Int.reduceLT, Int.reduceBEq, Int.reduceBNe, Nat.reduceBEq, List.append_nil, Int.toNat_zero, Nat.sub_self, frS]; refine hk _ ?_; clear hk k; try show Sat _ _ _ _ _)
      (repeat refine Sat.seq ?_)
      refine Sat.cond_b rfl (fun h => ?_) (fun h => ?_)
      · simp only [decide_eq_true_eq] at h
        (repeat refine Sat.seq ?_)
        (refine Sat.region_k fun k hk => ?_; simp -implicitDefEqProofs only [evr, id, reduceCtorEq, reduceIte, Nat.reduceMul, Nat.reduceAdd, Nat.reduceLT, Nat.reduceLeDiff, Nat.reduceEqDiff, Int.reduceLT, Int.reduceBEq, Int.reduceBNe, Nat.reduceBEq, List.append_nil, Int.toNat_zero, Nat.sub_self, frS])
        refine wcall_slice (mulC F hs0 hs0 (by have := pw_one; omega) (by have := pw_one; omega) (by have := pw_one; omega)) rfl rfl ?_
        rintro y ⟨s, rfl, hy⟩
        have hs1 := hy
        obtain ⟨a7, c7, z7, r7, x7, rfl, _⟩ := hy
        simp -implicitDefEqProofs only [evr, id, reduceCtorEq, reduceIte, Nat.reduceMul, Nat.reduceAdd, Nat.reduceLT, Nat.reduceLeDiff, Nat.reduceEqDiff, Int.reduceLT, Int.reduceBEq, Int.reduceBNe, Nat.reduceBEq, List.append_nil, Int.toNat_zero, Nat.sub_self, frS]
        (refine hk _ ?_; clear hk k; try show Sat _ _ _ _ _)
        (repeat refine Sat.seq ?_)
        (refine Sat.region_k fun k hk => ?_; simp -implicitDefEqProofs only [evr, id, reduceCtorEq, reduceIte, Nat.reduceMul, Nat.reduceAdd, Nat.reduceLT, Nat.reduceLeDiff, Nat.reduceEqDiff, Int.reduceLT, Int.reduceBEq, Int.reduceBNe, Nat.reduceBEq, List.append_nil, Int.toNat_zero, Nat.sub_self, frS]; refine hk _ ?_; clear hk k; try show Sat _ _ _ _ _)
        refine Sat.cond_b rfl (fun h => by cases h) (fun h => ?_)
        refine Sat.skip ?_
        simp only [thenK, blockK]
        (repeat refine Sat.seq ?_)
        (refine Sat.region_k fun k hk => ?_; simp -implicitDefEqProofs only [evr, id, reduceCtorEq, reduceIte, Nat.reduceMul, Nat.reduceAdd, Nat.reduceLT, Nat.reduceLeDiff, Nat.reduceEqDiff, Int.reduceLT, Int.reduceBEq, Int.reduceBNe, Nat.reduceBEq, List.append_nil, Int.toNat_zero, Nat.sub_self, frS])
        refine ⟨by decide, ?_⟩
        refine hk _ ?_
        simp only [thenK, blockK]
        refine ⟨(r / 2, _, _), ⟨by show r / 2 ≤ 65536; omega, ⟨o, ho', ho1, h7⟩, hs1⟩, by show r / 2 < r; omega, ?_⟩
        simp -implicitDefEqProofs only [evr, id, reduceCtorEq, reduceIte, Nat.reduceMul, Nat.reduceAdd, Nat.reduceLT, Nat.reduceLeDiff, Nat.reduceEqDiff, Int.reduceLT, Int.reduceBEq, Int.reduceBNe, Nat.reduceBEq, List.append_nil, Int.toNat_zero, Nat.sub_self, frS, evl]
        try exact half_e r
      · simp only [decide_eq_false_iff_not] at h
        refine Sat.skip ?_
        simp only [thenK, blockK]
        (repeat refine Sat.seq ?_)
        (refine Sat.region_k fun k hk => ?_; simp -implicitDefEqProofs only [evr, id, reduceCtorEq, reduceIte, Nat.reduceMul, Nat.reduceAdd, Nat.reduceLT, Nat.reduceLeDiff, Nat.reduceEqDiff, Int.reduceLT, Int.reduceBEq, Int.reduceBNe, Nat.reduceBEq, List.append_nil, Int.toNat_zero, Nat.sub_self, frS])
        refine ⟨by decide, ?_⟩
        refine hk _ ?_
        simp only [thenK, blockK]
        refine ⟨(r / 2, _, _), ⟨by show r / 2 ≤ 65536; omega, ⟨o, ho', ho1, h7⟩, hs0⟩, by show r / 2 < r; omega, ?_⟩
        simp -implicitDefEqProofs only [evr, id, reduceCtorEq, reduceIte, Nat.reduceMul, Nat.reduceAdd, Nat.reduceLT, Nat.reduceLeDiff, Nat.reduceEqDiff, Int.reduceLT, Int.reduceBEq, Int.reduceBNe, Nat.reduceBEq, List.append_nil, Int.toNat_zero, Nat.sub_self, frS, evl]
        try exact half_e r
  · simp only [decide_eq_false_iff_not] at h
    obtain rfl : r = 0 := by omega
    refine Sat.exit ?_
    simp only [thenK, blockK, reduceIte]
    (repeat refine Sat.seq ?_)
    (refine Sat.region_k fun k hk => ?_; simp -implicitDefEqProofs only [evr, id, reduceCtorEq, reduceIte, Nat.reduceMul, Nat.reduceAdd, Nat.reduceLT, Nat.reduceLeDiff, Nat.reduceEqDiff, Int.reduceLT, Int.reduceBEq, Int.reduceBNe, Nat.reduceBEq, List.append_nil, Int.toNat_zero, Nat.sub_self, frS]; refine hk _ ?_; clear hk k; try show Sat _ _ _ _ _)
    refine Sat.ret ?_
    simp only [Try.results56, evr, id, reduceCtorEq, reduceIte, Nat.reduceMul, Nat.reduceAdd, Nat.reduceLT, Nat.reduceLeDiff, Nat.reduceEqDiff, Int.reduceLT, Int.reduceBEq, Int.reduceBNe, Nat.reduceBEq, List.append_nil, Int.toNat_zero, Nat.sub_self, frS]
    rw [Nat.pow_zero, Nat.mul_one] at hoe
    exact ⟨_, rfl, by rw [← hoe]; exact ho'⟩

def xb : Nat := 512
theorem xb_eq : xb = 512 := rfl
attribute [irreducible] xb
theorem pow_bits (a n : Nat) : (2 ^ a) ^ n = 2 ^ (a * n) := (Nat.pow_mul 2 a n).symm
theorem kn_le {k n : Nat} (hk : k ≤ 16) (hn : n ≤ 128) : k ^ n ≤ 2 ^ xb := by
  have h1 : k ^ n ≤ (2 ^ 4) ^ n := Nat.pow_le_pow_left (show k ≤ 2 ^ 4 from hk) n
  rw [pow_bits] at h1
  exact Nat.le_trans h1 (Nat.pow_le_pow_right (by decide) (by rw [xb_eq]; omega))
theorem lt_pw_add {x y a b : Nat} (hx : x ≤ 2 ^ a) (hy : y ≤ 2 ^ b) (h : a + b + 1 < 30 * 256) : ((x + y : Nat) : Int) < pw 256 := by
  refine lt_pw (a := a + b + 1) ?_ h
  have h1 : 2 ^ a ≤ 2 ^ (a + b) := Nat.pow_le_pow_right (by decide) (by omega)
  have h2 : 2 ^ b ≤ 2 ^ (a + b) := Nat.pow_le_pow_right (by decide) (by omega)
  rw [Nat.pow_succ]
  omega
theorem kn_pw {k n : Nat} (hk : k ≤ 16) (hn : n ≤ 128) : ((k ^ n : Nat) : Int) < pw 256 := lt_pw (kn_le hk hn) (by rw [xb_eq]; decide)

set_option maxRecDepth 100000 in
theorem stPowerC (F : Frm) (m n : Nat) (hk0 : m ≤ 16) (hn : n ≤ 128) : Contract F Try.prog 31 [.i .i64 m, .i .i64 n] (fun r => Nats r (m ^ n)) := by
  refine contract_of Try.func31 rfl (by kernel_rfl) ?_
  simp only [Try.ntmps31, argEnv]
  (repeat refine Sat.seq ?_)
  (refine Sat.region_k fun k hk => ?_; simp -implicitDefEqProofs only [evr, id, reduceCtorEq, reduceIte, Nat.reduceMul, Nat.reduceAdd, Nat.reduceLT, Nat.reduceLeDiff, Nat.reduceEqDiff, Int.reduceLT, Int.reduceBEq, Int.reduceBNe, Nat.reduceBEq, List.append_nil, Int.toNat_zero, Nat.sub_self, frS]; refine hk _ ?_; clear hk k; try show Sat _ _ _ _ _)
  (repeat refine Sat.seq ?_)
  (refine Sat.region_k fun k hk => ?_; simp -implicitDefEqProofs only [evr, id, reduceCtorEq, reduceIte, Nat.reduceMul, Nat.reduceAdd, Nat.reduceLT, Nat.reduceLeDiff, Nat.reduceEqDiff, Int.reduceLT, Int.reduceBEq, Int.reduceBNe, Nat.reduceBEq, List.append_nil, Int.toNat_zero, Nat.sub_self, frS])
  refine wcall_slice (stSmallC F m (by omega)) rfl rfl ?_
  intro y hy
  have hy1 := hy
  obtain ⟨a2, c2, z2, r2, x2, rfl, _⟩ := hy
  simp -implicitDefEqProofs only [evr, id, reduceCtorEq, reduceIte, Nat.reduceMul, Nat.reduceAdd, Nat.reduceLT, Nat.reduceLeDiff, Nat.reduceEqDiff, Int.reduceLT, Int.reduceBEq, Int.reduceBNe, Nat.reduceBEq, List.append_nil, Int.toNat_zero, Nat.sub_self, frS]
  have hc : Contract F Try.prog 56 [.sl a2 x2.length c2 z2 r2, .i .i64 n] (natRes (m ^ n)) := by
    rcases Nat.eq_zero_or_pos m with rfl | h0
    · exact pow0C F n hy1 (by omega)
    · exact powC F n hy1 h0 (lt_pw (a := 4) (by omega) (by decide)) rfl (by omega) (kn_pw hk0 hn)
  refine wcall_slice hc rfl rfl ?_
  rintro y ⟨s, rfl, hy⟩
  have hs5 := hy
  obtain ⟨a5, c5, z5, r5, x5, rfl, _⟩ := hy
  simp -implicitDefEqProofs only [evr, id, reduceCtorEq, reduceIte, Nat.reduceMul, Nat.reduceAdd, Nat.reduceLT, Nat.reduceLeDiff, Nat.reduceEqDiff, Int.reduceLT, Int.reduceBEq, Int.reduceBNe, Nat.reduceBEq, List.append_nil, Int.toNat_zero, Nat.sub_self, frS]
  (refine hk _ ?_; clear hk k; try show Sat _ _ _ _ _)
  (repeat refine Sat.seq ?_)
  (refine Sat.region_k fun k hk => ?_; simp -implicitDefEqProofs only [evr, id, reduceCtorEq, reduceIte, Nat.reduceMul, Nat.reduceAdd, Nat.reduceLT, Nat.reduceLeDiff, Nat.reduceEqDiff, Int.reduceLT, Int.reduceBEq, Int.reduceBNe, Nat.reduceBEq, List.append_nil, Int.toNat_zero, Nat.sub_self, frS]; refine hk _ ?_; clear hk k; try show Sat _ _ _ _ _)
  refine Sat.ret ?_
  simp only [Try.results31, evr, id, reduceCtorEq, reduceIte, Nat.reduceMul, Nat.reduceAdd, Nat.reduceLT, Nat.reduceLeDiff, Nat.reduceEqDiff, Int.reduceLT, Int.reduceBEq, Int.reduceBNe, Nat.reduceBEq, List.append_nil, Int.toNat_zero, Nat.sub_self, frS]
  exact hs5

/-- a term of the sum -/
def ontoT (n k i : Nat) : Nat := binom k i * (k - i) ^ n
theorem ontoT_le {n k : Nat} (hk : k ≤ 16) (hn : n ≤ 128) (i : Nat) : ontoT n k i ≤ 2 ^ (16 + xb) := by
  unfold ontoT
  have h1 := binom_le k i
  have h2 : (2 : Nat) ^ k ≤ 2 ^ 16 := Nat.pow_le_pow_right (by decide) hk
  exact mul_two (a := 16) (b := xb) (Nat.le_trans h1 h2) (kn_le (by omega) hn)
theorem sumE_le {f : Nat → Nat} {B : Nat} (h : ∀ i, f i ≤ B) : ∀ m, sumE f m ≤ m * B
  | 0 => by simp [sumE]
  | m + 1 => by
    have := sumE_le h m
    have := h m
    simp only [sumE, Nat.add_mul, Nat.one_mul]
    split <;> omega
theorem sumO_le {f : Nat → Nat} {B : Nat} (h : ∀ i, f i ≤ B) : ∀ m, sumO f m ≤ m * B
  | 0 => by simp [sumO]
  | m + 1 => by
    have := sumO_le h m
    have := h m
    simp only [sumO, Nat.add_mul, Nat.one_mul]
    split <;> omega
theorem sumE_pw {n k : Nat} (hk : k ≤ 16) (hn : n ≤ 128) {m : Nat} (hm : m ≤ 18) : ((sumE (ontoT n k) m : Nat) : Int) < pw 256 := by
  refine lt_pw (a := 12 + (16 + xb)) (Nat.le_trans (sumE_le (ontoT_le hk hn) m) ?_) (by rw [xb_eq]; decide)
  exact mul_two (a := 12) (b := 16 + xb) (Nat.le_trans hm (by decide)) (Nat.le_refl _)
theorem sumO_pw {n k : Nat} (hk : k ≤ 16) (hn : n ≤ 128) {m : Nat} (hm : m ≤ 18) : ((sumO (ontoT n k) m : Nat) : Int) < pw 256 := by
  refine lt_pw (a := 12 + (16 + xb)) (Nat.le_trans (sumO_le (ontoT_le hk hn) m) ?_) (by rw [xb_eq]; decide)
  exact mul_two (a := 12) (b := 16 + xb) (Nat.le_trans hm (by decide)) (Nat.le_refl _)
theorem onto_cnt (n k : Nat) : sumO (ontoT n k) (k + 1) ≤ sumE (ontoT n k) (k + 1) ∧ sumE (ontoT n k) (k + 1) - sumO (ontoT n k) (k + 1) = cnt k n k := onto_sum n k

set_option maxRecDepth 100000 in
theorem stOntoC (F : Frm) (n m : Nat) (hn : n ≤ 128) (hk0 : m ≤ 16) : Contract F Try.prog 16 [.i .i64 n, .i .i64 m] (natRes (cnt m n m)) := by
  refine contract_of Try.func16 rfl (by kernel_rfl) ?_
  simp only [Try.ntmps16, argEnv]
  have ek : IntKind.i64.wrap ((m : Int) + 1) = ((m + 1 : Nat) : Int) := by rw [w64 (by omega)]; omega
  (repeat refine Sat.seq ?_)
  (refine Sat.region_k fun k hk => ?_; simp -implicitDefEqProofs only [evr, id, reduceCtorEq, reduceIte, Nat.reduceMul, Nat.reduceAdd, Nat.reduceLT, Nat.reduceLeDiff, Nat.reduceEqDiff, Int.reduceLT, Int.reduceBEq, Int.reduceBNe, Nat.reduceBEq, List.append_nil, Int.toNat_zero, Nat.sub_self, frS]; refine hk _ ?_; clear hk k; try show Sat _ _ _ _ _)
  (repeat refine Sat.seq ?_)
  refine Sat.region_at ⟨63, [(27, .b false), (0, .i .i64 n), (1, .i .i64 m)], []⟩ (fun k' hk => ?_) ?_
  · simp -implicitDefEqProofs only [evr, id, reduceCtorEq, reduceIte, Nat.reduceMul, Nat.reduceAdd, Nat.reduceLT, Nat.reduceLeDiff, Nat.reduceEqDiff, Int.reduceLT, Int.reduceBEq, Int.reduceBNe, Nat.reduceBEq, List.append_nil, Int.toNat_zero, Nat.sub_self, frS]
    refine ⟨fun h => by omega, fun h => ⟨fun h => by omega, fun h => ⟨fun h => by omega, fun h => ?_⟩⟩⟩
    refine hk _ ?_
    have e : decide (16 < (m : Int)) = false := by simp; omega
    simp only [e]
    simp -implicitDefEqProofs only [evr, id, reduceCtorEq, reduceIte, Nat.reduceMul, Nat.reduceAdd, Nat.reduceLT, Nat.reduceLeDiff, Nat.reduceEqDiff, Int.reduceLT, Int.reduceBEq, Int.reduceBNe, Nat.reduceBEq, List.append_nil, Int.toNat_zero, Nat.sub_self, frS, evl]
  simp only [thenK]
  refine Sat.cond_b rfl (fun h => by cases h) (fun h => ?_)
  refine Sat.skip ?_
  simp only [thenK]
  (repeat refine Sat.seq ?_)
  (refine Sat.region_k fun k hk => ?_; simp -implicitDefEqProofs only [evr, id, reduceCtorEq, reduceIte, Nat.reduceMul, Nat.reduceAdd, Nat.reduceLT, Nat.reduceLeDiff, Nat.reduceEqDiff, Int.reduceLT, Int.reduceBEq, Int.reduceBNe, Nat.reduceBEq, List.append_nil, Int.toNat_zero, Nat.sub_self, frS]; refine hk _ ?_; clear hk k; try show Sat _ _ _ _ _)
  (repeat refine Sat.seq ?_)
  refine Sat.region_k fun k' hk => ?_
  simp -implicitDefEqProofs only [evr, id, reduceCtorEq, reduceIte, Nat.reduceMul, Nat.reduceAdd, Nat.reduceLT, Nat.reduceLeDiff, Nat.reduceEqDiff, Int.reduceLT, Int.reduceBEq, Int.reduceBNe, Nat.reduceBEq, List.append_nil, Int.toNat_zero, Nat.sub_self, frS, ek]
  refine hk _ ?_
  clear hk k'
  (repeat refine Sat.seq ?_)
  refine Sat.block ?_
  (repeat refine Sat.seq ?_)
  refine Sat.loop (ι := Nat × SV × SV) (fun x => ⟨63, [(30, .i .i64 x.1), (29, .i .i64 (m + 1 : Nat)), (0, .i .i64 n), (1, .i .i64 m), (6, x.2.1), (7, x.2.2)], []⟩)
    (fun x => x.1 ≤ m + 1 ∧ Nats x.2.1 (sumE (ontoT n m) x.1) ∧ Nats x.2.2 (sumO (ontoT n m) x.1)) (fun x => m + 1 - x.1) (0, .sl none 0 0 0 (fun _ _ => .v undef), .sl none 0 0 0 (fun _ _ => .v undef)) ⟨by omega, Nats.nil, Nats.nil⟩ (by simp -implicitDefEqProofs only [evr, id, reduceCtorEq, reduceIte, Nat.reduceMul, Nat.reduceAdd, Nat.reduceLT, Nat.reduceLeDiff, Nat.reduceEqDiff, Int.reduceLT, Int.reduceBEq, Int.reduceBNe, Nat.reduceBEq, List.append_nil, Int.toNat_zero, Nat.sub_self, frS, evl]; try rfl) ?_
  rintro ⟨i, se, so⟩ ⟨hi, he, ho⟩
  simp only at hi he ho ⊢
  have he' := he
  have ho' := ho
  obtain ⟨a3, c3, z3, r3, x3, rfl, _⟩ := he
  obtain ⟨a4, c4, z4, r4, x4, rfl, _⟩ := ho
  (repeat refine Sat.seq ?_)
  (refine Sat.region_k fun k hk => ?_; simp -implicitDefEqProofs only [evr, id, reduceCtorEq, reduceIte, Nat.reduceMul, Nat.reduceAdd, Nat.reduceLT, Nat.reduceLeDiff, Nat.reduceEqDiff, Int.reduceLT, Int.reduceBEq, Int.reduceBNe, Nat.reduceBEq, List.append_nil, Int.toNat_zero, Nat.sub_self, frS]; refine hk _ ?_; clear hk k; try show Sat _ _ _ _ _)
  (repeat refine Sat.seq ?_)
  refine Sat.cond_b rfl (fun h => ?_) (fun h => ?_)
  · simp only [decide_eq_true_eq] at h
    have hik : i ≤ m := by omega
    have ei : IntKind.i64.wrap ((m : Int) - (i : Int)) = ((m - i : Nat) : Int) := by rw [w64 (by omega)]; omega
    have ei1 : IntKind.i64.wrap ((i : Int) + 1) = ((i + 1 : Nat) : Int) := by rw [w64 (by omega)]; omega
    have em : (((i : Int).tmod 2) == 0) = decide (i % 2 = 0) := by
      rw [Int.tmod_eq_emod_of_nonneg (by omega)]
      by_cases h9 : i % 2 = 0
      · rw [decide_eq_true h9, beq_iff_eq]; omega
      · rw [decide_eq_false h9, beq_eq_false_iff_ne]; omega
    refine Sat.skip ?_
    simp only [thenK]
    (repeat refine Sat.seq ?_)
    refine Sat.block ?_
    (repeat refine Sat.seq ?_)
    (refine Sat.region_k fun k hk => ?_; simp -implicitDefEqProofs only [evr, id, reduceCtorEq, reduceIte, Nat.reduceMul, Nat.reduceAdd, Nat.reduceLT, Nat.reduceLeDiff, Nat.reduceEqDiff, Int.reduceLT, Int.reduceBEq, Int.reduceBNe, Nat.reduceBEq, List.append_nil, Int.toNat_zero, Nat.sub_self, frS]; refine hk _ ?_; clear hk k; try show Sat _ _ _ _ _)
    (repeat refine Sat.seq ?_)
    (refine Sat.region_k fun k hk => ?_; simp -implicitDefEqProofs only [evr, id, reduceCtorEq, reduceIte, Nat.reduceMul, Nat.reduceAdd, Nat.reduceLT, Nat.reduceLeDiff, Nat.reduceEqDiff, Int.reduceLT, Int.reduceBEq, Int.reduceBNe, Nat.reduceBEq, List.append_nil, Int.toNat_zero, Nat.sub_self, frS])
    refine wcall_slice (chooseC F m i (by omega) (by omega)) rfl rfl ?_
    rintro y ⟨s, rfl, hy⟩
    have hs5 := hy
    obtain ⟨a5, c5, z5, r5, x5, rfl, _⟩ := hy
    simp -implicitDefEqProofs only [evr, id, reduceCtorEq, reduceIte, Nat.reduceMul, Nat.reduceAdd, Nat.reduceLT, Nat.reduceLeDiff, Nat.reduceEqDiff, Int.reduceLT, Int.reduceBEq, Int.reduceBNe, Nat.reduceBEq, List.append_nil, Int.toNat_zero, Nat.sub_self, frS]
    (refine hk _ ?_; clear hk k; try show Sat _ _ _ _ _)
    (repeat refine Sat.seq ?_)
    refine Sat.region_k fun k' hk => ?_
    simp -implicitDefEqProofs only [evr, id, reduceCtorEq, reduceIte, Nat.reduceMul, Nat.reduceAdd, Nat.reduceLT, Nat.reduceLeDiff, Nat.reduceEqDiff, Int.reduceLT, Int.reduceBEq, Int.reduceBNe, Nat.reduceBEq, List.append_nil, Int.toNat_zero, Nat.sub_self, frS, ei]
    refine wcall_slice (stPowerC F (m - i) n (by omega) hn) rfl rfl ?_
    intro y hy
    have hs6 := hy
    obtain ⟨a6, c6, z6, r6, x6, rfl, _⟩ := hy
    simp -implicitDefEqProofs only [evr, id, reduceCtorEq, reduceIte, Nat.reduceMul, Nat.reduceAdd, Nat.reduceLT, Nat.reduceLeDiff, Nat.reduceEqDiff, Int.reduceLT, Int.reduceBEq, Int.reduceBNe, Nat.reduceBEq, List.append_nil, Int.toNat_zero, Nat.sub_self, frS]
    refine wcall_slice (stTimesC F hs5 hs6 (Zn.binom_pw (by omega) i) (kn_pw (by omega) hn) (lt_pw (ontoT_le hk0 hn i) (by rw [xb_eq]; decide))) rfl rfl ?_
    intro y hy
    have hs7 : Nats y (ontoT n m i) := hy
    obtain ⟨a7, c7, z7, r7, x7, rfl, _⟩ := hy
    simp -implicitDefEqProofs only [evr, id, reduceCtorEq, reduceIte, Nat.reduceMul, Nat.reduceAdd, Nat.reduceLT, Nat.reduceLeDiff, Nat.reduceEqDiff, Int.reduceLT, Int.reduceBEq, Int.reduceBNe, Nat.reduceBEq, List.append_nil, Int.toNat_zero, Nat.sub_self, frS]
    refine hk _ ?_
    clear hk k'
    try show Sat _ _ _ _ _
    (repeat refine Sat.seq ?_)
    refine Sat.region_k fun k' hk => ?_
    simp -implicitDefEqProofs only [evr, id, reduceCtorEq, reduceIte, Nat.reduceMul, Nat.reduceAdd, Nat.reduceLT, Nat.reduceLeDiff, Nat.reduceEqDiff, Int.reduceLT, Int.reduceBEq, Int.reduceBNe, Nat.reduceBEq, List.append_nil, Int.toNat_zero, Nat.sub_self, frS, em]
    refine ⟨by decide, ?_⟩
    refine hk _ ?_
    clear hk k'
    try show Sat _ _ _ _ _
    have s1 : sumE (ontoT n m) (i + 1) = sumE (ontoT n m) i + if i % 2 = 0 then ontoT n m i else 0 := rfl
    have s2 : sumO (ontoT n m) (i + 1) = sumO (ontoT n m) i + if i % 2 = 0 then 0 else ontoT n m i := rfl
    have p1 := sumE_pw hk0 hn (show i + 1 ≤ 18 by omega)
    have p2 := sumO_pw hk0 hn (show i + 1 ≤ 18 by omega)
    (repeat refine Sat.seq ?_)
    refine Sat.cond_b rfl (fun h5 => ?_) (fun h5 => ?_)
    · have h6 := of_decide_eq_true h5
      rw [if_pos h6] at s1 s2
      (repeat refine Sat.seq ?_)
      (refine Sat.region_k fun k hk => ?_; simp -implicitDefEqProofs only [evr, id, reduceCtorEq, reduceIte, Nat.reduceMul, Nat.reduceAdd, Nat.reduceLT, Nat.reduceLeDiff, Nat.reduceEqDiff, Int.reduceLT, Int.reduceBEq, Int.reduceBNe, Nat.reduceBEq, List.append_nil, Int.toNat_zero, Nat.sub_self, frS])
      refine wcall_slice (stPlusC F he' hs7 (by rw [← s1]; exact p1)) rfl rfl ?_
      intro y hy
      have hs8 := hy
      obtain ⟨a8, c8, z8, r8, x8, rfl, _⟩ := hy
      simp -implicitDefEqProofs only [evr, id, reduceCtorEq, reduceIte, Nat.reduceMul, Nat.reduceAdd, Nat.reduceLT, Nat.reduceLeDiff, Nat.reduceEqDiff, Int.reduceLT, Int.reduceBEq, Int.reduceBNe, Nat.reduceBEq, List.append_nil, Int.toNat_zero, Nat.sub_self, frS]
      refine hk _ ?_
      clear hk k
      simp only [thenK, blockK]
      (repeat refine Sat.seq ?_)
      refine Sat.region_k fun k' hk => ?_
      simp -implicitDefEqProofs only [evr, id, reduceCtorEq, reduceIte, Nat.reduceMul, Nat.reduceAdd, Nat.reduceLT, Nat.reduceLeDiff, Nat.reduceEqDiff, Int.reduceLT, Int.reduceBEq, Int.reduceBNe, Nat.reduceBEq, List.append_nil, Int.toNat_zero, Nat.sub_self, frS, ei1]
      refine hk _ ?_
      simp only [thenK, blockK]
      refine ⟨(i + 1, _, _), ⟨by show i + 1 ≤ m + 1; omega, by rw [s1]; exact hs8, by rw [s2, Nat.add_zero]; exact ho'⟩, by show m + 1 - (i + 1) < m + 1 - i; omega, ?_⟩
      simp -implicitDefEqProofs only [evr, id, reduceCtorEq, reduceIte, Nat.reduceMul, Nat.reduceAdd, Nat.reduceLT, Nat.reduceLeDiff, Nat.reduceEqDiff, Int.reduceLT, Int.reduceBEq, Int.reduceBNe, Nat.reduceBEq, List.append_nil, Int.toNat_zero, Nat.sub_self, frS, evl]
    · have h6 := of_decide_eq_false h5
      rw [if_neg h6] at s1 s2
      (repeat refine Sat.seq ?_)
      (refine Sat.region_k fun k hk => ?_; simp -implicitDefEqProofs only [evr, id, reduceCtorEq, reduceIte, Nat.reduceMul, Nat.reduceAdd, Nat.reduceLT, Nat.reduceLeDiff, Nat.reduceEqDiff, Int.reduceLT, Int.reduceBEq, Int.reduceBNe, Nat.reduceBEq, List.append_nil, Int.toNat_zero, Nat.sub_self, frS])
      refine wcall_slice (stPlusC F ho' hs7 (by rw [← s2]; exact p2)) rfl rfl ?_
      intro y hy
      have hs8 := hy
      obtain ⟨a8, c8, z8, r8, x8, rfl, _⟩ := hy
      simp -implicitDefEqProofs only [evr, id, reduceCtorEq, reduceIte, Nat.reduceMul, Nat.reduceAdd, Nat.reduceLT, Nat.reduceLeDiff, Nat.reduceEqDiff, Int.reduceLT, Int.reduceBEq, Int.reduceBNe, Nat.reduceBEq, List.append_nil, Int.toNat_zero, Nat.sub_self, frS]
      refine hk _ ?_
      clear hk k
      simp only [thenK, blockK]
      (repeat refine Sat.seq ?_)
      refine Sat.region_k fun k' hk => ?_
      simp -implicitDefEqProofs only [evr, id, reduceCtorEq, reduceIte, Nat.reduceMul, Nat.reduceAdd, Nat.reduceLT, Nat.reduceLeDiff, Nat.reduceEqDiff, Int.reduceLT, Int.reduceBEq, Int.reduceBNe, Nat.reduceBEq, List.append_nil, Int.toNat_zero, Nat.sub_self, frS, ei1]
      refine hk _ ?_
      simp only [thenK, blockK]
      refine ⟨(i + 1, _, _), ⟨by show i + 1 ≤ m + 1; omega, by rw [s1, Nat.add_zero]; exact he', by rw [s2]; exact hs8⟩, by show m + 1 - (i + 1) < m + 1 - i; omega, ?_⟩
      simp -implicitDefEqProofs only [evr, id, reduceCtorEq, reduceIte, Nat.reduceMul, Nat.reduceAdd, Nat.reduceLT, Nat.reduceLeDiff, Nat.reduceEqDiff, Int.reduceLT, Int.reduceBEq, Int.reduceBNe, Nat.reduceBEq, List.append_nil, Int.toNat_zero, Nat.sub_self, frS, evl]
  · simp only [decide_eq_false_iff_not] at h
    have hi2 : i = m + 1 := by omega
    subst hi2
    obtain ⟨o1, o2⟩ := onto_cnt n m
    refine Sat.exit ?_
    simp only [thenK, blockK, reduceIte]
    (repeat refine Sat.seq ?_)
    (refine Sat.region_k fun k hk => ?_; simp -implicitDefEqProofs only [evr, id, reduceCtorEq, reduceIte, Nat.reduceMul, Nat.reduceAdd, Nat.reduceLT, Nat.reduceLeDiff, Nat.reduceEqDiff, Int.reduceLT, Int.reduceBEq, Int.reduceBNe, Nat.reduceBEq, List.append_nil, Int.toNat_zero, Nat.sub_self, frS])
    refine wcall_slice (subC F he' ho' (sumE_pw hk0 hn (by omega)) o1) rfl rfl ?_
    rintro y ⟨s, rfl, hy⟩
    rw [o2] at hy
    have hs8 := hy
    obtain ⟨a8, c8, z8, r8, x8, rfl, _⟩ := hy
    simp -implicitDefEqProofs only [evr, id, reduceCtorEq, reduceIte, Nat.reduceMul, Nat.reduceAdd, Nat.reduceLT, Nat.reduceLeDiff, Nat.reduceEqDiff, Int.reduceLT, Int.reduceBEq, Int.reduceBNe, Nat.reduceBEq, List.append_nil, Int.toNat_zero, Nat.sub_self, frS]
    (refine hk _ ?_; clear hk k; try show Sat _ _ _ _ _)
    (repeat refine Sat.seq ?_)
    (refine Sat.region_k fun k hk => ?_; simp -implicitDefEqProofs only [evr, id, reduceCtorEq, reduceIte, Nat.reduceMul, Nat.reduceAdd, Nat.reduceLT, Nat.reduceLeDiff, Nat.reduceEqDiff, Int.reduceLT, Int.reduceBEq, Int.reduceBNe, Nat.reduceBEq, List.append_nil, Int.toNat_zero, Nat.sub_self, frS]; refine hk _ ?_; clear hk k; try show Sat _ _ _ _ _)
    refine Sat.ret ?_
    simp only [Try.results16, evr, id, reduceCtorEq, reduceIte, Nat.reduceMul, Nat.reduceAdd, Nat.reduceLT, Nat.reduceLeDiff, Nat.reduceEqDiff, Int.reduceLT, Int.reduceBEq, Int.reduceBNe, Nat.reduceBEq, List.append_nil, Int.toNat_zero, Nat.sub_self, frS]
    exact ⟨_, rfl, hs8⟩
end Go.Proofs.Ytagmohpafjncfaa

/- Package stopping, by the evaluator: Missing, Needed. -/
set_option linter.unusedSimpArgs false
set_option linter.unusedVariables false
namespace Go.Proofs.Ytagmohpafjncfaa
open Eng Lmb

/-- the parts of the fraction of tables in which a successor is missed -/
def misG (n m : Nat) : Nat := Nat.gcd (m ^ n - cnt m n m) (m ^ n)
def misP (n m : Nat) : Nat := (m ^ n - cnt m n m) / misG n m
def misQ (n m : Nat) : Nat := m ^ n / misG n m
theorem misG_pos {n m : Nat} (hm : 1 ≤ m) : 0 < misG n m := Nat.gcd_pos_of_pos_right _ (Nat.pow_pos hm)
theorem misP_eq (n m : Nat) : misP n m * misG n m = m ^ n - cnt m n m := Nat.div_mul_cancel (Nat.gcd_dvd_left _ _)
theorem misQ_eq (n m : Nat) : misQ n m * misG n m = m ^ n := Nat.div_mul_cancel (Nat.gcd_dvd_right _ _)
theorem misP_le (n m : Nat) : misP n m ≤ m ^ n := Nat.le_trans (Nat.div_le_self _ _) (Nat.sub_le _ _)
theorem misQ_le (n m : Nat) : misQ n m ≤ m ^ n := Nat.div_le_self _ _
/-- more is missed than p / q -/
def missed (n m p q : Nat) : Prop := p * m ^ n < (m ^ n - cnt m n m) * q
theorem missed_iff {n m p q : Nat} (hm : 1 ≤ m) : missed n m p q ↔ p * misQ n m < misP n m * q := by
  unfold missed
  have e1 : p * m ^ n = p * misQ n m * misG n m := by rw [Nat.mul_assoc, misQ_eq]
  have e2 : (m ^ n - cnt m n m) * q = misP n m * q * misG n m := by rw [← misP_eq, Nat.mul_assoc, Nat.mul_comm (misG n m), ← Nat.mul_assoc]
  rw [e1, e2]
  exact Nat.mul_lt_mul_right (misG_pos hm)

set_option maxRecDepth 100000 in
theorem stMissingC (F : Frm) (n m : Nat) (hn : n ≤ 128) (hm : m ≤ 16) (hm1 : 1 ≤ m) : Contract F Try.prog 13 [.i .i64 n, .i .i64 m] (fun r => ∃ f, r = tupL [f, .i .i64 0] ∧ FrS f false (misP n m) (misQ n m)) := by
  refine contract_of Try.func13 rfl (by kernel_rfl) ?_
  simp only [Try.ntmps13, argEnv]
  have hpow := kn_pw hm hn
  have hcl := cnt_le m n m (Nat.le_refl _)
  have h0 : 0 < m ^ n := Nat.pow_pos hm1
  (repeat refine Sat.seq ?_)
  (refine Sat.region_k fun k hk => ?_; simp -implicitDefEqProofs only [evr, id, reduceCtorEq, reduceIte, Nat.reduceMul, Nat.reduceAdd, Nat.reduceLT, Nat.reduceLeDiff, Nat.reduceEqDiff, Int.reduceLT, Int.reduceBEq, Int.reduceBNe, Nat.reduceBEq, List.append_nil, Int.toNat_zero, Nat.sub_self, frS])
  intro b4
  (refine hk _ ?_; clear hk k; try show Sat _ _ _ _ _)
  (repeat refine Sat.seq ?_)
  refine Sat.region_at ⟨45, [(24, .b false), (4, .op 0 b4 0), (0, .i .i64 n), (1, .i .i64 m)], [.box b4 30 [.b false, .sl none 0 0 0 (fun _ _ => .v undef), .sl none 0 0 0 (fun _ _ => .v undef)]]⟩ (fun k hk => ?_) ?_
  · simp -implicitDefEqProofs only [evr, id, reduceCtorEq, reduceIte, Nat.reduceMul, Nat.reduceAdd, Nat.reduceLT, Nat.reduceLeDiff, Nat.reduceEqDiff, Int.reduceLT, Int.reduceBEq, Int.reduceBNe, Nat.reduceBEq, List.append_nil, Int.toNat_zero, Nat.sub_self, frS]
    refine ⟨fun h => by omega, fun h => ⟨fun h => by omega, fun h => ⟨fun h => by omega, fun h => ?_⟩⟩⟩
    refine hk _ ?_
    have e : decide (16 < (m : Int)) = false := by simp; omega
    simp only [e]
    simp -implicitDefEqProofs only [evr, id, reduceCtorEq, reduceIte, Nat.reduceMul, Nat.reduceAdd, Nat.reduceLT, Nat.reduceLeDiff, Nat.reduceEqDiff, Int.reduceLT, Int.reduceBEq, Int.reduceBNe, Nat.reduceBEq, List.append_nil, Int.toNat_zero, Nat.sub_self, frS, evl]
    try rfl
  simp only [thenK]
  refine Sat.cond_b rfl (fun h => by cases h) (fun h => ?_)
  refine Sat.skip ?_
  simp only [thenK]
  (repeat refine Sat.seq ?_)
  (refine Sat.region_k fun k hk => ?_; simp -implicitDefEqProofs only [evr, id, reduceCtorEq, reduceIte, Nat.reduceMul, Nat.reduceAdd, Nat.reduceLT, Nat.reduceLeDiff, Nat.reduceEqDiff, Int.reduceLT, Int.reduceBEq, Int.reduceBNe, Nat.reduceBEq, List.append_nil, Int.toNat_zero, Nat.sub_self, frS])
  refine wcall_slice (stPowerC F m n hm hn) rfl rfl ?_
  intro y hy
  have hs1 := hy
  obtain ⟨a1, c1, z1, r1, x1, rfl, _⟩ := hy
  simp -implicitDefEqProofs only [evr, id, reduceCtorEq, reduceIte, Nat.reduceMul, Nat.reduceAdd, Nat.reduceLT, Nat.reduceLeDiff, Nat.reduceEqDiff, Int.reduceLT, Int.reduceBEq, Int.reduceBNe, Nat.reduceBEq, List.append_nil, Int.toNat_zero, Nat.sub_self, frS]
  (refine hk _ ?_; clear hk k; try show Sat _ _ _ _ _)
  (repeat refine Sat.seq ?_)
  (refine Sat.region_k fun k hk => ?_; simp -implicitDefEqProofs only [evr, id, reduceCtorEq, reduceIte, Nat.reduceMul, Nat.reduceAdd, Nat.reduceLT, Nat.reduceLeDiff, Nat.reduceEqDiff, Int.reduceLT, Int.reduceBEq, Int.reduceBNe, Nat.reduceBEq, List.append_nil, Int.toNat_zero, Nat.sub_self, frS])
  refine wcall_slice (stOntoC F n m hn hm) rfl rfl ?_
  rintro y ⟨s, rfl, hy⟩
  have hs2 := hy
  obtain ⟨a2, c2, z2, r2, x2, rfl, _⟩ := hy
  simp -implicitDefEqProofs only [evr, id, reduceCtorEq, reduceIte, Nat.reduceMul, Nat.reduceAdd, Nat.reduceLT, Nat.reduceLeDiff, Nat.reduceEqDiff, Int.reduceLT, Int.reduceBEq, Int.reduceBNe, Nat.reduceBEq, List.append_nil, Int.toNat_zero, Nat.sub_self, frS]
  (refine hk _ ?_; clear hk k; try show Sat _ _ _ _ _)
  (repeat refine Sat.seq ?_)
  (refine Sat.region_k fun k hk => ?_; simp -implicitDefEqProofs only [evr, id, reduceCtorEq, reduceIte, Nat.reduceMul, Nat.reduceAdd, Nat.reduceLT, Nat.reduceLeDiff, Nat.reduceEqDiff, Int.reduceLT, Int.reduceBEq, Int.reduceBNe, Nat.reduceBEq, List.append_nil, Int.toNat_zero, Nat.sub_self, frS])
  refine wcall_slice (subC F hs1 hs2 hpow hcl) rfl rfl ?_
  rintro y ⟨s, rfl, hy⟩
  have hs3 := hy
  obtain ⟨a3, c3, z3, r3, x3, rfl, _⟩ := hy
  simp -implicitDefEqProofs only [evr, id, reduceCtorEq, reduceIte, Nat.reduceMul, Nat.reduceAdd, Nat.reduceLT, Nat.reduceLeDiff, Nat.reduceEqDiff, Int.reduceLT, Int.reduceBEq, Int.reduceBNe, Nat.reduceBEq, List.append_nil, Int.toNat_zero, Nat.sub_self, frS]
  (refine hk _ ?_; clear hk k; try show Sat _ _ _ _ _)
  (repeat refine Sat.seq ?_)
  (refine Sat.region_k fun k hk => ?_; simp -implicitDefEqProofs only [evr, id, reduceCtorEq, reduceIte, Nat.reduceMul, Nat.reduceAdd, Nat.reduceLT, Nat.reduceLeDiff, Nat.reduceEqDiff, Int.reduceLT, Int.reduceBEq, Int.reduceBNe, Nat.reduceBEq, List.append_nil, Int.toNat_zero, Nat.sub_self, frS])
  refine wcall_slice (fractionReduceC F false hs3 hs1 (by omega) hpow h0) rfl (by simp -implicitDefEqProofs only [evr, id, reduceCtorEq, reduceIte, Nat.reduceMul, Nat.reduceAdd, Nat.reduceLT, Nat.reduceLeDiff, Nat.reduceEqDiff, Int.reduceLT, Int.reduceBEq, Int.reduceBNe, Nat.reduceBEq, List.append_nil, Int.toNat_zero, Nat.sub_self, frS]; try rfl) ?_
  rintro y ⟨sp, sq, rfl, hp, hq⟩
  have hp' : Nats sp (misP n m) := hp
  have hq' : Nats sq (misQ n m) := hq
  obtain ⟨a5, c5, z5, r5, x5, rfl, _⟩ := hp
  obtain ⟨a6, c6, z6, r6, x6, rfl, _⟩ := hq
  simp -implicitDefEqProofs only [evr, id, reduceCtorEq, reduceIte, Nat.reduceMul, Nat.reduceAdd, Nat.reduceLT, Nat.reduceLeDiff, Nat.reduceEqDiff, Int.reduceLT, Int.reduceBEq, Int.reduceBNe, Nat.reduceBEq, List.append_nil, Int.toNat_zero, Nat.sub_self, frS, Bool.false_and]
  (refine hk _ ?_; clear hk k; try show Sat _ _ _ _ _)
  refine Sat.ret ?_
  simp only [Try.results13, evr, id, reduceCtorEq, reduceIte, Nat.reduceMul, Nat.reduceAdd, Nat.reduceLT, Nat.reduceLeDiff, Nat.reduceEqDiff, Int.reduceLT, Int.reduceBEq, Int.reduceBNe, Nat.reduceBEq, List.append_nil, Int.toNat_zero, Nat.sub_self, frS]
  exact ⟨_, rfl, _, _, rfl, hp', hq'⟩

/-- what Needed gives -/
def NeedPost (m p q : Nat) (r : SV) : Prop := (∃ n, n ≤ 128 ∧ r = tupL [.i .i64 (n : Nat), .i .i64 0] ∧ ¬ missed n (m + 1) p q ∧ ∀ j, j < n → missed j (m + 1) p q) ∨ (r = tupL [.i .i64 0, .i .i64 5] ∧ ∀ j, j ≤ 128 → missed j (m + 1) p q)

theorem q_pw {q : Nat} (h : q < 1073741824) : (q : Int) < pw 256 := lt_pw (a := 30) (Nat.le_of_lt h) (by decide)

set_option maxRecDepth 100000 in
theorem stNeededC (F : Frm) (m : Nat) (hm : m ≤ 15) (hm1 : 1 ≤ m) {sp sq : SV} {p q : Nat} (hp : Nats sp p) (hq : Nats sq q) (h0 : 0 < p) (h1 : p < q) (h2 : q < 1073741824) :
    Contract F Try.prog 12 [.i .i64 m, frS false sp sq] (NeedPost m p q) := by
  have hp' := hp
  have hq' := hq
  obtain ⟨a1, c1, z1, r1, x1, rfl, _⟩ := hp
  obtain ⟨a2, c2, z2, r2, x2, rfl, _⟩ := hq
  refine contract_of Try.func12 rfl (by kernel_rfl) ?_
  simp only [Try.ntmps12, argEnv, frS]
  (repeat refine Sat.seq ?_)
  (refine Sat.region_k fun k hk => ?_; simp -implicitDefEqProofs only [evr, id, reduceCtorEq, reduceIte, Nat.reduceMul, Nat.reduceAdd, Nat.reduceLT, Nat.reduceLeDiff, Nat.reduceEqDiff, Int.reduceLT, Int.reduceBEq, Int.reduceBNe, Nat.reduceBEq, List.append_nil, Int.toNat_zero, Nat.sub_self, frS])
  intro b3
  (refine hk _ ?_; clear hk k; try show Sat _ _ _ _ _)
  (repeat refine Sat.seq ?_)
  refine Sat.region_at ⟨36, [(19, .b false), (3, .op 0 b3 0), (0, .i .i64 m)], [.box b3 30 [.b false, .sl a1 x1.length c1 z1 r1, .sl a2 x2.length c2 z2 r2]]⟩ (fun k hk => ?_) ?_
  · simp -implicitDefEqProofs only [evr, id, reduceCtorEq, reduceIte, Nat.reduceMul, Nat.reduceAdd, Nat.reduceLT, Nat.reduceLeDiff, Nat.reduceEqDiff, Int.reduceLT, Int.reduceBEq, Int.reduceBNe, Nat.reduceBEq, List.append_nil, Int.toNat_zero, Nat.sub_self, frS]
    refine ⟨fun h => by omega, fun h => ⟨fun h => by omega, fun h => ?_⟩⟩
    refine wcall_plain (stChanceC F hp' hq' h0 h1 (lt_pw (a := 31) (by omega) (by decide))) (by simp -implicitDefEqProofs only [evr, id, reduceCtorEq, reduceIte, Nat.reduceMul, Nat.reduceAdd, Nat.reduceLT, Nat.reduceLeDiff, Nat.reduceEqDiff, Int.reduceLT, Int.reduceBEq, Int.reduceBNe, Nat.reduceBEq, List.append_nil, Int.toNat_zero, Nat.sub_self, frS]; try rfl) (by rintro _ rfl; exact ok_plain rfl) ?_
    rintro y rfl
    simp -implicitDefEqProofs only [evr, id, reduceCtorEq, reduceIte, Nat.reduceMul, Nat.reduceAdd, Nat.reduceLT, Nat.reduceLeDiff, Nat.reduceEqDiff, Int.reduceLT, Int.reduceBEq, Int.reduceBNe, Nat.reduceBEq, List.append_nil, Int.toNat_zero, Nat.sub_self, frS]
    refine hk _ ?_
    simp -implicitDefEqProofs only [evr, id, reduceCtorEq, reduceIte, Nat.reduceMul, Nat.reduceAdd, Nat.reduceLT, Nat.reduceLeDiff, Nat.reduceEqDiff, Int.reduceLT, Int.reduceBEq, Int.reduceBNe, Nat.reduceBEq, List.append_nil, Int.toNat_zero, Nat.sub_self, frS, evl]
    try rfl
  simp only [thenK]
  refine Sat.cond_b rfl (fun h => by cases h) (fun h => ?_)
  refine Sat.skip ?_
  simp only [thenK]
  (repeat refine Sat.seq ?_)
  (refine Sat.region_k fun k hk => ?_; simp -implicitDefEqProofs only [evr, id, reduceCtorEq, reduceIte, Nat.reduceMul, Nat.reduceAdd, Nat.reduceLT, Nat.reduceLeDiff, Nat.reduceEqDiff, Int.reduceLT, Int.reduceBEq, Int.reduceBNe, Nat.reduceBEq, List.append_nil, Int.toNat_zero, Nat.sub_self, frS]; refine hk _ ?_; clear hk k; try show Sat _ _ _ _ _)
  (repeat refine Sat.seq ?_)
  refine Sat.block ?_
  (repeat refine Sat.seq ?_)
  refine Sat.loop (ι := Nat) (fun i => ⟨36, [(20, .i .i64 i), (3, .op 0 b3 0), (0, .i .i64 m)], [.box b3 30 [.b false, .sl a1 x1.length c1 z1 r1, .sl a2 x2.length c2 z2 r2]]⟩)
    (fun i => i ≤ 129 ∧ ∀ j, j < i → missed j (m + 1) p q) (fun i => 129 - i) 0 ⟨by omega, fun j hj => absurd hj (Nat.not_lt_zero _)⟩ (by simp -implicitDefEqProofs only [evr, id, reduceCtorEq, reduceIte, Nat.reduceMul, Nat.reduceAdd, Nat.reduceLT, Nat.reduceLeDiff, Nat.reduceEqDiff, Int.reduceLT, Int.reduceBEq, Int.reduceBNe, Nat.reduceBEq, List.append_nil, Int.toNat_zero, Nat.sub_self, frS, evl]; try rfl) ?_
  rintro i ⟨hi, hmis⟩
  (repeat refine Sat.seq ?_)
  (refine Sat.region_k fun k hk => ?_; simp -implicitDefEqProofs only [evr, id, reduceCtorEq, reduceIte, Nat.reduceMul, Nat.reduceAdd, Nat.reduceLT, Nat.reduceLeDiff, Nat.reduceEqDiff, Int.reduceLT, Int.reduceBEq, Int.reduceBNe, Nat.reduceBEq, List.append_nil, Int.toNat_zero, Nat.sub_self, frS]; refine hk _ ?_; clear hk k; try show Sat _ _ _ _ _)
  (repeat refine Sat.seq ?_)
  refine Sat.cond_b rfl (fun h => ?_) (fun h => ?_)
  · simp only [decide_eq_true_eq] at h
    have hin : i ≤ 128 := by omega
    have em : IntKind.i64.wrap ((m : Int) + 1) = ((m + 1 : Nat) : Int) := by rw [w64 (by omega)]; omega
    have ei1 : IntKind.i64.wrap ((i : Int) + 1) = ((i + 1 : Nat) : Int) := by rw [w64 (by omega)]; omega
    have bP := Nat.le_trans (misP_le i (m + 1)) (kn_le (k := m + 1) (by omega) hin)
    have bQ := Nat.le_trans (misQ_le i (m + 1)) (kn_le (k := m + 1) (by omega) hin)
    refine Sat.skip ?_
    simp only [thenK]
    (repeat refine Sat.seq ?_)
    refine Sat.block ?_
    (repeat refine Sat.seq ?_)
    (refine Sat.region_k fun k hk => ?_; simp -implicitDefEqProofs only [evr, id, reduceCtorEq, reduceIte, Nat.reduceMul, Nat.reduceAdd, Nat.reduceLT, Nat.reduceLeDiff, Nat.reduceEqDiff, Int.reduceLT, Int.reduceBEq, Int.reduceBNe, Nat.reduceBEq, List.append_nil, Int.toNat_zero, Nat.sub_self, frS]; refine hk _ ?_; clear hk k; try show Sat _ _ _ _ _)
    (repeat refine Sat.seq ?_)
    refine Sat.region_k fun k hk => ?_
    simp -implicitDefEqProofs only [evr, id, reduceCtorEq, reduceIte, Nat.reduceMul, Nat.reduceAdd, Nat.reduceLT, Nat.reduceLeDiff, Nat.reduceEqDiff, Int.reduceLT, Int.reduceBEq, Int.reduceBNe, Nat.reduceBEq, List.append_nil, Int.toNat_zero, Nat.sub_self, frS, em]
    refine wcall_slice (stMissingC F i (m + 1) hin (by omega) (by omega)) rfl rfl ?_
    rintro y ⟨f, rfl, sr, ss, rfl, hr, hs⟩
    have hr' := hr
    have hs' := hs
    obtain ⟨a3, c3, z3, r3, x3, rfl, _⟩ := hr
    obtain ⟨a4, c4, z4, r4, x4, rfl, _⟩ := hs
    simp -implicitDefEqProofs only [evr, id, reduceCtorEq, reduceIte, Nat.reduceMul, Nat.reduceAdd, Nat.reduceLT, Nat.reduceLeDiff, Nat.reduceEqDiff, Int.reduceLT, Int.reduceBEq, Int.reduceBNe, Nat.reduceBEq, List.append_nil, Int.toNat_zero, Nat.sub_self, frS]
    intro b7
    refine hk _ ?_
    clear hk k
    try show Sat _ _ _ _ _
    (repeat refine Sat.seq ?_)
    (refine Sat.region_k fun k hk => ?_; simp -implicitDefEqProofs only [evr, id, reduceCtorEq, reduceIte, Nat.reduceMul, Nat.reduceAdd, Nat.reduceLT, Nat.reduceLeDiff, Nat.reduceEqDiff, Int.reduceLT, Int.reduceBEq, Int.reduceBNe, Nat.reduceBEq, List.append_nil, Int.toNat_zero, Nat.sub_self, frS])
    have bq : q ≤ 2 ^ 30 := Nat.le_of_lt h2
    have bp : p ≤ 2 ^ 30 := by omega
    have bpQ := mul_two bp bQ
    have bPq := mul_two bP bq
    refine wcall_plain (stBelowC F false false hp' hq' hr' hs' (q_pw (by omega)) (q_pw h2) (lt_pw bP (by rw [xb_eq]; decide)) (lt_pw bQ (by rw [xb_eq]; decide)) (lt_pw bpQ (by rw [xb_eq]; decide)) (lt_pw bPq (by rw [xb_eq]; decide)) (lt_pw_add bpQ bPq (by rw [xb_eq]; decide))) (by simp -implicitDefEqProofs only [evr, id, reduceCtorEq, reduceIte, Nat.reduceMul, Nat.reduceAdd, Nat.reduceLT, Nat.reduceLeDiff, Nat.reduceEqDiff, Int.reduceLT, Int.reduceBEq, Int.reduceBNe, Nat.reduceBEq, List.append_nil, Int.toNat_zero, Nat.sub_self, frS]; try rfl) (by rintro _ rfl; exact ok_plain rfl) ?_
    rintro y rfl
    rw [cmpV_pos]
    simp -implicitDefEqProofs only [evr, id, reduceCtorEq, reduceIte, Nat.reduceMul, Nat.reduceAdd, Nat.reduceLT, Nat.reduceLeDiff, Nat.reduceEqDiff, Int.reduceLT, Int.reduceBEq, Int.reduceBNe, Nat.reduceBEq, List.append_nil, Int.toNat_zero, Nat.sub_self, frS]
    (refine hk _ ?_; clear hk k; try show Sat _ _ _ _ _)
    have hmi := missed_iff (n := i) (m := m + 1) (p := p) (q := q) (by omega)
    refine Sat.cond_b rfl (fun h5 => ?_) (fun h5 => ?_)
    · have h6 : ¬ missed i (m + 1) p q := by
        intro h7
        have := hmi.1 h7
        rw [cmpI_lt (by omega)] at h5
        revert h5
        decide
      (repeat refine Sat.seq ?_)
      (refine Sat.region_k fun k hk => ?_; simp -implicitDefEqProofs only [evr, id, reduceCtorEq, reduceIte, Nat.reduceMul, Nat.reduceAdd, Nat.reduceLT, Nat.reduceLeDiff, Nat.reduceEqDiff, Int.reduceLT, Int.reduceBEq, Int.reduceBNe, Nat.reduceBEq, List.append_nil, Int.toNat_zero, Nat.sub_self, frS]; refine hk _ ?_; clear hk k; try show Sat _ _ _ _ _)
      refine Sat.ret ?_
      simp only [thenK, blockK, Try.results12, evr, id, reduceCtorEq, reduceIte, Nat.reduceMul, Nat.reduceAdd, Nat.reduceLT, Nat.reduceLeDiff, Nat.reduceEqDiff, Int.reduceLT, Int.reduceBEq, Int.reduceBNe, Nat.reduceBEq, List.append_nil, Int.toNat_zero, Nat.sub_self, frS]
      exact .inl ⟨i, hin, rfl, h6, hmis⟩
    · have h6 : missed i (m + 1) p q := by
        refine hmi.2 ?_
        by_cases h8 : p * misQ i (m + 1) < misP i (m + 1) * q
        · exact h8
        exfalso
        by_cases h9 : misP i (m + 1) * q < p * misQ i (m + 1)
        · rw [cmpI_gt (by omega)] at h5
          revert h5
          decide
        · rw [cmpI_eq (by omega)] at h5
          revert h5
          decide
      refine Sat.skip ?_
      simp only [thenK, blockK]
      (repeat refine Sat.seq ?_)
      refine Sat.region_k fun k hk => ?_
      simp -implicitDefEqProofs only [evr, id, reduceCtorEq, reduceIte, Nat.reduceMul, Nat.reduceAdd, Nat.reduceLT, Nat.reduceLeDiff, Nat.reduceEqDiff, Int.reduceLT, Int.reduceBEq, Int.reduceBNe, Nat.reduceBEq, List.append_nil, Int.toNat_zero, Nat.sub_self, frS, ei1]
      refine hk _ ?_
      simp only [thenK, blockK]
      refine ⟨i + 1, ⟨by show i + 1 ≤ 129; omega, fun j hj => ?_⟩, by show 129 - (i + 1) < 129 - i; omega, ?_⟩
      · rcases (show j < i ∨ j = i by omega) with h7 | rfl
        · exact hmis j h7
        · exact h6
      simp -implicitDefEqProofs only [evr, id, reduceCtorEq, reduceIte, Nat.reduceMul, Nat.reduceAdd, Nat.reduceLT, Nat.reduceLeDiff, Nat.reduceEqDiff, Int.reduceLT, Int.reduceBEq, Int.reduceBNe, Nat.reduceBEq, List.append_nil, Int.toNat_zero, Nat.sub_self, frS, evl]
  · simp only [decide_eq_false_iff_not] at h
    have hi2 : i = 129 := by omega
    refine Sat.exit ?_
    simp only [thenK, blockK, reduceIte]
    (repeat refine Sat.seq ?_)
    (refine Sat.region_k fun k hk => ?_; simp -implicitDefEqProofs only [evr, id, reduceCtorEq, reduceIte, Nat.reduceMul, Nat.reduceAdd, Nat.reduceLT, Nat.reduceLeDiff, Nat.reduceEqDiff, Int.reduceLT, Int.reduceBEq, Int.reduceBNe, Nat.reduceBEq, List.append_nil, Int.toNat_zero, Nat.sub_self, frS]; refine hk _ ?_; clear hk k; try show Sat _ _ _ _ _)
    refine Sat.ret ?_
    simp only [Try.results12, evr, id, reduceCtorEq, reduceIte, Nat.reduceMul, Nat.reduceAdd, Nat.reduceLT, Nat.reduceLeDiff, Nat.reduceEqDiff, Int.reduceLT, Int.reduceBEq, Int.reduceBNe, Nat.reduceBEq, List.append_nil, Int.toNat_zero, Nat.sub_self, frS]
    exact .inr ⟨rfl, fun j hj => hmis j (by omega)⟩
end Go.Proofs.Ytagmohpafjncfaa

/- How a slice of integers reads in memory: 'Rd', and a row of integers of the call's own: 'Own'. -/
namespace Go.Proofs.Ytagmohpafjncfaa
open Go.RowKit

/-- A slice value of elements of kind k (one cell each) reads as the list xs. -/
def Rd (k : IntKind) (w : World) (v : Value) (xs : List Int) : Prop :=
  ∃ ad cap, v = .slice ad xs.length cap ∧ xs.length ≤ cap ∧ cap ≤ maxLen ∧
    (xs.length = 0 ∨ ∃ b off, ad = some ⟨b, off, none⟩ ∧ b < w.heap.size ∧ ∀ i, i < xs.length → w.cell? ⟨b, off + i, none⟩ = some (.int k (xs.getD i 0)))

theorem Rd.nil (k : IntKind) (w : World) : Rd k w (.slice none 0 0) [] := ⟨none, 0, rfl, by simp, by simp [maxLen], .inl rfl⟩

theorem Rd.below {k : IntKind} {w w' : World} {v : Value} {xs : List Int} (h : Rd k w v xs) (hb : Below w.heap.size w w') : Rd k w' v xs := by
  obtain ⟨ad, cap, rfl, h1, h2, h3⟩ := h
  refine ⟨ad, cap, rfl, h1, h2, ?_⟩
  rcases h3 with h3 | ⟨b, off, rfl, hlt, hc⟩
  · exact .inl h3
  · exact .inr ⟨b, off, rfl, Nat.lt_of_lt_of_le hlt hb.size, fun i hi => (hb.cell (p := ⟨b, off + i, none⟩) hlt).trans (hc i hi)⟩

theorem Rd.take {k : IntKind} {w : World} {ad : Option Addr} {cap : Nat} {xs : List Int} (h : Rd k w (.slice ad xs.length cap) xs) (n : Nat) (hn : n ≤ xs.length) : Rd k w (.slice ad n cap) (xs.take n) := by
  obtain ⟨ad', cap', e, h1, h2, h3⟩ := h
  simp only [Value.slice.injEq] at e
  obtain ⟨rfl, _, rfl⟩ := e
  have hl : (xs.take n).length = n := by simp; omega
  refine ⟨ad, cap, by rw [hl], by omega, h2, ?_⟩
  rw [hl]
  rcases h3 with h3 | ⟨b, off, rfl, hlt, hc⟩
  · exact .inl (by omega)
  · refine .inr ⟨b, off, rfl, hlt, fun i hi => ?_⟩
    rw [hc i (by omega)]
    simp [List.getD, hi]

theorem rd_of_ints {k : IntKind} {w : World} {x : Addr} {l c : Nat} {zs : List Int} (hl : l ≤ c) (hm : c ≤ maxLen) (hz : zs.length = c) (hcell : ∀ i, i < zs.length → w.cell? (x.add i) = some (.int k (zs.getD i 0))) : Rd k w (.slice (some x) l c) (zs.take l) := by
  have hlen : (zs.take l).length = l := by simp; omega
  refine ⟨some x, c, by rw [hlen], by omega, hm, ?_⟩
  by_cases h0 : l = 0
  · exact .inl (by omega)
  · obtain ⟨b, off, spot⟩ := x
    have hc := hcell 0 (by omega)
    have hspot : spot = none := by simpa [Addr.add] using World.cell?_spot hc
    subst hspot
    refine .inr ⟨b, off, rfl, World.block_lt_of_cell? w _ hc, fun i hi => ?_⟩
    rw [hlen] at hi
    have := hcell i (by omega)
    rw [Addr.add_lit] at this
    rw [this]
    simp [List.getD, hi]

/-- n elements of type e, one cell each, at the head of block g, not frozen, which hold the numbers xs; g is none of the blocks below B. -/
def Own (k : IntKind) (e : TypeId) (B : Nat) (w : World) (g n : Nat) (xs : List Int) : Prop :=
  w.ownsRow B e 1 (.slice (some ⟨g, 0, none⟩) n n) n (xs.map (Value.int k))

section
variable {k : IntKind} {e : TypeId} {B : Nat} {w : World} {g n : Nat} {xs : List Int}

theorem Own.len (h : Own k e B w g n xs) : xs.length = n := by have := h.1; simpa using this
theorem Own.lt (h : Own k e B w g n xs) : B ≤ g ∧ g < w.heap.size := World.ownsRow.lt h g rfl
theorem Own.cell (h : Own k e B w g n xs) (i : Nat) (hi : i < n) : w.cell? ⟨g, i, none⟩ = some (.int k (xs.getD i 0)) := by
  have hl := h.len
  rw [World.ownsRow.cellAt h i (by omega)]
  simp [List.getD, show i < xs.length by omega]
theorem Own.frozen (h : Own k e B w g n xs) (i : Nat) : w.frozen? ⟨g, i, none⟩ = false := World.ownsRow.frozenAt h i
theorem Own.store (h : Own k e B w g n xs) (i : Nat) (v : Int) : Own k e B (w.setCell ⟨g, i, none⟩ (.int k v)) g n (xs.set i v) := by
  have := (World.ownsRow.stored h i (.int k v)).1
  unfold Own
  rwa [List.map_set]
theorem Own.below {w' : World} (h : Own k e B w g n xs) (hb : Below w.heap.size w w') : Own k e B w' g n xs :=
  World.ownsRow.kept h ⟨hb.os, hb.tape, hb.output, hb.size, fun i hi _ => hb.block i hi⟩ (row := none) (.inr (by simp [Value.ownBlock]))
theorem Own.cap (h : Own k e B w g n xs) : n ≤ maxLen := by
  rcases h.2 with ⟨h, _⟩ | ⟨_, cap, _, h, _, _, hn, hc, _⟩
  · cases h
  · simp only [Value.slice.injEq] at h; omega
theorem Own.rd (h : Own k e B w g n xs) : Rd k w (.slice (some ⟨g, 0, none⟩) n n) xs := by
  have hl := h.len
  refine ⟨some ⟨g, 0, none⟩, n, by rw [hl], by omega, h.cap, ?_⟩
  by_cases h0 : n = 0
  · exact .inl (by omega)
  · exact .inr ⟨g, 0, rfl, h.lt.2, fun i hi => by rw [Nat.zero_add]; exact h.cell i (by omega)⟩
end

theorem bcell {W w1 : World} (hb : Below W.heap.size W w1) : (∀ b o, b < W.heap.size → w1.cell? ⟨b, o, none⟩ = W.cell? ⟨b, o, none⟩) ∧ (∀ b o, b < W.heap.size → w1.frozen? ⟨b, o, none⟩ = W.frozen? ⟨b, o, none⟩) :=
  ⟨fun b o h => hb.cell (p := ⟨b, o, none⟩) h, fun b o h => hb.frozen (p := ⟨b, o, none⟩) h⟩

theorem Below.drewN' (w : World) (n : Nat) : Below w.heap.size w (w.drewN n) := ⟨rfl, rfl, rfl, Nat.le_refl _, fun _ _ => rfl⟩

theorem ret_int {k : IntKind} {a b : Int} (h : a = b) : Ending.returned (.int k a) = .returned (.int k b) := by rw [h]

/-! bits at int -/
theorem ofInt_i64 (a : Nat) (ha : a < 9223372036854775808) : (BitVec.ofInt 64 (a : Int)).toNat = a := by
  rw [BitVec.ofInt_natCast, BitVec.toNat_ofNat]; exact Nat.mod_eq_of_lt (by omega)

theorem and_limb (n : Int) : bits .and .i64 n 1073741823 = n % 1073741824 := by
  show IntKind.i64.wrap ((BitVec.ofInt 64 n &&& BitVec.ofInt 64 1073741823).toNat : Int) = _
  have e : (BitVec.ofInt 64 n &&& BitVec.ofInt 64 1073741823).toNat = (n % 18446744073709551616).toNat % 1073741824 := by
    rw [BitVec.toNat_and, BitVec.toNat_ofInt]
    exact Nat.and_two_pow_sub_one_eq_mod _ 30
  rw [e, IntKind.wrap_i64]
  omega

theorem or_limb (a b : Int) (ha : 0 ≤ a) (ha' : a < 8589934592) (hb : 0 ≤ b) (hb' : b < 1073741824) : bits .or .i64 (a * 1073741824) b = a * 1073741824 + b := by
  obtain ⟨x, rfl⟩ := Int.eq_ofNat_of_zero_le ha
  obtain ⟨y, rfl⟩ := Int.eq_ofNat_of_zero_le hb
  show IntKind.i64.wrap ((BitVec.ofInt 64 ((x : Int) * 1073741824) ||| BitVec.ofInt 64 (y : Int)).toNat : Int) = _
  have e1 : ((x : Int) * 1073741824) = ((x * 1073741824 : Nat) : Int) := by simp
  rw [e1, BitVec.toNat_or, ofInt_i64 _ (by omega), ofInt_i64 _ (by omega)]
  have e2 : x * 1073741824 ||| y = x * 1073741824 + y := nat_join 30 _ _ (by omega) (by omega)
  rw [e2, IntKind.wrap_i64]
  omega
end Go.Proofs.Ytagmohpafjncfaa

/- routescopedraw.Codes: New makes choices; Next gives a number in its range, whatever the codes are. -/
namespace Go.Proofs.Ytagmohpafjncfaa
open Go.RowKit

/-- Block cb holds choices: a list of codes, and the place of the next one. -/
def Codes (cb : Nat) (w : World) : Prop :=
  ∃ (ad : Option Addr) (n cap p : Nat), w.heap[cb]? = some (.cells #[.slice ad n cap, .int .i64 (p : Int)] 54 (0, 0)) ∧ n ≤ maxLen ∧ p ≤ n ∧
    (n = 0 ∨ ∃ b off, ad = some ⟨b, off, none⟩ ∧ b < cb ∧ ∀ i, i < n → ∃ x : Int, 0 ≤ x ∧ x < 256 ∧ w.cell? ⟨b, off + i, none⟩ = some (.int .u8 x))

theorem Codes.lt {cb : Nat} {w : World} (h : Codes cb w) : cb < w.heap.size := by
  obtain ⟨_, _, _, _, h, _⟩ := h
  exact (Array.getElem?_eq_some_iff.1 h).1

/-- what lies up to block cb is as it was -/
theorem Codes.kept {cb : Nat} {w w' : World} (h : Codes cb w) (hb : ∀ k, k ≤ cb → w'.heap[k]? = w.heap[k]?) : Codes cb w' := by
  obtain ⟨ad, n, cap, p, h1, h2, h3, h4⟩ := h
  refine ⟨ad, n, cap, p, (hb cb (Nat.le_refl _)).trans h1, h2, h3, ?_⟩
  rcases h4 with h4 | ⟨b, off, h5, h6, h8⟩
  · exact .inl h4
  · exact .inr ⟨b, off, h5, h6, fun i hi => let ⟨x, x0, x1, hx⟩ := h8 i hi; ⟨x, x0, x1, (World.cell?_of_block (w := w) (a := ⟨b, off + i, none⟩) (hb b (Nat.le_of_lt h6))).trans hx⟩⟩
theorem Codes.below {cb : Nat} {w w' : World} (h : Codes cb w) (hb : Below w.heap.size w w') : Codes cb w' :=
  h.kept fun k hk => hb.block k (Nat.lt_of_le_of_lt hk h.lt)
/-- a row that lies behind block cb is written -/
theorem Codes.grown {cb : Nat} {w w' : World} {row : Option Nat} (h : Codes cb w) (hg : w.grownBy w' row) (hr : ∀ k, row = some k → cb < k) : Codes cb w' :=
  h.kept fun k hk => hg.block k (Nat.lt_of_le_of_lt hk h.lt) fun e => by have := hr k e.symm; omega

theorem grown_trans {a b c : World} {row : Option Nat} (h : a.grownBy b row) (k : b.grownBy c row) : a.grownBy c row :=
  ⟨k.os.trans h.os, k.tape.trans h.tape, k.output.trans h.output, Nat.le_trans h.size k.size, fun i hi hne => (k.block i (Nat.lt_of_lt_of_le hi h.size) hne).trans (h.block i hi hne)⟩
theorem grown_of_below {a b : World} (h : Below a.heap.size a b) (row : Option Nat) : a.grownBy b row := ⟨h.os, h.tape, h.output, h.size, fun i hi _ => h.block i hi⟩
/-- the same, and then a row of one's own is written -/
theorem grown_own {a b c : World} {row row' : Option Nat} (h : a.grownBy b row) (k : b.grownBy c row') (hr : ∀ i, row' = some i → a.heap.size ≤ i) : a.grownBy c row :=
  ⟨k.os.trans h.os, k.tape.trans h.tape, k.output.trans h.output, Nat.le_trans h.size k.size, fun i hi hne => (k.block i (Nat.lt_of_lt_of_le hi h.size) (fun e => by have := hr i e.symm; omega)).trans (h.block i hi hne)⟩
theorem grown_alloc {a b : World} {row : Option Nat} (h : a.grownBy b row) (o : Obj) : a.grownBy (b.alloc o) row := grown_trans h (World.grownBy_alloc b o row)
/-- a row of one's own is kept while another block turns -/
theorem own_kept {w w' : World} {B cb : Nat} {e : TypeId} {size : Nat} {v : Value} {n : Nat} {xs : List Value} (h : w.ownsRow B e size v n xs) (hg : w.grownBy w' (some cb)) (hcb : cb < B) : w'.ownsRow B e size v n xs := by
  refine h.kept hg ?_
  cases hv : v.ownBlock with
  | none => exact .inl rfl
  | some k => have := (h.lt k hv).1; exact .inr (fun e => by injection e; omega)
theorem grown_drewN {a b : World} {row : Option Nat} (h : a.grownBy b row) (n : Nat) : a.grownBy (b.drewN n) row := ⟨h.os, h.tape, h.output, h.size, h.block⟩
theorem grown_setCell (w : World) (cb o : Nat) (u : Value) : w.grownBy (w.setCell ⟨cb, o, none⟩ u) (some cb) :=
  ⟨rfl, rfl, rfl, by simp [World.setCell], fun i _ hne => Below.heap_setCell w ⟨cb, o, none⟩ u i (fun e => hne (by rw [e]))⟩

/-- choices lie there whichever block of them is advanced -/
theorem Codes.advance {cb : Nat} {w : World} {ad : Option Addr} {n cap p : Nat} (h1 : w.heap[cb]? = some (.cells #[.slice ad n cap, .int .i64 (p : Int)] 54 (0, 0))) (h2 : n ≤ maxLen) (hp : p < n)
    (h4 : n = 0 ∨ ∃ b off, ad = some ⟨b, off, none⟩ ∧ b < cb ∧ ∀ i, i < n → ∃ x : Int, 0 ≤ x ∧ x < 256 ∧ w.cell? ⟨b, off + i, none⟩ = some (.int .u8 x)) :
    Codes cb (w.setCell ⟨cb, 1, none⟩ (.int .i64 ((p : Int) + 1))) := by
  refine ⟨ad, n, cap, p + 1, ?_, h2, hp, ?_⟩
  · rw [heap_setCell_same w cb 1 _ _ _ h1]; simp
  · rcases h4 with h4 | ⟨b, off, h5, h6, h8⟩
    · exact .inl h4
    · refine .inr ⟨b, off, h5, h6, fun i hi => ?_⟩
      obtain ⟨x, x0, x1, hx⟩ := h8 i hi
      refine ⟨x, x0, x1, ?_⟩
      rw [← hx]
      exact World.cell?_of_block (w := w) (Below.heap_setCell w ⟨cb, 1, none⟩ _ b (Nat.ne_of_lt h6))

/-- a number from 0 on, less than n (0 where n is less than 1); the choices have advanced, nothing else has turned -/
def RetNext (cb : Nat) (n : Int) (w : World) (e : Ending) (w' : World) : Prop :=
  ∃ r : Int, e = .returned (.int .i64 r) ∧ 0 ≤ r ∧ (r < n ∨ r = 0) ∧ Codes cb w' ∧ w.grownBy w' (some cb)

set_option maxHeartbeats 1000000 in
theorem next_small (cb : Nat) (n : Int) (w : World) (h : Codes cb w) (hn : n ≤ 256) (hn0 : -9223372036854775808 ≤ n) :
    Calls Try.prog 10 #[.pointer (some ⟨cb, 0, none⟩), .int .i64 n] w (RetNext cb n w) := by
  have hcodes := Lib.hid h
  obtain ⟨ad, l, cap, p, h1, h2, h3, h4⟩ := h
  have h4 := Lib.hid h4
  have c0 : w.cell? ⟨cb, 0, none⟩ = some (.slice ad l cap) := by rw [cell_of_row w cb 0 _ _ _ h1]; rfl
  have c1 : w.cell? ⟨cb, 1, none⟩ = some (.int .i64 (p : Int)) := by rw [cell_of_row w cb 1 _ _ _ h1]; rfl
  have f1 : w.frozen? ⟨cb, 1, none⟩ = false := frozen_of_row w cb 1 _ _ h1
  have H1 := Lib.hid h1
  clear h1
  unfold maxLen at h2
  by_cases hp : l ≤ p
  · have hd : decide (l ≤ p) = true := by simpa using hp
    go_enter Try.func10, Try.ntmps10
    go_wp2
    go_quiet (fail)
    go_wp2
    go_ret
    exact ⟨0, rfl, by omega, .inr rfl, hcodes.out.below (Below.drewN' _ _), grown_of_below (Below.drewN' _ _) _⟩
  · have hd : decide (l ≤ p) = false := by simpa using hp
    by_cases hn1 : n < 1
    · go_enter Try.func10, Try.ntmps10
      go_wp2
      go_quiet (fail)
      go_wp2
      go_ret
      exact ⟨0, rfl, by omega, .inr rfl, hcodes.out.below (Below.drewN' _ _), grown_of_below (Below.drewN' _ _) _⟩
    · have hd1 : decide (n < 1) = false := by simpa using hn1
      obtain ⟨b, off, rfl, hlt, hc⟩ : ∃ b off, ad = some ⟨b, off, none⟩ ∧ b < cb ∧ ∀ i, i < l → ∃ x : Int, 0 ≤ x ∧ x < 256 ∧ w.cell? ⟨b, off + i, none⟩ = some (.int .u8 x) := by
        rcases h4.out with h | h
        · omega
        · exact h
      obtain ⟨x, x0, x1, hx⟩ := hc p (by omega)
      clear hc
      go_enter Try.func10, Try.ntmps10
      go_wp2
      go_quiet (fail)
      go_wp2
      go_quiet (fail)
      go_wp2
      go_ret
      exact ⟨_, rfl, Int.emod_nonneg _ (by omega), .inl (Int.emod_lt_of_pos _ (by omega)), (Codes.advance H1.out (by unfold maxLen; exact h2) (by omega) h4.out).below (Below.drewN' _ _), grown_drewN (grown_setCell _ _ _ _) _⟩

set_option maxHeartbeats 1000000 in
theorem next_calls (cb : Nat) (n : Int) (w : World) (h : Codes cb w) (hn0 : -9223372036854775808 ≤ n) (hn2 : n ≤ 9223372036854775807) :
    Calls Try.prog 10 #[.pointer (some ⟨cb, 0, none⟩), .int .i64 n] w (RetNext cb n w) := by
  by_cases hn : n ≤ 256
  · exact next_small cb n w h hn hn0
  have hcodes := Lib.hid h
  obtain ⟨ad, l, cap, p, h1, h2, h3, h4⟩ := h
  have h4 := Lib.hid h4
  have c0 : w.cell? ⟨cb, 0, none⟩ = some (.slice ad l cap) := by rw [cell_of_row w cb 0 _ _ _ h1]; rfl
  have c1 : w.cell? ⟨cb, 1, none⟩ = some (.int .i64 (p : Int)) := by rw [cell_of_row w cb 1 _ _ _ h1]; rfl
  have f1 : w.frozen? ⟨cb, 1, none⟩ = false := frozen_of_row w cb 1 _ _ h1
  have H1 := Lib.hid h1
  clear h1
  unfold maxLen at h2
  by_cases hp : l ≤ p
  · have hd : decide (l ≤ p) = true := by simpa using hp
    go_enter Try.func10, Try.ntmps10
    go_wp2
    go_quiet (fail)
    go_wp2
    go_ret
    exact ⟨0, rfl, by omega, .inr rfl, hcodes.out.below (Below.drewN' _ _), grown_of_below (Below.drewN' _ _) _⟩
  · have hd : decide (l ≤ p) = false := by simpa using hp
    have hd1 : decide (n < 1) = false := by simp; omega
    obtain ⟨b, off, rfl, hlt, hc⟩ : ∃ b off, ad = some ⟨b, off, none⟩ ∧ b < cb ∧ ∀ i, i < l → ∃ x : Int, 0 ≤ x ∧ x < 256 ∧ w.cell? ⟨b, off + i, none⟩ = some (.int .u8 x) := by
      rcases h4.out with h | h
      · omega
      · exact h
    obtain ⟨x, x0, x1, hx⟩ := hc p (by omega)
    clear hc
    go_enter Try.func10, Try.ntmps10
    go_wp2
    go_quiet (fail)
    go_wp2
    go_quiet (fail)
    go_wp2_with fail
    refine (next_small cb 256 _ ((Codes.advance H1.out (by unfold maxLen; exact h2) (by omega) h4.out).below (Below.drewN' _ _)) (by omega) (by omega)).mono ?_
    rintro e w' ⟨r, rfl, hr0, hr1, hc', hg⟩
    have hr2 : r < 256 := by omega
    clear hr1
    have hg' := grown_trans (grown_drewN (grown_setCell _ _ _ _) _) hg
    clear hg
    go_wp2
    go_ret
    exact ⟨_, rfl, Int.emod_nonneg _ (by omega), .inl (Int.emod_lt_of_pos _ (by omega)), hc', hg'⟩

set_option maxHeartbeats 1000000 in
/-- New makes choices in a new block. -/
theorem new_calls (a : Value) (z : List Int) (w : World) (most : Nat) (h : Rd .u8 w a z) (hz : ∀ n ∈ z, (Lit.int .u8 n).wf = true) (hm : most ≤ 65536) :
    Calls Try.prog 9 #[a, .int .i64 (most : Int)] w fun e w' => e = .returned (.pointer (some ⟨w.heap.size, 0, none⟩)) ∧ Codes w.heap.size w' ∧ Below w.heap.size w w' := by
  obtain ⟨ad, cap, rfl, h1, h2, h3⟩ := h
  have codes : ∀ n, n ≤ z.length → Codes w.heap.size (w.alloc (.cells #[.slice ad n cap, .int .i64 0] 54)) := by
    intro n hn
    refine ⟨ad, n, cap, 0, heap_alloc_new w _, by omega, Nat.zero_le _, ?_⟩
    rcases h3 with h3 | ⟨b, off, rfl, hlt, hc⟩
    · exact .inl (by omega)
    · refine .inr ⟨b, off, rfl, hlt, fun i hi => ⟨z.getD i 0, ?_, ?_, ?_⟩⟩
      · have := bounds_u8 (hz (z.getD i 0) (by simp [List.getD, show i < z.length by omega])); omega
      · have := bounds_u8 (hz (z.getD i 0) (by simp [List.getD, show i < z.length by omega])); omega
      · rw [← hc i (by omega)]
        exact World.cell?_of_block (w := w) (Below.heap_alloc w _ b hlt)
  have bel : ∀ o, Below w.heap.size w (w.alloc o) := fun o => (Below.refl _ _).alloc (Nat.le_refl _) _
  have CD := Lib.hid codes
  have BL := Lib.hid bel
  clear codes bel hz h3
  unfold maxLen at h2
  by_cases hl : (most : Nat) < z.length
  · go_enter Try.func9, Try.ntmps9
    go_wp2
    go_ret
    exact ⟨rfl, CD.out most (by omega), BL.out _⟩
  · go_enter Try.func9, Try.ntmps9
    go_wp2
    go_ret
    exact ⟨rfl, CD.out z.length (by omega), BL.out _⟩
end Go.Proofs.Ytagmohpafjncfaa

/- Choices, for the evaluator: Next as a contract, New as what makes them. -/
set_option linter.unusedSimpArgs false
set_option linter.unusedVariables false
namespace Go.Proofs.Ytagmohpafjncfaa
open Go.RowKit Eng

/-- the frame of a function that draws choices of block cb -/
def Frm.codes (cb : Nat) : Frm := ⟨fun b => b = cb, Codes cb, fun w b h e => by subst e; exact h.lt, fun w w' B h hB hw => h.kept fun k hk => hw k (Nat.lt_of_le_of_lt hk (hB cb rfl))⟩
def ptr (cb : Nat) : SV := .v (.pointer (some ⟨cb, 0, none⟩))

theorem enters_of {P : Program} {f : FuncId} {fn : Func} {c : Code} (hf : P.funcs[f]? = some fn) (hb : fn.body = some c) (hname : (fn.name == "runtime.NumGoroutine") = false) : ∀ vs w, (callFunc f vs).run P w = .ok (.enter f vs) w := by
  intro vs w
  have hn : ¬ fn.name = "runtime.NumGoroutine" := by simpa using hname
  simp [callFunc, hf, hn, hb]

theorem nextC (cb : Nat) (n : Int) (h1 : -9223372036854775808 ≤ n) (h2 : n ≤ 9223372036854775807) : Contract (Frm.codes cb) Try.prog 10 [ptr cb, .i .i64 n] (fun r => ∃ x : Int, r = .i .i64 x ∧ 0 ≤ x ∧ (x < n ∨ x = 0)) := by
  refine ⟨enters_of Try.func10 rfl (by kernel_rfl), fun R w hinv _ hR => ?_⟩
  refine (next_calls cb n w hinv h1 h2).mono ?_
  rintro e w' ⟨r, rfl, hr0, hr1, hc, hg⟩
  exact ⟨.i .i64 r, rfl, ⟨r, rfl, hr0, hr1⟩, trivial, ⟨hg.os, hg.tape, hg.output, hg.size, fun b hb hm => hg.block b hb (fun e => hm (show b = cb by simpa using e))⟩, hc⟩

/-- bytes -/
def isBytes (s : SV) : Prop := ∃ a len cap rd, s = .sl a len cap 1 rd ∧ ∀ i, i < len → ∃ x : Int, 0 ≤ x ∧ x < 256 ∧ rd i 0 = .i .u8 x

theorem new_made (a : Option Addr) (len cap : Nat) (w : World) (most : Nat) (h1 : len ≤ cap) (h2 : cap ≤ maxLen) (hm : most ≤ 65536) :
    Calls Try.prog 9 #[.slice a len cap, .int .i64 (most : Int)] w fun e w' => e = .returned (.pointer (some ⟨w.heap.size, 0, none⟩)) ∧ ∃ n, n ≤ len ∧ w' = w.alloc (.cells #[.slice a n cap, .int .i64 0] 54) := by
  unfold maxLen at h2
  by_cases hl : (most : Nat) < len
  · go_enter Try.func9, Try.ntmps9
    go_wp2
    go_ret
    exact ⟨rfl, most, by omega, rfl⟩
  · go_enter Try.func9, Try.ntmps9
    go_wp2
    go_ret
    exact ⟨rfl, len, by omega, rfl⟩

theorem newRC (s : SV) (hs : isBytes s) (most : Nat) (hm : most ≤ 65536) : Makes Try.prog 9 [s, .i .i64 most] (fun cb w => Codes cb w) := by
  obtain ⟨a, len, cap, rd, rfl, hb⟩ := hs
  refine ⟨enters_of Try.func9 rfl (by kernel_rfl), fun R w hargs hR => ?_⟩
  obtain ⟨h1, h2, h3⟩ := hargs _ (List.mem_cons_self ..)
  refine (new_made a len cap w most h1 h2 hm).mono ?_
  rintro e w' ⟨rfl, n, hn, rfl⟩
  refine ⟨rfl, by simp, ⟨rfl, rfl, rfl, by simp, fun b hb _ => heap_alloc_old w _ hb⟩, fun w'' hw'' => ?_⟩
  refine ⟨a, n, cap, 0, (hw'' _ (.inr rfl)).trans (heap_alloc_new w _), by omega, Nat.zero_le _, ?_⟩
  rcases h3 with h3 | ⟨blk, off, rfl, hr, hc⟩
  · exact .inl (by omega)
  · have hlt := hR blk hr
    refine .inr ⟨blk, off, rfl, hlt, fun i hi => ?_⟩
    obtain ⟨x, hx0, hx1, hx⟩ := hb i (by omega)
    have h := (hc i 0 (by omega) (by omega)).1
    rw [hx, Nat.mul_one] at h
    exact ⟨x, hx0, hx1, by rw [World.cell?_of_block (w := w) (a := ⟨blk, off + i, none⟩) ((hw'' blk (.inl hr)).trans (heap_alloc_old w _ hlt))]; exact h⟩
end Go.Proofs.Ytagmohpafjncfaa

/- From a contract to the walk of a law: bytes that came in. -/
set_option linter.unusedSimpArgs false
set_option linter.unusedVariables false
namespace Go.Proofs.Ytagmohpafjncfaa
open Go.RowKit Eng

/-- bytes that came in -/
def slB (a : Option Addr) (cap : Nat) (z : List Int) : SV := .sl a z.length cap 1 fun i _ => .i .u8 (z.getD i 0)
theorem slB_of {w : World} {v : Value} {z : List Int} (h : Rd .u8 w v z) : ∃ a cap, v = (slB a cap z).den ∧ (slB a cap z).ok (fun b => b < w.heap.size) w := by
  obtain ⟨ad, cap, rfl, h1, h2, h3⟩ := h
  refine ⟨ad, cap, rfl, h1, h2, ?_⟩
  rcases h3 with h3 | ⟨b, off, rfl, hlt, hc⟩
  · exact .inl h3
  · refine .inr ⟨b, off, rfl, hlt, fun i j hi hj => ?_⟩
    obtain rfl : j = 0 := by omega
    rw [Nat.mul_one]
    exact ⟨hc i hi, rfl, trivial⟩

/-- the call returns true, and what was there is as it was -/
theorem walk_of {P : Program} {f : FuncId} {args : List SV} (h : Contract Frm.nil P f args (fun r => r = .b true)) {w : World} (ha : ∀ s ∈ args, s.ok (fun b => b < w.heap.size) w) :
    Calls P f (args.map SV.den).toArray w fun e w' => e = .returned (.bool true) ∧ Below w.heap.size w w' :=
  (h.calls _ w trivial ha (fun b hb => ⟨hb, fun h => h⟩)).mono fun e w' ⟨r, he, hr, _, hevo, _⟩ => by
    subst hr
    exact ⟨he, ⟨hevo.os, hevo.tape, hevo.output, hevo.size, fun b hb => hevo.block b hb (fun h => h)⟩⟩
end Go.Proofs.Ytagmohpafjncfaa

/- Chapter 23: Alpha, awake. -/
set_option linter.unusedSimpArgs false
set_option linter.unusedVariables false
namespace Go.Proofs.Ytagmohpafjncfaa
open Eng Lmb Go.RowKit

/-- a fraction greater than 0 and less than 1, of small numbers -/
def AlphaP (r : SV) : Prop := ∃ p q, FrS r false p q ∧ 0 < p ∧ p < q ∧ q ≤ 100
theorem alpha_parts {n d : Nat} (h0 : 0 < n) (h1 : n < d) (h2 : d ≤ 100) : 0 < n / Nat.gcd n d ∧ n / Nat.gcd n d < d / Nat.gcd n d ∧ d / Nat.gcd n d ≤ 100 := by
  have hg : 0 < Nat.gcd n d := Nat.gcd_pos_of_pos_left _ h0
  have e1 : n / Nat.gcd n d * Nat.gcd n d = n := Nat.div_mul_cancel (Nat.gcd_dvd_left n d)
  have e2 : d / Nat.gcd n d * Nat.gcd n d = d := Nat.div_mul_cancel (Nat.gcd_dvd_right n d)
  refine ⟨Nat.div_pos (Nat.le_of_dvd h0 (Nat.gcd_dvd_left n d)) hg, ?_, Nat.le_trans (Nat.div_le_self _ _) h2⟩
  refine Nat.lt_of_mul_lt_mul_right (a := Nat.gcd n d) ?_
  rw [e1, e2]
  exact h1

set_option maxRecDepth 100000 in
theorem alphaC (cb : Nat) : Contract (Frm.codes cb) Try.prog 11 [ptr cb] AlphaP := by
  refine contract_of Try.func11 rfl (by kernel_rfl) ?_
  simp only [Try.ntmps11, argEnv]
  (repeat refine Sat.seq ?_)
  (refine Sat.region_k fun k hk => ?_; simp -implicitDefEqProofs only [evr, id, reduceCtorEq, reduceIte, Nat.reduceMul, Nat.reduceAdd, Nat.reduceLT, Nat.reduceLeDiff, Nat.reduceEqDiff, Int.reduceLT, Int.reduceBEq, Int.reduceBNe, Nat.reduceBEq, List.append_nil, Int.toNat_zero, Nat.sub_self, frS, ptr])
  intro b2
  (refine hk _ ?_; clear hk k; try show Sat _ _ _ _ _)
  (repeat refine Sat.seq ?_)
  (refine Sat.region_k fun k hk => ?_; simp -implicitDefEqProofs only [evr, id, reduceCtorEq, reduceIte, Nat.reduceMul, Nat.reduceAdd, Nat.reduceLT, Nat.reduceLeDiff, Nat.reduceEqDiff, Int.reduceLT, Int.reduceBEq, Int.reduceBNe, Nat.reduceBEq, List.append_nil, Int.toNat_zero, Nat.sub_self, frS, ptr])
  refine wcall_plain (nextC cb 60 (by decide) (by decide)) rfl (by rintro _ ⟨x, rfl, _⟩; exact ok_plain rfl) ?_
  rintro r ⟨x, rfl, hx0, hx1⟩
  have hx2 : x < 60 := by omega
  have e1 : IntKind.i64.wrap (2 + x) = 2 + x := w64 (by omega)
  have e2 : IntKind.i64.wrap (2 + x - 1) = 1 + x := by rw [w64 (by omega)]; omega
  simp -implicitDefEqProofs only [evr, id, reduceCtorEq, reduceIte, Nat.reduceMul, Nat.reduceAdd, Nat.reduceLT, Nat.reduceLeDiff, Nat.reduceEqDiff, Int.reduceLT, Int.reduceBEq, Int.reduceBNe, Nat.reduceBEq, List.append_nil, Int.toNat_zero, Nat.sub_self, frS, ptr, e1]
  (refine hk _ ?_; clear hk k; try show Sat _ _ _ _ _)
  (repeat refine Sat.seq ?_)
  refine Sat.region_k fun k hk => ?_
  simp -implicitDefEqProofs only [evr, id, reduceCtorEq, reduceIte, Nat.reduceMul, Nat.reduceAdd, Nat.reduceLT, Nat.reduceLeDiff, Nat.reduceEqDiff, Int.reduceLT, Int.reduceBEq, Int.reduceBNe, Nat.reduceBEq, List.append_nil, Int.toNat_zero, Nat.sub_self, frS, ptr, e2]
  refine wcall_plain (nextC cb (1 + x) (by omega) (by omega)) rfl (by rintro _ ⟨x, rfl, _⟩; exact ok_plain rfl) ?_
  rintro r ⟨y, rfl, hy0, hy1⟩
  have hy2 : y < 1 + x := by omega
  have e3 : IntKind.i64.wrap (1 + y) = 1 + y := w64 (by omega)
  simp -implicitDefEqProofs only [evr, id, reduceCtorEq, reduceIte, Nat.reduceMul, Nat.reduceAdd, Nat.reduceLT, Nat.reduceLeDiff, Nat.reduceEqDiff, Int.reduceLT, Int.reduceBEq, Int.reduceBNe, Nat.reduceBEq, List.append_nil, Int.toNat_zero, Nat.sub_self, frS, ptr, e3]
  refine wcall_slice (refFromC (Frm.codes cb) (1 + y) (2 + x) (by omega) (by omega) (by omega) (by omega) (by omega)) rfl rfl ?_
  rintro r ⟨f, rfl, sp, sq, rfl, hp, hq⟩
  have e4 : ((decide (1 + y < 0) != decide (2 + x < 0)) && decide (0 < (1 + y).natAbs)) = false := by
    rw [decide_eq_false (show ¬ 1 + y < 0 by omega), decide_eq_false (show ¬ 2 + x < 0 by omega)]; rfl
  have hap := alpha_parts (n := (1 + y).natAbs) (d := (2 + x).natAbs) (by omega) (by omega) (by omega)
  have hp' := hp
  have hq' := hq
  obtain ⟨a6, c6, z6, r6, x6, rfl, _⟩ := hp
  obtain ⟨a7, c7, z7, r7, x7, rfl, _⟩ := hq
  simp -implicitDefEqProofs only [evr, id, reduceCtorEq, reduceIte, Nat.reduceMul, Nat.reduceAdd, Nat.reduceLT, Nat.reduceLeDiff, Nat.reduceEqDiff, Int.reduceLT, Int.reduceBEq, Int.reduceBNe, Nat.reduceBEq, List.append_nil, Int.toNat_zero, Nat.sub_self, frS, ptr]
  rw [e4]
  intro b4
  (refine hk _ ?_; clear hk k; try show Sat _ _ _ _ _)
  (repeat refine Sat.seq ?_)
  (refine Sat.region_k fun k hk => ?_; simp -implicitDefEqProofs only [evr, id, reduceCtorEq, reduceIte, Nat.reduceMul, Nat.reduceAdd, Nat.reduceLT, Nat.reduceLeDiff, Nat.reduceEqDiff, Int.reduceLT, Int.reduceBEq, Int.reduceBNe, Nat.reduceBEq, List.append_nil, Int.toNat_zero, Nat.sub_self, frS, ptr])
  (refine hk _ ?_; clear hk k; try show Sat _ _ _ _ _)
  refine Sat.ret ?_
  simp only [Try.results11, evr, id, reduceCtorEq, reduceIte, Nat.reduceMul, Nat.reduceAdd, Nat.reduceLT, Nat.reduceLeDiff, Nat.reduceEqDiff, Int.reduceLT, Int.reduceBEq, Int.reduceBNe, Nat.reduceBEq, List.append_nil, Int.toNat_zero, Nat.sub_self, frS, ptr]
  exact ⟨_, _, ⟨_, _, rfl, hp', hq'⟩, hap⟩

theorem awake_num : misP 6 2 = 1 ∧ misQ 6 2 = 32 := by decide
theorem awake_need : missed 5 2 1 20 ∧ missed 4 2 1 20 ∧ missed 3 2 1 20 ∧ missed 2 2 1 20 ∧ missed 1 2 1 20 ∧ missed 0 2 1 20 ∧ ¬ missed 6 2 1 20 := by unfold missed; decide

set_option maxRecDepth 100000 in
theorem awakeC (F : Frm) : Contract F Try.prog 8 [] (fun r => r = .b true) := by
  refine contract_of Try.func8 rfl (by kernel_rfl) ?_
  simp only [Try.ntmps8, argEnv]
  (repeat refine Sat.seq ?_)
  (refine Sat.region_k fun k hk => ?_; simp -implicitDefEqProofs only [evr, id, reduceCtorEq, reduceIte, Nat.reduceMul, Nat.reduceAdd, Nat.reduceLT, Nat.reduceLeDiff, Nat.reduceEqDiff, Int.reduceLT, Int.reduceBEq, Int.reduceBNe, Nat.reduceBEq, List.append_nil, Int.toNat_zero, Nat.sub_self, frS, ptr]; refine hk _ ?_; clear hk k; try show Sat _ _ _ _ _)
  (repeat refine Sat.seq ?_)
  (refine Sat.region_k fun k hk => ?_; simp -implicitDefEqProofs only [evr, id, reduceCtorEq, reduceIte, Nat.reduceMul, Nat.reduceAdd, Nat.reduceLT, Nat.reduceLeDiff, Nat.reduceEqDiff, Int.reduceLT, Int.reduceBEq, Int.reduceBNe, Nat.reduceBEq, List.append_nil, Int.toNat_zero, Nat.sub_self, frS, ptr])
  refine wcall_slice (stMissingC F 6 2 (by omega) (by omega) (by omega)) rfl rfl ?_
  rintro r ⟨f, rfl, sp, sq, rfl, hp, hq⟩
  rw [awake_num.1] at hp
  rw [awake_num.2] at hq
  have hp' := hp
  have hq' := hq
  obtain ⟨a1, c1, z1, r1, x1, rfl, _⟩ := hp
  obtain ⟨a2, c2, z2, r2, x2, rfl, _⟩ := hq
  simp -implicitDefEqProofs only [evr, id, reduceCtorEq, reduceIte, Nat.reduceMul, Nat.reduceAdd, Nat.reduceLT, Nat.reduceLeDiff, Nat.reduceEqDiff, Int.reduceLT, Int.reduceBEq, Int.reduceBNe, Nat.reduceBEq, List.append_nil, Int.toNat_zero, Nat.sub_self, frS, ptr]
  intro b1
  (refine hk _ ?_; clear hk k; try show Sat _ _ _ _ _)
  (repeat refine Sat.seq ?_)
  (refine Sat.region_k fun k hk => ?_; simp -implicitDefEqProofs only [evr, id, reduceCtorEq, reduceIte, Nat.reduceMul, Nat.reduceAdd, Nat.reduceLT, Nat.reduceLeDiff, Nat.reduceEqDiff, Int.reduceLT, Int.reduceBEq, Int.reduceBNe, Nat.reduceBEq, List.append_nil, Int.toNat_zero, Nat.sub_self, frS, ptr])
  refine wcall_slice (refFromC F 1 20 (by omega) (by omega) (by omega) (by omega) (by omega)) rfl rfl ?_
  rintro r ⟨f, rfl, sp, sq, rfl, hp, hq⟩
  have hp3 : Nats sp 1 := hp
  have hq3 : Nats sq 20 := hq
  have hp4 := hp3
  have hq4 := hq3
  clear hp hq
  obtain ⟨a3, c3, z3, r3, x3, rfl, _⟩ := hp3
  obtain ⟨a4, c4, z4, r4, x4, rfl, _⟩ := hq3
  have e4 : ((decide ((1 : Int) < 0) != decide ((20 : Int) < 0)) && decide (0 < (1 : Int).natAbs)) = false := rfl
  simp -implicitDefEqProofs only [evr, id, reduceCtorEq, reduceIte, Nat.reduceMul, Nat.reduceAdd, Nat.reduceLT, Nat.reduceLeDiff, Nat.reduceEqDiff, Int.reduceLT, Int.reduceBEq, Int.reduceBNe, Nat.reduceBEq, List.append_nil, Int.toNat_zero, Nat.sub_self, frS, ptr]
  intro b2
  (refine hk _ ?_; clear hk k; try show Sat _ _ _ _ _)
  (repeat refine Sat.seq ?_)
  (refine Sat.region_k fun k hk => ?_; simp -implicitDefEqProofs only [evr, id, reduceCtorEq, reduceIte, Nat.reduceMul, Nat.reduceAdd, Nat.reduceLT, Nat.reduceLeDiff, Nat.reduceEqDiff, Int.reduceLT, Int.reduceBEq, Int.reduceBNe, Nat.reduceBEq, List.append_nil, Int.toNat_zero, Nat.sub_self, frS, ptr])
  refine wcall_plain (stNeededC F 1 (by omega) (by omega) hp4 hq4 (by omega) (by omega) (by omega)) (by simp -implicitDefEqProofs only [evr, id, reduceCtorEq, reduceIte, Nat.reduceMul, Nat.reduceAdd, Nat.reduceLT, Nat.reduceLeDiff, Nat.reduceEqDiff, Int.reduceLT, Int.reduceBEq, Int.reduceBNe, Nat.reduceBEq, List.append_nil, Int.toNat_zero, Nat.sub_self, frS, ptr]; rfl) (fun _ h => h.elim (fun ⟨n, _, e, _⟩ => by subst e; exact ok_tupL rfl) (fun ⟨e, _⟩ => by subst e; exact ok_tupL rfl)) ?_
  intro r hr
  obtain rfl : r = tupL [.i .i64 6, .i .i64 0] := by
    obtain ⟨m5, m4, m3, m2, m1, m0, m6⟩ := awake_need
    rcases hr with ⟨n, _, rfl, hn, hj⟩ | ⟨_, hj⟩
    · have h6 : n = 6 := by
        by_cases hlt : 6 < n
        · exact absurd (hj 6 hlt) m6
        · rcases (show n = 0 ∨ n = 1 ∨ n = 2 ∨ n = 3 ∨ n = 4 ∨ n = 5 ∨ n = 6 by omega) with rfl | rfl | rfl | rfl | rfl | rfl | rfl
          · exact absurd m0 hn
          · exact absurd m1 hn
          · exact absurd m2 hn
          · exact absurd m3 hn
          · exact absurd m4 hn
          · exact absurd m5 hn
          · rfl
      subst h6
      rfl
    · exact absurd (hj 6 (by omega)) m6
  simp -implicitDefEqProofs only [evr, id, reduceCtorEq, reduceIte, Nat.reduceMul, Nat.reduceAdd, Nat.reduceLT, Nat.reduceLeDiff, Nat.reduceEqDiff, Int.reduceLT, Int.reduceBEq, Int.reduceBNe, Nat.reduceBEq, List.append_nil, Int.toNat_zero, Nat.sub_self, frS, ptr]
  (refine hk _ ?_; clear hk k; try show Sat _ _ _ _ _)
  (repeat refine Sat.seq ?_)
  refine Sat.region_k fun k hk => ?_
  simp -implicitDefEqProofs only [evr, id, reduceCtorEq, reduceIte, Nat.reduceMul, Nat.reduceAdd, Nat.reduceLT, Nat.reduceLeDiff, Nat.reduceEqDiff, Int.reduceLT, Int.reduceBEq, Int.reduceBNe, Nat.reduceBEq, List.append_nil, Int.toNat_zero, Nat.sub_self, frS, ptr]
  refine wcall_plain (refText3C F hp' hq' (by omega) (by omega) (by omega) (by decide)) (by simp -implicitDefEqProofs only [evr, id, reduceCtorEq, reduceIte, Nat.reduceMul, Nat.reduceAdd, Nat.reduceLT, Nat.reduceLeDiff, Nat.reduceEqDiff, Int.reduceLT, Int.reduceBEq, Int.reduceBNe, Nat.reduceBEq, List.append_nil, Int.toNat_zero, Nat.sub_self, frS, ptr]; try rfl) (by rintro _ rfl; exact ok_plain rfl) ?_
  rintro r rfl
  simp -implicitDefEqProofs only [evr, id, reduceCtorEq, reduceIte, Nat.reduceMul, Nat.reduceAdd, Nat.reduceLT, Nat.reduceLeDiff, Nat.reduceEqDiff, Int.reduceLT, Int.reduceBEq, Int.reduceBNe, Nat.reduceBEq, List.append_nil, Int.toNat_zero, Nat.sub_self, frS, ptr]
  have ef : (frB 1 32).toList == (⟨#[49, 47, 51, 50]⟩ : ByteArray).toList := by
    have e : frB 1 32 = (⟨#[49, 47, 51, 50]⟩ : ByteArray) := by
      unfold frB
      rw [decB_small (n := 1) (by omega), decB_big (n := 32) (by omega), decB_small (n := 32 / 10) (by omega)]
      decide
    rw [e]
    exact beq_self_eq_true _
  refine ⟨fun _ => ?_, fun h => absurd ef (by rw [h]; decide)⟩
  (refine hk _ ?_; clear hk k; try show Sat _ _ _ _ _)
  refine Sat.ret ?_
  simp only [Try.results8, evr, id, reduceCtorEq, reduceIte, Nat.reduceMul, Nat.reduceAdd, Nat.reduceLT, Nat.reduceLeDiff, Nat.reduceEqDiff, Int.reduceLT, Int.reduceBEq, Int.reduceBNe, Nat.reduceBEq, List.append_nil, Int.toNat_zero, Nat.sub_self, frS, ptr]

/-- the comparison of what is missed with a fraction -/
theorem misCmpC (F : Frm) {n m p q : Nat} (hn : n ≤ 128) (hm : m ≤ 16) {sr ss sp sq : SV} (hr : Nats sr (misP n m)) (hs : Nats ss (misQ n m)) (hp : Nats sp p) (hq : Nats sq q) (h1 : p < q) (h2 : q < 1073741824) :
    Contract F Try.prog 14 [frS false sr ss, frS false sp sq] (fun x => x = tupL [.i .i64 (cmpI (misP n m * q : Nat) (p * misQ n m : Nat)), .i .i64 0]) := by
  have bP := Nat.le_trans (misP_le n m) (kn_le (k := m) (by omega) hn)
  have bQ := Nat.le_trans (misQ_le n m) (kn_le (k := m) (by omega) hn)
  have bq : q ≤ 2 ^ 30 := Nat.le_of_lt h2
  have bp : p ≤ 2 ^ 30 := by omega
  have bpQ := mul_two bp bQ
  have bPq := mul_two bP bq
  have h := fractionCompareC F false false hr hs hp hq (lt_pw bP (by rw [xb_eq]; decide)) (lt_pw bQ (by rw [xb_eq]; decide)) (q_pw (by omega)) (q_pw h2) (lt_pw bPq (by rw [xb_eq]; decide)) (lt_pw bpQ (by rw [xb_eq]; decide)) (lt_pw_add bPq bpQ (by rw [xb_eq]; decide))
  rw [cmpV_pos] at h
  exact h
theorem mis_gt {n m p q : Nat} (hm : 1 ≤ m) (h : missed n m p q) : cmpI (misP n m * q : Nat) (p * misQ n m : Nat) = 1 := cmpI_gt (by have := (missed_iff hm).1 h; omega)
theorem mis_le {n m p q : Nat} (hm : 1 ≤ m) (h : ¬ missed n m p q) : cmpI (misP n m * q : Nat) (p * misQ n m : Nat) ≤ 0 := by
  have h1 : ¬ p * misQ n m < misP n m * q := fun h9 => h ((missed_iff hm).2 h9)
  unfold cmpI
  split
  · decide
  · split
    · omega
    · decide
end Go.Proofs.Ytagmohpafjncfaa

/- Package stopping: limits, Fail: what each gives. -/
set_option linter.unusedSimpArgs false
set_option linter.unusedVariables false
namespace Go.Proofs.Ytagmohpafjncfaa
open Eng Lmb Go.RowKit

/-- n flows are needed -/
def IsNeed (m p q n : Nat) : Prop := n ≤ 128 ∧ ¬ missed n (m + 1) p q ∧ ∀ j, j < n → missed j (m + 1) p q
/-- no number of flows is enough -/
def NoNeed (m p q : Nat) : Prop := ∀ j, j ≤ 128 → missed j (m + 1) p q
theorem needPost_cases {m p q : Nat} {r : SV} (h : NeedPost m p q r) : (∃ n, r = tupL [.i .i64 (n : Nat), .i .i64 0] ∧ IsNeed m p q n) ∨ (r = tupL [.i .i64 0, .i .i64 5] ∧ NoNeed m p q) := by
  rcases h with ⟨n, h1, h2, h3, h4⟩ | ⟨h1, h2⟩
  · exact .inl ⟨n, h2, h1, h3, h4⟩
  · exact .inr ⟨h1, h2⟩

/-- the stops of a rule -/
def Stops (k p q : Nat) (st : Nat → Nat) : Prop := ∀ j, 1 ≤ j → j < k → IsNeed j p q (st j)
/-- some number of successors is beyond the rule -/
def Beyond (k p q : Nat) : Prop := ∃ j, 1 ≤ j ∧ j < k ∧ NoNeed j p q
def LimPost (k p q : Nat) (r : SV) : Prop :=
  (∃ (st : Nat → Nat) (a : Option Addr) (cap : Nat) (rd : Nat → Nat → SV), Stops k p q st ∧ r = tupL [.sl a k cap 1 rd, .i .i64 0] ∧ ∀ j, 1 ≤ j → j < k → rd j 0 = .i .i64 (st j : Nat)) ∨
  (Beyond k p q ∧ ∃ (a : Option Addr) (len cap sz : Nat) (rd : Nat → Nat → SV), r = tupL [.sl a len cap sz rd, .i .i64 5])

theorem rd_more {j n : Nat} {st : Nat → Nat} : rdEq (j + 1) 1 (rdCat j (fun i _ => .i .i64 (st i : Nat)) (rdL [SV.i .i64 (n : Nat)] 1)) (fun i _ => .i .i64 ((if i = j then n else st i : Nat) : Int)) := by
  intro i c hi hc
  obtain rfl : c = 0 := by omega
  unfold rdCat
  by_cases h : i < j
  · rw [if_pos h]
    show SV.i _ _ = SV.i _ _
    rw [if_neg (by omega)]
  · obtain rfl : i = j := by omega
    rw [if_neg h, Nat.sub_self]
    show _ = SV.i _ _
    rw [if_pos rfl]
    rfl
theorem rd_first (blk : Nat) : rdEq 1 1 (rdL [SV.i .i64 0] 1) (fun i _ => .i .i64 ((0 : Nat) : Int)) := by
  intro i c hi hc
  obtain rfl : i = 0 := by omega
  obtain rfl : c = 0 := by omega
  rfl

set_option maxRecDepth 100000 in
theorem limitsC (F : Frm) (kk : Nat) (hkk : kk ≤ 16) (hkk1 : 1 ≤ kk) {sp sq : SV} {p q : Nat} (hp : Nats sp p) (hq : Nats sq q) (h0 : 0 < p) (h1 : p < q) (h2 : q < 1073741824) :
    Contract F Try.prog 47 [.i .i64 kk, frS false sp sq] (LimPost kk p q) := by
  have hp' := hp
  have hq' := hq
  obtain ⟨a1, c1, z1, r1, x1, rfl, _⟩ := hp
  obtain ⟨a2, c2, z2, r2, x2, rfl, _⟩ := hq
  refine contract_of Try.func47 rfl (by kernel_rfl) ?_
  simp only [Try.ntmps47, argEnv, frS]
  (repeat refine Sat.seq ?_)
  (refine Sat.region_k fun k hk => ?_; simp -implicitDefEqProofs only [evr, id, reduceCtorEq, reduceIte, Nat.reduceMul, Nat.reduceAdd, Nat.reduceLT, Nat.reduceLeDiff, Nat.reduceEqDiff, Int.reduceLT, Int.reduceBEq, Int.reduceBNe, Nat.reduceBEq, List.append_nil, Int.toNat_zero, Nat.sub_self, frS])
  intro b3
  (refine hk _ ?_; clear hk k; try show Sat _ _ _ _ _)
  (repeat refine Sat.seq ?_)
  (refine Sat.region_k fun k hk => ?_; simp -implicitDefEqProofs only [evr, id, reduceCtorEq, reduceIte, Nat.reduceMul, Nat.reduceAdd, Nat.reduceLT, Nat.reduceLeDiff, Nat.reduceEqDiff, Int.reduceLT, Int.reduceBEq, Int.reduceBNe, Nat.reduceBEq, List.append_nil, Int.toNat_zero, Nat.sub_self, frS])
  intro blk
  (refine hk _ ?_; clear hk k; try show Sat _ _ _ _ _)
  (repeat refine Sat.seq ?_)
  (refine Sat.region_k fun k hk => ?_; simp -implicitDefEqProofs only [evr, id, reduceCtorEq, reduceIte, Nat.reduceMul, Nat.reduceAdd, Nat.reduceLT, Nat.reduceLeDiff, Nat.reduceEqDiff, Int.reduceLT, Int.reduceBEq, Int.reduceBNe, Nat.reduceBEq, List.append_nil, Int.toNat_zero, Nat.sub_self, frS]; refine hk _ ?_; clear hk k; try show Sat _ _ _ _ _)
  (repeat refine Sat.seq ?_)
  refine Sat.block ?_
  (repeat refine Sat.seq ?_)
  refine Sat.loop (ι := Nat × (Nat → Nat) × (Option Addr × Nat)) (fun x => ⟨30, [(7, .i .i64 (x.1 : Int)), (6, .os 1 x.2.2.1 x.1 x.2.2.2), (0, (.i .i64 kk)), (3, .op 0 b3 0)], [.box b3 30 [.b false, .sl a1 x1.length c1 z1 r1, .sl a2 x2.length c2 z2 r2], .row x.2.2.1 3 x.1 x.2.2.2 1 (fun i _ => .i .i64 (x.2.1 i : Nat))]⟩)
    (fun x => 1 ≤ x.1 ∧ x.1 ≤ kk ∧ Stops x.1 p q x.2.1) (fun x => kk - x.1) (1, fun _ => 0, (some ⟨blk, 0, none⟩, 1)) ⟨Nat.le_refl _, hkk1, fun j h3 h4 => by omega⟩ (by simp -implicitDefEqProofs only [evr, id, reduceCtorEq, reduceIte, Nat.reduceMul, Nat.reduceAdd, Nat.reduceLT, Nat.reduceLeDiff, Nat.reduceEqDiff, Int.reduceLT, Int.reduceBEq, Int.reduceBNe, Nat.reduceBEq, List.append_nil, Int.toNat_zero, Nat.sub_self, frS, evl]; exact ⟨rfl, rd_first 0⟩) ?_
  rintro ⟨j, st, a, cap⟩ ⟨hj1, hjk, hst⟩
  simp only at hj1 hjk hst ⊢
  (repeat refine Sat.seq ?_)
  (refine Sat.region_k fun k hk => ?_; simp -implicitDefEqProofs only [evr, id, reduceCtorEq, reduceIte, Nat.reduceMul, Nat.reduceAdd, Nat.reduceLT, Nat.reduceLeDiff, Nat.reduceEqDiff, Int.reduceLT, Int.reduceBEq, Int.reduceBNe, Nat.reduceBEq, List.append_nil, Int.toNat_zero, Nat.sub_self, frS]; refine hk _ ?_; clear hk k; try show Sat _ _ _ _ _)
  (repeat refine Sat.seq ?_)
  refine Sat.cond_b rfl (fun h => ?_) (fun h => ?_)
  · simp only [decide_eq_true_eq] at h
    have ej1 : IntKind.i64.wrap ((j : Int) + 1) = ((j + 1 : Nat) : Int) := by rw [w64 (by omega)]; omega
    refine Sat.skip ?_
    simp only [thenK]
    (repeat refine Sat.seq ?_)
    refine Sat.block ?_
    (repeat refine Sat.seq ?_)
    (refine Sat.region_k fun k hk => ?_; simp -implicitDefEqProofs only [evr, id, reduceCtorEq, reduceIte, Nat.reduceMul, Nat.reduceAdd, Nat.reduceLT, Nat.reduceLeDiff, Nat.reduceEqDiff, Int.reduceLT, Int.reduceBEq, Int.reduceBNe, Nat.reduceBEq, List.append_nil, Int.toNat_zero, Nat.sub_self, frS])
    refine wcall_plain (stNeededC F j (by omega) hj1 hp' hq' h0 h1 h2) (by simp -implicitDefEqProofs only [evr, id, reduceCtorEq, reduceIte, Nat.reduceMul, Nat.reduceAdd, Nat.reduceLT, Nat.reduceLeDiff, Nat.reduceEqDiff, Int.reduceLT, Int.reduceBEq, Int.reduceBNe, Nat.reduceBEq, List.append_nil, Int.toNat_zero, Nat.sub_self, frS]; try rfl) (fun r h => by rcases needPost_cases h with ⟨n, rfl, _⟩ | ⟨rfl, _⟩ <;> exact ok_tupL rfl) ?_
    intro r hr
    rcases needPost_cases hr with ⟨n, rfl, hn⟩ | ⟨rfl, hn⟩
    · simp -implicitDefEqProofs only [evr, id, reduceCtorEq, reduceIte, Nat.reduceMul, Nat.reduceAdd, Nat.reduceLT, Nat.reduceLeDiff, Nat.reduceEqDiff, Int.reduceLT, Int.reduceBEq, Int.reduceBNe, Nat.reduceBEq, List.append_nil, Int.toNat_zero, Nat.sub_self, frS]
      (refine hk _ ?_; clear hk k; try show Sat _ _ _ _ _)
      (repeat refine Sat.seq ?_)
      (refine Sat.region_k fun k hk => ?_; simp -implicitDefEqProofs only [evr, id, reduceCtorEq, reduceIte, Nat.reduceMul, Nat.reduceAdd, Nat.reduceLT, Nat.reduceLeDiff, Nat.reduceEqDiff, Int.reduceLT, Int.reduceBEq, Int.reduceBNe, Nat.reduceBEq, List.append_nil, Int.toNat_zero, Nat.sub_self, frS]; refine hk _ ?_; clear hk k; try show Sat _ _ _ _ _)
      refine Sat.cond_b rfl (fun h => absurd h (by decide)) (fun h => ?_)
      refine Sat.skip ?_
      simp only [thenK]
      (repeat refine Sat.seq ?_)
      (refine Sat.region_k fun k hk => ?_; simp -implicitDefEqProofs only [evr, id, reduceCtorEq, reduceIte, Nat.reduceMul, Nat.reduceAdd, Nat.reduceLT, Nat.reduceLeDiff, Nat.reduceEqDiff, Int.reduceLT, Int.reduceBEq, Int.reduceBNe, Nat.reduceBEq, List.append_nil, Int.toNat_zero, Nat.sub_self, frS])
      intro blk2
      refine ⟨⟨by unfold maxLen; omega, by omega⟩, fun a2 cap2 => ?_⟩
      refine hk _ ?_
      clear hk k
      simp only [thenK, blockK]
      (repeat refine Sat.seq ?_)
      refine Sat.region_k fun k hk => ?_
      simp -implicitDefEqProofs only [evr, id, reduceCtorEq, reduceIte, Nat.reduceMul, Nat.reduceAdd, Nat.reduceLT, Nat.reduceLeDiff, Nat.reduceEqDiff, Int.reduceLT, Int.reduceBEq, Int.reduceBNe, Nat.reduceBEq, List.append_nil, Int.toNat_zero, Nat.sub_self, frS, ej1]
      refine hk _ ?_
      simp only [thenK, blockK]
      refine ⟨(j + 1, fun i => if i = j then n else st i, (a2, cap2)), ⟨by show 1 ≤ j + 1; omega, by show j + 1 ≤ kk; omega, fun i g1 g2 => ?_⟩, by show kk - (j + 1) < kk - j; omega, ?_⟩
      · show IsNeed i p q (if i = j then n else st i)
        by_cases e : i = j
        · subst e; rw [if_pos rfl]; exact hn
        · rw [if_neg e]; exact hst i g1 (by have : i < j + 1 := g2; omega)
      simp -implicitDefEqProofs only [evr, id, reduceCtorEq, reduceIte, Nat.reduceMul, Nat.reduceAdd, Nat.reduceLT, Nat.reduceLeDiff, Nat.reduceEqDiff, Int.reduceLT, Int.reduceBEq, Int.reduceBNe, Nat.reduceBEq, List.append_nil, Int.toNat_zero, Nat.sub_self, frS, evl]
      exact rd_more
    · simp -implicitDefEqProofs only [evr, id, reduceCtorEq, reduceIte, Nat.reduceMul, Nat.reduceAdd, Nat.reduceLT, Nat.reduceLeDiff, Nat.reduceEqDiff, Int.reduceLT, Int.reduceBEq, Int.reduceBNe, Nat.reduceBEq, List.append_nil, Int.toNat_zero, Nat.sub_self, frS]
      (refine hk _ ?_; clear hk k; try show Sat _ _ _ _ _)
      (repeat refine Sat.seq ?_)
      (refine Sat.region_k fun k hk => ?_; simp -implicitDefEqProofs only [evr, id, reduceCtorEq, reduceIte, Nat.reduceMul, Nat.reduceAdd, Nat.reduceLT, Nat.reduceLeDiff, Nat.reduceEqDiff, Int.reduceLT, Int.reduceBEq, Int.reduceBNe, Nat.reduceBEq, List.append_nil, Int.toNat_zero, Nat.sub_self, frS]; refine hk _ ?_; clear hk k; try show Sat _ _ _ _ _)
      refine Sat.cond_b rfl (fun h => ?_) (fun h => absurd h (by decide))
      (repeat refine Sat.seq ?_)
      (refine Sat.region_k fun k hk => ?_; simp -implicitDefEqProofs only [evr, id, reduceCtorEq, reduceIte, Nat.reduceMul, Nat.reduceAdd, Nat.reduceLT, Nat.reduceLeDiff, Nat.reduceEqDiff, Int.reduceLT, Int.reduceBEq, Int.reduceBNe, Nat.reduceBEq, List.append_nil, Int.toNat_zero, Nat.sub_self, frS]; refine hk _ ?_; clear hk k; try show Sat _ _ _ _ _)
      refine Sat.ret ?_
      simp only [thenK, blockK, Try.results47, evr, id, reduceCtorEq, reduceIte, Nat.reduceMul, Nat.reduceAdd, Nat.reduceLT, Nat.reduceLeDiff, Nat.reduceEqDiff, Int.reduceLT, Int.reduceBEq, Int.reduceBNe, Nat.reduceBEq, List.append_nil, Int.toNat_zero, Nat.sub_self, frS]
      exact .inr ⟨⟨j, hj1, by omega, hn⟩, _, _, _, _, _, rfl⟩
  · simp only [decide_eq_false_iff_not] at h
    obtain rfl : j = kk := by omega
    refine Sat.exit ?_
    simp only [thenK, blockK, reduceIte]
    (repeat refine Sat.seq ?_)
    (refine Sat.region_k fun k hk => ?_; simp -implicitDefEqProofs only [evr, id, reduceCtorEq, reduceIte, Nat.reduceMul, Nat.reduceAdd, Nat.reduceLT, Nat.reduceLeDiff, Nat.reduceEqDiff, Int.reduceLT, Int.reduceBEq, Int.reduceBNe, Nat.reduceBEq, List.append_nil, Int.toNat_zero, Nat.sub_self, frS]; refine hk _ ?_; clear hk k; try show Sat _ _ _ _ _)
    refine Sat.ret ?_
    simp only [Try.results47, evr, id, reduceCtorEq, reduceIte, Nat.reduceMul, Nat.reduceAdd, Nat.reduceLT, Nat.reduceLeDiff, Nat.reduceEqDiff, Int.reduceLT, Int.reduceBEq, Int.reduceBNe, Nat.reduceBEq, List.append_nil, Int.toNat_zero, Nat.sub_self, frS]
    exact .inl ⟨st, _, _, _, hst, rfl, fun i _ _ => rfl⟩
end Go.Proofs.Ytagmohpafjncfaa

/- Package stopping: Fail: what it gives. -/
set_option linter.unusedSimpArgs false
set_option linter.unusedVariables false
namespace Go.Proofs.Ytagmohpafjncfaa
open Eng Lmb Go.RowKit

def FailPost (k p q : Nat) (r : SV) : Prop :=
  (∃ st f, Stops k p q st ∧ r = tupL [f, .i .i64 0] ∧ FrS f false (redP (failN k st 128) (k ^ 128)) (redQ (failN k st 128) (k ^ 128))) ∨ (Beyond k p q ∧ ∃ f, r = tupL [f, .i .i64 5] ∧ FrS f false 0 0)

theorem raw_zero (k : Nat) (W : Nat → Nat) : rawW k W 0 = 0 := by simp [rawW]
theorem rd_put {N ix : Nat} {sv : Nat → SV} {s : SV} : rdEq N 1 (rdSet (fun i _ => sv i) ix 0 [s]) (fun i _ => if i = ix then s else sv i) := by
  intro i c hi hc
  obtain rfl : c = 0 := by omega
  unfold rdSet
  by_cases h : i = ix
  · subst h
    simp
  · show (if _ then _ else _) = if _ then _ else _
    rw [if_neg (by intro h2; exact h h2.1), if_neg h]

theorem rd_new {N : Nat} {s z : SV} : rdEq N 1 (rdSet (fun _ j => [z].getD j default) 0 0 [s]) (fun i _ => if i = 0 then s else z) := by
  intro i c hi hc
  obtain rfl : c = 0 := by omega
  unfold rdSet
  by_cases h : i = 0
  · subst h
    simp
  · show (if _ then _ else _) = if _ then _ else _
    rw [if_neg (by intro h2; exact h h2.1), if_neg h]
    rfl

/-- all elements of a row read as numbers -/
def RowN (sv : Nat → SV) (N : Nat) (f : Nat → Nat) : Prop := ∀ i, i ≤ N → Nats (sv i) (f i)
theorem RowN.put {sv : Nat → SV} {N ix : Nat} {f g : Nat → Nat} {s : SV} (h : RowN sv N f) (hs : Nats s (g ix)) (hg : ∀ i, i ≤ N → i ≠ ix → f i = g i) : RowN (fun i => if i = ix then s else sv i) N g := by
  intro i hi
  by_cases e : i = ix
  · subst e
    simp only [if_true]
    exact hs
  · simp only [e, if_false]
    rw [← hg i hi e]
    exact h i hi
theorem RowN.same {sv : Nat → SV} {N : Nat} {f g : Nat → Nat} (h : RowN sv N f) (hg : ∀ i, i ≤ N → f i = g i) : RowN sv N g := fun i hi => by rw [← hg i hi]; exact h i hi

/-- what is known after n flows -/
structure FailInv (k : Nat) (st : Nat → Nat) (n : Nat) (sv : Nat → SV) (sa sp sq : SV) : Prop where
  all : Nats sa (k ^ n)
  ways : RowN sv k (wayN k st n)
  num : Nats sp (redP (failN k st n) (k ^ n))
  den : Nats sq (redQ (failN k st n) (k ^ n))
/-- .. within a flow: the rows from j + 1 on are new -/
structure FailRow (k : Nat) (st : Nat → Nat) (n j : Nat) (sv : Nat → SV) : Prop where
  le : j ≤ k
  ways : RowN sv k (fun i => if j < i then rawW k (wayN k st n) i else wayN k st n i)
theorem FailRow.old {k : Nat} {st : Nat → Nat} {n j : Nat} {sv : Nat → SV} (h : FailRow k st n j sv) {i : Nat} (hi : i ≤ j) : Nats (sv i) (wayN k st n i) := by
  have := h.ways i (Nat.le_trans hi h.le)
  simp only at this
  rwa [if_neg (by omega)] at this
theorem FailRow.step {k : Nat} {st : Nat → Nat} {n j : Nat} {sv : Nat → SV} (h : FailRow k st n (j + 1) sv) {s : SV} (hs : Nats s (wayN k st n (j + 1) * (j + 1) + wayN k st n j * (k - (j + 1) + 1))) : FailRow k st n j (fun i => if i = j + 1 then s else sv i) := by
  refine ⟨by have := h.le; omega, h.ways.put (by rw [if_pos (by omega)]; unfold rawW; rw [if_neg (by omega), Nat.add_sub_cancel]; exact hs) fun i hi hne => ?_⟩
  by_cases hlt : j + 1 < i
  · rw [if_pos hlt, if_pos (by omega)]
  · rw [if_neg hlt, if_neg (by omega)]
theorem FailRow.done {k : Nat} {st : Nat → Nat} {n : Nat} {sv : Nat → SV} (h : FailRow k st n 0 sv) {s : SV} (hs : Nats s 0) : RowN (fun i => if i = 0 then s else sv i) k (rawW k (wayN k st n)) :=
  h.ways.put (by rw [raw_zero]; exact hs) fun i hi hne => by rw [if_pos (by omega)]
/-- .. the stops below j are done -/
structure FailOut (k : Nat) (st : Nat → Nat) (n j : Nat) (sv : Nat → SV) (sp sq : SV) : Prop where
  lo : 1 ≤ j
  le : j ≤ k
  ways : RowN sv k (fun i => if i < j then wayN k st (n + 1) i else rawW k (wayN k st n) i)
  num : Nats sp (redP (failN k st n * k + outN k st n j) (k ^ (n + 1)))
  den : Nats sq (redQ (failN k st n * k + outN k st n j) (k ^ (n + 1)))
theorem way_zero (k : Nat) (st : Nat → Nat) (n : Nat) : wayN k st (n + 1) 0 = 0 := by
  rw [wayN, if_neg (fun h => by have := h.1; omega), raw_zero]
theorem FailOut.start {k : Nat} {st : Nat → Nat} {n : Nat} {sv : Nat → SV} {sa sp sq : SV} (hk : 1 ≤ k) (h : FailInv k st n sv sa sp sq) {sv' : Nat → SV} (hw : RowN sv' k (rawW k (wayN k st n))) : FailOut k st n 1 sv' sp sq := by
  have e : outN k st n 1 = 0 := by
    unfold outN
    rw [sumUp, sumUp, if_neg (fun h => by have := h.1; omega)]
  have hr := red_mul (failN k st n) (k ^ n) (x := k) hk
  refine ⟨Nat.le_refl _, hk, hw.same fun i hi => ?_, ?_, ?_⟩
  · by_cases hi : i < 1
    · obtain rfl : i = 0 := by omega
      rw [if_pos hi, way_zero, raw_zero]
    · rw [if_neg hi]
  · rw [e, Nat.add_zero, Nat.pow_succ, hr.1]; exact h.num
  · rw [e, Nat.add_zero, Nat.pow_succ, hr.2]; exact h.den
theorem FailOut.done {k : Nat} {st : Nat → Nat} {n : Nat} {sv : Nat → SV} {sa sp sq : SV} (h : FailOut k st n k sv sp sq) (ha : Nats sa (k ^ (n + 1))) : FailInv k st (n + 1) sv sa sp sq := by
  refine ⟨ha, h.ways.same fun i hi => ?_, h.num, h.den⟩
  by_cases hk : i < k
  · rw [if_pos hk]
  · obtain rfl : i = k := by omega
    rw [if_neg hk, wayN, if_neg (fun h2 => by have := h2.2.1; omega)]
theorem outN_step (k : Nat) (st : Nat → Nat) (n j : Nat) : outN k st n (j + 1) = outN k st n j + if stopAt k st (n + 1) j then rawW k (wayN k st n) j else 0 := rfl
/-- nothing is taken at j -/
theorem FailOut.skip {k : Nat} {st : Nat → Nat} {n j : Nat} {sv : Nat → SV} {sp sq : SV} (h : FailOut k st n j sv sp sq) (hj : j < k) (hn : ¬ (st j ≤ n + 1 ∧ 0 < rawW k (wayN k st n) j)) : FailOut k st n (j + 1) sv sp sq := by
  have h1 := h.lo
  have e : outN k st n (j + 1) = outN k st n j := by
    rw [outN_step]
    by_cases hs : stopAt k st (n + 1) j
    · rw [if_pos hs]
      have := hs.2.2
      omega
    · rw [if_neg hs]; rfl
  refine ⟨by omega, hj, h.ways.same fun i hi => ?_, by rw [e]; exact h.num, by rw [e]; exact h.den⟩
  rcases (show i < j ∨ i = j ∨ j < i by omega) with hlt | rfl | hgt
  · rw [if_pos hlt, if_pos (by omega)]
  · rw [if_neg (by omega), if_pos (by omega), wayN]
    by_cases hs : stopAt k st (n + 1) i
    · rw [if_pos hs]
      have := hs.2.2
      omega
    · rw [if_neg hs]
  · rw [if_neg (by omega), if_neg (by omega)]
/-- what is at j is taken -/
theorem FailOut.take {k : Nat} {st : Nat → Nat} {n j : Nat} {sv : Nat → SV} {sp sq sp' sq' nil : SV} (h : FailOut k st n j sv sp sq) (hj : j < k) (hn : st j ≤ n + 1) (hnil : Nats nil 0)
    (hp : Nats sp' (redP (failN k st n * k + outN k st n j + rawW k (wayN k st n) j) (k ^ (n + 1)))) (hq : Nats sq' (redQ (failN k st n * k + outN k st n j + rawW k (wayN k st n) j) (k ^ (n + 1)))) :
    FailOut k st n (j + 1) (fun i => if i = j then nil else sv i) sp' sq' := by
  have h1 := h.lo
  have hs : stopAt k st (n + 1) j := ⟨h1, hj, hn⟩
  have e : failN k st n * k + outN k st n (j + 1) = failN k st n * k + outN k st n j + rawW k (wayN k st n) j := by
    rw [outN_step, if_pos hs]
    omega
  refine ⟨by omega, hj, h.ways.put (ix := j) (by rw [if_pos (by omega), wayN, if_pos hs]; exact hnil) fun i hi hne => ?_, by rw [e]; exact hp, by rw [e]; exact hq⟩
  by_cases hlt : i < j
  · rw [if_pos hlt, if_pos (by omega)]
  · rw [if_neg hlt, if_neg (by omega)]

set_option maxHeartbeats 1000000 in
set_option maxRecDepth 100000 in
theorem stFailC (F : Frm) (kk : Nat) (hkk : kk ≤ 16) (hkk1 : 1 ≤ kk) {sp sq : SV} {p q : Nat} (hp : Nats sp p) (hq : Nats sq q) (h0 : 0 < p) (h1 : p < q) (h2 : q < 1073741824) :
    Contract F Try.prog 25 [.i .i64 kk, frS false sp sq] (FailPost kk p q) := by
  have hp' := hp
  have hq' := hq
  obtain ⟨a1, c1, z1, r1, x1, rfl, _⟩ := hp
  obtain ⟨a2, c2, z2, r2, x2, rfl, _⟩ := hq
  refine contract_of Try.func25 rfl (by kernel_rfl) ?_
  simp only [Try.ntmps25, argEnv, frS]
  have ek1 : IntKind.i64.wrap ((kk : Int) + 1) = ((kk + 1 : Nat) : Int) := by rw [w64 (by omega)]; omega
  (repeat refine Sat.seq ?_)
  (refine Sat.region_k fun k hk => ?_; simp -implicitDefEqProofs only [evr, id, reduceCtorEq, reduceIte, Nat.reduceMul, Nat.reduceAdd, Nat.reduceLT, Nat.reduceLeDiff, Nat.reduceEqDiff, Int.reduceLT, Int.reduceBEq, Int.reduceBNe, Nat.reduceBEq, List.append_nil, Int.toNat_zero, Nat.sub_self, frS])
  intro b3 b4
  (refine hk _ ?_; clear hk k; try show Sat _ _ _ _ _)
  (repeat refine Sat.seq ?_)
  refine Sat.region_at ⟨116, [(24, .b false), (3, .op 0 b3 0), (4, .op 1 b4 0), (0, .i .i64 kk)], [.box b3 30 [.b false, .sl a1 x1.length c1 z1 r1, .sl a2 x2.length c2 z2 r2], .box b4 30 [.b false, .sl none 0 0 0 (fun _ _ => .v undef), .sl none 0 0 0 (fun _ _ => .v undef)]]⟩ (fun k hk => ?_) ?_
  · simp -implicitDefEqProofs only [evr, id, reduceCtorEq, reduceIte, Nat.reduceMul, Nat.reduceAdd, Nat.reduceLT, Nat.reduceLeDiff, Nat.reduceEqDiff, Int.reduceLT, Int.reduceBEq, Int.reduceBNe, Nat.reduceBEq, List.append_nil, Int.toNat_zero, Nat.sub_self, frS]
    refine ⟨fun h => by omega, fun h => ⟨fun h => by omega, fun h => ?_⟩⟩
    refine wcall_plain (stChanceC F hp' hq' h0 h1 (lt_pw (a := 31) (by omega) (by decide))) (by simp -implicitDefEqProofs only [evr, id, reduceCtorEq, reduceIte, Nat.reduceMul, Nat.reduceAdd, Nat.reduceLT, Nat.reduceLeDiff, Nat.reduceEqDiff, Int.reduceLT, Int.reduceBEq, Int.reduceBNe, Nat.reduceBEq, List.append_nil, Int.toNat_zero, Nat.sub_self, frS]; try rfl) (by rintro _ rfl; exact ok_plain rfl) ?_
    rintro y rfl
    simp -implicitDefEqProofs only [evr, id, reduceCtorEq, reduceIte, Nat.reduceMul, Nat.reduceAdd, Nat.reduceLT, Nat.reduceLeDiff, Nat.reduceEqDiff, Int.reduceLT, Int.reduceBEq, Int.reduceBNe, Nat.reduceBEq, List.append_nil, Int.toNat_zero, Nat.sub_self, frS]
    refine hk _ ?_
    simp -implicitDefEqProofs only [evr, id, reduceCtorEq, reduceIte, Nat.reduceMul, Nat.reduceAdd, Nat.reduceLT, Nat.reduceLeDiff, Nat.reduceEqDiff, Int.reduceLT, Int.reduceBEq, Int.reduceBNe, Nat.reduceBEq, List.append_nil, Int.toNat_zero, Nat.sub_self, frS, evl]
    try rfl
  simp only [thenK]
  refine Sat.cond_b rfl (fun h => by cases h) (fun h => ?_)
  refine Sat.skip ?_
  simp only [thenK]
  (repeat refine Sat.seq ?_)
  (refine Sat.region_k fun k hk => ?_; simp -implicitDefEqProofs only [evr, id, reduceCtorEq, reduceIte, Nat.reduceMul, Nat.reduceAdd, Nat.reduceLT, Nat.reduceLeDiff, Nat.reduceEqDiff, Int.reduceLT, Int.reduceBEq, Int.reduceBNe, Nat.reduceBEq, List.append_nil, Int.toNat_zero, Nat.sub_self, frS])
  refine wcall_slice (limitsC F kk hkk hkk1 hp' hq' h0 h1 h2) rfl (by simp -implicitDefEqProofs only [evr, id, reduceCtorEq, reduceIte, Nat.reduceMul, Nat.reduceAdd, Nat.reduceLT, Nat.reduceLeDiff, Nat.reduceEqDiff, Int.reduceLT, Int.reduceBEq, Int.reduceBNe, Nat.reduceBEq, List.append_nil, Int.toNat_zero, Nat.sub_self, frS]; try rfl) ?_
  rintro r (⟨st, av, cv, rs, hst, rfl, hrs⟩ | ⟨hbe, av, ls, cv, zs, rs, rfl⟩)
  · simp -implicitDefEqProofs only [evr, id, reduceCtorEq, reduceIte, Nat.reduceMul, Nat.reduceAdd, Nat.reduceLT, Nat.reduceLeDiff, Nat.reduceEqDiff, Int.reduceLT, Int.reduceBEq, Int.reduceBNe, Nat.reduceBEq, List.append_nil, Int.toNat_zero, Nat.sub_self, frS]
    (refine hk _ ?_; clear hk k; try show Sat _ _ _ _ _)
    (repeat refine Sat.seq ?_)
    (refine Sat.region_k fun k hk => ?_; simp -implicitDefEqProofs only [evr, id, reduceCtorEq, reduceIte, Nat.reduceMul, Nat.reduceAdd, Nat.reduceLT, Nat.reduceLeDiff, Nat.reduceEqDiff, Int.reduceLT, Int.reduceBEq, Int.reduceBNe, Nat.reduceBEq, List.append_nil, Int.toNat_zero, Nat.sub_self, frS]; refine hk _ ?_; clear hk k; try show Sat _ _ _ _ _)
    refine Sat.cond_b rfl (fun h => absurd h (by decide)) (fun h => ?_)
    refine Sat.skip ?_
    simp only [thenK]
    (repeat refine Sat.seq ?_)
    refine Sat.region_k fun k hk => ?_
    simp -implicitDefEqProofs only [evr, id, reduceCtorEq, reduceIte, Nat.reduceMul, Nat.reduceAdd, Nat.reduceLT, Nat.reduceLeDiff, Nat.reduceEqDiff, Int.reduceLT, Int.reduceBEq, Int.reduceBNe, Nat.reduceBEq, List.append_nil, Int.toNat_zero, Nat.sub_self, frS, ek1]
    refine ⟨by omega, fun aw cw => ?_⟩
    (refine hk _ ?_; clear hk k; try show Sat _ _ _ _ _)
    (repeat refine Sat.seq ?_)
    (refine Sat.region_k fun k hk => ?_; simp -implicitDefEqProofs only [evr, id, reduceCtorEq, reduceIte, Nat.reduceMul, Nat.reduceAdd, Nat.reduceLT, Nat.reduceLeDiff, Nat.reduceEqDiff, Int.reduceLT, Int.reduceBEq, Int.reduceBNe, Nat.reduceBEq, List.append_nil, Int.toNat_zero, Nat.sub_self, frS])
    refine wcall_slice (stSmallC F 1 (by decide)) rfl rfl ?_
    intro y hy
    have hy1 := hy
    obtain ⟨a3, c3, z3, r3, x3, rfl, _⟩ := hy
    simp -implicitDefEqProofs only [evr, id, reduceCtorEq, reduceIte, Nat.reduceMul, Nat.reduceAdd, Nat.reduceLT, Nat.reduceLeDiff, Nat.reduceEqDiff, Int.reduceLT, Int.reduceBEq, Int.reduceBNe, Nat.reduceBEq, List.append_nil, Int.toNat_zero, Nat.sub_self, frS]
    refine ⟨by omega, by omega, ?_⟩
    (refine hk _ ?_; clear hk k; try show Sat _ _ _ _ _)
    (repeat refine Sat.seq ?_)
    (refine Sat.region_k fun k hk => ?_; simp -implicitDefEqProofs only [evr, id, reduceCtorEq, reduceIte, Nat.reduceMul, Nat.reduceAdd, Nat.reduceLT, Nat.reduceLeDiff, Nat.reduceEqDiff, Int.reduceLT, Int.reduceBEq, Int.reduceBNe, Nat.reduceBEq, List.append_nil, Int.toNat_zero, Nat.sub_self, frS])
    refine wcall_slice (stSmallC F 1 (by decide)) rfl rfl ?_
    intro y hy
    have hy2 := hy
    obtain ⟨a4, c4, z4, r4, x4, rfl, _⟩ := hy
    simp -implicitDefEqProofs only [evr, id, reduceCtorEq, reduceIte, Nat.reduceMul, Nat.reduceAdd, Nat.reduceLT, Nat.reduceLeDiff, Nat.reduceEqDiff, Int.reduceLT, Int.reduceBEq, Int.reduceBNe, Nat.reduceBEq, List.append_nil, Int.toNat_zero, Nat.sub_self, frS]
    (refine hk _ ?_; clear hk k; try show Sat _ _ _ _ _)
    (repeat refine Sat.seq ?_)
    (refine Sat.region_k fun k hk => ?_; simp -implicitDefEqProofs only [evr, id, reduceCtorEq, reduceIte, Nat.reduceMul, Nat.reduceAdd, Nat.reduceLT, Nat.reduceLeDiff, Nat.reduceEqDiff, Int.reduceLT, Int.reduceBEq, Int.reduceBNe, Nat.reduceBEq, List.append_nil, Int.toNat_zero, Nat.sub_self, frS])
    refine wcall_slice (stSmallC F 1 (by decide)) rfl rfl ?_
    intro y hy
    have hy3 := hy
    obtain ⟨a5, c5, z5, r5, x5, rfl, _⟩ := hy
    simp -implicitDefEqProofs only [evr, id, reduceCtorEq, reduceIte, Nat.reduceMul, Nat.reduceAdd, Nat.reduceLT, Nat.reduceLeDiff, Nat.reduceEqDiff, Int.reduceLT, Int.reduceBEq, Int.reduceBNe, Nat.reduceBEq, List.append_nil, Int.toNat_zero, Nat.sub_self, frS]
    intro b10
    (refine hk _ ?_; clear hk k; try show Sat _ _ _ _ _)
    (repeat refine Sat.seq ?_)
    (refine Sat.region_k fun k hk => ?_; simp -implicitDefEqProofs only [evr, id, reduceCtorEq, reduceIte, Nat.reduceMul, Nat.reduceAdd, Nat.reduceLT, Nat.reduceLeDiff, Nat.reduceEqDiff, Int.reduceLT, Int.reduceBEq, Int.reduceBNe, Nat.reduceBEq, List.append_nil, Int.toNat_zero, Nat.sub_self, frS]; refine hk _ ?_; clear hk k; try show Sat _ _ _ _ _)
    refine Sat.block ?_
    (repeat refine Sat.seq ?_)
    refine Sat.loop (ι := Nat × (Nat → SV) × SV × SV × SV) (fun x => ⟨116, [(11, .i .i64 ((x.1 + 1 : Nat) : Int)), (9, x.2.2.1), (8, .os 2 aw (kk + 1) cw), (6, .sl av kk cv 1 rs), (10, .op 3 b10 0), (0, .i .i64 kk), (4, .op 1 b4 0)], [.box b3 30 [.b false, .sl a1 x1.length c1 z1 r1, .sl a2 x2.length c2 z2 r2], .box b4 30 [.b false, .sl none 0 0 0 (fun _ _ => .v undef), .sl none 0 0 0 (fun _ _ => .v undef)], .row aw 28 (kk + 1) cw 1 (fun i _ => x.2.1 i), .box b10 30 [.b false, x.2.2.2.1, x.2.2.2.2]]⟩)
      (fun x => x.1 ≤ 128 ∧ FailInv kk st x.1 x.2.1 x.2.2.1 x.2.2.2.1 x.2.2.2.2) (fun x => 128 - x.1)
      (0, (fun i => if i = 0 then .sl a3 x3.length c3 z3 r3 else .sl none 0 0 0 (fun _ _ => .v undef)), .sl a4 x4.length c4 z4 r4, .sl none 0 0 0 (fun _ _ => .v undef), .sl a5 x5.length c5 z5 r5) ⟨Nat.zero_le _, ?_⟩ (by simp -implicitDefEqProofs only [evr, id, reduceCtorEq, reduceIte, Nat.reduceMul, Nat.reduceAdd, Nat.reduceLT, Nat.reduceLeDiff, Nat.reduceEqDiff, Int.reduceLT, Int.reduceBEq, Int.reduceBNe, Nat.reduceBEq, List.append_nil, Int.toNat_zero, Nat.sub_self, frS, evl]; exact ⟨rfl, rd_new⟩) ?_
    · refine ⟨by rw [Nat.pow_zero]; exact hy2, fun i hi => ?_, ?_, ?_⟩
      · by_cases e : i = 0
        · subst e; exact hy1
        · simp only [e, if_false, wayN]; exact Nats.nil
      · have e : redP (failN kk st 0) (kk ^ 0) = 0 := by simp [redP, failN]
        rw [e]; exact Nats.nil
      · have e : redQ (failN kk st 0) (kk ^ 0) = 1 := by simp [redQ, failN]
        rw [e]; exact hy3
    rintro ⟨n, sv, sa, sp, sq⟩ ⟨hn, hinv⟩
    simp only at hn hinv ⊢
    obtain ⟨ha, hway, hnum, hden⟩ := hinv
    have hinv : FailInv kk st n sv sa sp sq := ⟨ha, hway, hnum, hden⟩
    have ha' := ha
    have hnum' := hnum
    have hden' := hden
    obtain ⟨a6, c6, z6, r6, x6, rfl, _⟩ := ha
    obtain ⟨a7, c7, z7, r7, x7, rfl, _⟩ := hnum
    obtain ⟨a8, c8, z8, r8, x8, rfl, _⟩ := hden
    (repeat refine Sat.seq ?_)
    (refine Sat.region_k fun k hk => ?_; simp -implicitDefEqProofs only [evr, id, reduceCtorEq, reduceIte, Nat.reduceMul, Nat.reduceAdd, Nat.reduceLT, Nat.reduceLeDiff, Nat.reduceEqDiff, Int.reduceLT, Int.reduceBEq, Int.reduceBNe, Nat.reduceBEq, List.append_nil, Int.toNat_zero, Nat.sub_self, frS]; refine hk _ ?_; clear hk k; try show Sat _ _ _ _ _)
    (repeat refine Sat.seq ?_)
    refine Sat.cond_b rfl (fun h => ?_) (fun h => ?_)
    · simp only [decide_eq_true_eq] at h
      have hn1 : n + 1 ≤ 128 := by omega
      have bn := kn_le (k := kk) (n := n + 1) hkk hn1
      have bn0 := kn_le (k := kk) (n := n) hkk (by omega)
      have en1 : IntKind.i64.wrap (((n + 1 : Nat) : Int) + 1) = ((n + 1 + 1 : Nat) : Int) := by rw [w64 (by omega)]; omega
      refine Sat.skip ?_
      simp only [thenK]
      (repeat refine Sat.seq ?_)
      refine Sat.block ?_
      (repeat refine Sat.seq ?_)
      (refine Sat.region_k fun k hk => ?_; simp -implicitDefEqProofs only [evr, id, reduceCtorEq, reduceIte, Nat.reduceMul, Nat.reduceAdd, Nat.reduceLT, Nat.reduceLeDiff, Nat.reduceEqDiff, Int.reduceLT, Int.reduceBEq, Int.reduceBNe, Nat.reduceBEq, List.append_nil, Int.toNat_zero, Nat.sub_self, frS])
      refine wcall_slice (stSmallC F kk (by omega)) rfl rfl ?_
      intro y hy
      have hk9 := hy
      obtain ⟨a9, c9, z9, r9, x9, rfl, _⟩ := hy
      simp -implicitDefEqProofs only [evr, id, reduceCtorEq, reduceIte, Nat.reduceMul, Nat.reduceAdd, Nat.reduceLT, Nat.reduceLeDiff, Nat.reduceEqDiff, Int.reduceLT, Int.reduceBEq, Int.reduceBNe, Nat.reduceBEq, List.append_nil, Int.toNat_zero, Nat.sub_self, frS]
      refine wcall_slice (stTimesC F ha' hk9 (lt_pw bn0 (by rw [xb_eq]; decide)) (lt_pw (a := 5) (by omega) (by decide)) (by rw [← Nat.pow_succ]; exact lt_pw bn (by rw [xb_eq]; decide))) rfl rfl ?_
      intro y hy
      rw [← Nat.pow_succ] at hy
      have hall := hy
      obtain ⟨a10, c10, z10, r10, x10, rfl, _⟩ := hy
      simp -implicitDefEqProofs only [evr, id, reduceCtorEq, reduceIte, Nat.reduceMul, Nat.reduceAdd, Nat.reduceLT, Nat.reduceLeDiff, Nat.reduceEqDiff, Int.reduceLT, Int.reduceBEq, Int.reduceBNe, Nat.reduceBEq, List.append_nil, Int.toNat_zero, Nat.sub_self, frS]
      (refine hk _ ?_; clear hk k; try show Sat _ _ _ _ _)
      (repeat refine Sat.seq ?_)
      (refine Sat.region_k fun k hk => ?_; simp -implicitDefEqProofs only [evr, id, reduceCtorEq, reduceIte, Nat.reduceMul, Nat.reduceAdd, Nat.reduceLT, Nat.reduceLeDiff, Nat.reduceEqDiff, Int.reduceLT, Int.reduceBEq, Int.reduceBNe, Nat.reduceBEq, List.append_nil, Int.toNat_zero, Nat.sub_self, frS]; refine hk _ ?_; clear hk k; try show Sat _ _ _ _ _)
      (repeat refine Sat.seq ?_)
      refine Sat.block ?_
      (repeat refine Sat.seq ?_)
      refine Sat.loop (ι := Nat × (Nat → SV)) (fun x => ⟨116, [(12, .i .i64 (x.1 : Int)), (11, .i .i64 ((n + 1 : Nat) : Int)), (9, .sl a10 x10.length c10 z10 r10), (8, .os 2 aw (kk + 1) cw), (6, .sl av kk cv 1 rs), (10, .op 3 b10 0), (0, .i .i64 kk), (4, .op 1 b4 0)], [.box b3 30 [.b false, .sl a1 x1.length c1 z1 r1, .sl a2 x2.length c2 z2 r2], .box b4 30 [.b false, .sl none 0 0 0 (fun _ _ => .v undef), .sl none 0 0 0 (fun _ _ => .v undef)], .row aw 28 (kk + 1) cw 1 (fun i _ => x.2 i), .box b10 30 [.b false, .sl a7 x7.length c7 z7 r7, .sl a8 x8.length c8 z8 r8]]⟩)
        (fun x => FailRow kk st n x.1 x.2) (fun x => x.1) (kk, sv) ⟨Nat.le_refl _, hway.same fun i hi => by rw [if_neg (by omega)]⟩ (by simp -implicitDefEqProofs only [evr, id, reduceCtorEq, reduceIte, Nat.reduceMul, Nat.reduceAdd, Nat.reduceLT, Nat.reduceLeDiff, Nat.reduceEqDiff, Int.reduceLT, Int.reduceBEq, Int.reduceBNe, Nat.reduceBEq, List.append_nil, Int.toNat_zero, Nat.sub_self, frS, evl]) ?_
      rintro ⟨j, sv1⟩ hrow
      simp only at hrow ⊢
      have hjk := hrow.le
      (repeat refine Sat.seq ?_)
      (refine Sat.region_k fun k hk => ?_; simp -implicitDefEqProofs only [evr, id, reduceCtorEq, reduceIte, Nat.reduceMul, Nat.reduceAdd, Nat.reduceLT, Nat.reduceLeDiff, Nat.reduceEqDiff, Int.reduceLT, Int.reduceBEq, Int.reduceBNe, Nat.reduceBEq, List.append_nil, Int.toNat_zero, Nat.sub_self, frS]; refine hk _ ?_; clear hk k; try show Sat _ _ _ _ _)
      (repeat refine Sat.seq ?_)
      refine Sat.cond_b rfl (fun h => ?_) (fun h => ?_)
      · simp only [decide_eq_true_eq] at h
        obtain ⟨i, rfl⟩ : ∃ i, j = i + 1 := ⟨j - 1, by omega⟩
        have hwa := hrow.old (i := i + 1) (Nat.le_refl _)
        have hwb := hrow.old (i := i) (by omega)
        have hwa' := hwa
        have hwb' := hwb
        obtain ⟨a11, c11, z11, r11, x11, ea, _⟩ := hwa
        obtain ⟨a12, c12, z12, r12, x12, eb, _⟩ := hwb
        rw [ea] at hwa'
        rw [eb] at hwb'
        have ei1 : IntKind.i64.wrap (((i + 1 : Nat) : Int) - 1) = (i : Int) := by rw [w64 (by omega)]; omega
        have ei2 : IntKind.i64.wrap ((kk : Int) - ((i + 1 : Nat) : Int)) = ((kk - (i + 1) : Nat) : Int) := by rw [w64 (by omega)]; omega
        have ei3 : IntKind.i64.wrap (((kk - (i + 1) : Nat) : Int) + 1) = ((kk - (i + 1) + 1 : Nat) : Int) := by rw [w64 (by omega)]; omega
        refine Sat.skip ?_
        simp only [thenK]
        (repeat refine Sat.seq ?_)
        refine Sat.block ?_
        (repeat refine Sat.seq ?_)
        have bwa := Nat.le_trans (wayN_le kk st n (j := i + 1) hjk) bn0
        have bwb := Nat.le_trans (wayN_le kk st n (j := i) (by omega)) bn0
        have bi : i + 1 ≤ 2 ^ 5 := by omega
        have bk : kk - (i + 1) + 1 ≤ 2 ^ 5 := by omega
        have bma := mul_two bwa bi
        have bmb := mul_two bwb bk
        (refine Sat.region_rows [⟨0, 59, 256, 0⟩, ⟨0, 60, 4096, 0⟩, ⟨0, 61, 256, 0⟩, ⟨0, 62, 4096, 0⟩, ⟨12, 63, 3458764513820540928, 0⟩, ⟨16, 64, 4611686018427387904, 1⟩, ⟨0, 65, 4096, 0⟩, ⟨64, 66, 18446744073709551616, 2⟩, ⟨160, 67, 46116860184273879040, 2⟩, ⟨0, 68, 256, 0⟩, ⟨0, 69, 4096, 0⟩, ⟨1024, 70, 295147905179352825856, 0⟩, ⟨2560, 71, 737869762948382064640, 0⟩, ⟨4096, 72, 1180591620717411303424, 1⟩, ⟨0, 73, 1, 0⟩, ⟨0, 74, 4096, 0⟩, ⟨49152, 75, 14167099448608935641088, 0⟩, ⟨65536, 76, 18889465931478580854784, 0⟩, ⟨131328, 77, 37778931862957161709568, 2⟩, ⟨270336, 78, 77919046967349146025984, 2⟩, ⟨524544, 79, 151189514428123485044736, 2⟩, ⟨2097151, 80, 864691128455135232, 0⟩, ⟨4194303, 0, 906694364710971881029632, 2⟩] [0, 1, 2, 3, 4, 6, 9, 10, 11, 12, 14, 15, 16, 17, 5, 13] [(7, false), (8, false), (18, false), (19, false), (20, false), (21, false), (22, false)] [7, 8, 18] (by kernel_rfl) (by kernel_rfl) (fun _ _ h => h) fun k hk => ?_; simp only [List.map_cons, List.map_nil, List.getD_cons_zero, List.getD_cons_succ, btseq_cons, btseq_free, btseq_nil]; simp -implicitDefEqProofs only [evr, id, reduceCtorEq, reduceIte, Nat.reduceMul, Nat.reduceAdd, Nat.reduceLT, Nat.reduceLeDiff, Nat.reduceEqDiff, Int.reduceLT, Int.reduceBEq, Int.reduceBNe, Nat.reduceBEq, List.append_nil, Int.toNat_zero, Nat.sub_self, frS])
        simp only [ei1, ei2, ei3, Int.toNat_natCast]
        refine ⟨by omega, by omega, by omega, by omega, ?_⟩
        rw [ea, eb]
        refine wcall_slice (stSmallC F (i + 1) (by omega)) rfl rfl ?_
        intro y hy
        have hq1 := hy
        obtain ⟨a13, c13, z13, r13, x13, rfl, _⟩ := hy
        simp -implicitDefEqProofs only [evr, id, reduceCtorEq, reduceIte, Nat.reduceMul, Nat.reduceAdd, Nat.reduceLT, Nat.reduceLeDiff, Nat.reduceEqDiff, Int.reduceLT, Int.reduceBEq, Int.reduceBNe, Nat.reduceBEq, List.append_nil, Int.toNat_zero, Nat.sub_self, frS]
        refine wcall_slice (stTimesC F hwa' hq1 (lt_pw bwa (by rw [xb_eq]; decide)) (lt_pw bi (by decide)) (lt_pw bma (by rw [xb_eq]; decide))) rfl rfl ?_
        intro y hy
        have hq2 := hy
        obtain ⟨a14, c14, z14, r14, x14, rfl, _⟩ := hy
        simp -implicitDefEqProofs only [evr, id, reduceCtorEq, reduceIte, Nat.reduceMul, Nat.reduceAdd, Nat.reduceLT, Nat.reduceLeDiff, Nat.reduceEqDiff, Int.reduceLT, Int.reduceBEq, Int.reduceBNe, Nat.reduceBEq, List.append_nil, Int.toNat_zero, Nat.sub_self, frS]
        refine wcall_slice (stSmallC F (kk - (i + 1) + 1) (by omega)) rfl rfl ?_
        intro y hy
        have hq3 := hy
        obtain ⟨a15, c15, z15, r15, x15, rfl, _⟩ := hy
        simp -implicitDefEqProofs only [evr, id, reduceCtorEq, reduceIte, Nat.reduceMul, Nat.reduceAdd, Nat.reduceLT, Nat.reduceLeDiff, Nat.reduceEqDiff, Int.reduceLT, Int.reduceBEq, Int.reduceBNe, Nat.reduceBEq, List.append_nil, Int.toNat_zero, Nat.sub_self, frS]
        refine wcall_slice (stTimesC F hwb' hq3 (lt_pw bwb (by rw [xb_eq]; decide)) (lt_pw bk (by decide)) (lt_pw bmb (by rw [xb_eq]; decide))) rfl rfl ?_
        intro y hy
        have hq4 := hy
        obtain ⟨a16, c16, z16, r16, x16, rfl, _⟩ := hy
        simp -implicitDefEqProofs only [evr, id, reduceCtorEq, reduceIte, Nat.reduceMul, Nat.reduceAdd, Nat.reduceLT, Nat.reduceLeDiff, Nat.reduceEqDiff, Int.reduceLT, Int.reduceBEq, Int.reduceBNe, Nat.reduceBEq, List.append_nil, Int.toNat_zero, Nat.sub_self, frS]
        refine wcall_slice (stPlusC F hq2 hq4 (lt_pw_add bma bmb (by rw [xb_eq]; decide))) rfl rfl ?_
        intro y hy
        have hq5 := hy
        obtain ⟨a17, c17, z17, r17, x17, rfl, _⟩ := hy
        simp -implicitDefEqProofs only [evr, id, reduceCtorEq, reduceIte, Nat.reduceMul, Nat.reduceAdd, Nat.reduceLT, Nat.reduceLeDiff, Nat.reduceEqDiff, Int.reduceLT, Int.reduceBEq, Int.reduceBNe, Nat.reduceBEq, List.append_nil, Int.toNat_zero, Nat.sub_self, frS]
        refine ⟨by omega, by omega, ?_⟩
        refine hk _ ?_
        clear hk k
        simp only [thenK, blockK]
        (repeat refine Sat.seq ?_)
        refine Sat.region_k fun k hk => ?_
        simp -implicitDefEqProofs only [evr, id, reduceCtorEq, reduceIte, Nat.reduceMul, Nat.reduceAdd, Nat.reduceLT, Nat.reduceLeDiff, Nat.reduceEqDiff, Int.reduceLT, Int.reduceBEq, Int.reduceBNe, Nat.reduceBEq, List.append_nil, Int.toNat_zero, Nat.sub_self, frS, ei1]
        refine hk _ ?_
        simp only [thenK, blockK]
        refine ⟨(i, fun x => if x = i + 1 then .sl a17 x17.length c17 z17 r17 else sv1 x), hrow.step hq5, by show i < i + 1; omega, ?_⟩
        simp -implicitDefEqProofs only [evr, id, reduceCtorEq, reduceIte, Nat.reduceMul, Nat.reduceAdd, Nat.reduceLT, Nat.reduceLeDiff, Nat.reduceEqDiff, Int.reduceLT, Int.reduceBEq, Int.reduceBNe, Nat.reduceBEq, List.append_nil, Int.toNat_zero, Nat.sub_self, frS, evl]
        exact rd_put
      · simp only [decide_eq_false_iff_not] at h
        obtain rfl : j = 0 := by omega
        refine Sat.exit ?_
        simp only [thenK, blockK, reduceIte]
        (repeat refine Sat.seq ?_)
        (refine Sat.region_k fun k hk => ?_; simp -implicitDefEqProofs only [evr, id, reduceCtorEq, reduceIte, Nat.reduceMul, Nat.reduceAdd, Nat.reduceLT, Nat.reduceLeDiff, Nat.reduceEqDiff, Int.reduceLT, Int.reduceBEq, Int.reduceBNe, Nat.reduceBEq, List.append_nil, Int.toNat_zero, Nat.sub_self, frS])
        refine ⟨by omega, by omega, ?_⟩
        (refine hk _ ?_; clear hk k; try show Sat _ _ _ _ _)
        have hraw := hrow.done (s := .sl none 0 0 0 (fun _ _ => .v undef)) Nats.nil
        have hout := FailOut.start hkk1 hinv hraw
        clear hrow hraw
        (repeat refine Sat.seq ?_)
        (refine Sat.region_k fun k hk => ?_; simp -implicitDefEqProofs only [evr, id, reduceCtorEq, reduceIte, Nat.reduceMul, Nat.reduceAdd, Nat.reduceLT, Nat.reduceLeDiff, Nat.reduceEqDiff, Int.reduceLT, Int.reduceBEq, Int.reduceBNe, Nat.reduceBEq, List.append_nil, Int.toNat_zero, Nat.sub_self, frS]; refine hk _ ?_; clear hk k; try show Sat _ _ _ _ _)
        (repeat refine Sat.seq ?_)
        refine Sat.block ?_
        (repeat refine Sat.seq ?_)
        refine Sat.loop (ι := Nat × (Nat → SV) × SV × SV) (fun x => ⟨116, [(13, .i .i64 (x.1 : Int)), (11, .i .i64 ((n + 1 : Nat) : Int)), (9, .sl a10 x10.length c10 z10 r10), (8, .os 2 aw (kk + 1) cw), (6, .sl av kk cv 1 rs), (10, .op 3 b10 0), (0, .i .i64 kk), (4, .op 1 b4 0)], [.box b3 30 [.b false, .sl a1 x1.length c1 z1 r1, .sl a2 x2.length c2 z2 r2], .box b4 30 [.b false, .sl none 0 0 0 (fun _ _ => .v undef), .sl none 0 0 0 (fun _ _ => .v undef)], .row aw 28 (kk + 1) cw 1 (fun i _ => x.2.1 i), .box b10 30 [.b false, x.2.2.1, x.2.2.2]]⟩)
          (fun x => FailOut kk st n x.1 x.2.1 x.2.2.1 x.2.2.2) (fun x => kk - x.1) (1, _, _, _) hout (by simp -implicitDefEqProofs only [evr, id, reduceCtorEq, reduceIte, Nat.reduceMul, Nat.reduceAdd, Nat.reduceLT, Nat.reduceLeDiff, Nat.reduceEqDiff, Int.reduceLT, Int.reduceBEq, Int.reduceBNe, Nat.reduceBEq, List.append_nil, Int.toNat_zero, Nat.sub_self, frS, evl]; exact ⟨rfl, rd_put⟩) ?_
        clear hout
        rintro ⟨j, sv2, sp2, sq2⟩ hout
        simp only at hout ⊢
        have hj1 := hout.lo
        have hjk := hout.le
        have hnum2 := hout.num
        have hden2 := hout.den
        have hnum3 := hnum2
        have hden3 := hden2
        obtain ⟨a18, c18, z18, r18, x18, rfl, _⟩ := hnum2
        obtain ⟨a19, c19, z19, r19, x19, rfl, _⟩ := hden2
        (repeat refine Sat.seq ?_)
        (refine Sat.region_k fun k hk => ?_; simp -implicitDefEqProofs only [evr, id, reduceCtorEq, reduceIte, Nat.reduceMul, Nat.reduceAdd, Nat.reduceLT, Nat.reduceLeDiff, Nat.reduceEqDiff, Int.reduceLT, Int.reduceBEq, Int.reduceBNe, Nat.reduceBEq, List.append_nil, Int.toNat_zero, Nat.sub_self, frS]; refine hk _ ?_; clear hk k; try show Sat _ _ _ _ _)
        (repeat refine Sat.seq ?_)
        refine Sat.cond_b rfl (fun h => ?_) (fun h => ?_)
        · simp only [decide_eq_true_eq] at h
          have hjlt : j < kk := by omega
          have ej1 : IntKind.i64.wrap ((j : Int) + 1) = ((j + 1 : Nat) : Int) := by rw [w64 (by omega)]; omega
          have hwj : Nats (sv2 j) (rawW kk (wayN kk st n) j) := by
            have := hout.ways j hjk
            simp only at this
            rwa [if_neg (by omega)] at this
          have hwj' := hwj
          obtain ⟨a20, c20, z20, r20, x20, ej, _⟩ := hwj
          rw [ej] at hwj'
          have hlj := hwj'.len
          refine Sat.skip ?_
          simp only [thenK]
          (repeat refine Sat.seq ?_)
          refine Sat.block ?_
          (repeat refine Sat.seq ?_)
          refine Sat.region_at ⟨116, [(100, .b (decide (st j ≤ n + 1 ∧ 0 < rawW kk (wayN kk st n) j))), (13, .i .i64 (j : Int)), (11, .i .i64 ((n + 1 : Nat) : Int)), (9, .sl a10 x10.length c10 z10 r10), (8, .os 2 aw (kk + 1) cw), (6, .sl av kk cv 1 rs), (10, .op 3 b10 0), (0, .i .i64 kk), (4, .op 1 b4 0)], [.box b3 30 [.b false, .sl a1 x1.length c1 z1 r1, .sl a2 x2.length c2 z2 r2], .box b4 30 [.b false, .sl none 0 0 0 (fun _ _ => .v undef), .sl none 0 0 0 (fun _ _ => .v undef)], .row aw 28 (kk + 1) cw 1 (fun i _ => sv2 i), .box b10 30 [.b false, .sl a18 x18.length c18 z18 r18, .sl a19 x19.length c19 z19 r19]]⟩ (fun k hk => ?_) ?_
          · simp -implicitDefEqProofs only [evr, id, reduceCtorEq, reduceIte, Nat.reduceMul, Nat.reduceAdd, Nat.reduceLT, Nat.reduceLeDiff, Nat.reduceEqDiff, Int.reduceLT, Int.reduceBEq, Int.reduceBNe, Nat.reduceBEq, List.append_nil, Int.toNat_zero, Nat.sub_self, frS]
            refine ⟨by omega, ?_⟩
            rw [hrs j hj1 hjlt]
            simp -implicitDefEqProofs only [evr, id, reduceCtorEq, reduceIte, Nat.reduceMul, Nat.reduceAdd, Nat.reduceLT, Nat.reduceLeDiff, Nat.reduceEqDiff, Int.reduceLT, Int.reduceBEq, Int.reduceBNe, Nat.reduceBEq, List.append_nil, Int.toNat_zero, Nat.sub_self, frS]
            refine ⟨fun h9 => ⟨by omega, by omega, ?_⟩, fun h9 => ?_⟩
            · rw [ej]
              simp -implicitDefEqProofs only [evr, id, reduceCtorEq, reduceIte, Nat.reduceMul, Nat.reduceAdd, Nat.reduceLT, Nat.reduceLeDiff, Nat.reduceEqDiff, Int.reduceLT, Int.reduceBEq, Int.reduceBNe, Nat.reduceBEq, List.append_nil, Int.toNat_zero, Nat.sub_self, frS, hlj]
              refine hk _ ?_
              have e : decide (st j ≤ n + 1 ∧ 0 < rawW kk (wayN kk st n) j) = decide (0 < rawW kk (wayN kk st n) j) := by
                have : st j ≤ n + 1 := by omega
                simp [this]
              rw [e]
              simp -implicitDefEqProofs only [evr, id, reduceCtorEq, reduceIte, Nat.reduceMul, Nat.reduceAdd, Nat.reduceLT, Nat.reduceLeDiff, Nat.reduceEqDiff, Int.reduceLT, Int.reduceBEq, Int.reduceBNe, Nat.reduceBEq, List.append_nil, Int.toNat_zero, Nat.sub_self, frS, evl]
            · refine hk _ ?_
              have e : decide (st j ≤ n + 1 ∧ 0 < rawW kk (wayN kk st n) j) = false := decide_eq_false fun h8 => h9 (by omega)
              rw [e]
              simp -implicitDefEqProofs only [evr, id, reduceCtorEq, reduceIte, Nat.reduceMul, Nat.reduceAdd, Nat.reduceLT, Nat.reduceLeDiff, Nat.reduceEqDiff, Int.reduceLT, Int.reduceBEq, Int.reduceBNe, Nat.reduceBEq, List.append_nil, Int.toNat_zero, Nat.sub_self, frS, evl]
          simp only [thenK]
          refine Sat.cond_b rfl (fun h => ?_) (fun h => ?_)
          · obtain ⟨h5, h6⟩ := of_decide_eq_true h
            have hb : 0 < kk ^ (n + 1) := Nat.pow_pos hkk1
            have hrs2 := red_sum (a := failN kk st n * kk + outN kk st n j) (b := kk ^ (n + 1)) (w := rawW kk (wayN kk st n) j) hb
            have bfo := outN_le kk st n (j := j) hjk
            have bfo2 := Nat.le_trans bfo bn
            have bra := Nat.le_trans (rawW_le kk st n (j := j) hjk) bn
            have bP := Nat.le_trans (redP_le (failN kk st n * kk + outN kk st n j) (kk ^ (n + 1))) bfo2
            have bQ := Nat.le_trans (redQ_le (failN kk st n * kk + outN kk st n j) (kk ^ (n + 1))) bn
            have hq0 := redQ_pos (a := failN kk st n * kk + outN kk st n j) hb
            have bo2 : failN kk st n * kk + outN kk st n j + rawW kk (wayN kk st n) j ≤ kk ^ (n + 1) := by
              have h8 := outN_le kk st n (j := j + 1) hjlt
              rw [outN_step, if_pos ⟨hj1, hjlt, h5⟩] at h8
              omega
            have eP : addP false (redP (failN kk st n * kk + outN kk st n j) (kk ^ (n + 1))) (redQ (failN kk st n * kk + outN kk st n j) (kk ^ (n + 1))) false (rawW kk (wayN kk st n) j) (kk ^ (n + 1)) = redP (failN kk st n * kk + outN kk st n j + rawW kk (wayN kk st n) j) (kk ^ (n + 1)) := hrs2.1
            have eQ : addQ false (redP (failN kk st n * kk + outN kk st n j) (kk ^ (n + 1))) (redQ (failN kk st n * kk + outN kk st n j) (kk ^ (n + 1))) false (rawW kk (wayN kk st n) j) (kk ^ (n + 1)) = redQ (failN kk st n * kk + outN kk st n j + rawW kk (wayN kk st n) j) (kk ^ (n + 1)) := hrs2.2
            have eN : addN false (redP (failN kk st n * kk + outN kk st n j) (kk ^ (n + 1))) (redQ (failN kk st n * kk + outN kk st n j) (kk ^ (n + 1))) false (rawW kk (wayN kk st n) j) (kk ^ (n + 1)) = false := rfl
            have hadd := fractionAddC F false false hnum3 hden3 hwj' hall (lt_pw bP (by rw [xb_eq]; decide)) (lt_pw bQ (by rw [xb_eq]; decide)) (lt_pw bra (by rw [xb_eq]; decide)) (lt_pw bn (by rw [xb_eq]; decide))
              (lt_pw (mul_two bP bn) (by rw [xb_eq]; decide)) (lt_pw (mul_two bra bQ) (by rw [xb_eq]; decide)) (lt_pw_add (mul_two bP bn) (mul_two bra bQ) (by rw [xb_eq]; decide)) (lt_pw (mul_two bQ bn) (by rw [xb_eq]; decide)) hq0 hb
            rw [eP, eQ, eN] at hadd
            have bP2 := Nat.le_trans (redP_le (failN kk st n * kk + outN kk st n j + rawW kk (wayN kk st n) j) (kk ^ (n + 1))) (Nat.le_trans bo2 bn)
            have bQ2 := Nat.le_trans (redQ_le (failN kk st n * kk + outN kk st n j + rawW kk (wayN kk st n) j) (kk ^ (n + 1))) bn
            have hok : frOk false (redP (failN kk st n * kk + outN kk st n j + rawW kk (wayN kk st n) j) (kk ^ (n + 1))) (redQ (failN kk st n * kk + outN kk st n j + rawW kk (wayN kk st n) j) (kk ^ (n + 1))) = true := by
              unfold frOk
              rw [decide_eq_true (lt_pw bP2 (by rw [xb_eq]; decide)), decide_eq_true (lt_pw bQ2 (by rw [xb_eq]; decide)), decide_eq_true (redQ_pos hb)]
              rfl
            rw [hok] at hadd
            (repeat refine Sat.seq ?_)
            (refine Sat.region_rows [⟨0, 103, 1024, 1⟩, ⟨0, 104, 256, 0⟩, ⟨0, 105, 8192, 0⟩, ⟨6, 106, 30423614405477505635920876929024, 0⟩, ⟨8, 107, 40564819207303340847894502572032, 1⟩, ⟨0, 108, 512, 0⟩, ⟨48, 109, 243388915243820045087367015432192, 2⟩, ⟨65, 110, 329589156059339644389142833397760, 2⟩, ⟨128, 102, 649037107316853453566312041152512, 0⟩, ⟨256, 111, 2535301200456458802993406410752, 0⟩, ⟨256, 112, 2535301200456458802993406410752, 0⟩, ⟨1023, 0, 1298074214633706907132624082306048, 2⟩] [1, 2, 3, 5, 0, 4] [(6, false), (7, false), (8, false), (9, true), (10, true), (11, false)] [6] (by kernel_rfl) (by kernel_rfl) (fun _ _ h => h) fun k hk => ?_; simp only [List.map_cons, List.map_nil, List.getD_cons_zero, List.getD_cons_succ, btseq_cons, btseq_free, btseq_nil]; simp -implicitDefEqProofs only [evr, id, reduceCtorEq, reduceIte, Nat.reduceMul, Nat.reduceAdd, Nat.reduceLT, Nat.reduceLeDiff, Nat.reduceEqDiff, Int.reduceLT, Int.reduceBEq, Int.reduceBNe, Nat.reduceBEq, List.append_nil, Int.toNat_zero, Nat.sub_self, frS])
            refine ⟨by omega, by omega, ?_⟩
            rw [ej]
            simp -implicitDefEqProofs only [evr, id, reduceCtorEq, reduceIte, Nat.reduceMul, Nat.reduceAdd, Nat.reduceLT, Nat.reduceLeDiff, Nat.reduceEqDiff, Int.reduceLT, Int.reduceBEq, Int.reduceBNe, Nat.reduceBEq, List.append_nil, Int.toNat_zero, Nat.sub_self, frS]
            refine wcall_slice hadd rfl (by simp -implicitDefEqProofs only [evr, id, reduceCtorEq, reduceIte, Nat.reduceMul, Nat.reduceAdd, Nat.reduceLT, Nat.reduceLeDiff, Nat.reduceEqDiff, Int.reduceLT, Int.reduceBEq, Int.reduceBNe, Nat.reduceBEq, List.append_nil, Int.toNat_zero, Nat.sub_self, frS]; try rfl) ?_
            rintro y hy
            obtain ⟨_, f, rfl, sp5, sq5, rfl, h7, h8⟩ := hy.resolve_right (fun h => absurd h.1 (by decide))
            have h7' := h7
            have h8' := h8
            obtain ⟨a21, c21, z21, r21, x21, rfl, _⟩ := h7
            obtain ⟨a22, c22, z22, r22, x22, rfl, _⟩ := h8
            simp only [frS, evr, id, reduceCtorEq, reduceIte, Nat.reduceMul, Nat.reduceAdd, Nat.reduceLT, Nat.reduceLeDiff, Nat.reduceEqDiff, Int.reduceLT, Int.reduceBEq, Int.reduceBNe, Nat.reduceBEq, List.append_nil, Int.toNat_zero, Nat.sub_self, frS]
            (refine hk _ ?_; clear hk k; try show Sat _ _ _ _ _)
            (repeat refine Sat.seq ?_)
            (refine Sat.region_k fun k hk => ?_; simp -implicitDefEqProofs only [evr, id, reduceCtorEq, reduceIte, Nat.reduceMul, Nat.reduceAdd, Nat.reduceLT, Nat.reduceLeDiff, Nat.reduceEqDiff, Int.reduceLT, Int.reduceBEq, Int.reduceBNe, Nat.reduceBEq, List.append_nil, Int.toNat_zero, Nat.sub_self, frS])
            refine ⟨by omega, by omega, ?_⟩
            refine hk _ ?_
            clear hk k
            have htake := hout.take hjlt h5 (nil := .sl none 0 0 0 (fun _ _ => .v undef)) Nats.nil h7' h8'
            simp only [thenK, blockK]
            (repeat refine Sat.seq ?_)
            refine Sat.region_k fun k hk => ?_
            simp -implicitDefEqProofs only [evr, id, reduceCtorEq, reduceIte, Nat.reduceMul, Nat.reduceAdd, Nat.reduceLT, Nat.reduceLeDiff, Nat.reduceEqDiff, Int.reduceLT, Int.reduceBEq, Int.reduceBNe, Nat.reduceBEq, List.append_nil, Int.toNat_zero, Nat.sub_self, frS, ej1]
            refine hk _ ?_
            simp only [thenK, blockK]
            refine ⟨(j + 1, _, _, _), htake, by show kk - (j + 1) < kk - j; omega, ?_⟩
            simp -implicitDefEqProofs only [evr, id, reduceCtorEq, reduceIte, Nat.reduceMul, Nat.reduceAdd, Nat.reduceLT, Nat.reduceLeDiff, Nat.reduceEqDiff, Int.reduceLT, Int.reduceBEq, Int.reduceBNe, Nat.reduceBEq, List.append_nil, Int.toNat_zero, Nat.sub_self, frS, evl]
            exact rd_put
          · have hskip := hout.skip hjlt (of_decide_eq_false h)
            refine Sat.skip ?_
            simp only [thenK, blockK]
            (repeat refine Sat.seq ?_)
            refine Sat.region_k fun k hk => ?_
            simp -implicitDefEqProofs only [evr, id, reduceCtorEq, reduceIte, Nat.reduceMul, Nat.reduceAdd, Nat.reduceLT, Nat.reduceLeDiff, Nat.reduceEqDiff, Int.reduceLT, Int.reduceBEq, Int.reduceBNe, Nat.reduceBEq, List.append_nil, Int.toNat_zero, Nat.sub_self, frS, ej1]
            refine hk _ ?_
            simp only [thenK, blockK]
            refine ⟨(j + 1, sv2, _, _), hskip, by show kk - (j + 1) < kk - j; omega, ?_⟩
            simp -implicitDefEqProofs only [evr, id, reduceCtorEq, reduceIte, Nat.reduceMul, Nat.reduceAdd, Nat.reduceLT, Nat.reduceLeDiff, Nat.reduceEqDiff, Int.reduceLT, Int.reduceBEq, Int.reduceBNe, Nat.reduceBEq, List.append_nil, Int.toNat_zero, Nat.sub_self, frS, evl]
        · simp only [decide_eq_false_iff_not] at h
          obtain rfl : j = kk := by omega
          have hnext := hout.done hall
          refine Sat.exit ?_
          simp only [thenK, blockK, reduceIte]
          (repeat refine Sat.seq ?_)
          refine Sat.region_k fun k hk => ?_
          simp -implicitDefEqProofs only [evr, id, reduceCtorEq, reduceIte, Nat.reduceMul, Nat.reduceAdd, Nat.reduceLT, Nat.reduceLeDiff, Nat.reduceEqDiff, Int.reduceLT, Int.reduceBEq, Int.reduceBNe, Nat.reduceBEq, List.append_nil, Int.toNat_zero, Nat.sub_self, frS, en1]
          refine hk _ ?_
          simp only [thenK, blockK]
          refine ⟨(n + 1, sv2, _, _, _), ⟨by show n + 1 ≤ 128; omega, hnext⟩, by show 128 - (n + 1) < 128 - n; omega, ?_⟩
          simp -implicitDefEqProofs only [evr, id, reduceCtorEq, reduceIte, Nat.reduceMul, Nat.reduceAdd, Nat.reduceLT, Nat.reduceLeDiff, Nat.reduceEqDiff, Int.reduceLT, Int.reduceBEq, Int.reduceBNe, Nat.reduceBEq, List.append_nil, Int.toNat_zero, Nat.sub_self, frS, evl]
    · simp only [decide_eq_false_iff_not] at h
      obtain rfl : n = 128 := by omega
      refine Sat.exit ?_
      simp only [thenK, blockK, reduceIte]
      (repeat refine Sat.seq ?_)
      (refine Sat.region_k fun k hk => ?_; simp -implicitDefEqProofs only [evr, id, reduceCtorEq, reduceIte, Nat.reduceMul, Nat.reduceAdd, Nat.reduceLT, Nat.reduceLeDiff, Nat.reduceEqDiff, Int.reduceLT, Int.reduceBEq, Int.reduceBNe, Nat.reduceBEq, List.append_nil, Int.toNat_zero, Nat.sub_self, frS]; refine hk _ ?_; clear hk k; try show Sat _ _ _ _ _)
      refine Sat.ret ?_
      simp only [Try.results25, evr, id, reduceCtorEq, reduceIte, Nat.reduceMul, Nat.reduceAdd, Nat.reduceLT, Nat.reduceLeDiff, Nat.reduceEqDiff, Int.reduceLT, Int.reduceBEq, Int.reduceBNe, Nat.reduceBEq, List.append_nil, Int.toNat_zero, Nat.sub_self, frS]
      exact .inl ⟨st, _, hst, rfl, _, _, rfl, hnum', hden'⟩
  · simp -implicitDefEqProofs only [evr, id, reduceCtorEq, reduceIte, Nat.reduceMul, Nat.reduceAdd, Nat.reduceLT, Nat.reduceLeDiff, Nat.reduceEqDiff, Int.reduceLT, Int.reduceBEq, Int.reduceBNe, Nat.reduceBEq, List.append_nil, Int.toNat_zero, Nat.sub_self, frS]
    (refine hk _ ?_; clear hk k; try show Sat _ _ _ _ _)
    (repeat refine Sat.seq ?_)
    (refine Sat.region_k fun k hk => ?_; simp -implicitDefEqProofs only [evr, id, reduceCtorEq, reduceIte, Nat.reduceMul, Nat.reduceAdd, Nat.reduceLT, Nat.reduceLeDiff, Nat.reduceEqDiff, Int.reduceLT, Int.reduceBEq, Int.reduceBNe, Nat.reduceBEq, List.append_nil, Int.toNat_zero, Nat.sub_self, frS]; refine hk _ ?_; clear hk k; try show Sat _ _ _ _ _)
    refine Sat.cond_b rfl (fun h => ?_) (fun h => absurd h (by decide))
    (repeat refine Sat.seq ?_)
    (refine Sat.region_k fun k hk => ?_; simp -implicitDefEqProofs only [evr, id, reduceCtorEq, reduceIte, Nat.reduceMul, Nat.reduceAdd, Nat.reduceLT, Nat.reduceLeDiff, Nat.reduceEqDiff, Int.reduceLT, Int.reduceBEq, Int.reduceBNe, Nat.reduceBEq, List.append_nil, Int.toNat_zero, Nat.sub_self, frS]; refine hk _ ?_; clear hk k; try show Sat _ _ _ _ _)
    refine Sat.ret ?_
    simp only [Try.results25, evr, id, reduceCtorEq, reduceIte, Nat.reduceMul, Nat.reduceAdd, Nat.reduceLT, Nat.reduceLeDiff, Nat.reduceEqDiff, Int.reduceLT, Int.reduceBEq, Int.reduceBNe, Nat.reduceBEq, List.append_nil, Int.toNat_zero, Nat.sub_self, frS]
    exact .inr ⟨hbe, _, rfl, _, _, rfl, Nats.nil, Nats.nil⟩
end Go.Proofs.Ytagmohpafjncfaa

/- More flows, more successors, stricter rules: plain laws. -/
set_option linter.unusedVariables false
namespace Go.Proofs.Ytagmohpafjncfaa
open Eng Lmb Go.RowKit

theorem cnt_zero (k : Nat) : ∀ (n j : Nat), n < j → cnt k n j = 0
  | 0, j, h => by rw [cnt, if_neg (by omega)]
  | n + 1, j, h => by rw [cnt, cnt_zero k n j (by omega), cnt_zero k n (j - 1) (by omega)]; simp
theorem missed_low {n j p q : Nat} (hn : n ≤ j) (h : p < q) : missed n (j + 1) p q := by
  unfold missed
  rw [cnt_zero (j + 1) n (j + 1) (by omega), Nat.sub_zero, Nat.mul_comm]
  exact Nat.mul_lt_mul_of_pos_left h (Nat.pow_pos (by omega))
theorem need_gt {j p q n : Nat} (h : IsNeed j p q n) (hpq : p < q) : j < n := by
  rcases Nat.lt_or_ge j n with h9 | h9
  · exact h9
  · exact absurd (missed_low h9 hpq) h.2.1
theorem missed_mono {n m p q r s : Nat} (hq : 0 < q) (hs : 0 < s) (hle : p * s ≤ r * q) (h : missed n m r s) : missed n m p q := by
  unfold missed at *
  generalize m ^ n - cnt m n m = M at *
  generalize m ^ n = K at *
  refine Nat.lt_of_mul_lt_mul_right (a := s) ?_
  calc p * K * s = p * s * K := by rw [Nat.mul_assoc, Nat.mul_comm K, ← Nat.mul_assoc]
    _ ≤ r * q * K := Nat.mul_le_mul_right K hle
    _ = r * K * q := by rw [Nat.mul_assoc, Nat.mul_comm q, ← Nat.mul_assoc]
    _ < M * s * q := Nat.mul_lt_mul_of_pos_right h hq
    _ = M * q * s := by rw [Nat.mul_assoc, Nat.mul_comm s, ← Nat.mul_assoc]
/-- the stricter of two rules stops no earlier -/
theorem need_mono {j p q r s a b : Nat} (hq : 0 < q) (hs : 0 < s) (hle : p * s ≤ r * q) (ha : IsNeed j p q a) (hb : IsNeed j r s b) : b ≤ a := by
  rcases Nat.lt_or_ge a b with h9 | h9
  · exact absurd (missed_mono hq hs hle (hb.2.2 a h9)) ha.2.1
  · exact h9
theorem beyond_mono {k p q r s : Nat} (hq : 0 < q) (hs : 0 < s) (hle : p * s ≤ r * q) (h : Beyond k r s) : Beyond k p q := by
  obtain ⟨j, h1, h2, h3⟩ := h
  exact ⟨j, h1, h2, fun i hi => missed_mono hq hs hle (h3 i hi)⟩
theorem stops_beyond {k p q : Nat} {st : Nat → Nat} (h : Stops k p q st) : ¬ Beyond k p q := by
  rintro ⟨j, h1, h2, h3⟩
  have := h j h1 h2
  exact this.2.1 (h3 _ this.1)

theorem red_le {a b c d : Nat} (hb : 0 < b) (hd : 0 < d) : redP a b * redQ c d ≤ redP c d * redQ a b ↔ a * d ≤ c * b := by
  have g1 : 0 < Nat.gcd a b := Nat.gcd_pos_of_pos_right _ hb
  have g2 : 0 < Nat.gcd c d := Nat.gcd_pos_of_pos_right _ hd
  unfold redP redQ
  have e1 : a / Nat.gcd a b * Nat.gcd a b = a := Nat.div_mul_cancel (Nat.gcd_dvd_left a b)
  have e2 : b / Nat.gcd a b * Nat.gcd a b = b := Nat.div_mul_cancel (Nat.gcd_dvd_right a b)
  have e3 : c / Nat.gcd c d * Nat.gcd c d = c := Nat.div_mul_cancel (Nat.gcd_dvd_left c d)
  have e4 : d / Nat.gcd c d * Nat.gcd c d = d := Nat.div_mul_cancel (Nat.gcd_dvd_right c d)
  generalize a / Nat.gcd a b = x at *
  generalize b / Nat.gcd a b = y at *
  generalize c / Nat.gcd c d = z at *
  generalize d / Nat.gcd c d = w at *
  generalize Nat.gcd a b = g at *
  generalize Nat.gcd c d = h at *
  subst e1 e2 e3 e4
  have k1 : x * g * (w * h) = x * w * (g * h) := by rw [Nat.mul_assoc, Nat.mul_assoc, Nat.mul_left_comm g]
  have k2 : z * h * (y * g) = z * y * (g * h) := by rw [Nat.mul_assoc, Nat.mul_assoc, Nat.mul_left_comm h, Nat.mul_comm h g]
  rw [k1, k2]
  exact ⟨fun h9 => Nat.mul_le_mul_right _ h9, fun h9 => Nat.le_of_mul_le_mul_right h9 (Nat.mul_pos g1 g2)⟩
theorem red_lt {a b c d : Nat} (hb : 0 < b) (hd : 0 < d) : redP a b * redQ c d < redP c d * redQ a b ↔ a * d < c * b := by
  have := red_le (a := c) (b := d) (c := a) (d := b) hd hb
  omega
theorem mis_flows {k n : Nat} (hk : 1 ≤ k) : misP (n + 1) k * misQ n k ≤ misP n k * misQ (n + 1) k := by
  refine (red_le (a := k ^ (n + 1) - cnt k (n + 1) k) (b := k ^ (n + 1)) (c := k ^ n - cnt k n k) (d := k ^ n) (Nat.pow_pos hk) (Nat.pow_pos hk)).2 ?_
  have h1 := cnt_more n hk
  have h2 : k ^ (n + 1) - cnt k (n + 1) k ≤ (k ^ n - cnt k n k) * k := by rw [Nat.pow_succ, Nat.sub_mul]; omega
  calc (k ^ (n + 1) - cnt k (n + 1) k) * k ^ n ≤ (k ^ n - cnt k n k) * k * k ^ n := Nat.mul_le_mul_right _ h2
    _ = (k ^ n - cnt k n k) * k ^ (n + 1) := by rw [Nat.mul_assoc, Nat.pow_succ, Nat.mul_comm k]
theorem mis_succ {k n : Nat} (hk : 1 ≤ k) : misP n k * misQ n (k + 1) ≤ misP n (k + 1) * misQ n k := by
  refine (red_le (a := k ^ n - cnt k n k) (b := k ^ n) (c := (k + 1) ^ n - cnt (k + 1) n (k + 1)) (d := (k + 1) ^ n) (Nat.pow_pos hk) (Nat.pow_pos (by omega))).2 ?_
  have h1 := cnt_mono (k + 1) n k (Nat.le_refl _)
  have h2 := cnt_cross k n k (Nat.le_refl _)
  have h3 : cnt (k + 1) n (k + 1) * k ^ n ≤ cnt k n k * (k + 1) ^ n := Nat.le_trans (Nat.mul_le_mul_right _ h1) h2
  rw [Nat.sub_mul, Nat.sub_mul, Nat.mul_comm (k ^ n)]
  omega
end Go.Proofs.Ytagmohpafjncfaa

/- Choices as a variable of the call's own: New makes it, Next and Left turn it; what they give is known exactly. -/
set_option linter.unusedSimpArgs false
set_option linter.unusedVariables false
namespace Go.Proofs.Ytagmohpafjncfaa
open Go.RowKit Eng

namespace Eng
section
variable {P : Program} {F : Frm} {ds : List (Option Tmp)} {rest : List Oper} {dst : Option Tmp} {n : Nat} {env : List (Nat × SV)} {own : List Own} {k : St → Prop}
/-- a function that makes a variable and gives back its address -/
structure MakesB (P : Program) (f : FuncId) (args : List SV) (ty : TypeId) (post : List SV → Prop) : Prop where
  enters : ∀ vs w, (callFunc f vs).run P w = .ok (.enter f vs) w
  calls : ∀ (R : Nat → Prop) (w : World), (∀ s ∈ args, s.ok R w) → (∀ b, R b → b < w.heap.size) →
    Calls P f (args.map SV.den).toArray w fun e w' => e = .returned (.pointer (some ⟨w.heap.size, 0, none⟩)) ∧ ∃ cs, post cs ∧ Evo (fun _ => False) w w' ∧ w'.heap[w.heap.size]? = some (.cells (cs.map SV.den).toArray ty (0, 0)) ∧ ∀ c ∈ cs, c.den.oneCell' = true ∧ c.ok R w'
theorem wcall_box {f : FuncId} {args : List SV} {ty : TypeId} {post : List SV → Prop} (h : MakesB P f args ty post) (hk : ∀ (cb : Nat) (cs : List SV), post cs → WO P F ds rest (St.put ⟨n, env, own ++ [.box cb ty cs]⟩ dst (.op own.length cb 0)) k) : WCall P F ds rest dst ⟨n, env, own⟩ f (some args) k := by
  unfold WCall
  intro R0 w0 ob R a w hr hargs
  refine ⟨h.enters, ?_⟩
  refine (h.calls R w hargs (fun b hb => (hr.rr b hb).1)).mono ?_
  rintro e w' ⟨rfl, cs, hp, hevo, hcell, hok⟩
  have hg : w.grownBy w' none := ⟨hevo.os, hevo.tape, hevo.output, hevo.size, fun b hb _ => hevo.block b hb (fun h => h)⟩
  have hnew := hr.newRow (o := .box w.heap.size ty cs) hg (fun b hb => by simpa [Own.blk] using hb.symm) ⟨hr.obw, fun hc => by have := (hr.rr _ hc).1; omega, hcell, hok⟩
  exact ⟨.op own.length w.heap.size 0, _, R, rfl, hk w.heap.size cs hp, trivial, hnew, rfl⟩
/-- the cells of a variable of the call's own, read otherwise -/
theorem Sat.simBox {c : Code} {K : Exit → St → Prop} (id : Nat) {blk ty : Nat} {cs : List SV} (cs' : List SV) (hl : own[id]? = some (.box blk ty cs)) (hs : simA cs cs')
    (h : Sat P F c ⟨n, env, own.set id (.box blk ty cs')⟩ K) : Sat P F c ⟨n, env, own⟩ K := by
  rintro R0 w0 a w ⟨ob, R, hr⟩
  refine h R0 w0 a w ⟨ob, R, ?_⟩
  obtain ⟨h1, h2, h3, h4⟩ := hr.own id _ hl
  have key : ∀ (l l' : List SV), simA l l' → l'.map SV.den = l.map SV.den ∧ ∀ c' ∈ l', ∃ c ∈ l, sim c c' := by
    intro l
    induction l with
    | nil => intro l' h; cases l' with
      | nil => exact ⟨rfl, fun _ h => by cases h⟩
      | cons _ _ => exact h.elim
    | cons s t ih => intro l' h; cases l' with
      | nil => exact h.elim
      | cons s' t' =>
        obtain ⟨g1, g2⟩ := ih t' h.2
        refine ⟨by rw [List.map_cons, List.map_cons, g1, h.1.1], fun c' hc' => ?_⟩
        rcases List.mem_cons.1 hc' with rfl | hc'
        · exact ⟨s, by simp, h.1⟩
        · obtain ⟨c, hc, hcc⟩ := g2 c' hc'
          exact ⟨c, List.mem_cons_of_mem _ hc, hcc⟩
  obtain ⟨k1, k2⟩ := key cs cs' hs
  refine hr.setOwn (g := blk) hl rfl (fun b hb => by simpa [Own.blk] using hb.symm) rfl rfl rfl (Nat.le_refl _) (fun _ _ _ => rfl) ⟨h1, h2, by rw [k1]; exact h3, fun c' hc' => ?_⟩
  obtain ⟨c, hc, hcc⟩ := k2 c' hc'
  exact ⟨by rw [← hcc.1]; exact (h4 c hc).1, hcc.2 R w (h4 c hc).2⟩
/-- where ways meet again -/
theorem Sat.join {st : St} {K : Exit → St → Prop} {c y : Code} {ι : Type} (sh : ι → St) (J : ι → Prop) (h : Sat P F c st (thenK (fun st' => ∃ z, J z ∧ Le st' (sh z)) K)) (h2 : ∀ z, J z → Sat P F y (sh z) K) :
    Sat P F c st (thenK (fun st' => Sat P F y st' K) K) :=
  h.mono fun e st' hk => by
    cases e with
    | normal => obtain ⟨z, hz, hl⟩ := hk; exact (h2 z hz).le hl
    | _ => exact hk
/-- .. where more is done ahead of it -/
theorem Sat.join2 {st : St} {K : Exit → St → Prop} {c y : Code} {ι : Type} (sh : ι → St) (J : ι → Prop) (h : (∀ z, J z → Sat P F y (sh z) K) → Sat P F c st (thenK (fun st' => Sat P F y st' K) K)) (h2 : ∀ z, J z → Sat P F y (sh z) K) :
    Sat P F c st (thenK (fun st' => Sat P F y st' K) K) := h h2
end
end Eng

/-- the choices: the codes l, the next one is number p -/
def dbox (cb : Nat) (a : Option Addr) (l cap : Nat) (rd : Nat → Nat → SV) (p : Nat) : Eng.Own := .box cb 54 [.sl a l cap 1 rd, .i .i64 p]

theorem new_made2 (a : Option Addr) (len cap : Nat) (w : World) (most : Nat) (h1 : len ≤ cap) (h2 : cap ≤ maxLen) (hm : most ≤ 65536) :
    Calls Try.prog 9 #[.slice a len cap, .int .i64 (most : Int)] w fun e w' => e = .returned (.pointer (some ⟨w.heap.size, 0, none⟩)) ∧ ∃ n, n ≤ len ∧ n ≤ most ∧ w' = w.alloc (.cells #[.slice a n cap, .int .i64 0] 54) := by
  unfold maxLen at h2
  by_cases hl : (most : Nat) < len
  · go_enter Try.func9, Try.ntmps9
    go_wp2
    go_ret
    exact ⟨rfl, most, by omega, by omega, rfl⟩
  · go_enter Try.func9, Try.ntmps9
    go_wp2
    go_ret
    exact ⟨rfl, len, by omega, by omega, rfl⟩

theorem newB (s : SV) (hs : isBytes s) (most : Nat) (hm : most ≤ 65536) : MakesB Try.prog 9 [s, .i .i64 most] 54
    (fun cs => ∃ a l cap rd, l ≤ most ∧ l ≤ cap ∧ cap ≤ maxLen ∧ (∀ i, i < l → ∃ x : Int, 0 ≤ x ∧ x < 256 ∧ rd i 0 = .i .u8 x) ∧ cs = [.sl a l cap 1 rd, .i .i64 0]) := by
  obtain ⟨a, len, cap, rd, rfl, hb⟩ := hs
  refine ⟨enters_of Try.func9 rfl (by kernel_rfl), fun R w hargs hR => ?_⟩
  obtain ⟨h1, h2, h3⟩ := hargs _ (List.mem_cons_self ..)
  refine (new_made2 a len cap w most h1 h2 hm).mono ?_
  rintro e w' ⟨rfl, n, hn, hnm, rfl⟩
  have hold : ∀ b, R b → (w.alloc (.cells #[.slice a n cap, .int .i64 0] 54)).heap[b]? = w.heap[b]? := fun b hb => heap_alloc_old w _ (hR b hb)
  refine ⟨rfl, [.sl a n cap 1 rd, .i .i64 0], ⟨a, n, cap, rd, hnm, by omega, h2, fun i hi => hb i (by omega), rfl⟩, ⟨rfl, rfl, rfl, by simp, fun b hb _ => heap_alloc_old w _ hb⟩, heap_alloc_new w _, ?_⟩
  intro c hc
  simp only [List.mem_cons, List.not_mem_nil, or_false] at hc
  rcases hc with rfl | rfl
  · refine ⟨rfl, by omega, h2, ?_⟩
    rcases h3 with h3 | ⟨blk, off, rfl, hr, hc⟩
    · exact .inl (by omega)
    · refine .inr ⟨blk, off, rfl, hr, fun i j hi hj => ?_⟩
      obtain ⟨g1, g2, g3⟩ := hc i j (by omega) hj
      exact ⟨by rw [World.cell?_of_block (w := w) (a := ⟨blk, off + i * 1 + j, none⟩) (hold blk hr)]; exact g1, g2, SV.ok_mono (fun _ h => h) hold _ g3⟩
  · exact ⟨rfl, trivial⟩

set_option maxRecDepth 100000 in
theorem nextB (F : Frm) (cb : Nat) (a : Option Addr) (l cap : Nat) (rd : Nat → Nat → SV) (p : Nat) (hl : l ≤ 65536) (hb : ∀ i, i < l → ∃ x : Int, 0 ≤ x ∧ x < 256 ∧ rd i 0 = .i .u8 x) (n : Int) (h0 : 1 ≤ n) (h1 : n ≤ 256) :
    ContractM F Try.prog 10 [.op 0 cb 0, .i .i64 n] (dbox cb a l cap rd p) (fun r o1 => ∃ x : Int, r = .i .i64 x ∧ 0 ≤ x ∧ x < n ∧ o1 = dbox cb a l cap rd (if p < l then p + 1 else p)) := by
  refine contractM_of Try.func10 rfl (by kernel_rfl) (by rintro r o1 ⟨x, _, _, _, rfl⟩; rfl) ?_
  simp only [Try.ntmps10, argEnv, dbox]
  (repeat refine Sat.seq ?_)
  (refine Sat.region_k fun k hk => ?_; simp -implicitDefEqProofs only [evr, id, reduceCtorEq, reduceIte, Nat.reduceMul, Nat.reduceAdd, Nat.reduceLT, Nat.reduceLeDiff, Nat.reduceEqDiff, Int.reduceLT, Int.reduceBEq, Int.reduceBNe, Nat.reduceBEq, retM, retMK, dbox, List.cons_append, List.nil_append]; refine hk _ ?_; clear hk k; try show Sat _ _ _ _ _)
  by_cases hp : p < l
  · obtain ⟨x, hx0, hx1, hx⟩ := hb p hp
    have e1 : IntKind.i64.wrap ((p : Int) + 1) = ((p + 1 : Nat) : Int) := by rw [w64 (by omega)]; omega
    have e2 : IntKind.i64.wrap x = x := w64 (by omega)
    (repeat refine Sat.seq ?_)
    (refine Sat.region_qk (by kernel_rfl) (by kernel_rfl) fun k hk => ?_; simp -implicitDefEqProofs only [evr, id, reduceCtorEq, reduceIte, Nat.reduceMul, Nat.reduceAdd, Nat.reduceLT, Nat.reduceLeDiff, Nat.reduceEqDiff, Int.reduceLT, Int.reduceBEq, Int.reduceBNe, Nat.reduceBEq, retM, retMK, dbox, List.cons_append, List.nil_append])
    refine ⟨fun h => absurd h (by omega), fun _ => ?_⟩
    (refine hk _ ?_; clear hk k; try show Sat _ _ _ _ _)
    refine Sat.cond_b rfl (fun h => absurd h (by simp only [decide_eq_true_eq]; omega)) (fun _ => ?_)
    refine Sat.skip ?_
    simp only [thenK]
    (repeat refine Sat.seq ?_)
    refine Sat.region_qk (by kernel_rfl) (by kernel_rfl) fun k hk => ?_
    simp -implicitDefEqProofs only [evr, id, reduceCtorEq, reduceIte, Nat.reduceMul, Nat.reduceAdd, Nat.reduceLT, Nat.reduceLeDiff, Nat.reduceEqDiff, Int.reduceLT, Int.reduceBEq, Int.reduceBNe, Nat.reduceBEq, retM, retMK, dbox, List.cons_append, List.nil_append, Int.toNat_natCast, hx, e2]
    refine ⟨by omega, ?_⟩
    (refine hk _ ?_; clear hk k; try show Sat _ _ _ _ _)
    (repeat refine Sat.seq ?_)
    refine Sat.region_k fun k hk => ?_
    simp -implicitDefEqProofs only [evr, id, reduceCtorEq, reduceIte, Nat.reduceMul, Nat.reduceAdd, Nat.reduceLT, Nat.reduceLeDiff, Nat.reduceEqDiff, Int.reduceLT, Int.reduceBEq, Int.reduceBNe, Nat.reduceBEq, retM, retMK, dbox, List.cons_append, List.nil_append, e1]
    (refine hk _ ?_; clear hk k; try show Sat _ _ _ _ _)
    (repeat refine Sat.seq ?_)
    (refine Sat.region_k fun k hk => ?_; simp -implicitDefEqProofs only [evr, id, reduceCtorEq, reduceIte, Nat.reduceMul, Nat.reduceAdd, Nat.reduceLT, Nat.reduceLeDiff, Nat.reduceEqDiff, Int.reduceLT, Int.reduceBEq, Int.reduceBNe, Nat.reduceBEq, retM, retMK, dbox, List.cons_append, List.nil_append]; refine hk _ ?_; clear hk k; try show Sat _ _ _ _ _)
    (repeat refine Sat.seq ?_)
    refine Sat.cond_b rfl (fun h => absurd h (by simp only [decide_eq_true_eq]; omega)) (fun _ => ?_)
    refine Sat.skip ?_
    simp only [thenK]
    (repeat refine Sat.seq ?_)
    (refine Sat.region_k fun k hk => ?_; simp -implicitDefEqProofs only [evr, id, reduceCtorEq, reduceIte, Nat.reduceMul, Nat.reduceAdd, Nat.reduceLT, Nat.reduceLeDiff, Nat.reduceEqDiff, Int.reduceLT, Int.reduceBEq, Int.reduceBNe, Nat.reduceBEq, retM, retMK, dbox, List.cons_append, List.nil_append])
    refine ⟨by omega, ?_⟩
    (refine hk _ ?_; clear hk k; try show Sat _ _ _ _ _)
    refine Sat.ret ?_
    simp only [Try.results10, evr, id, reduceCtorEq, reduceIte, Nat.reduceMul, Nat.reduceAdd, Nat.reduceLT, Nat.reduceLeDiff, Nat.reduceEqDiff, Int.reduceLT, Int.reduceBEq, Int.reduceBNe, Nat.reduceBEq, retM, retMK, dbox, List.cons_append, List.nil_append]
    rw [if_pos hp]
    exact ⟨rfl, _, _, rfl, _, rfl, Int.tmod_nonneg _ hx0, Int.tmod_lt_of_pos _ (by omega), rfl⟩
  · (repeat refine Sat.seq ?_)
    (refine Sat.region_qk (by kernel_rfl) (by kernel_rfl) fun k hk => ?_; simp -implicitDefEqProofs only [evr, id, reduceCtorEq, reduceIte, Nat.reduceMul, Nat.reduceAdd, Nat.reduceLT, Nat.reduceLeDiff, Nat.reduceEqDiff, Int.reduceLT, Int.reduceBEq, Int.reduceBNe, Nat.reduceBEq, retM, retMK, dbox, List.cons_append, List.nil_append])
    refine ⟨fun _ => ?_, fun h => absurd (by omega) h⟩
    (refine hk _ ?_; clear hk k; try show Sat _ _ _ _ _)
    refine Sat.cond_tt rfl ?_
    (repeat refine Sat.seq ?_)
    (refine Sat.region_k fun k hk => ?_; simp -implicitDefEqProofs only [evr, id, reduceCtorEq, reduceIte, Nat.reduceMul, Nat.reduceAdd, Nat.reduceLT, Nat.reduceLeDiff, Nat.reduceEqDiff, Int.reduceLT, Int.reduceBEq, Int.reduceBNe, Nat.reduceBEq, retM, retMK, dbox, List.cons_append, List.nil_append]; refine hk _ ?_; clear hk k; try show Sat _ _ _ _ _)
    refine Sat.ret ?_
    simp only [Try.results10, evr, id, reduceCtorEq, reduceIte, Nat.reduceMul, Nat.reduceAdd, Nat.reduceLT, Nat.reduceLeDiff, Nat.reduceEqDiff, Int.reduceLT, Int.reduceBEq, Int.reduceBNe, Nat.reduceBEq, retM, retMK, dbox, List.cons_append, List.nil_append]
    rw [if_neg hp]
    exact ⟨rfl, _, _, rfl, 0, rfl, Int.le_refl _, by omega, rfl⟩

theorem nextB2 (F : Frm) (cb : Nat) (a : Option Addr) (l cap : Nat) (rd : Nat → Nat → SV) (p : Nat) (hl : l ≤ 65536) (hb : ∀ i, i < l → ∃ x : Int, 0 ≤ x ∧ x < 256 ∧ rd i 0 = .i .u8 x) (hp : p ≤ l) (n : Int) (h0 : 1 ≤ n) (h1 : n ≤ 256) :
    ContractM F Try.prog 10 [.op 0 cb 0, .i .i64 n] (dbox cb a l cap rd p) (fun r o1 => ∃ (x : Int) (p' : Nat), r = .i .i64 x ∧ 0 ≤ x ∧ x < n ∧ p ≤ p' ∧ p' ≤ l ∧ (p < l → p < p') ∧ o1 = dbox cb a l cap rd p') :=
  (nextB F cb a l cap rd p hl hb n h0 h1).mono fun r o1 ⟨x, h2, h3, h4, h5⟩ => ⟨x, _, h2, h3, h4, by split <;> omega, by split <;> omega, fun h => by rw [if_pos h]; omega, h5⟩
end Go.Proofs.Ytagmohpafjncfaa

/- The frame of the proof of 'Rows.StoppingFailsSaid': from the walk of the Go function to the given statement. Written by a program (wip/shell.py). -/
namespace Go.Proofs.Ytagmohpafjncfaa.stoppingFails
open Go.ChangeShapes Go.WideShapes Go.ChangeAt Go.RowKit
open Go.ChangeMaps (open_string shut_string)
set_option linter.unusedVariables false

theorem own : ownKnob Try.prog.godebug = none := by kernel_rfl
theorem laidOut : laidOutB Try.prog = true := by kernel_rfl

/-- the walk: whatever the input, the call returns true, and what was there is as it was -/
def Walk : Prop := ∀ (a0 : Value) (z0 : List Int) (w : World), (Rd .u8 w a0 z0 ∧ ∀ n ∈ z0, (Lit.int .u8 n).wf = true) →
    Calls Try.prog 6 #[a0] w fun e w' => e = .returned (.bool true) ∧ Below w.heap.size w w'

set_option maxRecDepth 100000 in
theorem lifted (walk : Walk) (os : Os) (started : os.Started) (H : Type) (enc : TypeId × Value → H) :
    ReturnsInHanded {} Try.checked os 6 .any (Rows.stoppingFailsSpec.pre6 enc Try.prog Try.f6 Rows.stoppingFailsRow.domain false) (Rows.stoppingFailsSpec.post enc Try.prog Try.f6 false true false false) := by
  refine returnsInHanded_of_change (C := Try.checked) own started (by kernel_rfl) Try.func6
    (ChangeSpec.witness6 (enc := enc) (C := Try.checked) false ⟨#[], #[.slice none 0 0], []⟩ 8 (by kernel_rfl) (by kernel_rfl) (by kernel_rfl) (by kernel_rfl)) ?_
  intro W base args ds gs before hval0 hW hcnd _
  have hval : ∀ (j : Nat) t v, Try.f6.params[j]? = some t → args[j]? = some v → Value.okWide Try.prog W .any base t v := hval0
  have hW' := hW
  obtain ⟨p, q, hA0, hV, rfl, hfz, hnd⟩ := hW
  have hA : DataW.TrodAll enc Try.prog W 0 (fun _ => true) true Try.f6.params.toList args.toList ds p := hA0
  rw [Try.params6] at hA hval
  obtain ⟨v0, vs0, d0, ds0, p0, q0, hargs, rfl, rfl, h0, r0⟩ := trodAll_cons hA
  obtain ⟨rfl, rfl, rfl⟩ := trodAll_nil r0
  obtain rfl : args = #[v0] := by cases args; simp_all
  obtain ⟨rfl, rfl⟩ := trodVars_none hV
  obtain ⟨ad0, len0, cap0, rfl⟩ := okWide_slice Try.underlying22 (hval 0 22 v0 rfl rfl)
  have k0 := h0
  have lt0 : ∀ x ∈ p0, x.block < W.heap.size := by obtain ⟨m, hm⟩ := k0; exact DataW.trod_lt m _ _ _ hm
  obtain ⟨z0, w0⟩ : ∃ zs, Rd .u8 W (.slice ad0 len0 cap0) zs ∧ ∀ n ∈ zs, (Lit.int .u8 n).wf = true := by
    obtain ⟨fuel, hf⟩ := h0
    rcases open_ints Try.underlying22 Try.underlying5 (by kernel_rfl) hf with ⟨hcs, _⟩ | ⟨x, l, c, zs, hcs, _, hl, hm, hz, _, hcell, hwz⟩
    · simp [Value.cells] at hcs
      obtain ⟨rfl, rfl, rfl⟩ := hcs
      exact ⟨[], Rd.nil _ _, by simp⟩
    · simp [Value.cells] at hcs
      obtain ⟨rfl, rfl, rfl⟩ := hcs
      exact ⟨zs.take len0, rd_of_ints hl hm hz hcell, fun n hn => hwz n (List.mem_of_mem_take hn)⟩
  clear hA0 hval0
  refine (walk _ z0 W w0).mono fun e W' ⟨he, bel⟩ => ?_
  subst he
  exact ⟨_, rfl, _, _, _, [], _, [], hW', trodAll_mk1 (shut_bool Try.underlying4 _), (trodAll_cons_mk (Below.trod laidOut (by kernel_rfl) (of_decide_eq_true (by kernel_rfl)) k0 bel lt0) trodAll_mk0), rfl, bel.frame _, fun h => by cases h⟩

theorem of_walk (walk : Walk) : Rows.StoppingFailsSaid :=
  OpenClaim.holds_of_wide 6 Try.f6 rfl rfl rfl rfl rfl rfl rfl ⟨rfl, rfl, rfl, rfl, rfl⟩ rfl rfl rfl rfl rfl (by kernel_rfl) Try.func6 (by kernel_rfl)
    (of_decide_eq_true (by kernel_rfl)) (by unfold Func.isWrapper; first | (rw [if_pos (by decide +kernel)]; kernel_rfl) | (rw [if_neg (by decide +kernel)]; exact ⟨rfl, rfl⟩))
    (fun os started H enc _ => lifted walk os started H enc)
end Go.Proofs.Ytagmohpafjncfaa.stoppingFails
