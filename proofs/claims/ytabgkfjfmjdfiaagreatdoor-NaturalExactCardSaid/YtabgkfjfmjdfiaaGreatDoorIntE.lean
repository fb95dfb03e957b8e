import Derived.Test.YtabgkfjfmjdfiaaGreatDoorRefKa

/- natural.Int; the reference's Same: what each gives. -/
set_option linter.unusedSimpArgs false
set_option linter.unusedVariables false
namespace Go.Proofs.YtabgkfjfmjdfiaaGreatDoor
open Eng Lmb Go.RowKit
theorem val_drop_le {xs : List Int} (h : Limbs xs) : ∀ q, val (xs.drop q) ≤ val xs
  | 0 => by simp
  | q + 1 => by
    refine Int.le_trans ?_ (val_drop_le h q)
    by_cases hq : q < xs.length
    · rw [val_drop xs q hq]
      have := limbs_getD h q
      have h2 : 0 ≤ val (xs.drop (q + 1)) := val_nonneg fun x hx => h x (List.mem_of_mem_drop hx)
      omega
    · rw [List.drop_eq_nil_of_le (by omega), List.drop_eq_nil_of_le (by omega)]
      exact Int.le_refl _
def intV (n : Nat) : Int := if n ≤ 4611686018427387904 then n else 0
def intE (n : Nat) : Int := if n ≤ 4611686018427387904 then 0 else 1
set_option maxRecDepth 100000 in
theorem natIntC (F : Frm) {s : SV} {n : Nat} (hs : Nats s n) (hb : (n : Int) < pw 512) : Contract F Tryz.prog 31 [s] (fun r => r = tupL [.i .i64 (intV n), .i .i64 (intE n)]) := by
  obtain ⟨xs, hi1, d1⟩ := hs.ints
  have l1 := (d1.len_le 512).2 hb
  obtain ⟨a1, c1, z1, r1, rfl, hz1, hr1⟩ := hi1
  refine contract_of Tryz.func31 rfl (by kernel_rfl) ?_
  simp only [Tryz.ntmps31, argEnv]
  have e0 : IntKind.i64.wrap ((xs.length : Int) - 1) = (xs.length : Int) - 1 := w64 (by omega)
  (repeat refine Sat.seq ?_)
  (refine Sat.region_k fun k hk => ?_; simp -implicitDefEqProofs only [evr, id, reduceCtorEq, reduceIte, Nat.reduceMul, Nat.reduceAdd, Nat.reduceLT, Nat.reduceLeDiff, Nat.reduceEqDiff, Int.reduceLT, Int.reduceBEq, Int.reduceBNe, Nat.reduceBEq, frS, evn]; refine hk _ ?_; clear hk k; try show Sat _ _ _ _ _)
  (repeat refine Sat.seq ?_)
  (refine Sat.region_k fun k hk => ?_; simp -implicitDefEqProofs only [evr, id, reduceCtorEq, reduceIte, Nat.reduceMul, Nat.reduceAdd, Nat.reduceLT, Nat.reduceLeDiff, Nat.reduceEqDiff, Int.reduceLT, Int.reduceBEq, Int.reduceBNe, Nat.reduceBEq, frS, evn]; refine hk _ ?_; clear hk k; try show Sat _ _ _ _ _)
  (repeat refine Sat.seq ?_)
  refine Sat.region_k fun k hk => ?_
  simp -implicitDefEqProofs only [evr, id, reduceCtorEq, reduceIte, Nat.reduceMul, Nat.reduceAdd, Nat.reduceLT, Nat.reduceLeDiff, Nat.reduceEqDiff, Int.reduceLT, Int.reduceBEq, Int.reduceBNe, Nat.reduceBEq, frS, e0, evn]
  (refine hk _ ?_; clear hk k; try show Sat _ _ _ _ _)
  (repeat refine Sat.seq ?_)
  refine Sat.block ?_
  (repeat refine Sat.seq ?_)
  refine Sat.loop (ι := Nat) (fun q => ⟨29, [(5, .i .i64 ((q : Int) - 1)), (4, .i .i64 (val (xs.drop q))), (0, .sl a1 xs.length c1 z1 r1)], []⟩)
    (fun q => q ≤ xs.length ∧ val (xs.drop q) ≤ 4611686018427387904) (fun q => q) xs.length ⟨Nat.le_refl _, by rw [List.drop_length]; decide⟩ (by rw [List.drop_length]; simp -implicitDefEqProofs only [evr, id, reduceCtorEq, reduceIte, Nat.reduceMul, Nat.reduceAdd, Nat.reduceLT, Nat.reduceLeDiff, Nat.reduceEqDiff, Int.reduceLT, Int.reduceBEq, Int.reduceBNe, Nat.reduceBEq, frS, evl, evn]; try rfl) ?_
  rintro q ⟨hq, hv⟩
  have hv0 : 0 ≤ val (xs.drop q) := val_nonneg fun x hx => d1.limbs x (List.mem_of_mem_drop hx)
  (repeat refine Sat.seq ?_)
  (refine Sat.region_k fun k hk => ?_; simp -implicitDefEqProofs only [evr, id, reduceCtorEq, reduceIte, Nat.reduceMul, Nat.reduceAdd, Nat.reduceLT, Nat.reduceLeDiff, Nat.reduceEqDiff, Int.reduceLT, Int.reduceBEq, Int.reduceBNe, Nat.reduceBEq, frS, evn]; refine hk _ ?_; clear hk k; try show Sat _ _ _ _ _)
  (repeat refine Sat.seq ?_)
  refine Sat.cond_b rfl (fun h => ?_) (fun h => ?_)
  · simp only [decide_eq_true_eq] at h
    obtain ⟨j, rfl⟩ : ∃ j, q = j + 1 := ⟨q - 1, by omega⟩
    have hj : j < xs.length := by omega
    have ej : (((j + 1 : Nat) : Int) - 1) = (j : Int) := by omega
    have ej2 : IntKind.i64.wrap ((j : Int) - 1) = (j : Int) - 1 := w64 (by omega)
    have hsz1 : z1 = 1 := by
      rcases hz1 with hz | hz
      · omega
      · exact hz
    subst hsz1
    have g1 := hr1 j hj
    have bx := limbs_getD d1.limbs j
    have hd := val_drop xs j hj
    have hle := val_drop_le d1.limbs j
    rw [d1.val] at hle
    generalize val (xs.drop (j + 1)) = v at hv hv0 hd
    generalize hx : xs.getD j 0 = x at g1 bx hd
    have w1 : IntKind.i64.wrap (4611686018427387904 - x) = 4611686018427387904 - x := w64 (by omega)
    have p30 : ((2 : Int) ^ min (Int.toNat 30) IntKind.i64.bits) = 1073741824 := by decide
    have w2 : (4611686018427387904 - x).fdiv 1073741824 = (4611686018427387904 - x) / 1073741824 := Int.fdiv_eq_ediv_of_nonneg _ (by decide)
    refine Sat.skip ?_
    simp only [thenK, ej]
    (repeat refine Sat.seq ?_)
    refine Sat.block ?_
    (repeat refine Sat.seq ?_)
    refine Sat.region_k fun k hk => ?_
    simp -implicitDefEqProofs only [evr, id, reduceCtorEq, reduceIte, Nat.reduceMul, Nat.reduceAdd, Nat.reduceLT, Nat.reduceLeDiff, Nat.reduceEqDiff, Int.reduceLT, Int.reduceBEq, Int.reduceBNe, Nat.reduceBEq, frS, evn]
    refine ⟨by omega, ?_⟩
    rw [g1]
    simp -implicitDefEqProofs only [evr, id, reduceCtorEq, reduceIte, Nat.reduceMul, Nat.reduceAdd, Nat.reduceLT, Nat.reduceLeDiff, Nat.reduceEqDiff, Int.reduceLT, Int.reduceBEq, Int.reduceBNe, Nat.reduceBEq, frS, w1, p30, w2, evn]
    refine ⟨by decide, ?_⟩
    (refine hk _ ?_; clear hk k; try show Sat _ _ _ _ _)
    refine Sat.cond_b rfl (fun h9 => ?_) (fun h9 => ?_)
    · have h10 := of_decide_eq_true h9
      have hbig : ¬ n ≤ 4611686018427387904 := by omega
      (repeat refine Sat.seq ?_)
      (refine Sat.region_k fun k hk => ?_; simp -implicitDefEqProofs only [evr, id, reduceCtorEq, reduceIte, Nat.reduceMul, Nat.reduceAdd, Nat.reduceLT, Nat.reduceLeDiff, Nat.reduceEqDiff, Int.reduceLT, Int.reduceBEq, Int.reduceBNe, Nat.reduceBEq, frS, evn]; refine hk _ ?_; clear hk k; try show Sat _ _ _ _ _)
      refine Sat.ret ?_
      simp only [thenK, blockK, Tryz.results31, evr, id, reduceCtorEq, reduceIte, Nat.reduceMul, Nat.reduceAdd, Nat.reduceLT, Nat.reduceLeDiff, Nat.reduceEqDiff, Int.reduceLT, Int.reduceBEq, Int.reduceBNe, Nat.reduceBEq, List.append_nil, Int.toNat_zero, Nat.sub_self, frS]
      unfold intV intE
      rw [if_neg hbig, if_neg hbig]
    · have h10 := of_decide_eq_false h9
      have w3 : IntKind.i64.wrap (v * 1073741824) = v * 1073741824 := w64 (by omega)
      have w4 : bits .or .i64 (v * 1073741824) x = v * 1073741824 + x := Zn.or_limb v x hv0 (by omega) bx.1 bx.2
      refine Sat.skip ?_
      simp only [thenK]
      (repeat refine Sat.seq ?_)
      refine Sat.region_k fun k hk => ?_
      simp -implicitDefEqProofs only [evr, id, reduceCtorEq, reduceIte, Nat.reduceMul, Nat.reduceAdd, Nat.reduceLT, Nat.reduceLeDiff, Nat.reduceEqDiff, Int.reduceLT, Int.reduceBEq, Int.reduceBNe, Nat.reduceBEq, frS, p30, w3, evn]
      refine ⟨by decide, by omega, ?_⟩
      rw [g1]
      simp -implicitDefEqProofs only [evr, id, reduceCtorEq, reduceIte, Nat.reduceMul, Nat.reduceAdd, Nat.reduceLT, Nat.reduceLeDiff, Nat.reduceEqDiff, Int.reduceLT, Int.reduceBEq, Int.reduceBNe, Nat.reduceBEq, frS, w4, evn]
      refine hk _ ?_
      clear hk k
      simp only [thenK, blockK]
      (repeat refine Sat.seq ?_)
      refine Sat.region_k fun k hk => ?_
      simp -implicitDefEqProofs only [evr, id, reduceCtorEq, reduceIte, Nat.reduceMul, Nat.reduceAdd, Nat.reduceLT, Nat.reduceLeDiff, Nat.reduceEqDiff, Int.reduceLT, Int.reduceBEq, Int.reduceBNe, Nat.reduceBEq, frS, ej2, evn]
      refine hk _ ?_
      simp only [thenK, blockK]
      refine ⟨j, ⟨by omega, by rw [hd]; omega⟩, by omega, ?_⟩
      simp -implicitDefEqProofs only [evr, id, reduceCtorEq, reduceIte, Nat.reduceMul, Nat.reduceAdd, Nat.reduceLT, Nat.reduceLeDiff, Nat.reduceEqDiff, Int.reduceLT, Int.reduceBEq, Int.reduceBNe, Nat.reduceBEq, frS, evl, evn]
      omega
  · simp only [decide_eq_false_iff_not] at h
    obtain rfl : q = 0 := by omega
    rw [List.drop_zero, d1.val] at hv
    have hsm : n ≤ 4611686018427387904 := by omega
    refine Sat.exit ?_
    simp only [thenK, blockK, reduceIte]
    (repeat refine Sat.seq ?_)
    (refine Sat.region_k fun k hk => ?_; simp -implicitDefEqProofs only [evr, id, reduceCtorEq, reduceIte, Nat.reduceMul, Nat.reduceAdd, Nat.reduceLT, Nat.reduceLeDiff, Nat.reduceEqDiff, Int.reduceLT, Int.reduceBEq, Int.reduceBNe, Nat.reduceBEq, frS, evn]; refine hk _ ?_; clear hk k; try show Sat _ _ _ _ _)
    refine Sat.ret ?_
    simp only [Tryz.results31, evr, id, reduceCtorEq, reduceIte, Nat.reduceMul, Nat.reduceAdd, Nat.reduceLT, Nat.reduceLeDiff, Nat.reduceEqDiff, Int.reduceLT, Int.reduceBEq, Int.reduceBNe, Nat.reduceBEq, List.append_nil, Int.toNat_zero, Nat.sub_self, frS]
    unfold intV intE
    rw [if_pos hsm, if_pos hsm, d1.val]
end Go.Proofs.YtabgkfjfmjdfiaaGreatDoor
