import Derived.Test.YtabgkfjfmjdfiaaGreatDoorIntE
import Derived.Test.YtabgkfjfmjdfiaaGreatDoorFrG

/- Package fraction: Valid, checked, Add: what each gives. -/
set_option linter.unusedSimpArgs false
set_option linter.unusedVariables false
namespace Go.Proofs.YtabgkfjfmjdfiaaGreatDoor
open Eng Lmb Go.RowKit
theorem norm_last {xs : List Int} (h : Norm xs) (h0 : 0 < xs.length) : xs.getD (xs.length - 1) 0 ≠ 0 := by
  induction xs with
  | nil => simp at h0
  | cons x t ih =>
    cases t with
    | nil => rw [norm_one] at h; simpa using h
    | cons y t =>
      have h2 : Norm (y :: t) := by rwa [norm_cons] at h
      have := ih h2 (by simp)
      simpa using this
set_option maxRecDepth 100000 in
theorem natValidC (F : Frm) {s : SV} {n : Nat} (hs : Nats s n) (hb : (n : Int) < pw 512) : Contract F Tryz.prog 35 [s] (fun r => r = .b (decide ((n : Int) < pw 256))) := by
  obtain ⟨xs, hi1, d1⟩ := hs.ints
  have l1 := (d1.len_le 512).2 hb
  have l2 := d1.len_le 256
  obtain ⟨a1, c1, z1, r1, rfl, hz1, hr1⟩ := hi1
  refine contract_of Tryz.func35 rfl (by kernel_rfl) ?_
  simp only [Tryz.ntmps35, argEnv]
  (repeat refine Sat.seq ?_)
  (refine Sat.region_k fun k hk => ?_; simp -implicitDefEqProofs only [evr, id, reduceCtorEq, reduceIte, Nat.reduceMul, Nat.reduceAdd, Nat.reduceLT, Nat.reduceLeDiff, Nat.reduceEqDiff, Int.reduceLT, Int.reduceBEq, Int.reduceBNe, Nat.reduceBEq, frS, evn]; refine hk _ ?_; clear hk k; try show Sat _ _ _ _ _)
  (repeat refine Sat.seq ?_)
  (refine Sat.region_k fun k hk => ?_; simp -implicitDefEqProofs only [evr, id, reduceCtorEq, reduceIte, Nat.reduceMul, Nat.reduceAdd, Nat.reduceLT, Nat.reduceLeDiff, Nat.reduceEqDiff, Int.reduceLT, Int.reduceBEq, Int.reduceBNe, Nat.reduceBEq, frS, evn]; refine hk _ ?_; clear hk k; try show Sat _ _ _ _ _)
  (repeat refine Sat.seq ?_)
  refine Sat.block ?_
  (repeat refine Sat.seq ?_)
  refine Sat.loop (ι := Nat) (fun q => ⟨35, [(7, .i .i64 (q : Int)), (6, .i .i64 (xs.length : Nat)), (5, .sl a1 xs.length c1 z1 r1), (0, .sl a1 xs.length c1 z1 r1)], []⟩)
    (fun q => q ≤ xs.length) (fun q => xs.length - q) 0 (Nat.zero_le _) (by simp -implicitDefEqProofs only [evr, id, reduceCtorEq, reduceIte, Nat.reduceMul, Nat.reduceAdd, Nat.reduceLT, Nat.reduceLeDiff, Nat.reduceEqDiff, Int.reduceLT, Int.reduceBEq, Int.reduceBNe, Nat.reduceBEq, frS, evl, evn]; try rfl) ?_
  rintro q hq
  (repeat refine Sat.seq ?_)
  (refine Sat.region_k fun k hk => ?_; simp -implicitDefEqProofs only [evr, id, reduceCtorEq, reduceIte, Nat.reduceMul, Nat.reduceAdd, Nat.reduceLT, Nat.reduceLeDiff, Nat.reduceEqDiff, Int.reduceLT, Int.reduceBEq, Int.reduceBNe, Nat.reduceBEq, frS, evn]; refine hk _ ?_; clear hk k; try show Sat _ _ _ _ _)
  (repeat refine Sat.seq ?_)
  refine Sat.cond_b rfl (fun h => ?_) (fun h => ?_)
  · simp only [decide_eq_true_eq] at h
    have hj : q < xs.length := by omega
    have hsz1 : z1 = 1 := hz1.resolve_left (by omega)
    subst hsz1
    have g1 := hr1 q hj
    have bx := limbs_getD d1.limbs q
    have ej1 : IntKind.i64.wrap ((q : Int) + 1) = ((q + 1 : Nat) : Int) := by rw [w64 (by omega)]; omega
    refine Sat.skip ?_
    simp only [thenK]
    (repeat refine Sat.seq ?_)
    refine Sat.block ?_
    (repeat refine Sat.seq ?_)
    (refine Sat.region_k fun k hk => ?_; simp -implicitDefEqProofs only [evr, id, reduceCtorEq, reduceIte, Nat.reduceMul, Nat.reduceAdd, Nat.reduceLT, Nat.reduceLeDiff, Nat.reduceEqDiff, Int.reduceLT, Int.reduceBEq, Int.reduceBNe, Nat.reduceBEq, frS, evn])
    refine ⟨by omega, ?_⟩
    rw [g1]
    (refine hk _ ?_; clear hk k; try show Sat _ _ _ _ _)
    (repeat refine Sat.seq ?_)
    refine Sat.region_at ⟨35, [(16, .b false), (7, .i .i64 (q : Int)), (6, .i .i64 (xs.length : Nat)), (5, .sl a1 xs.length c1 1 r1), (0, .sl a1 xs.length c1 1 r1)], []⟩ (fun k hk => ?_) ?_
    · simp -implicitDefEqProofs only [evr, id, reduceCtorEq, reduceIte, Nat.reduceMul, Nat.reduceAdd, Nat.reduceLT, Nat.reduceLeDiff, Nat.reduceEqDiff, Int.reduceLT, Int.reduceBEq, Int.reduceBNe, Nat.reduceBEq, frS, evn]
      refine ⟨fun h9 => by omega, fun h9 => ?_⟩
      refine hk _ ?_
      rw [decide_eq_false (by omega)]
      simp -implicitDefEqProofs only [evr, id, reduceCtorEq, reduceIte, Nat.reduceMul, Nat.reduceAdd, Nat.reduceLT, Nat.reduceLeDiff, Nat.reduceEqDiff, Int.reduceLT, Int.reduceBEq, Int.reduceBNe, Nat.reduceBEq, frS, evl, evn]
    simp only [thenK]
    refine Sat.cond_b rfl (fun h => by cases h) (fun h => ?_)
    refine Sat.skip ?_
    simp only [thenK, blockK]
    (repeat refine Sat.seq ?_)
    refine Sat.region_k fun k hk => ?_
    simp -implicitDefEqProofs only [evr, id, reduceCtorEq, reduceIte, Nat.reduceMul, Nat.reduceAdd, Nat.reduceLT, Nat.reduceLeDiff, Nat.reduceEqDiff, Int.reduceLT, Int.reduceBEq, Int.reduceBNe, Nat.reduceBEq, frS, ej1, evn]
    refine hk _ ?_
    simp only [thenK, blockK]
    refine ⟨q + 1, by show q + 1 ≤ xs.length; omega, by omega, ?_⟩
    simp -implicitDefEqProofs only [evr, id, reduceCtorEq, reduceIte, Nat.reduceMul, Nat.reduceAdd, Nat.reduceLT, Nat.reduceLeDiff, Nat.reduceEqDiff, Int.reduceLT, Int.reduceBEq, Int.reduceBNe, Nat.reduceBEq, frS, evl, evn]
  · refine Sat.exit ?_
    simp only [thenK, blockK, reduceIte]
    (repeat refine Sat.seq ?_)
    refine Sat.region_at ⟨35, [(2, .b (decide ((n : Int) < pw 256)))], []⟩ (fun k hk => ?_) ?_
    · simp -implicitDefEqProofs only [evr, id, reduceCtorEq, reduceIte, Nat.reduceMul, Nat.reduceAdd, Nat.reduceLT, Nat.reduceLeDiff, Nat.reduceEqDiff, Int.reduceLT, Int.reduceBEq, Int.reduceBNe, Nat.reduceBEq, frS, evn]
      refine ⟨fun h9 => ⟨fun h8 => ?_, fun h8 => ?_⟩, fun h9 => ?_⟩
      · refine hk _ ?_
        have e : decide ((n : Int) < pw 256) = true := decide_eq_true (l2.1 (by omega))
        rw [e]
        simp -implicitDefEqProofs only [evr, id, reduceCtorEq, reduceIte, Nat.reduceMul, Nat.reduceAdd, Nat.reduceLT, Nat.reduceLeDiff, Nat.reduceEqDiff, Int.reduceLT, Int.reduceBEq, Int.reduceBNe, Nat.reduceBEq, frS, evl, evn]
        try exact h8
      · have h7 : ¬ (xs.length : Int) = 0 := by
          intro h6
          rw [h6] at h8
          cases h8
        have hsz1 : z1 = 1 := hz1.resolve_left (by omega)
        subst hsz1
        have e1 : IntKind.i64.wrap ((xs.length : Int) - 1) = ((xs.length - 1 : Nat) : Int) := by rw [w64 (by omega)]; omega
        rw [e1]
        refine ⟨by omega, ?_⟩
        rw [Int.toNat_natCast, hr1 _ (by omega)]
        simp -implicitDefEqProofs only [evr, id, reduceCtorEq, reduceIte, Nat.reduceMul, Nat.reduceAdd, Nat.reduceLT, Nat.reduceLeDiff, Nat.reduceEqDiff, Int.reduceLT, Int.reduceBEq, Int.reduceBNe, Nat.reduceBEq, frS, evn]
        refine hk _ ?_
        have e : decide ((n : Int) < pw 256) = true := decide_eq_true (l2.1 (by omega))
        rw [e, bne_iff_ne.2 (norm_last d1.norm (by omega))]
        simp -implicitDefEqProofs only [evr, id, reduceCtorEq, reduceIte, Nat.reduceMul, Nat.reduceAdd, Nat.reduceLT, Nat.reduceLeDiff, Nat.reduceEqDiff, Int.reduceLT, Int.reduceBEq, Int.reduceBNe, Nat.reduceBEq, frS, evl, evn]
      · refine hk _ ?_
        have e : decide ((n : Int) < pw 256) = false := decide_eq_false (fun h6 => h9 (by have := l2.2 h6; omega))
        rw [e]
        simp -implicitDefEqProofs only [evr, id, reduceCtorEq, reduceIte, Nat.reduceMul, Nat.reduceAdd, Nat.reduceLT, Nat.reduceLeDiff, Nat.reduceEqDiff, Int.reduceLT, Int.reduceBEq, Int.reduceBNe, Nat.reduceBEq, frS, evl, evn]
        try exact h9
    simp only [thenK]
    refine Sat.ret ?_
    simp only [Tryz.results35, evr, id, reduceCtorEq, reduceIte, Nat.reduceMul, Nat.reduceAdd, Nat.reduceLT, Nat.reduceLeDiff, Nat.reduceEqDiff, Int.reduceLT, Int.reduceBEq, Int.reduceBNe, Nat.reduceBEq, List.append_nil, Int.toNat_zero, Nat.sub_self, frS]
end Go.Proofs.YtabgkfjfmjdfiaaGreatDoor
