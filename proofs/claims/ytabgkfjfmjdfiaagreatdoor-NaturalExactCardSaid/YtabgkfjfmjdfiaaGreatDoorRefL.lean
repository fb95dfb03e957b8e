import Derived.Test.YtabgkfjfmjdfiaaGreatDoorRefK
import Derived.Test.YtabgkfjfmjdfiaaGreatDoorDecM

/- The reference's texts of small numbers, by the evaluator: Decimal, Text of one limb, and of a fraction. -/
set_option linter.unusedSimpArgs false
set_option linter.unusedVariables false
namespace Go.Proofs.YtabgkfjfmjdfiaaGreatDoor
open Eng Lmb Go.RowKit
set_option maxRecDepth 100000 in
theorem refDecimalC (F : Frm) : ∀ (n : Nat), n < 9223372036854775808 → Contract F Tryz.prog 87 [.i .i64 n] (fun r => r = .v (.string (decB n))) := by
  intro n
  induction n using Nat.strongRecOn with
  | ind n ih =>
  intro hn
  refine contract_of Tryz.func87 rfl (by kernel_rfl) ?_
  simp only [Tryz.ntmps87, argEnv]
  have e1 : ((n : Int)).tmod 10 = ((n % 10 : Nat) : Int) := by rw [Int.tmod_eq_emod_of_nonneg (by omega)]; omega
  have e2 : IntKind.i64.wrap (48 + ((n % 10 : Nat) : Int)) = 48 + ((n % 10 : Nat) : Int) := w64 (by omega)
  have hw : ∀ z : Int, IntKind.u8.wrap z = z % 256 := fun z => by unfold IntKind.wrap; simp [IntKind.bits, IntKind.signed]
  have e3 : IntKind.u8.wrap (48 + ((n % 10 : Nat) : Int)) = 48 + ((n % 10 : Nat) : Int) := by rw [hw]; omega
  have e4 : IntKind.i64.wrap (((n : Int)).tdiv 10) = ((n / 10 : Nat) : Int) := by rw [Int.tdiv_eq_ediv_of_nonneg (by omega), w64 (by omega)]; omega
  (repeat refine Sat.seq ?_)
  (refine Sat.region_k fun k hk => ?_; simp -implicitDefEqProofs only [evr, id, reduceCtorEq, reduceIte, Nat.reduceMul, Nat.reduceAdd, Nat.reduceLT, Nat.reduceLeDiff, Nat.reduceEqDiff, Int.reduceLT, Int.reduceBEq, Int.reduceBNe, Nat.reduceBEq, frS, evn]; refine hk _ ?_; clear hk k; try show Sat _ _ _ _ _)
  (repeat refine Sat.seq ?_)
  refine Sat.region_k fun k hk => ?_
  simp -implicitDefEqProofs only [evr, id, reduceCtorEq, reduceIte, Nat.reduceMul, Nat.reduceAdd, Nat.reduceLT, Nat.reduceLeDiff, Nat.reduceEqDiff, Int.reduceLT, Int.reduceBEq, Int.reduceBNe, Nat.reduceBEq, frS, e1, e2, e3, evn]
  refine ⟨by decide, fun blk => ?_⟩
  refine ⟨fun i hi => by obtain rfl : i = 0 := by omega
                         exact ⟨_, rfl⟩, ?_⟩
  have e5 : Eng.intOf (rdL [SV.i .u8 (48 + ((n % 10 : Nat) : Int))] 1 0 0) = 48 + ((n % 10 : Nat) : Int) := rfl
  rw [e5]
  (refine hk _ ?_; clear hk k; try show Sat _ _ _ _ _)
  (repeat refine Sat.seq ?_)
  (refine Sat.region_k fun k hk => ?_; simp -implicitDefEqProofs only [evr, id, reduceCtorEq, reduceIte, Nat.reduceMul, Nat.reduceAdd, Nat.reduceLT, Nat.reduceLeDiff, Nat.reduceEqDiff, Int.reduceLT, Int.reduceBEq, Int.reduceBNe, Nat.reduceBEq, frS, evn]; refine hk _ ?_; clear hk k; try show Sat _ _ _ _ _)
  refine Sat.cond_b rfl (fun h => ?_) (fun h => ?_)
  · have h10 : ¬ n < 10 := by have := of_decide_eq_true h; omega
    have hsz := decB_size 18 (n / 10) (by omega)
    (repeat refine Sat.seq ?_)
    refine Sat.region_k fun k hk => ?_
    simp -implicitDefEqProofs only [evr, id, reduceCtorEq, reduceIte, Nat.reduceMul, Nat.reduceAdd, Nat.reduceLT, Nat.reduceLeDiff, Nat.reduceEqDiff, Int.reduceLT, Int.reduceBEq, Int.reduceBNe, Nat.reduceBEq, frS, e4, evn]
    refine ⟨by decide, ?_⟩
    refine wcall_plain (ih (n / 10) (by omega) (by omega)) rfl (by rintro _ rfl; exact ok_plain rfl) ?_
    rintro r rfl
    simp -implicitDefEqProofs only [evr, id, reduceCtorEq, reduceIte, Nat.reduceMul, Nat.reduceAdd, Nat.reduceLT, Nat.reduceLeDiff, Nat.reduceEqDiff, Int.reduceLT, Int.reduceBEq, Int.reduceBNe, Nat.reduceBEq, frS, evn]
    rw [bytesOf_one, if_pos (by show _ ≤ (9223372036854775807 : Int); omega)]
    simp -implicitDefEqProofs only [evr, id, reduceCtorEq, reduceIte, Nat.reduceMul, Nat.reduceAdd, Nat.reduceLT, Nat.reduceLeDiff, Nat.reduceEqDiff, Int.reduceLT, Int.reduceBEq, Int.reduceBNe, Nat.reduceBEq, frS, evn]
    (refine hk _ ?_; clear hk k; try show Sat _ _ _ _ _)
    refine Sat.ret ?_
    simp only [Tryz.results87, evr, id, reduceCtorEq, reduceIte, Nat.reduceMul, Nat.reduceAdd, Nat.reduceLT, Nat.reduceLeDiff, Nat.reduceEqDiff, Int.reduceLT, Int.reduceBEq, Int.reduceBNe, Nat.reduceBEq, List.append_nil, Int.toNat_zero, Nat.sub_self, frS]
    rw [decB_big h10]
  · have h10 : n < 10 := by have := of_decide_eq_false h; omega
    refine Sat.skip ?_
    simp only [thenK]
    (repeat refine Sat.seq ?_)
    (refine Sat.region_k fun k hk => ?_; simp -implicitDefEqProofs only [evr, id, reduceCtorEq, reduceIte, Nat.reduceMul, Nat.reduceAdd, Nat.reduceLT, Nat.reduceLeDiff, Nat.reduceEqDiff, Int.reduceLT, Int.reduceBEq, Int.reduceBNe, Nat.reduceBEq, frS, evn]; refine hk _ ?_; clear hk k; try show Sat _ _ _ _ _)
    refine Sat.ret ?_
    simp only [Tryz.results87, evr, id, reduceCtorEq, reduceIte, Nat.reduceMul, Nat.reduceAdd, Nat.reduceLT, Nat.reduceLeDiff, Nat.reduceEqDiff, Int.reduceLT, Int.reduceBEq, Int.reduceBNe, Nat.reduceBEq, List.append_nil, Int.toNat_zero, Nat.sub_self, frS]
    rw [decB_small h10, Nat.mod_eq_of_lt h10]
end Go.Proofs.YtabgkfjfmjdfiaaGreatDoor
