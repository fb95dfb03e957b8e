/- Prefixes, by the evaluator: mask, Valid, Contains. -/
import Derived.Test.YtepkbbmjbbnhnaaGreatDoorPk4
import Derived.Test.YtepkbbmjbbnhnaaGreatDoorCmpI
set_option linter.unusedSimpArgs false
set_option linter.unusedVariables false
namespace Go.Proofs.YtepkbbmjbbnhnaaGreatDoor
open Go.Sort Eng
def prC (p : Prf) : List SV := [.i .u32 p.addr, .i .i64 p.len]
def prS (p : Prf) : SV := .agg 2 fun j => (prC p).getD j default
def prOk (p : Prf) : Prop := p.addr < 2 ^ 32
theorem mask_wrap {k : Nat} (hk : k ≤ 32) : IntKind.u32.wrap (4294967295 * 2 ^ k) = (maskN k : Int) := by
  have hp := pow_le32 hk
  have hpp := Nat.two_pow_pos k
  rw [IntKind.wrap_u32]
  have e : ((2 : Int) ^ k) = ((2 ^ k : Nat) : Int) := by simp
  rw [e]
  unfold maskN
  generalize 2 ^ k = x at hp hpp ⊢
  omega
set_option maxRecDepth 100000 in
theorem maskC (F : Frm) (n : Int) (h0 : 0 ≤ n) (h1 : n ≤ 32) : Contract F Tryz.prog 91 [.i .i64 n] (fun r => r = .i .u32 (maskN (32 - n.toNat))) := by
  have e1 : IntKind.i64.wrap (32 - n) = ((32 - n.toNat : Nat) : Int) := by rw [w64 (by omega)]; omega
  refine contract_of Tryz.func91 rfl (by kernel_rfl) ?_
  simp only [Tryz.ntmps91, argEnv]
  (repeat refine Sat.seq ?_)
  (refine Sat.region_k fun k hk => ?_; simp -implicitDefEqProofs only [evr, id, reduceCtorEq, reduceIte, Nat.reduceMul, Nat.reduceAdd, Nat.reduceLT, Nat.reduceLeDiff, Nat.reduceEqDiff, Int.reduceLT, Int.reduceBEq, Int.reduceBNe, Nat.reduceBEq, Int.reduceNeg, evn]; refine hk _ ?_; clear hk k; try show Sat _ _ _ _ _)
  refine Sat.seq ?_
  refine Sat.region_k fun k hk => ?_
  simp -implicitDefEqProofs only [evr, id, reduceCtorEq, reduceIte, Nat.reduceMul, Nat.reduceAdd, Nat.reduceLT, Nat.reduceLeDiff, Nat.reduceEqDiff, Int.reduceLT, Int.reduceBEq, Int.reduceBNe, Nat.reduceBEq, Int.reduceNeg, e1, Int.toNat_natCast, evn]
  have e2 : IntKind.u32.bits = 32 := rfl
  have e3 : min (32 - n.toNat) 32 = 32 - n.toNat := by omega
  simp only [e2, e3]
  rw [mask_wrap (by omega)]
  (refine hk _ ?_; clear hk k; try show Sat _ _ _ _ _)
  refine Sat.ret ?_
  simp only [Tryz.results91, evr, id, reduceCtorEq, reduceIte, Nat.reduceMul, Nat.reduceAdd, Nat.reduceLT, Nat.reduceLeDiff, Nat.reduceEqDiff, Int.reduceLT, Int.reduceBEq, Int.reduceBNe, Nat.reduceBEq, List.append_nil, Int.toNat_zero, Nat.sub_self, Int.reduceNeg]
set_option maxRecDepth 100000 in
theorem validC (F : Frm) (p : Prf) (hp : prOk p) : Contract F Tryz.prog 64 [prS p] (fun r => r = .b (vld p)) := by
  refine contract_of Tryz.func64 rfl (by kernel_rfl) ?_
  simp only [Tryz.ntmps64, argEnv, prS, prC]
  (repeat refine Sat.seq ?_)
  (refine Sat.region_k fun k hk => ?_; simp -implicitDefEqProofs only [evr, id, reduceCtorEq, reduceIte, Nat.reduceMul, Nat.reduceAdd, Nat.reduceLT, Nat.reduceLeDiff, Nat.reduceEqDiff, Int.reduceLT, Int.reduceBEq, Int.reduceBNe, Nat.reduceBEq, Int.reduceNeg, evn])
  intro b1
  (refine hk _ ?_; clear hk k; try show Sat _ _ _ _ _)
  refine Sat.seq ?_
  refine Sat.region_qat (by kernel_rfl) (by kernel_rfl) ⟨20, [(2, .b (vld p))], []⟩ (fun k hk => ?_) ?_
  · simp -implicitDefEqProofs only [evr, id, reduceCtorEq, reduceIte, Nat.reduceMul, Nat.reduceAdd, Nat.reduceLT, Nat.reduceLeDiff, Nat.reduceEqDiff, Int.reduceLT, Int.reduceBEq, Int.reduceBNe, Nat.reduceBEq, Int.reduceNeg, evn]
    refine ⟨fun h1 => ⟨fun h2 => ?_, fun h2 => ?_⟩, fun h1 => ?_⟩
    · refine qcall (maskC Frm.nil p.len h1 h2) rfl (ok_plain rfl) ?_
      simp -implicitDefEqProofs only [evr, id, reduceCtorEq, reduceIte, Nat.reduceMul, Nat.reduceAdd, Nat.reduceLT, Nat.reduceLeDiff, Nat.reduceEqDiff, Int.reduceLT, Int.reduceBEq, Int.reduceBNe, Nat.reduceBEq, Int.reduceNeg, evn]
      rw [andNot_mask hp (by omega)]
      refine hk _ ?_
      have e : vld p = (((p.addr % 2 ^ (32 - p.len.toNat) : Nat) : Int) == 0) := by
        unfold vld Prf.k
        rw [decide_eq_true h1, decide_eq_true h2]
        apply Bool.eq_iff_iff.2
        simp only [Bool.true_and, decide_eq_true_eq, beq_iff_eq]
        omega
      simp only [e]
      simp -implicitDefEqProofs only [evr, id, reduceCtorEq, reduceIte, Nat.reduceMul, Nat.reduceAdd, Nat.reduceLT, Nat.reduceLeDiff, Nat.reduceEqDiff, Int.reduceLT, Int.reduceBEq, Int.reduceBNe, Nat.reduceBEq, Int.reduceNeg, evl, evn]
    · refine hk _ ?_
      have e : vld p = false := by unfold vld; rw [decide_eq_false h2]; simp
      simp only [e]
      simp -implicitDefEqProofs only [evr, id, reduceCtorEq, reduceIte, Nat.reduceMul, Nat.reduceAdd, Nat.reduceLT, Nat.reduceLeDiff, Nat.reduceEqDiff, Int.reduceLT, Int.reduceBEq, Int.reduceBNe, Nat.reduceBEq, Int.reduceNeg, evl, evn]
    · refine hk _ ?_
      have e : vld p = false := by unfold vld; rw [decide_eq_false h1]; simp
      simp only [e]
      simp -implicitDefEqProofs only [evr, id, reduceCtorEq, reduceIte, Nat.reduceMul, Nat.reduceAdd, Nat.reduceLT, Nat.reduceLeDiff, Nat.reduceEqDiff, Int.reduceLT, Int.reduceBEq, Int.reduceBNe, Nat.reduceBEq, Int.reduceNeg, evl, evn]
  simp only [thenK]
  refine Sat.ret ?_
  simp only [Tryz.results64, evr, id, reduceCtorEq, reduceIte, Nat.reduceMul, Nat.reduceAdd, Nat.reduceLT, Nat.reduceLeDiff, Nat.reduceEqDiff, Int.reduceLT, Int.reduceBEq, Int.reduceBNe, Nat.reduceBEq, List.append_nil, Int.toNat_zero, Nat.sub_self, Int.reduceNeg]
set_option maxRecDepth 100000 in
theorem containsC (F : Frm) (p : Prf) (hp : prOk p) (a : Nat) (ha : a < 2 ^ 32) : Contract F Tryz.prog 68 [prS p, .i .u32 a] (fun r => r = .b (cont p a)) := by
  refine contract_of Tryz.func68 rfl (by kernel_rfl) ?_
  simp only [Tryz.ntmps68, argEnv, prS, prC]
  (repeat refine Sat.seq ?_)
  (refine Sat.region_k fun k hk => ?_; simp -implicitDefEqProofs only [evr, id, reduceCtorEq, reduceIte, Nat.reduceMul, Nat.reduceAdd, Nat.reduceLT, Nat.reduceLeDiff, Nat.reduceEqDiff, Int.reduceLT, Int.reduceBEq, Int.reduceBNe, Nat.reduceBEq, Int.reduceNeg, evn])
  intro b1
  (refine hk _ ?_; clear hk k; try show Sat _ _ _ _ _)
  refine Sat.seq ?_
  refine Sat.region_qat (by kernel_rfl) (by kernel_rfl) ⟨17, [(4, .b (cont p a))], []⟩ (fun k hk => ?_) ?_
  · simp -implicitDefEqProofs only [evr, id, reduceCtorEq, reduceIte, Nat.reduceMul, Nat.reduceAdd, Nat.reduceLT, Nat.reduceLeDiff, Nat.reduceEqDiff, Int.reduceLT, Int.reduceBEq, Int.reduceBNe, Nat.reduceBEq, Int.reduceNeg, evn]
    refine qcall (validC Frm.nil p hp) (by simp -implicitDefEqProofs only [evr, id, reduceCtorEq, reduceIte, Nat.reduceMul, Nat.reduceAdd, Nat.reduceLT, Nat.reduceLeDiff, Nat.reduceEqDiff, Int.reduceLT, Int.reduceBEq, Int.reduceBNe, Nat.reduceBEq, Int.reduceNeg, evn]; rfl) (ok_plain rfl) ?_
    simp -implicitDefEqProofs only [evr, id, reduceCtorEq, reduceIte, Nat.reduceMul, Nat.reduceAdd, Nat.reduceLT, Nat.reduceLeDiff, Nat.reduceEqDiff, Int.reduceLT, Int.reduceBEq, Int.reduceBNe, Nat.reduceBEq, Int.reduceNeg, evn]
    refine ⟨fun h => ?_, fun h => ?_⟩
    · obtain ⟨h1, h2, h3⟩ := vld_iff.1 h
      refine qcall (maskC Frm.nil p.len h1 h2) rfl (ok_plain rfl) ?_
      simp -implicitDefEqProofs only [evr, id, reduceCtorEq, reduceIte, Nat.reduceMul, Nat.reduceAdd, Nat.reduceLT, Nat.reduceLeDiff, Nat.reduceEqDiff, Int.reduceLT, Int.reduceBEq, Int.reduceBNe, Nat.reduceBEq, Int.reduceNeg, evn]
      rw [and_mask ha (by omega)]
      refine hk _ ?_
      have e : cont p a = (((a / 2 ^ (32 - p.len.toNat) * 2 ^ (32 - p.len.toNat) : Nat) : Int) == (p.addr : Int)) := by
        unfold cont Prf.k
        rw [h]
        apply Bool.eq_iff_iff.2
        simp only [Bool.true_and, decide_eq_true_eq, beq_iff_eq]
        omega
      simp only [e]
      simp -implicitDefEqProofs only [evr, id, reduceCtorEq, reduceIte, Nat.reduceMul, Nat.reduceAdd, Nat.reduceLT, Nat.reduceLeDiff, Nat.reduceEqDiff, Int.reduceLT, Int.reduceBEq, Int.reduceBNe, Nat.reduceBEq, Int.reduceNeg, evl, evn]
    · refine hk _ ?_
      have e : cont p a = false := by unfold cont; rw [h]; rfl
      simp only [e]
      simp -implicitDefEqProofs only [evr, id, reduceCtorEq, reduceIte, Nat.reduceMul, Nat.reduceAdd, Nat.reduceLT, Nat.reduceLeDiff, Nat.reduceEqDiff, Int.reduceLT, Int.reduceBEq, Int.reduceBNe, Nat.reduceBEq, Int.reduceNeg, evl, evn]
  simp only [thenK]
  refine Sat.ret ?_
  simp only [Tryz.results68, evr, id, reduceCtorEq, reduceIte, Nat.reduceMul, Nat.reduceAdd, Nat.reduceLT, Nat.reduceLeDiff, Nat.reduceEqDiff, Int.reduceLT, Int.reduceBEq, Int.reduceBNe, Nat.reduceBEq, List.append_nil, Int.toNat_zero, Nat.sub_self, Int.reduceNeg]
end Go.Proofs.YtepkbbmjbbnhnaaGreatDoor
