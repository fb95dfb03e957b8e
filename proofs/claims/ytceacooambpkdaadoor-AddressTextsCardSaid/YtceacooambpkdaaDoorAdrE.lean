/- Prefixes, by the evaluator: package address. -/
import Derived.Test.YtceacooambpkdaaDoorPrfM
import Derived.Test.YtceacooambpkdaaDoorCmpI
set_option linter.unusedSimpArgs false
set_option linter.unusedVariables false
namespace Go.Proofs.YtceacooambpkdaaDoor
open Go.Sort Eng

def prC (p : Prf) : List SV := [.i .u32 p.addr, .i .i64 p.len]
def prS (p : Prf) : SV := .agg 2 fun j => (prC p).getD j default
def prOk (p : Prf) : Prop := p.addr < 2 ^ 32

theorem mask_wrap {k : Nat} (hk : k ≤ 32) : IntKind.u32.wrap (4294967295 * 2 ^ k) = (maskN k : Int) := by
  have hp := pow_le32 hk
  have hpp := Nat.two_pow_pos k
  rw [IntKind.wrap_u32]
  have e : ((2 : Int) ^ k) = ((2 ^ k : Nat) : Int) := by simp
  rw [e]
  unfold maskN
  generalize 2 ^ k = x at hp hpp ⊢
  omega
set_option maxRecDepth 100000 in
theorem maskC (F : Frm) (n : Int) (h0 : 0 ≤ n) (h1 : n ≤ 32) : Contract F Tryd.prog 51 [.i .i64 n] (fun r => r = .i .u32 (maskN (32 - n.toNat))) := by
  have e1 : IntKind.i64.wrap (32 - n) = ((32 - n.toNat : Nat) : Int) := by rw [w64 (by omega)]; omega
  refine contract_of Tryd.func51 rfl (by kernel_rfl) ?_
  simp only [Tryd.ntmps51, argEnv]
  (repeat refine Sat.seq ?_)
  (refine Sat.region_k fun k hk => ?_; simp -implicitDefEqProofs only [evr, id, reduceCtorEq, reduceIte, Nat.reduceMul, Nat.reduceAdd, Nat.reduceLT, Nat.reduceLeDiff, Nat.reduceEqDiff, Int.reduceLT, Int.reduceBEq, Int.reduceBNe, Nat.reduceBEq, List.append_nil, Int.toNat_zero, Nat.sub_self, Int.reduceNeg]; refine hk _ ?_; clear hk k; try show Sat _ _ _ _ _)
  refine Sat.seq ?_
  refine Sat.region_k fun k hk => ?_
  simp -implicitDefEqProofs only [evr, id, reduceCtorEq, reduceIte, Nat.reduceMul, Nat.reduceAdd, Nat.reduceLT, Nat.reduceLeDiff, Nat.reduceEqDiff, Int.reduceLT, Int.reduceBEq, Int.reduceBNe, Nat.reduceBEq, List.append_nil, Int.toNat_zero, Nat.sub_self, Int.reduceNeg, e1, Int.toNat_natCast]
  have e2 : IntKind.u32.bits = 32 := rfl
  have e3 : min (32 - n.toNat) 32 = 32 - n.toNat := by omega
  simp only [e2, e3]
  rw [mask_wrap (by omega)]
  (refine hk _ ?_; clear hk k; try show Sat _ _ _ _ _)
  refine Sat.ret ?_
  simp only [Tryd.results51, evr, id, reduceCtorEq, reduceIte, Nat.reduceMul, Nat.reduceAdd, Nat.reduceLT, Nat.reduceLeDiff, Nat.reduceEqDiff, Int.reduceLT, Int.reduceBEq, Int.reduceBNe, Nat.reduceBEq, List.append_nil, Int.toNat_zero, Nat.sub_self, Int.reduceNeg]

set_option maxRecDepth 100000 in
theorem validC (F : Frm) (p : Prf) (hp : prOk p) : Contract F Tryd.prog 22 [prS p] (fun r => r = .b (vld p)) := by
  refine contract_of Tryd.func22 rfl (by kernel_rfl) ?_
  simp only [Tryd.ntmps22, argEnv, prS, prC]
  (repeat refine Sat.seq ?_)
  (refine Sat.region_k fun k hk => ?_; simp -implicitDefEqProofs only [evr, id, reduceCtorEq, reduceIte, Nat.reduceMul, Nat.reduceAdd, Nat.reduceLT, Nat.reduceLeDiff, Nat.reduceEqDiff, Int.reduceLT, Int.reduceBEq, Int.reduceBNe, Nat.reduceBEq, List.append_nil, Int.toNat_zero, Nat.sub_self, Int.reduceNeg])
  intro b1
  (refine hk _ ?_; clear hk k; try show Sat _ _ _ _ _)
  refine Sat.seq ?_
  refine Sat.region_qat (by kernel_rfl) (by kernel_rfl) ⟨20, [(2, .b (vld p))], []⟩ (fun k hk => ?_) ?_
  · simp -implicitDefEqProofs only [evr, id, reduceCtorEq, reduceIte, Nat.reduceMul, Nat.reduceAdd, Nat.reduceLT, Nat.reduceLeDiff, Nat.reduceEqDiff, Int.reduceLT, Int.reduceBEq, Int.reduceBNe, Nat.reduceBEq, List.append_nil, Int.toNat_zero, Nat.sub_self, Int.reduceNeg]
    refine ⟨fun h1 => ⟨fun h2 => ?_, fun h2 => ?_⟩, fun h1 => ?_⟩
    · refine qcall (maskC Frm.nil p.len h1 h2) rfl (ok_plain rfl) ?_
      simp -implicitDefEqProofs only [evr, id, reduceCtorEq, reduceIte, Nat.reduceMul, Nat.reduceAdd, Nat.reduceLT, Nat.reduceLeDiff, Nat.reduceEqDiff, Int.reduceLT, Int.reduceBEq, Int.reduceBNe, Nat.reduceBEq, List.append_nil, Int.toNat_zero, Nat.sub_self, Int.reduceNeg]
      rw [andNot_mask hp (by omega)]
      refine hk _ ?_
      have e : vld p = (((p.addr % 2 ^ (32 - p.len.toNat) : Nat) : Int) == 0) := by
        unfold vld Prf.k
        rw [decide_eq_true h1, decide_eq_true h2]
        apply Bool.eq_iff_iff.2
        simp only [Bool.true_and, decide_eq_true_eq, beq_iff_eq]
        omega
      simp only [e]
      simp -implicitDefEqProofs only [evr, id, reduceCtorEq, reduceIte, Nat.reduceMul, Nat.reduceAdd, Nat.reduceLT, Nat.reduceLeDiff, Nat.reduceEqDiff, Int.reduceLT, Int.reduceBEq, Int.reduceBNe, Nat.reduceBEq, List.append_nil, Int.toNat_zero, Nat.sub_self, Int.reduceNeg, evl]
    · refine hk _ ?_
      have e : vld p = false := by unfold vld; rw [decide_eq_false h2]; simp
      simp only [e]
      simp -implicitDefEqProofs only [evr, id, reduceCtorEq, reduceIte, Nat.reduceMul, Nat.reduceAdd, Nat.reduceLT, Nat.reduceLeDiff, Nat.reduceEqDiff, Int.reduceLT, Int.reduceBEq, Int.reduceBNe, Nat.reduceBEq, List.append_nil, Int.toNat_zero, Nat.sub_self, Int.reduceNeg, evl]
    · refine hk _ ?_
      have e : vld p = false := by unfold vld; rw [decide_eq_false h1]; simp
      simp only [e]
      simp -implicitDefEqProofs only [evr, id, reduceCtorEq, reduceIte, Nat.reduceMul, Nat.reduceAdd, Nat.reduceLT, Nat.reduceLeDiff, Nat.reduceEqDiff, Int.reduceLT, Int.reduceBEq, Int.reduceBNe, Nat.reduceBEq, List.append_nil, Int.toNat_zero, Nat.sub_self, Int.reduceNeg, evl]
  simp only [thenK]
  refine Sat.ret ?_
  simp only [Tryd.results22, evr, id, reduceCtorEq, reduceIte, Nat.reduceMul, Nat.reduceAdd, Nat.reduceLT, Nat.reduceLeDiff, Nat.reduceEqDiff, Int.reduceLT, Int.reduceBEq, Int.reduceBNe, Nat.reduceBEq, List.append_nil, Int.toNat_zero, Nat.sub_self, Int.reduceNeg]

set_option maxRecDepth 100000 in
theorem containsC (F : Frm) (p : Prf) (hp : prOk p) (a : Nat) (ha : a < 2 ^ 32) : Contract F Tryd.prog 23 [prS p, .i .u32 a] (fun r => r = .b (cont p a)) := by
  refine contract_of Tryd.func23 rfl (by kernel_rfl) ?_
  simp only [Tryd.ntmps23, argEnv, prS, prC]
  (repeat refine Sat.seq ?_)
  (refine Sat.region_k fun k hk => ?_; simp -implicitDefEqProofs only [evr, id, reduceCtorEq, reduceIte, Nat.reduceMul, Nat.reduceAdd, Nat.reduceLT, Nat.reduceLeDiff, Nat.reduceEqDiff, Int.reduceLT, Int.reduceBEq, Int.reduceBNe, Nat.reduceBEq, List.append_nil, Int.toNat_zero, Nat.sub_self, Int.reduceNeg])
  intro b1
  (refine hk _ ?_; clear hk k; try show Sat _ _ _ _ _)
  refine Sat.seq ?_
  refine Sat.region_qat (by kernel_rfl) (by kernel_rfl) ⟨17, [(4, .b (cont p a))], []⟩ (fun k hk => ?_) ?_
  · simp -implicitDefEqProofs only [evr, id, reduceCtorEq, reduceIte, Nat.reduceMul, Nat.reduceAdd, Nat.reduceLT, Nat.reduceLeDiff, Nat.reduceEqDiff, Int.reduceLT, Int.reduceBEq, Int.reduceBNe, Nat.reduceBEq, List.append_nil, Int.toNat_zero, Nat.sub_self, Int.reduceNeg]
    refine qcall (validC Frm.nil p hp) (by simp -implicitDefEqProofs only [evr, id, reduceCtorEq, reduceIte, Nat.reduceMul, Nat.reduceAdd, Nat.reduceLT, Nat.reduceLeDiff, Nat.reduceEqDiff, Int.reduceLT, Int.reduceBEq, Int.reduceBNe, Nat.reduceBEq, List.append_nil, Int.toNat_zero, Nat.sub_self, Int.reduceNeg]; rfl) (ok_plain rfl) ?_
    simp -implicitDefEqProofs only [evr, id, reduceCtorEq, reduceIte, Nat.reduceMul, Nat.reduceAdd, Nat.reduceLT, Nat.reduceLeDiff, Nat.reduceEqDiff, Int.reduceLT, Int.reduceBEq, Int.reduceBNe, Nat.reduceBEq, List.append_nil, Int.toNat_zero, Nat.sub_self, Int.reduceNeg]
    refine ⟨fun h => ?_, fun h => ?_⟩
    · obtain ⟨h1, h2, h3⟩ := vld_iff.1 h
      refine qcall (maskC Frm.nil p.len h1 h2) rfl (ok_plain rfl) ?_
      simp -implicitDefEqProofs only [evr, id, reduceCtorEq, reduceIte, Nat.reduceMul, Nat.reduceAdd, Nat.reduceLT, Nat.reduceLeDiff, Nat.reduceEqDiff, Int.reduceLT, Int.reduceBEq, Int.reduceBNe, Nat.reduceBEq, List.append_nil, Int.toNat_zero, Nat.sub_self, Int.reduceNeg]
      rw [and_mask ha (by omega)]
      refine hk _ ?_
      have e : cont p a = (((a / 2 ^ (32 - p.len.toNat) * 2 ^ (32 - p.len.toNat) : Nat) : Int) == (p.addr : Int)) := by
        unfold cont Prf.k
        rw [h]
        apply Bool.eq_iff_iff.2
        simp only [Bool.true_and, decide_eq_true_eq, beq_iff_eq]
        omega
      simp only [e]
      simp -implicitDefEqProofs only [evr, id, reduceCtorEq, reduceIte, Nat.reduceMul, Nat.reduceAdd, Nat.reduceLT, Nat.reduceLeDiff, Nat.reduceEqDiff, Int.reduceLT, Int.reduceBEq, Int.reduceBNe, Nat.reduceBEq, List.append_nil, Int.toNat_zero, Nat.sub_self, Int.reduceNeg, evl]
    · refine hk _ ?_
      have e : cont p a = false := by unfold cont; rw [h]; rfl
      simp only [e]
      simp -implicitDefEqProofs only [evr, id, reduceCtorEq, reduceIte, Nat.reduceMul, Nat.reduceAdd, Nat.reduceLT, Nat.reduceLeDiff, Nat.reduceEqDiff, Int.reduceLT, Int.reduceBEq, Int.reduceBNe, Nat.reduceBEq, List.append_nil, Int.toNat_zero, Nat.sub_self, Int.reduceNeg, evl]
  simp only [thenK]
  refine Sat.ret ?_
  simp only [Tryd.results23, evr, id, reduceCtorEq, reduceIte, Nat.reduceMul, Nat.reduceAdd, Nat.reduceLT, Nat.reduceLeDiff, Nat.reduceEqDiff, Int.reduceLT, Int.reduceBEq, Int.reduceBNe, Nat.reduceBEq, List.append_nil, Int.toNat_zero, Nat.sub_self, Int.reduceNeg]

set_option maxRecDepth 100000 in
theorem coversC (F : Frm) (p q : Prf) (hp : prOk p) (hq : prOk q) : Contract F Tryd.prog 28 [prS p, prS q] (fun r => r = .b (cov p q)) := by
  refine contract_of Tryd.func28 rfl (by kernel_rfl) ?_
  simp only [Tryd.ntmps28, argEnv, prS, prC]
  (repeat refine Sat.seq ?_)
  (refine Sat.region_k fun k hk => ?_; simp -implicitDefEqProofs only [evr, id, reduceCtorEq, reduceIte, Nat.reduceMul, Nat.reduceAdd, Nat.reduceLT, Nat.reduceLeDiff, Nat.reduceEqDiff, Int.reduceLT, Int.reduceBEq, Int.reduceBNe, Nat.reduceBEq, List.append_nil, Int.toNat_zero, Nat.sub_self, Int.reduceNeg])
  intro b1 b2
  (refine hk _ ?_; clear hk k; try show Sat _ _ _ _ _)
  refine Sat.seq ?_
  refine Sat.region_at ⟨20, [(4, .b (cov p q))], []⟩ (fun k hk => ?_) ?_
  · simp -implicitDefEqProofs only [evr, id, reduceCtorEq, reduceIte, Nat.reduceMul, Nat.reduceAdd, Nat.reduceLT, Nat.reduceLeDiff, Nat.reduceEqDiff, Int.reduceLT, Int.reduceBEq, Int.reduceBNe, Nat.reduceBEq, List.append_nil, Int.toNat_zero, Nat.sub_self, Int.reduceNeg]
    refine wcall_plain (validC F q hq) (by simp -implicitDefEqProofs only [evr, id, reduceCtorEq, reduceIte, Nat.reduceMul, Nat.reduceAdd, Nat.reduceLT, Nat.reduceLeDiff, Nat.reduceEqDiff, Int.reduceLT, Int.reduceBEq, Int.reduceBNe, Nat.reduceBEq, List.append_nil, Int.toNat_zero, Nat.sub_self, Int.reduceNeg]; rfl) (by rintro _ rfl; exact ok_plain rfl) ?_
    rintro r rfl
    simp -implicitDefEqProofs only [evr, id, reduceCtorEq, reduceIte, Nat.reduceMul, Nat.reduceAdd, Nat.reduceLT, Nat.reduceLeDiff, Nat.reduceEqDiff, Int.reduceLT, Int.reduceBEq, Int.reduceBNe, Nat.reduceBEq, List.append_nil, Int.toNat_zero, Nat.sub_self, Int.reduceNeg]
    refine ⟨fun h => ⟨fun h2 => ?_, fun h2 => ?_⟩, fun h => ?_⟩
    · refine wcall_plain (containsC F p hp q.addr hq) (by simp -implicitDefEqProofs only [evr, id, reduceCtorEq, reduceIte, Nat.reduceMul, Nat.reduceAdd, Nat.reduceLT, Nat.reduceLeDiff, Nat.reduceEqDiff, Int.reduceLT, Int.reduceBEq, Int.reduceBNe, Nat.reduceBEq, List.append_nil, Int.toNat_zero, Nat.sub_self, Int.reduceNeg]; rfl) (by rintro _ rfl; exact ok_plain rfl) ?_
      rintro r rfl
      simp -implicitDefEqProofs only [evr, id, reduceCtorEq, reduceIte, Nat.reduceMul, Nat.reduceAdd, Nat.reduceLT, Nat.reduceLeDiff, Nat.reduceEqDiff, Int.reduceLT, Int.reduceBEq, Int.reduceBNe, Nat.reduceBEq, List.append_nil, Int.toNat_zero, Nat.sub_self, Int.reduceNeg]
      refine hk _ ?_
      have e : cov p q = cont p q.addr := by unfold cov; rw [h, decide_eq_true h2]; rfl
      simp only [e]
      simp -implicitDefEqProofs only [evr, id, reduceCtorEq, reduceIte, Nat.reduceMul, Nat.reduceAdd, Nat.reduceLT, Nat.reduceLeDiff, Nat.reduceEqDiff, Int.reduceLT, Int.reduceBEq, Int.reduceBNe, Nat.reduceBEq, List.append_nil, Int.toNat_zero, Nat.sub_self, Int.reduceNeg, evl]
    · refine hk _ ?_
      have e : cov p q = false := by unfold cov; rw [decide_eq_false h2]; simp
      simp only [e]
      simp -implicitDefEqProofs only [evr, id, reduceCtorEq, reduceIte, Nat.reduceMul, Nat.reduceAdd, Nat.reduceLT, Nat.reduceLeDiff, Nat.reduceEqDiff, Int.reduceLT, Int.reduceBEq, Int.reduceBNe, Nat.reduceBEq, List.append_nil, Int.toNat_zero, Nat.sub_self, Int.reduceNeg, evl]
    · refine hk _ ?_
      have e : cov p q = false := by unfold cov; rw [h]; rfl
      simp only [e]
      simp -implicitDefEqProofs only [evr, id, reduceCtorEq, reduceIte, Nat.reduceMul, Nat.reduceAdd, Nat.reduceLT, Nat.reduceLeDiff, Nat.reduceEqDiff, Int.reduceLT, Int.reduceBEq, Int.reduceBNe, Nat.reduceBEq, List.append_nil, Int.toNat_zero, Nat.sub_self, Int.reduceNeg, evl]
  simp only [thenK]
  refine Sat.ret ?_
  simp only [Tryd.results28, evr, id, reduceCtorEq, reduceIte, Nat.reduceMul, Nat.reduceAdd, Nat.reduceLT, Nat.reduceLeDiff, Nat.reduceEqDiff, Int.reduceLT, Int.reduceBEq, Int.reduceBNe, Nat.reduceBEq, List.append_nil, Int.toNat_zero, Nat.sub_self, Int.reduceNeg]

/-- what Bounds gives -/
def bndS (p : Prf) : SV := if vld p = true then tupL [.agg 2 fun j => [SV.i .u32 p.addr, .i .u32 p.high].getD j default, .i .i64 0] else tupL [.agg 2 fun j => [SV.i .u32 0, .i .u32 0].getD j default, .i .i64 10]
set_option maxRecDepth 100000 in
theorem boundsC (F : Frm) (p : Prf) (hp : prOk p) : Contract F Tryd.prog 27 [prS p] (fun r => r = bndS p) := by
  refine contract_of Tryd.func27 rfl (by kernel_rfl) ?_
  simp only [Tryd.ntmps27, argEnv, prS, prC]
  (repeat refine Sat.seq ?_)
  (refine Sat.region_k fun k hk => ?_; simp -implicitDefEqProofs only [evr, id, reduceCtorEq, reduceIte, Nat.reduceMul, Nat.reduceAdd, Nat.reduceLT, Nat.reduceLeDiff, Nat.reduceEqDiff, Int.reduceLT, Int.reduceBEq, Int.reduceBNe, Nat.reduceBEq, List.append_nil, Int.toNat_zero, Nat.sub_self, Int.reduceNeg])
  intro b1 b2
  (refine hk _ ?_; clear hk k; try show Sat _ _ _ _ _)
  (repeat refine Sat.seq ?_)
  (refine Sat.region_k fun k hk => ?_; simp -implicitDefEqProofs only [evr, id, reduceCtorEq, reduceIte, Nat.reduceMul, Nat.reduceAdd, Nat.reduceLT, Nat.reduceLeDiff, Nat.reduceEqDiff, Int.reduceLT, Int.reduceBEq, Int.reduceBNe, Nat.reduceBEq, List.append_nil, Int.toNat_zero, Nat.sub_self, Int.reduceNeg])
  refine wcall_plain (validC F p hp) (by simp -implicitDefEqProofs only [evr, id, reduceCtorEq, reduceIte, Nat.reduceMul, Nat.reduceAdd, Nat.reduceLT, Nat.reduceLeDiff, Nat.reduceEqDiff, Int.reduceLT, Int.reduceBEq, Int.reduceBNe, Nat.reduceBEq, List.append_nil, Int.toNat_zero, Nat.sub_self, Int.reduceNeg]; rfl) (by rintro _ rfl; exact ok_plain rfl) ?_
  rintro r rfl
  simp -implicitDefEqProofs only [evr, id, reduceCtorEq, reduceIte, Nat.reduceMul, Nat.reduceAdd, Nat.reduceLT, Nat.reduceLeDiff, Nat.reduceEqDiff, Int.reduceLT, Int.reduceBEq, Int.reduceBNe, Nat.reduceBEq, List.append_nil, Int.toNat_zero, Nat.sub_self, Int.reduceNeg]
  (refine hk _ ?_; clear hk k; try show Sat _ _ _ _ _)
  refine Sat.cond_b rfl (fun h => ?_) (fun h => ?_)
  · have hv : ¬ vld p = true := by simpa using h
    (repeat refine Sat.seq ?_)
    (refine Sat.region_k fun k hk => ?_; simp -implicitDefEqProofs only [evr, id, reduceCtorEq, reduceIte, Nat.reduceMul, Nat.reduceAdd, Nat.reduceLT, Nat.reduceLeDiff, Nat.reduceEqDiff, Int.reduceLT, Int.reduceBEq, Int.reduceBNe, Nat.reduceBEq, List.append_nil, Int.toNat_zero, Nat.sub_self, Int.reduceNeg]; refine hk _ ?_; clear hk k; try show Sat _ _ _ _ _)
    refine Sat.ret ?_
    simp only [Tryd.results27, evr, id, reduceCtorEq, reduceIte, Nat.reduceMul, Nat.reduceAdd, Nat.reduceLT, Nat.reduceLeDiff, Nat.reduceEqDiff, Int.reduceLT, Int.reduceBEq, Int.reduceBNe, Nat.reduceBEq, List.append_nil, Int.toNat_zero, Nat.sub_self, Int.reduceNeg]
    unfold bndS
    rw [if_neg hv]
  · have hv : vld p = true := by simpa using h
    obtain ⟨h1, h2, h3⟩ := vld_iff.1 hv
    have hpp := Nat.two_pow_pos p.k
    refine Sat.skip ?_
    simp only [thenK]
    (repeat refine Sat.seq ?_)
    (refine Sat.region_tree (.keep [0, 2, 4, 1, 3, 5] [6, 7, 8] (.one 6 (.one 7 (.one 8 (.one 9 (.one 10 (.one 11 .done))))))) (by kernel_rfl) (by kernel_rfl) (fun _ _ h => h) fun k hk => ?_; simp only [WOT, List.map_cons, List.map_nil, List.getD_cons_zero, List.getD_cons_succ]; simp -implicitDefEqProofs only [evr, id, reduceCtorEq, reduceIte, Nat.reduceMul, Nat.reduceAdd, Nat.reduceLT, Nat.reduceLeDiff, Nat.reduceEqDiff, Int.reduceLT, Int.reduceBEq, Int.reduceBNe, Nat.reduceBEq, List.append_nil, Int.toNat_zero, Nat.sub_self, Int.reduceNeg, WOT])
    refine wcall_plain (maskC F p.len h1 h2) rfl (by rintro _ rfl; exact ok_plain rfl) ?_
    rintro r rfl
    have e1 : flipB .u32 (maskN (32 - p.len.toNat) : Int) = ((2 ^ p.k - 1 : Nat) : Int) := flip_mask (by omega)
    simp -implicitDefEqProofs only [evr, id, reduceCtorEq, reduceIte, Nat.reduceMul, Nat.reduceAdd, Nat.reduceLT, Nat.reduceLeDiff, Nat.reduceEqDiff, Int.reduceLT, Int.reduceBEq, Int.reduceBNe, Nat.reduceBEq, List.append_nil, Int.toNat_zero, Nat.sub_self, Int.reduceNeg, e1]
    rw [or_low (k := p.k) (k_le p) h3 hp (by omega)]
    (refine hk _ ?_; clear hk k; try show Sat _ _ _ _ _)
    refine Sat.ret ?_
    simp only [Tryd.results27, evr, id, reduceCtorEq, reduceIte, Nat.reduceMul, Nat.reduceAdd, Nat.reduceLT, Nat.reduceLeDiff, Nat.reduceEqDiff, Int.reduceLT, Int.reduceBEq, Int.reduceBNe, Nat.reduceBEq, List.append_nil, Int.toNat_zero, Nat.sub_self, Int.reduceNeg]
    unfold bndS
    rw [if_pos hv]
    rfl

/-- what Halves gives -/
def hlvS (p : Prf) : SV := if vld p = true ∧ p.len ≠ 32 then tupL [prS (half1 p), prS (half2 p), .b true] else tupL [prS ⟨0, 0⟩, prS ⟨0, 0⟩, .b false]
theorem half2_ok {p : Prf} (hp : prOk p) (hv : vld p = true) (hl : p.len ≠ 32) : prOk (half2 p) := by
  obtain ⟨h1, h2, h3⟩ := vld_iff.1 hv
  obtain ⟨k1, k2, k3⟩ := half_k hv hl
  have hk := k_le p
  unfold prOk at hp ⊢
  unfold half2
  simp only
  have e : 2 ^ p.k = 2 ^ (p.k - 1) + 2 ^ (p.k - 1) := by rw [← Nat.mul_two, ← Nat.pow_succ]; congr 1; omega
  have hpp := Nat.two_pow_pos (p.k - 1)
  have h5 : p.addr + 2 ^ p.k ≤ 2 ^ 32 := by
    have e1 := mul_of_mod h3
    have e2 : (2 : Nat) ^ 32 = 2 ^ (32 - p.k) * 2 ^ p.k := pow_split hk
    have : p.addr / 2 ^ p.k < 2 ^ (32 - p.k) := by
      rw [Nat.div_lt_iff_lt_mul (Nat.two_pow_pos _), ← e2]; exact hp
    have := Nat.mul_le_mul_right (2 ^ p.k) (Nat.succ_le_of_lt this)
    rw [Nat.succ_mul, e1, ← e2] at this
    exact this
  omega
set_option maxRecDepth 100000 in
theorem halvesC (F : Frm) (p : Prf) (hp : prOk p) : Contract F Tryd.prog 29 [prS p] (fun r => r = hlvS p) := by
  refine contract_of Tryd.func29 rfl (by kernel_rfl) ?_
  simp only [Tryd.ntmps29, argEnv, prS, prC]
  (repeat refine Sat.seq ?_)
  (refine Sat.region_k fun k hk => ?_; simp -implicitDefEqProofs only [evr, id, reduceCtorEq, reduceIte, Nat.reduceMul, Nat.reduceAdd, Nat.reduceLT, Nat.reduceLeDiff, Nat.reduceEqDiff, Int.reduceLT, Int.reduceBEq, Int.reduceBNe, Nat.reduceBEq, List.append_nil, Int.toNat_zero, Nat.sub_self, Int.reduceNeg])
  intro b1 b2 b3
  (refine hk _ ?_; clear hk k; try show Sat _ _ _ _ _)
  (repeat refine Sat.seq ?_)
  refine Sat.region_at ⟨31, [(13, .b (!(vld p && !(p.len == 32)))), (1, .op 0 b1 0), (2, .op 1 b2 0), (3, .op 2 b3 0)], [.box b1 25 (prC p), .box b2 25 [.i .u32 0, .i .i64 0], .box b3 25 [.i .u32 0, .i .i64 0]]⟩ (fun k hk => ?_) ?_
  · simp -implicitDefEqProofs only [evr, id, reduceCtorEq, reduceIte, Nat.reduceMul, Nat.reduceAdd, Nat.reduceLT, Nat.reduceLeDiff, Nat.reduceEqDiff, Int.reduceLT, Int.reduceBEq, Int.reduceBNe, Nat.reduceBEq, List.append_nil, Int.toNat_zero, Nat.sub_self, Int.reduceNeg]
    refine wcall_plain (validC F p hp) (by simp -implicitDefEqProofs only [evr, id, reduceCtorEq, reduceIte, Nat.reduceMul, Nat.reduceAdd, Nat.reduceLT, Nat.reduceLeDiff, Nat.reduceEqDiff, Int.reduceLT, Int.reduceBEq, Int.reduceBNe, Nat.reduceBEq, List.append_nil, Int.toNat_zero, Nat.sub_self, Int.reduceNeg]; rfl) (by rintro _ rfl; exact ok_plain rfl) ?_
    rintro r rfl
    simp -implicitDefEqProofs only [evr, id, reduceCtorEq, reduceIte, Nat.reduceMul, Nat.reduceAdd, Nat.reduceLT, Nat.reduceLeDiff, Nat.reduceEqDiff, Int.reduceLT, Int.reduceBEq, Int.reduceBNe, Nat.reduceBEq, List.append_nil, Int.toNat_zero, Nat.sub_self, Int.reduceNeg]
    refine ⟨fun h => ?_, fun h => ?_⟩
    · refine hk _ ?_
      have e : (!(vld p && !(p.len == 32))) = true := by
        have : vld p = false := by simpa using h
        simp [this]
      simp only [e, prC]
      simp -implicitDefEqProofs only [evr, id, reduceCtorEq, reduceIte, Nat.reduceMul, Nat.reduceAdd, Nat.reduceLT, Nat.reduceLeDiff, Nat.reduceEqDiff, Int.reduceLT, Int.reduceBEq, Int.reduceBNe, Nat.reduceBEq, List.append_nil, Int.toNat_zero, Nat.sub_self, Int.reduceNeg, evl]
    · refine hk _ ?_
      have e : (!(vld p && !(p.len == 32))) = (p.len == 32) := by
        have : vld p = true := by simpa using h
        simp [this]
      simp only [e, prC]
      simp -implicitDefEqProofs only [evr, id, reduceCtorEq, reduceIte, Nat.reduceMul, Nat.reduceAdd, Nat.reduceLT, Nat.reduceLeDiff, Nat.reduceEqDiff, Int.reduceLT, Int.reduceBEq, Int.reduceBNe, Nat.reduceBEq, List.append_nil, Int.toNat_zero, Nat.sub_self, Int.reduceNeg, evl]
  simp only [thenK, prC]
  refine Sat.cond_b rfl (fun h => ?_) (fun h => ?_)
  · have hv : ¬ (vld p = true ∧ p.len ≠ 32) := fun ⟨h1, h2⟩ => by simp [h1, h2] at h
    (repeat refine Sat.seq ?_)
    (refine Sat.region_k fun k hk => ?_; simp -implicitDefEqProofs only [evr, id, reduceCtorEq, reduceIte, Nat.reduceMul, Nat.reduceAdd, Nat.reduceLT, Nat.reduceLeDiff, Nat.reduceEqDiff, Int.reduceLT, Int.reduceBEq, Int.reduceBNe, Nat.reduceBEq, List.append_nil, Int.toNat_zero, Nat.sub_self, Int.reduceNeg]; refine hk _ ?_; clear hk k; try show Sat _ _ _ _ _)
    refine Sat.ret ?_
    simp only [Tryd.results29, evr, id, reduceCtorEq, reduceIte, Nat.reduceMul, Nat.reduceAdd, Nat.reduceLT, Nat.reduceLeDiff, Nat.reduceEqDiff, Int.reduceLT, Int.reduceBEq, Int.reduceBNe, Nat.reduceBEq, List.append_nil, Int.toNat_zero, Nat.sub_self, Int.reduceNeg]
    unfold hlvS
    rw [if_neg hv]
    rfl
  · have hv : vld p = true ∧ p.len ≠ 32 := by simpa using h
    obtain ⟨h1, h2, h3⟩ := vld_iff.1 hv.1
    have hl := hv.2
    obtain ⟨k1, k2, k3⟩ := half_k hv.1 hv.2
    have e1 : IntKind.i64.wrap (p.len + 1) = p.len + 1 := w64 (by omega)
    have e2 : IntKind.i64.wrap (32 - (p.len + 1)) = ((p.k - 1 : Nat) : Int) := by rw [w64 (by omega)]; unfold Prf.k; omega
    have e3 : IntKind.u32.wrap (1 * 2 ^ min (p.k - 1) IntKind.u32.bits) = ((2 ^ (p.k - 1) : Nat) : Int) := by
      have e4 : min (p.k - 1) IntKind.u32.bits = p.k - 1 := by have := k_le p; show min (p.k - 1) 32 = _; omega
      have pe : (2 : Int) ^ (p.k - 1) = ((2 ^ (p.k - 1) : Nat) : Int) := by simp
      have pl : (2 : Nat) ^ (p.k - 1) < 2 ^ 32 := Nat.pow_lt_pow_right (by decide) (by have := k_le p; omega)
      rw [e4, Int.one_mul, pe, w32u _ (Int.natCast_nonneg _) (by exact_mod_cast pl)]
    refine Sat.skip ?_
    simp only [thenK]
    (repeat refine Sat.seq ?_)
    refine Sat.region_k fun k hk => ?_
    simp -implicitDefEqProofs only [evr, id, reduceCtorEq, reduceIte, Nat.reduceMul, Nat.reduceAdd, Nat.reduceLT, Nat.reduceLeDiff, Nat.reduceEqDiff, Int.reduceLT, Int.reduceBEq, Int.reduceBNe, Nat.reduceBEq, List.append_nil, Int.toNat_zero, Nat.sub_self, Int.reduceNeg, e1]
    (refine hk _ ?_; clear hk k; try show Sat _ _ _ _ _)
    (repeat refine Sat.seq ?_)
    have hor : bits .or .u32 (p.addr : Int) ((2 ^ (p.k - 1) : Nat) : Int) = ((p.addr + 2 ^ (p.k - 1) : Nat) : Int) := or_low (k := p.k) (k_le p) h3 hp (Nat.pow_lt_pow_right (by decide) (by omega))
    (refine Sat.region_tree (.keep [0, 2, 4, 6, 7, 8, 10, 1] [5, 9, 11] (.alt 3 (.alt 5 (.free 9 (.alt 11 (.one 12 (.one 13 (.one 14 .done))) (.alt 12 (.one 11 (.one 13 (.one 14 .done))) .none))) (.alt 12 (.one 5 (.one 9 (.one 11 (.one 13 (.one 14 .done))))) .none)) (.alt 5 (.free 9 (.alt 3 (.alt 11 (.one 12 (.one 13 (.one 14 .done))) (.alt 12 (.one 11 (.one 13 (.one 14 .done))) .none)) (.alt 11 (.one 3 (.one 12 (.one 13 (.one 14 .done)))) .none))) .none))) (by kernel_rfl) (by kernel_rfl) (fun _ _ h => h) fun k hk => ?_; simp only [WOT, List.map_cons, List.map_nil, List.getD_cons_zero, List.getD_cons_succ]; simp -implicitDefEqProofs only [evr, id, reduceCtorEq, reduceIte, Nat.reduceMul, Nat.reduceAdd, Nat.reduceLT, Nat.reduceLeDiff, Nat.reduceEqDiff, Int.reduceLT, Int.reduceBEq, Int.reduceBNe, Nat.reduceBEq, List.append_nil, Int.toNat_zero, Nat.sub_self, Int.reduceNeg, WOT])
    simp only [e2, Int.toNat_natCast, e3, hor]
    refine ⟨by omega, ?_⟩
    repeat' refine And.intro ?_ ?_
    all_goals
      refine hk _ ?_
      simp only [thenK]
      refine Sat.ret ?_
      simp only [Tryd.results29, evr, id, reduceCtorEq, reduceIte, Nat.reduceMul, Nat.reduceAdd, Nat.reduceLT, Nat.reduceLeDiff, Nat.reduceEqDiff, Int.reduceLT, Int.reduceBEq, Int.reduceBNe, Nat.reduceBEq, List.append_nil, Int.toNat_zero, Nat.sub_self, Int.reduceNeg]
      unfold hlvS
      rw [if_pos hv]
      rfl
end Go.Proofs.YtceacooambpkdaaDoor
