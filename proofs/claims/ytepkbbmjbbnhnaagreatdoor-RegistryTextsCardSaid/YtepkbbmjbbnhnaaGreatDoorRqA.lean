/- The reference of law 32: Bounds and Contains of prefixes, by the evaluator. -/
import Derived.Test.YtepkbbmjbbnhnaaGreatDoorRtdE
import Derived.Test.YtepkbbmjbbnhnaaGreatDoorPvrE
set_option linter.unusedSimpArgs false
set_option linter.unusedVariables false
namespace Go.Proofs.YtepkbbmjbbnhnaaGreatDoor
open Go.Sort Eng
def bndS (p : Prf) : SV := if vld p = true then tupL [.agg 2 fun j => [SV.i .u32 p.addr, .i .u32 p.high].getD j default, .i .i64 0] else tupL [.agg 2 fun j => [SV.i .u32 0, .i .u32 0].getD j default, .i .i64 10]
theorem high_lt {p : Prf} (hp : prOk p) (h : vld p = true) : p.addr + 2 ^ p.k ≤ 2 ^ 32 := by
  have h3 := (vld_iff.1 h).2.2
  have e1 := mul_of_mod h3
  have e2 : (2 : Nat) ^ 32 = 2 ^ (32 - p.k) * 2 ^ p.k := pow_split (k_le p)
  have : p.addr / 2 ^ p.k < 2 ^ (32 - p.k) := by
    rw [Nat.div_lt_iff_lt_mul (Nat.two_pow_pos _), ← e2]; exact hp
  have := Nat.mul_le_mul_right (2 ^ p.k) (Nat.succ_le_of_lt this)
  rw [Nat.succ_mul, e1, ← e2] at this
  exact this
set_option maxRecDepth 100000 in
theorem rfBoundsC (F : Frm) (p : Prf) (hp : prOk p) : Contract F Tryz.prog 94 [prS p] (fun r => r = bndS p) := by
  have hp2 := u32_64 hp
  refine contract_of Tryz.func94 rfl (by kernel_rfl) ?_
  simp only [Tryz.ntmps94, argEnv, prS, prC]
  (repeat refine Sat.seq ?_)
  (refine Sat.region_k fun k hk => ?_; simp -implicitDefEqProofs only [evr, id, seval, Int.reduceNeg, evn])
  intro b1 b2
  (refine hk _ ?_; clear hk k; try show Sat _ _ _ _ _)
  (repeat refine Sat.seq ?_)
  (refine Sat.region_k fun k hk => ?_; simp -implicitDefEqProofs only [evr, id, seval, Int.reduceNeg, evn])
  refine wcall_plain (rfValidC F p hp) (by simp -implicitDefEqProofs only [evr, id, seval, Int.reduceNeg, evn]; rfl) (by rintro _ rfl; exact ok_plain rfl) ?_
  rintro r rfl
  simp -implicitDefEqProofs only [evr, id, seval, Int.reduceNeg, evn]
  (refine hk _ ?_; clear hk k; try show Sat _ _ _ _ _)
  refine Sat.cond_b rfl (fun h => ?_) (fun h => ?_)
  · have hv : ¬ vld p = true := by simpa using h
    (repeat refine Sat.seq ?_)
    (refine Sat.region_k fun k hk => ?_; simp -implicitDefEqProofs only [evr, id, seval, Int.reduceNeg, evn]; refine hk _ ?_; clear hk k; try show Sat _ _ _ _ _)
    refine Sat.ret ?_
    simp only [Tryz.results94, evr, id, seval, List.append_nil, Int.toNat_zero, Nat.sub_self, Int.reduceNeg]
    unfold bndS
    rw [if_neg hv]
  · have hv : vld p = true := by simpa using h
    obtain ⟨h1, h2, h3⟩ := vld_iff.1 hv
    have hpp := Nat.two_pow_pos p.k
    have hh := high_lt hp hv
    refine Sat.skip ?_
    simp only [thenK]
    (repeat refine Sat.seq ?_)
    (refine Sat.region_tree (.keep [0, 2, 5, 1, 3, 4, 6] [7, 8, 9, 10] (.one 7 (.one 8 (.one 9 (.one 10 (.one 11 (.one 12 (.one 13 .done)))))))) (by kernel_rfl) (by kernel_rfl) (fun _ _ h => h) fun k hk => ?_; simp only [WOT, List.map_cons, List.map_nil, List.getD_cons_zero, List.getD_cons_succ]; simp -implicitDefEqProofs only [evr, id, seval, Int.reduceNeg, WOT, evn])
    simp only [hp2]
    refine wcall_plain (sizeC F p.len h1 h2) rfl (by rintro _ rfl; exact ok_plain rfl) ?_
    rintro r rfl
    have e1 : IntKind.i64.wrap ((p.addr : Int) + ((2 ^ (32 - p.len.toNat) : Nat) : Int)) = ((p.addr + 2 ^ p.k : Nat) : Int) := by
      show IntKind.i64.wrap ((p.addr : Int) + ((2 ^ p.k : Nat) : Int)) = _
      rw [w64 (by omega)]; omega
    have e2 : IntKind.i64.wrap (((p.addr + 2 ^ p.k : Nat) : Int) - 1) = (p.high : Int) := by
      unfold Prf.high
      rw [w64 (by omega)]; omega
    have e3 : IntKind.u32.wrap (p.high : Int) = (p.high : Int) := w32u _ (Int.natCast_nonneg _) (by unfold Prf.high; omega)
    simp -implicitDefEqProofs only [evr, id, seval, Int.reduceNeg, e1, e2, e3, evn]
    (refine hk _ ?_; clear hk k; try show Sat _ _ _ _ _)
    refine Sat.ret ?_
    simp only [Tryz.results94, evr, id, seval, List.append_nil, Int.toNat_zero, Nat.sub_self, Int.reduceNeg]
    unfold bndS
    rw [if_pos hv]
set_option maxRecDepth 100000 in
theorem rfContainsC (F : Frm) (p : Prf) (hp : prOk p) (a : Nat) (ha : a < 2 ^ 32) : Contract F Tryz.prog 69 [prS p, .i .u32 a] (fun r => r = .b (cont p a)) := by
  refine contract_of Tryz.func69 rfl (by kernel_rfl) ?_
  simp only [Tryz.ntmps69, argEnv, prS, prC]
  (repeat refine Sat.seq ?_)
  (refine Sat.region_k fun k hk => ?_; simp -implicitDefEqProofs only [evr, id, seval, Int.reduceNeg, evn])
  intro b1
  (refine hk _ ?_; clear hk k; try show Sat _ _ _ _ _)
  have hB : ∃ lo hi er : Int, bndS p = tupL [.agg 2 fun j => [SV.i .u32 lo, .i .u32 hi].getD j default, .i .i64 er] ∧ cont p a = ((er == 0) && (decide (lo ≤ a) && decide ((a : Int) ≤ hi))) := by
    unfold bndS
    split
    · rename_i h
      refine ⟨_, _, _, rfl, ?_⟩
      rw [cont_range h]
      apply Bool.eq_iff_iff.2
      simp
    · rename_i h
      refine ⟨_, _, _, rfl, ?_⟩
      unfold cont
      rw [Bool.eq_false_iff.2 h]
      rfl
  obtain ⟨lo, hi, er, hB1, hB2⟩ := hB
  (repeat refine Sat.seq ?_)
  (refine Sat.region_k fun k hk => ?_; simp -implicitDefEqProofs only [evr, id, seval, Int.reduceNeg, evn])
  refine wcall_slice (rfBoundsC F p hp) rfl (by simp only [prS, prC, evr, id, seval, List.append_nil, Int.toNat_zero, Nat.sub_self, Int.reduceNeg]; try rfl) ?_
  rintro r rfl
  rw [hB1]
  simp -implicitDefEqProofs only [evr, id, seval, Int.reduceNeg, evn]
  intro b2
  (refine hk _ ?_; clear hk k; try show Sat _ _ _ _ _)
  refine Sat.seq ?_
  refine Sat.region_at ⟨26, [(4, .b (cont p a))], []⟩ (fun k hk => ?_) ?_
  · simp -implicitDefEqProofs only [evr, id, seval, Int.reduceNeg, beq_iff_eq, evn]
    refine ⟨fun h1 => ⟨fun h2 => ?_, fun h2 => ?_⟩, fun h1 => ?_⟩
    · refine hk _ ?_
      have e : cont p a = decide ((a : Int) ≤ hi) := by rw [hB2, h1, decide_eq_true h2]; simp
      simp only [e]
      simp -implicitDefEqProofs only [evr, id, seval, Int.reduceNeg, evl, evn]
    · refine hk _ ?_
      have e : cont p a = false := by rw [hB2, decide_eq_false h2]; simp
      simp only [e]
      simp -implicitDefEqProofs only [evr, id, seval, Int.reduceNeg, evl, evn]
    · refine hk _ ?_
      have e : cont p a = false := by rw [hB2]; simp [h1]
      simp only [e]
      simp -implicitDefEqProofs only [evr, id, seval, Int.reduceNeg, evl, evn]
  simp only [thenK]
  refine Sat.ret ?_
  simp only [Tryz.results69, evr, id, seval, List.append_nil, Int.toNat_zero, Nat.sub_self, Int.reduceNeg]
end Go.Proofs.YtepkbbmjbbnhnaaGreatDoor
