/- The reference of law 32: Compare, by the evaluator. -/
import Derived.Test.YtepkbbmjbbnhnaaGreatDoorRtaE
set_option linter.unusedSimpArgs false
set_option linter.unusedVariables false
namespace Go.Proofs.YtepkbbmjbbnhnaaGreatDoor
open Go.Sort Eng
def rcN (e : Ent) (j : Nat) : Int := [e.from_, e.to_, e.prov].getD j 0
def rcO (e f : Ent) (j : Nat) : Int := ordI (rcN e j) (rcN f j)
theorem rcO_step {e f : Ent} {i : Nat} (hi : i < 3) (h : ∀ j, j < i → rcO e f j = 0) (hk : cmpL e.pk f.pk = 0) (hn : rcO e f i ≠ 0) : cmpE e f = rcO e f i := by
  rw [cmpE_or]
  have h0 := h 0
  have h1 := h 1
  simp only [rcO, rcN, List.getD_cons_zero, List.getD_cons_succ] at h0 h1 hn ⊢
  rcases (show i = 0 ∨ i = 1 ∨ i = 2 by omega) with rfl | rfl | rfl
  · simp only [orL_cons, hk, ne_eq, not_true, if_false]
    simp only [List.getD_cons_zero] at hn ⊢
    rw [if_pos hn]
  · simp only [orL_cons, hk, h0 (by omega), ne_eq, not_true, if_false]
    simp only [List.getD_cons_zero, List.getD_cons_succ] at hn ⊢
    rw [if_pos hn]
  · simp only [orL_cons, hk, h0 (by omega), h1 (by omega), ne_eq, not_true, if_false]
    simp only [List.getD_cons_zero, List.getD_cons_succ] at hn ⊢
    rw [if_pos hn]
theorem rcO_all {e f : Ent} (h : ∀ j, j < 3 → rcO e f j = 0) (hk : cmpL e.pk f.pk = 0) : cmpE e f = 0 := by
  rw [cmpE_or]
  have h0 := h 0 (by omega)
  have h1 := h 1 (by omega)
  have h2 := h 2 (by omega)
  simp only [rcO, rcN, List.getD_cons_zero, List.getD_cons_succ] at h0 h1 h2
  simp only [orL_cons, hk, h0, h1, h2, ne_eq, not_true, if_false]
  rfl
theorem cmpE_pk {e f : Ent} (h : cmpL e.pk f.pk ≠ 0) : cmpE e f = cmpL e.pk f.pk := by
  rw [cmpE_or, orL_cons, if_pos h]
set_option maxRecDepth 100000 in
theorem refCompareC (F : Frm) (e f : Ent) (he : eOk e) (hf : eOk f) : Contract F Tryz.prog 27 [entS e, entS f] (fun r => r = .i .i64 (cmpE e f)) := by
  refine contract_of Tryz.func27 rfl (by kernel_rfl) ?_
  simp only [Tryz.ntmps27, argEnv, entS, Ent.cs]
  (repeat refine Sat.seq ?_)
  (refine Sat.region_k fun k hk => ?_; simp -implicitDefEqProofs only [evr, id, seval, Nat.sub_zero, Option.map_none, evn])
  intro b2 b3
  (refine hk _ ?_; clear hk k; try show Sat _ _ _ _ _)
  (repeat refine Sat.seq ?_)
  (refine Sat.region_k fun k hk => ?_; simp -implicitDefEqProofs only [evr, id, seval, Nat.sub_zero, Option.map_none, evn])
  refine wcall_plain ((rfCompareC F e.pr f.pr he hf).of_sim (ent_pr2 _ _)) (by simp -implicitDefEqProofs only [evr, id, seval, Nat.sub_zero, Option.map_none, evn]) (by rintro _ rfl; exact ok_plain rfl) ?_
  rintro r rfl
  simp -implicitDefEqProofs only [evr, id, seval, Nat.sub_zero, Option.map_none, cmpP_pk, evn]
  (refine hk _ ?_; clear hk k; try show Sat _ _ _ _ _)
  (repeat refine Sat.seq ?_)
  (refine Sat.region_k fun k hk => ?_; simp -implicitDefEqProofs only [evr, id, seval, Nat.sub_zero, Option.map_none, evn]; refine hk _ ?_; clear hk k; try show Sat _ _ _ _ _)
  (repeat refine Sat.seq ?_)
  refine Sat.cond_b rfl (fun h => ?_) (fun h => ?_)
  · have hn : cmpL e.pk f.pk ≠ 0 := by simpa using h
    (repeat refine Sat.seq ?_)
    (refine Sat.region_k fun k hk => ?_; simp -implicitDefEqProofs only [evr, id, seval, Nat.sub_zero, Option.map_none, evn]; refine hk _ ?_; clear hk k; try show Sat _ _ _ _ _)
    refine Sat.ret ?_
    simp only [Tryz.results27, evr, id, seval, List.append_nil, Int.toNat_zero, Nat.sub_self, Nat.sub_zero, Option.map_none]
    rw [cmpE_pk hn]
  · have hk : cmpL e.pk f.pk = 0 := by simpa using h
    refine Sat.skip ?_
    simp only [thenK]
    (repeat refine Sat.seq ?_)
    (refine Sat.region_k fun k hk => ?_; simp -implicitDefEqProofs only [evr, id, seval, Nat.sub_zero, Option.map_none, evn]; refine hk _ ?_; clear hk k; try show Sat _ _ _ _ _)
    (repeat refine Sat.seq ?_)
    refine Sat.block ?_
    refine Sat.loop (ι := Nat) (fun i => ⟨46, [(32, .i .i64 i), (31, .agg 6 fun j => [SV.i .i64 e.from_, .i .i64 f.from_, .i .i64 e.to_, .i .i64 f.to_, .i .i64 e.prov, .i .i64 f.prov].getD j default)], []⟩)
      (fun i => i ≤ 3 ∧ ∀ j, j < i → rcO e f j = 0) (fun i => 3 - i) 0 ⟨Nat.zero_le _, fun j hj => absurd hj (Nat.not_lt_zero _)⟩ (by simp -implicitDefEqProofs only [evr, id, seval, Nat.sub_zero, Option.map_none, evl, evn]; done) ?_
    rintro i ⟨hi, hz⟩
    (repeat refine Sat.seq ?_)
    (refine Sat.region_k fun k hk => ?_; simp -implicitDefEqProofs only [evr, id, seval, Nat.sub_zero, Option.map_none, evn]; refine hk _ ?_; clear hk k; try show Sat _ _ _ _ _)
    (repeat refine Sat.seq ?_)
    refine Sat.cond_b rfl (fun h2 => ?_) (fun h2 => ?_)
    · simp only [decide_eq_true_eq] at h2
      have hlt : i < 3 := by omega
      have c0 : [SV.i .i64 e.from_, .i .i64 f.from_, .i .i64 e.to_, .i .i64 f.to_, .i .i64 e.prov, .i .i64 f.prov].getD (i * 2) default = .i .i64 (rcN e i) := by
        rcases (show i = 0 ∨ i = 1 ∨ i = 2 by omega) with rfl | rfl | rfl <;> rfl
      have c1 : [SV.i .i64 f.from_, .i .i64 e.to_, .i .i64 f.to_, .i .i64 e.prov, .i .i64 f.prov].getD (i * 2) default = .i .i64 (rcN f i) := by
        rcases (show i = 0 ∨ i = 1 ∨ i = 2 by omega) with rfl | rfl | rfl <;> rfl
      refine Sat.skip ?_
      simp only [thenK]
      (repeat refine Sat.seq ?_)
      refine Sat.block ?_
      (repeat refine Sat.seq ?_)
      (refine Sat.region_k fun k hk => ?_; simp -implicitDefEqProofs only [evr, id, seval, Nat.sub_zero, Option.map_none, evn])
      simp only [c0, c1]
      refine ⟨by omega, by omega, fun b7 => ⟨rfl, ?_⟩⟩
      (refine hk _ ?_; clear hk k; try show Sat _ _ _ _ _)
      (repeat refine Sat.seq ?_)
      (refine Sat.region_k fun k hk => ?_; simp -implicitDefEqProofs only [evr, id, seval, Nat.sub_zero, Option.map_none, evn])
      (refine hk _ ?_; clear hk k; try show Sat _ _ _ _ _)
      (repeat refine Sat.seq ?_)
      refine Sat.cond_b rfl (fun h3 => ?_) (fun h3 => ?_)
      · simp only [decide_eq_true_eq] at h3
        (repeat refine Sat.seq ?_)
        (refine Sat.region_k fun k hk => ?_; simp -implicitDefEqProofs only [evr, id, seval, Nat.sub_zero, Option.map_none, evn]; refine hk _ ?_; clear hk k; try show Sat _ _ _ _ _)
        refine Sat.ret ?_
        simp only [thenK, blockK, Tryz.results27, evr, id, seval, List.append_nil, Int.toNat_zero, Nat.sub_self, Nat.sub_zero, Option.map_none]
        have ho : rcO e f i = -1 := by unfold rcO ordI; rw [if_pos h3]
        rw [rcO_step hlt hz hk (by rw [ho]; decide), ho]
      · simp only [decide_eq_false_iff_not] at h3
        refine Sat.skip ?_
        simp only [thenK]
        (repeat refine Sat.seq ?_)
        (refine Sat.region_k fun k hk => ?_; simp -implicitDefEqProofs only [evr, id, seval, Nat.sub_zero, Option.map_none, evn])
        (refine hk _ ?_; clear hk k; try show Sat _ _ _ _ _)
        (repeat refine Sat.seq ?_)
        refine Sat.cond_b rfl (fun h4 => ?_) (fun h4 => ?_)
        · simp only [decide_eq_true_eq] at h4
          (repeat refine Sat.seq ?_)
          (refine Sat.region_k fun k hk => ?_; simp -implicitDefEqProofs only [evr, id, seval, Nat.sub_zero, Option.map_none, evn]; refine hk _ ?_; clear hk k; try show Sat _ _ _ _ _)
          refine Sat.ret ?_
          simp only [thenK, blockK, Tryz.results27, evr, id, seval, List.append_nil, Int.toNat_zero, Nat.sub_self, Nat.sub_zero, Option.map_none]
          have ho : rcO e f i = 1 := by unfold rcO ordI; rw [if_neg h3, if_pos h4]
          rw [rcO_step hlt hz hk (by rw [ho]; decide), ho]
        · simp only [decide_eq_false_iff_not] at h4
          refine Sat.skip ?_
          simp only [thenK, blockK, reduceIte]
          refine Sat.region_k fun k hk => ?_
          simp -implicitDefEqProofs only [evr, id, seval, Nat.sub_zero, Option.map_none, evn]
          have e1 : IntKind.i64.wrap ((i : Int) + 1) = ((i + 1 : Nat) : Int) := by rw [w64 (by omega)]; omega
          rw [e1]
          refine hk _ ?_
          simp only [thenK, blockK]
          refine ⟨i + 1, ⟨by omega, fun j hj => ?_⟩, by omega, ?_⟩
          · rcases (show j = i ∨ j < i by omega) with rfl | h6
            · unfold rcO ordI; rw [if_neg h3, if_neg h4]
            · exact hz j h6
          · simp -implicitDefEqProofs only [evr, id, seval, Nat.sub_zero, Option.map_none, evl, evn]
    · simp only [decide_eq_false_iff_not] at h2
      obtain rfl : i = 3 := by omega
      refine Sat.exit ?_
      simp only [thenK, blockK, reduceIte]
      (repeat refine Sat.seq ?_)
      (refine Sat.region_k fun k hk => ?_; simp -implicitDefEqProofs only [evr, id, seval, Nat.sub_zero, Option.map_none, evn]; refine hk _ ?_; clear hk k; try show Sat _ _ _ _ _)
      refine Sat.ret ?_
      simp only [Tryz.results27, evr, id, seval, List.append_nil, Int.toNat_zero, Nat.sub_self, Nat.sub_zero, Option.map_none]
      rw [rcO_all hz hk]
end Go.Proofs.YtepkbbmjbbnhnaaGreatDoor
