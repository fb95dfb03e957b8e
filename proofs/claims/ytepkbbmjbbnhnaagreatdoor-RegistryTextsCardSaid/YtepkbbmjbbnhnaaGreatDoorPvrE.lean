/- registry.Lookup, Provider, by the evaluator. -/
import Derived.Test.YtepkbbmjbbnhnaaGreatDoorHisE
set_option linter.unusedSimpArgs false
set_option linter.unusedVariables false
namespace Go.Proofs.YtepkbbmjbbnhnaaGreatDoor
open Go.Sort Eng
def lkV (a : Nat) (t : Int) (es : List Ent) : Option Ent := if RegOk es then lkp a t es else none
set_option maxRecDepth 100000 in
theorem lookupC (F : Frm) (ad : Option Addr) (cap : Nat) (es : List Ent) (h : esOk es) (hn : es.length ≤ 1000000) (a : Nat) (ha : a < 2 ^ 32) (t : Int) :
    Contract F Tryz.prog 14 [regS ad cap es, .i .u32 a, .i .i64 t] (fun r => r = lkS (lkV a t es)) := by
  refine contract_of Tryz.func14 rfl (by kernel_rfl) ?_
  simp only [Tryz.ntmps14, argEnv, regS]
  (repeat refine Sat.seq ?_)
  (refine Sat.region_k fun k hk => ?_; simp -implicitDefEqProofs only [evr, id, seval, ent0, ent1, ent2, ent3, ent4, Nat.sub_zero, lkS, entS, Ent.cs, tupL, evn])
  intro b1 b6
  (refine hk _ ?_; clear hk k; try show Sat _ _ _ _ _)
  (repeat refine Sat.seq ?_)
  (refine Sat.region_k fun k hk => ?_; simp -implicitDefEqProofs only [evr, id, seval, ent0, ent1, ent2, ent3, ent4, Nat.sub_zero, lkS, entS, Ent.cs, tupL, evn])
  refine wcall_plain (regValidC F ad cap es h) (by simp -implicitDefEqProofs only [evr, id, seval, ent0, ent1, ent2, ent3, ent4, Nat.sub_zero, lkS, entS, Ent.cs, tupL, evn]; rfl) (by rintro _ rfl; exact ok_plain rfl) ?_
  rintro r rfl
  simp -implicitDefEqProofs only [evr, id, seval, ent0, ent1, ent2, ent3, ent4, Nat.sub_zero, lkS, entS, Ent.cs, tupL, evn]
  (refine hk _ ?_; clear hk k; try show Sat _ _ _ _ _)
  (repeat refine Sat.seq ?_)
  refine Sat.cond_b rfl (fun h1 => ?_) (fun h1 => ?_)
  · simp only [Bool.not_eq_true', decide_eq_false_iff_not] at h1
    (repeat refine Sat.seq ?_)
    (refine Sat.region_k fun k hk => ?_; simp -implicitDefEqProofs only [evr, id, seval, ent0, ent1, ent2, ent3, ent4, Nat.sub_zero, lkS, entS, Ent.cs, tupL, evn]; refine hk _ ?_; clear hk k; try show Sat _ _ _ _ _)
    refine Sat.ret ?_
    simp only [Tryz.results14, evr, id, seval, List.append_nil, Int.toNat_zero, Nat.sub_self, ent0, ent1, ent2, ent3, ent4, Nat.sub_zero, lkS, entS, Ent.cs, tupL]
    have hv : lkV a t es = none := by unfold lkV; rw [if_neg h1]
    rw [hv]
    rfl
  · simp only [Bool.not_eq_false', decide_eq_true_eq] at h1
    have hv : lkV a t es = lkp a t es := by unfold lkV; rw [if_pos h1]
    refine Sat.skip ?_
    simp only [thenK]
    (repeat refine Sat.seq ?_)
    (refine Sat.region_k fun k hk => ?_; simp -implicitDefEqProofs only [evr, id, seval, ent0, ent1, ent2, ent3, ent4, Nat.sub_zero, lkS, entS, Ent.cs, tupL, evn])
    refine wcall_plain (lookC F ad cap es h hn a ha t) (by simp -implicitDefEqProofs only [evr, id, seval, ent0, ent1, ent2, ent3, ent4, Nat.sub_zero, lkS, entS, Ent.cs, tupL, evn]; rfl) (by rintro _ rfl; exact lkS_ok _) ?_
    rintro r rfl
    simp -implicitDefEqProofs only [evr, id, seval, ent0, ent1, ent2, ent3, ent4, Nat.sub_zero, lkS, entS, Ent.cs, tupL, evn]
    (refine hk _ ?_; clear hk k; try show Sat _ _ _ _ _)
    refine Sat.ret ?_
    simp only [Tryz.results14, evr, id, seval, List.append_nil, Int.toNat_zero, Nat.sub_self, ent0, ent1, ent2, ent3, ent4, Nat.sub_zero, lkS, entS, Ent.cs, tupL]
    rw [hv]
set_option maxRecDepth 100000 in
theorem providerC (F : Frm) (ad : Option Addr) (cap : Nat) (es : List Ent) (h : esOk es) (hn : es.length ≤ 1000000) (a : Nat) (ha : a < 2 ^ 32) (t : Int) :
    Contract F Tryz.prog 16 [regS ad cap es, .i .u32 a, .i .i64 t] (fun r => r = .i .i64 (optE (lkV a t es)).prov) := by
  refine contract_of Tryz.func16 rfl (by kernel_rfl) ?_
  simp only [Tryz.ntmps16, argEnv, regS]
  (repeat refine Sat.seq ?_)
  (refine Sat.region_k fun k hk => ?_; simp -implicitDefEqProofs only [evr, id, seval, ent0, ent1, ent2, ent3, ent4, Nat.sub_zero, lkS, entS, Ent.cs, tupL, evn])
  intro b3
  (refine hk _ ?_; clear hk k; try show Sat _ _ _ _ _)
  (repeat refine Sat.seq ?_)
  (refine Sat.region_k fun k hk => ?_; simp -implicitDefEqProofs only [evr, id, seval, ent0, ent1, ent2, ent3, ent4, Nat.sub_zero, lkS, entS, Ent.cs, tupL, evn])
  refine wcall_plain (lookupC F ad cap es h hn a ha t) (by simp -implicitDefEqProofs only [evr, id, seval, ent0, ent1, ent2, ent3, ent4, Nat.sub_zero, lkS, entS, Ent.cs, tupL, evn]; rfl) (by rintro _ rfl; exact lkS_ok _) ?_
  rintro r rfl
  simp -implicitDefEqProofs only [evr, id, seval, ent0, ent1, ent2, ent3, ent4, Nat.sub_zero, lkS, entS, Ent.cs, tupL, evn]
  intro b7
  (refine hk _ ?_; clear hk k; try show Sat _ _ _ _ _)
  (repeat refine Sat.seq ?_)
  (refine Sat.region_k fun k hk => ?_; simp -implicitDefEqProofs only [evr, id, seval, ent0, ent1, ent2, ent3, ent4, Nat.sub_zero, lkS, entS, Ent.cs, tupL, evn]; refine hk _ ?_; clear hk k; try show Sat _ _ _ _ _)
  refine Sat.ret ?_
  simp only [Tryz.results16, evr, id, seval, List.append_nil, Int.toNat_zero, Nat.sub_self, ent0, ent1, ent2, ent3, ent4, Nat.sub_zero, lkS, entS, Ent.cs, tupL]
end Go.Proofs.YtepkbbmjbbnhnaaGreatDoor
