/- registry.lookup, Lookup, Provider, by the evaluator. -/
import Derived.Test.YtepkbbmjbbnhnaaGreatDoorRgvE
set_option linter.unusedSimpArgs false
set_option linter.unusedVariables false
namespace Go.Proofs.YtepkbbmjbbnhnaaGreatDoor
open Go.Sort Eng
def optE (b : Option Ent) : Ent := b.getD default
def lkS (b : Option Ent) : SV := tupL [entS (optE b), .b b.isSome]
theorem lkp_take (a : Nat) (t : Int) (es : List Ent) (i : Nat) (h : i < es.length) : lkp a t (es.take (i + 1)) = lkStep a t (lkp a t (es.take i)) (es.getD i default) := by
  rw [List.take_succ_eq_append_getElem h, lkp_app, getD_lt h]
theorem shorter_iff (b : Option Ent) (e : Ent) : shorter b e ↔ b.isSome = false ∨ (optE b).len < e.len := by
  cases b with
  | none => exact ⟨fun _ => .inl rfl, fun _ x hx => by cases hx⟩
  | some y => exact ⟨fun h => .inr (h y rfl), fun h x hx => by cases hx; exact h.resolve_left (by simp)⟩
set_option maxRecDepth 100000 in
theorem lookC (F : Frm) (ad : Option Addr) (cap : Nat) (es : List Ent) (h : esOk es) (hn : es.length ≤ 1000000) (a : Nat) (ha : a < 2 ^ 32) (t : Int) :
    Contract F Tryz.prog 42 [regS ad cap es, .i .u32 a, .i .i64 t] (fun r => r = lkS (lkp a t es)) := by
  refine contract_of Tryz.func42 rfl (by kernel_rfl) ?_
  simp only [Tryz.ntmps42, argEnv, regS]
  (repeat refine Sat.seq ?_)
  (refine Sat.region_k fun k hk => ?_; simp -implicitDefEqProofs only [evr, id, seval, ent0, ent1, ent2, ent3, ent4, Nat.sub_zero, evn])
  intro b1 b6
  (refine hk _ ?_; clear hk k; try show Sat _ _ _ _ _)
  (repeat refine Sat.seq ?_)
  (refine Sat.region_k fun k hk => ?_; simp -implicitDefEqProofs only [evr, id, seval, ent0, ent1, ent2, ent3, ent4, Nat.sub_zero, evn])
  intro b8
  (refine hk _ ?_; clear hk k; try show Sat _ _ _ _ _)
  (repeat refine Sat.seq ?_)
  (refine Sat.region_k fun k hk => ?_; simp -implicitDefEqProofs only [evr, id, seval, ent0, ent1, ent2, ent3, ent4, Nat.sub_zero, evn]; refine hk _ ?_; clear hk k; try show Sat _ _ _ _ _)
  (repeat refine Sat.seq ?_)
  (refine Sat.region_k fun k hk => ?_; simp -implicitDefEqProofs only [evr, id, seval, ent0, ent1, ent2, ent3, ent4, Nat.sub_zero, evn]; refine hk _ ?_; clear hk k; try show Sat _ _ _ _ _)
  (repeat refine Sat.seq ?_)
  refine Sat.block ?_
  refine Sat.loop (ι := Nat) (fun i => ⟨52, [(13, .sl ad es.length cap 5 (entRd es)), (14, .i .i64 es.length), (15, .i .i64 i), (1, .i .u32 a), (2, .i .i64 t), (6, .op 1 b6 0), (8, .op 2 b8 0), (9, .b (lkp a t (es.take i)).isSome)],
      [.box b1 25 [.sl ad es.length cap 5 (entRd es)], .box b6 31 (Ent.cs default), .box b8 31 (Ent.cs (optE (lkp a t (es.take i))))]⟩)
    (fun i => i ≤ es.length) (fun i => es.length - i) 0 (Nat.zero_le _) (by simp -implicitDefEqProofs only [evr, id, seval, ent0, ent1, ent2, ent3, ent4, Nat.sub_zero, evl, evn]; exact ⟨rfl, rfl, rfl⟩) ?_
  rintro i hi
  simp only [Ent.cs]
  (repeat refine Sat.seq ?_)
  (refine Sat.region_k fun k hk => ?_; simp -implicitDefEqProofs only [evr, id, seval, ent0, ent1, ent2, ent3, ent4, Nat.sub_zero, evn]; refine hk _ ?_; clear hk k; try show Sat _ _ _ _ _)
  (repeat refine Sat.seq ?_)
  refine Sat.cond_b rfl (fun h2 => ?_) (fun h2 => ?_)
  · simp only [decide_eq_true_eq] at h2
    have hlt : i < es.length := by omega
    refine Sat.skip ?_
    simp only [thenK]
    (repeat refine Sat.seq ?_)
    refine Sat.block ?_
    (repeat refine Sat.seq ?_)
    (refine Sat.region_k fun k hk => ?_; simp -implicitDefEqProofs only [evr, id, seval, ent0, ent1, ent2, ent3, ent4, Nat.sub_zero, evn])
    refine ⟨by omega, fun b11 => ?_⟩
    (refine hk _ ?_; clear hk k; try show Sat _ _ _ _ _)
    (repeat refine Sat.seq ?_)
    have e1 : IntKind.i64.wrap ((i : Int) + 1) = ((i + 1 : Nat) : Int) := by rw [w64 (by omega)]; omega
    have es1 := lkp_take a t es i hlt
    generalize hb : lkp a t (es.take i) = b at es1 ⊢
    generalize he : es.getD i default = e at es1 ⊢
    have heok : eOk e := he ▸ esOk_at h i
    refine Sat.region_at ⟨52, [(47, .b (decide (applies a t e = true ∧ shorter b e))), (11, .op 3 b11 0), (13, .sl ad es.length cap 5 (entRd es)), (14, .i .i64 es.length), (15, .i .i64 i), (1, .i .u32 a), (2, .i .i64 t), (6, .op 1 b6 0), (8, .op 2 b8 0), (9, .b b.isSome)],
      [.box b1 25 [.sl ad es.length cap 5 (entRd es)], .box b6 31 (Ent.cs default), .box b8 31 (Ent.cs (optE b)), .box b11 31 (Ent.cs e)]⟩ (fun k hk => ?_) ?_
    · simp -implicitDefEqProofs only [evr, id, seval, ent0, ent1, ent2, ent3, ent4, Nat.sub_zero, evn]
      have hcon := (containsC F e.pr heok a ha).of_sim (args := [.agg 2 fun j => [SV.i .u32 (e.addr : Nat), .i .i64 e.len, .i .i64 e.prov, .i .i64 e.from_, .i .i64 e.to_].getD j default, .i .u32 a]) ⟨(ent_pr e).1, sim_refl _, trivial⟩
      repeat' (first
        | (with_reducible refine And.intro ?_ ?_)
        | (with_reducible intro hh)
        | (with_reducible refine hk _ ?_
           first
           | (have e9 : decide (applies a t e = true ∧ shorter b e) = false := by
                clear hk hcon
                apply decide_eq_false
                rw [shorter_iff]
                unfold applies
                simp only [Bool.and_eq_true, decide_eq_true_eq]
                rintro ⟨⟨g1, g2⟩, g3⟩
                first
                | (simp_all; done)
                | (simp_all; omega)
              simp only [e9, Ent.cs]
              simp -implicitDefEqProofs only [evr, id, seval, ent0, ent1, ent2, ent3, ent4, Nat.sub_zero, evl, evn]
              done)
           | (have e9 : decide (applies a t e = true ∧ shorter b e) = cont e.pr a := by
                clear hk hcon
                apply Bool.eq_iff_iff.2
                rw [decide_eq_true_eq, shorter_iff]
                unfold applies
                simp only [Bool.and_eq_true, decide_eq_true_eq]
                simp_all
                done
              simp only [e9, Ent.cs]
              simp -implicitDefEqProofs only [evr, id, seval, ent0, ent1, ent2, ent3, ent4, Nat.sub_zero, evl, evn]
              done))
        | (refine wcall_plain hcon (by simp -implicitDefEqProofs only [evr, id, seval, ent0, ent1, ent2, ent3, ent4, Nat.sub_zero, evn]) (by rintro _ rfl; exact ok_plain rfl) ?_
           rintro r rfl
           simp -implicitDefEqProofs only [evr, id, seval, ent0, ent1, ent2, ent3, ent4, Nat.sub_zero, evn]))
    refine Sat.cond_b rfl (fun h5 => ?_) (fun h5 => ?_)
    · simp only [decide_eq_true_eq] at h5
      simp only [Ent.cs]
      (repeat refine Sat.seq ?_)
      refine Sat.region_k fun k hk => ?_
      simp -implicitDefEqProofs only [evr, id, seval, ent0, ent1, ent2, ent3, ent4, Nat.sub_zero, evn]
      refine hk _ ?_
      simp only [thenK, blockK]
      refine Sat.region_k fun k hk => ?_
      simp -implicitDefEqProofs only [evr, id, seval, ent0, ent1, ent2, ent3, ent4, Nat.sub_zero, evn]
      rw [e1]
      refine hk _ ?_
      simp only [thenK, blockK]
      refine ⟨i + 1, by omega, by omega, ?_⟩
      rw [es1]
      unfold lkStep
      rw [if_pos h5]
      simp only [optE, Option.getD_some, Ent.cs]
      simp -implicitDefEqProofs only [evr, id, seval, ent0, ent1, ent2, ent3, ent4, Nat.sub_zero, evl, evn]
    · simp only [decide_eq_false_iff_not] at h5
      simp only [Ent.cs]
      refine Sat.skip ?_
      simp only [thenK, blockK]
      refine Sat.region_k fun k hk => ?_
      simp -implicitDefEqProofs only [evr, id, seval, ent0, ent1, ent2, ent3, ent4, Nat.sub_zero, evn]
      rw [e1]
      refine hk _ ?_
      simp only [thenK, blockK]
      refine ⟨i + 1, by omega, by omega, ?_⟩
      rw [es1]
      unfold lkStep
      rw [if_neg h5]
      simp -implicitDefEqProofs only [evr, id, seval, ent0, ent1, ent2, ent3, ent4, Nat.sub_zero, evl, evn]
  · refine Sat.exit ?_
    simp only [thenK, blockK, reduceIte]
    simp only [decide_eq_false_iff_not] at h2
    obtain rfl : i = es.length := by omega
    (repeat refine Sat.seq ?_)
    (refine Sat.region_k fun k hk => ?_; simp -implicitDefEqProofs only [evr, id, seval, ent0, ent1, ent2, ent3, ent4, Nat.sub_zero, evn]; refine hk _ ?_; clear hk k; try show Sat _ _ _ _ _)
    refine Sat.ret ?_
    simp only [Tryz.results42, evr, id, seval, List.append_nil, Int.toNat_zero, Nat.sub_self, ent0, ent1, ent2, ent3, ent4, Nat.sub_zero]
    simp only [List.take_length]
    rfl
end Go.Proofs.YtepkbbmjbbnhnaaGreatDoor
