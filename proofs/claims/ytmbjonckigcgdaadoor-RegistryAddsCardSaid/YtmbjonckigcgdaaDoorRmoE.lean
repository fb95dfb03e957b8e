/- registry.Remove, by the evaluator. -/
import Derived.Test.YtmbjonckigcgdaaDoorAddM
set_option linter.unusedSimpArgs false
set_option linter.unusedVariables false
namespace Go.Proofs.YtmbjonckigcgdaaDoor
open Go.Sort Eng
theorem pfx_q (es : List Ent) (i : Nat) (c d : Int) : aggEq Tryd.prog 35 2 (fun j => entRd es i j) 2 (fun j => [SV.i .u32 c, SV.i .i64 d].getD j default) = some ([((es.getD i default).addr : Int) == c, (es.getD i default).len == d].all id) := by kernel_rfl
def pfQ (x : Ent) (q : Prf) : Bool := (x.addr : Int) == q.addr && x.len == q.len
theorem pfQ_iff (x : Ent) (q : Prf) : pfQ x q = true ↔ x.pr = q := by
  obtain ⟨a, b⟩ := q
  unfold pfQ Ent.pr
  simp only [Bool.and_eq_true, beq_iff_eq, Prf.mk.injEq]
  omega
theorem pfQ_eq (x : Ent) (q : Prf) : ((x.addr : Int) == q.addr && x.len == q.len) = pfQ x q := rfl
def noAt (es : List Ent) (q : Prf) (t : Int) (i : Nat) : Prop := ¬ (i < es.length ∧ (es.getD i default).pr = q ∧ (es.getD i default).from_ = t)
instance (es : List Ent) (q : Prf) (t : Int) (i : Nat) : Decidable (noAt es q t i) := by unfold noAt; infer_instance
set_option maxRecDepth 100000 in
theorem removeC (F : Frm) (ad : Option Addr) (cap : Nat) (es : List Ent) (h : esOk es) (hn : es.length ≤ 1000000) (q : Prf) (t : Int) :
    Contract F Tryd.prog 21 [regS ad cap es, prS q, .i .i64 t] (fun r => ∃ a c, r = tupL [regS a c (remV es q t).1, .i .i64 (remV es q t).2]) := by
  have fin : ∀ (k : Int) (rd : Nat → Nat → SV), remV es q t = ([], k) → ∀ r, r = tupL [.agg 1 fun j => [SV.sl none 0 0 0 rd].getD j default, .i .i64 k] → ∃ r', sim r r' ∧ ∃ a c, r' = tupL [regS a c (remV es q t).1, .i .i64 (remV es q t).2] := by
    rintro k rd h1 _ rfl
    refine ⟨_, sim_tup2 (sim_agg1 (f := fun j => [SV.sl none 0 0 0 rd].getD j default) (g := fun j => [SV.sl none 0 0 5 (entRd [])].getD j default) (by show sim (SV.sl none 0 0 0 rd) (SV.sl none 0 0 5 (entRd [])); exact sim_nil 0 5 rd (entRd []))) (sim_refl _), none, 0, ?_⟩
    rw [h1]
    rfl
  refine Contract.same (post := fun r => (∃ k rd, remV es q t = ([], k) ∧ r = tupL [.agg 1 fun j => [SV.sl none 0 0 0 rd].getD j default, .i .i64 k]) ∨ ∃ a c, r = tupL [regS a c (remV es q t).1, .i .i64 (remV es q t).2]) ?_ (by
    rintro r (⟨k, rd, h1, h2⟩ | ⟨a, c, h2⟩)
    · exact fin k rd h1 r h2
    · exact ⟨r, sim_refl _, a, c, h2⟩)
  refine contract_of Tryd.func21 rfl (by kernel_rfl) ?_
  simp only [Tryd.ntmps21, argEnv, regS, prS, prC]
  (repeat refine Sat.seq ?_)
  (refine Sat.region_k fun k hk => ?_; simp -implicitDefEqProofs only [evr, id, seval, ent0, ent1, ent2, ent3, ent4, Nat.sub_zero, pfx_q, Option.map_none, evn])
  intro b3 b4 b6
  (refine hk _ ?_; clear hk k; try show Sat _ _ _ _ _)
  (repeat refine Sat.seq ?_)
  (refine Sat.region_k fun k hk => ?_; simp -implicitDefEqProofs only [evr, id, seval, ent0, ent1, ent2, ent3, ent4, Nat.sub_zero, pfx_q, Option.map_none, evn])
  refine wcall_plain (regValidC F ad cap es h) (by simp -implicitDefEqProofs only [evr, id, seval, ent0, ent1, ent2, ent3, ent4, Nat.sub_zero, pfx_q, Option.map_none, evn]; rfl) (by rintro _ rfl; exact ok_plain rfl) ?_
  rintro r rfl
  simp -implicitDefEqProofs only [evr, id, seval, ent0, ent1, ent2, ent3, ent4, Nat.sub_zero, pfx_q, Option.map_none, evn]
  (refine hk _ ?_; clear hk k; try show Sat _ _ _ _ _)
  (repeat refine Sat.seq ?_)
  refine Sat.cond_b rfl (fun h1 => ?_) (fun h1 => ?_)
  · simp only [Bool.not_eq_true', decide_eq_false_iff_not] at h1
    (repeat refine Sat.seq ?_)
    (refine Sat.region_k fun k hk => ?_; simp -implicitDefEqProofs only [evr, id, seval, ent0, ent1, ent2, ent3, ent4, Nat.sub_zero, pfx_q, Option.map_none, evn]; refine hk _ ?_; clear hk k; try show Sat _ _ _ _ _)
    refine Sat.ret ?_
    simp only [Tryd.results21, evr, id, seval, List.append_nil, Int.toNat_zero, Nat.sub_self, ent0, ent1, ent2, ent3, ent4, Nat.sub_zero, pfx_q, Option.map_none]
    refine .inl ⟨1, _, ?_, rfl⟩
    unfold remV
    rw [if_pos h1]
  · simp only [Bool.not_eq_false', decide_eq_true_eq] at h1
    refine Sat.skip ?_
    simp only [thenK]
    (repeat refine Sat.seq ?_)
    (refine Sat.region_k fun k hk => ?_; simp -implicitDefEqProofs only [evr, id, seval, ent0, ent1, ent2, ent3, ent4, Nat.sub_zero, pfx_q, Option.map_none, evn])
    refine wcall_plain (placeC F ad cap es hn q t) (by simp -implicitDefEqProofs only [evr, id, seval, ent0, ent1, ent2, ent3, ent4, Nat.sub_zero, pfx_q, Option.map_none, evn]; rfl) (by rintro _ ⟨j, _, _, _, rfl⟩; exact ok_plain rfl) ?_
    rintro _ ⟨i, hi, h5, h6, rfl⟩
    have hpl := place_of h1 hi h5 h6
    simp -implicitDefEqProofs only [evr, id, seval, ent0, ent1, ent2, ent3, ent4, Nat.sub_zero, pfx_q, Option.map_none, evn]
    (refine hk _ ?_; clear hk k; try show Sat _ _ _ _ _)
    (repeat refine Sat.seq ?_)
    refine Sat.region_qat (by kernel_rfl) (by kernel_rfl) ⟨51, [(41, .b (decide (noAt es q t i))), (8, .i .i64 i), (3, .op 0 b3 0), (6, .op 2 b6 0), (7, .i .i64 0)], [.box b3 29 [.sl ad es.length cap 5 (entRd es)], .gone, .box b6 29 [.sl none 0 0 0 fun _ _ => .v undef]]⟩ (fun k hk => ?_) ?_
    · simp -implicitDefEqProofs only [evr, id, seval, ent0, ent1, ent2, ent3, ent4, Nat.sub_zero, pfx_q, Option.map_none, pfQ_eq, evn]
      repeat' (first
        | (with_reducible refine And.intro ?_ ?_)
        | (with_reducible intro hh)
        | (omega)
        | (clear hk fin; simp only [beq_eq_false_iff_ne, ne_eq] at *; omega)
        | (with_reducible refine hk _ ?_
           first
           | (have e9 : decide (noAt es q t i) = true := by
                clear hk fin h5 h6 h
                apply decide_eq_true
                unfold noAt
                rw [← pfQ_iff]
                rintro ⟨g1, g2, g3⟩
                first
                | omega
                | (simp_all; done)
                | (simp_all; omega)
              simp only [e9]
              simp -implicitDefEqProofs only [evr, id, seval, ent0, ent1, ent2, ent3, ent4, Nat.sub_zero, pfx_q, Option.map_none, evl, evn]
              done)
           | (have e9 : decide (noAt es q t i) = ((es.getD i default).from_ != t) := by
                clear hk fin h5 h6 h
                apply Bool.eq_iff_iff.2
                rw [decide_eq_true_eq]
                unfold noAt
                rw [← pfQ_iff]
                have hlt : i < es.length := by
                  (try simp only [beq_iff_eq, beq_eq_false_iff_ne] at *)
                  omega
                simp_all
                done
              simp only [e9]
              simp -implicitDefEqProofs only [evr, id, seval, ent0, ent1, ent2, ent3, ent4, Nat.sub_zero, pfx_q, Option.map_none, evl, evn]
              done)))
    simp only [thenK]
    refine Sat.cond_b rfl (fun h7 => ?_) (fun h7 => ?_)
    · simp only [decide_eq_true_eq] at h7
      (repeat refine Sat.seq ?_)
      (refine Sat.region_k fun k hk => ?_; simp -implicitDefEqProofs only [evr, id, seval, ent0, ent1, ent2, ent3, ent4, Nat.sub_zero, pfx_q, Option.map_none, evn]; refine hk _ ?_; clear hk k; try show Sat _ _ _ _ _)
      refine Sat.ret ?_
      simp only [Tryd.results21, evr, id, seval, List.append_nil, Int.toNat_zero, Nat.sub_self, ent0, ent1, ent2, ent3, ent4, Nat.sub_zero, pfx_q, Option.map_none]
      refine .inl ⟨8, _, ?_, rfl⟩
      unfold remV
      rw [if_neg (fun h9 => h9 h1), ← hpl.eq, if_neg h7]
    · simp only [decide_eq_false_iff_not] at h7
      have h8 : i < es.length ∧ (es.getD i default).pr = q ∧ (es.getD i default).from_ = t := Decidable.not_not.1 h7
      have hv : remV es q t = (delE es i, 0) := by
        unfold remV
        rw [if_neg (fun h9 => h9 h1), ← hpl.eq, if_pos h8]
      have e1 : IntKind.i64.wrap ((i : Int) + 1) = ((i + 1 : Nat) : Int) := by rw [w64 (by omega)]; omega
      have hlen := delE_len h8.1
      refine Sat.skip ?_
      simp only [thenK]
      (repeat refine Sat.seq ?_)
      refine Sat.region_k fun k hk => ?_
      simp -implicitDefEqProofs only [evr, id, seval, ent0, ent1, ent2, ent3, ent4, Nat.sub_zero, pfx_q, Option.map_none, evn]
      refine wcall_new (cloneC F ad cap es (by omega)) rfl (by simp -implicitDefEqProofs only [evr, id, seval, ent0, ent1, ent2, ent3, ent4, Nat.sub_zero, pfx_q, Option.map_none, evn]) ?_
      rintro ra ty len rc sz rrd ⟨ra', rc', e9⟩
      simp only [entRow, Own.row.injEq] at e9
      obtain ⟨rfl, rfl, rfl, rfl, rfl, rfl⟩ := e9
      simp -implicitDefEqProofs only [evr, id, seval, ent0, ent1, ent2, ent3, ent4, Nat.sub_zero, pfx_q, Option.map_none, e1, evn]
      refine wcall_multi [] [3] (deleteC F ra rc es i h8.1 (by omega)) rfl (by decide) (by simp -implicitDefEqProofs only [evr, id, seval, ent0, ent1, ent2, ent3, ent4, Nat.sub_zero, pfx_q, Option.map_none, evn]; rfl) (by simp -implicitDefEqProofs only [evr, id, seval, ent0, ent1, ent2, ent3, ent4, Nat.sub_zero, pfx_q, Option.map_none, argL, argL1, idx, lf, evn]) ?_
      rintro r os1 ⟨a, c, rfl, rfl⟩
      simp -implicitDefEqProofs only [evr, id, seval, ent0, ent1, ent2, ent3, ent4, Nat.sub_zero, pfx_q, Option.map_none, setA, renO, renI, toC, idx, evn]
      refine hk _ ?_
      simp only [thenK]
      refine Sat.ret ?_
      simp only [Tryd.results21, evr, id, seval, List.append_nil, Int.toNat_zero, Nat.sub_self, ent0, ent1, ent2, ent3, ent4, Nat.sub_zero, pfx_q, Option.map_none]
      rw [hv, ← hlen]
      exact .inr ⟨_, _, rfl⟩
end Go.Proofs.YtmbjonckigcgdaaDoor
