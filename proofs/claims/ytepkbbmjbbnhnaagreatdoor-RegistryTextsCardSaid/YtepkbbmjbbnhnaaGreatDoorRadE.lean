/- registry.Add, by the evaluator. -/
import Derived.Test.YtepkbbmjbbnhnaaGreatDoorCmeE
import Derived.Test.YtepkbbmjbbnhnaaGreatDoorLkpE
set_option linter.unusedSimpArgs false
set_option linter.unusedVariables false
namespace Go.Proofs.YtepkbbmjbbnhnaaGreatDoor
open Go.Sort Eng
theorem sim_agg1 {f g : Nat → SV} (h0 : sim (f 0) (g 0)) : sim (.agg 1 f) (.agg 1 g) := by
  refine ⟨?_, fun R w h j hj => ?_⟩
  · simp only [SV.den]
    congr 2
    apply List.map_congr_left
    intro j hj
    obtain rfl : j = 0 := by have := List.mem_range.1 hj; omega
    exact h0.1
  · obtain rfl : j = 0 := by omega
    exact h0.2 R w (h 0 hj)
instance (x e : Ent) : Decidable (overlap x e) := by unfold overlap; infer_instance
instance (es : List Ent) (e : Ent) (i : Nat) : Decidable (clash es e i) := by unfold clash; infer_instance
def addV (es : List Ent) (e : Ent) : List Ent × Int :=
  if ¬ RegOk es ∨ ¬ EntOk e then ([], 1) else if ∃ x ∈ es, overlap x e then ([], 9) else if 1024 ≤ es.length then ([], 5) else (insE es (plcN es e.fk) e, 0)
theorem plc_fk (e x : Ent) : plc e.pr e.from_ x = cmpL x.fk e.fk := rfl
theorem place_of {es : List Ent} {q : Prf} {t : Int} {j : Nat} (h : RegOk es) (hj : j ≤ es.length) (h1 : j < es.length → 0 ≤ plc q t (es.getD j default)) (h2 : 0 < j → plc q t (es.getD (j - 1) default) < 0) : Place es [(q.addr : Int), q.len, t] j := by
  have hlt : ∀ a b, a < b → b < es.length → cmpL (es.getD a default).fk (es.getD b default).fk < 0 := fun a b hab hb => by
    have := RegOk.lt h (b - a - 1) a (by omega)
    rw [show a + (b - a - 1) + 1 = b by omega] at this
    exact nb_fk this (h.2 a (by omega)).1.2.2.2.2.1
  have fkl : ∀ x : Ent, x.fk.length = 3 := fun x => rfl
  have ql : ([(q.addr : Int), q.len, t] : List Int).length = 3 := rfl
  unfold plc at h1 h2
  generalize [(q.addr : Int), q.len, t] = z at h1 h2 ql ⊢
  refine ⟨hj, fun i hi => ?_, fun i hi hl => ?_⟩
  · rcases (show i = j - 1 ∨ i < j - 1 by omega) with rfl | h3
    · exact h2 (by omega)
    · exact cmpL_trans _ _ _ ((fkl _).trans (fkl _).symm) ((fkl _).trans ql.symm) (hlt i (j - 1) h3 (by omega)) (h2 (by omega))
  · rcases (show i = j ∨ j < i by omega) with rfl | h3
    · exact h1 hl
    · have g1 := hlt j i h3 hl
      have g2 := h1 (by omega)
      rcases Int.lt_or_le (cmpL (es.getD i default).fk z) 0 with g6 | g6
      · have := cmpL_trans _ _ _ ((fkl _).trans (fkl _).symm) ((fkl _).trans ql.symm) g1 g6
        omega
      · exact g6
theorem pfx_ent (es : List Ent) (i : Nat) (c d : Int) (x y z : SV) : aggEq Tryz.prog 29 2 (fun j => entRd es i j) 2 (fun j => [SV.i .u32 c, SV.i .i64 d, x, y, z].getD j default) = some ([((es.getD i default).addr : Int) == c, (es.getD i default).len == d].all id) := by kernel_rfl
def pfB (x e : Ent) : Bool := (x.addr : Int) == e.addr && x.len == e.len
theorem pfB_iff (x e : Ent) : pfB x e = true ↔ x.pk = e.pk := by
  unfold pfB Ent.pk
  simp only [Bool.and_eq_true, beq_iff_eq, List.cons.injEq, and_true]
theorem clash_b (es : List Ent) (e : Ent) (i : Nat) : clash es e i ↔ (i < es.length ∧ pfB (es.getD i default) e = true ∧ (es.getD i default).from_ < e.to_) ∨ (0 < i ∧ pfB (es.getD (i - 1) default) e = true ∧ e.from_ < (es.getD (i - 1) default).to_) := by
  unfold clash
  simp only [pfB_iff]
theorem pfB_eq (x e : Ent) : ((x.addr : Int) == e.addr && x.len == e.len) = pfB x e := rfl
set_option maxRecDepth 100000 in
theorem addC (F : Frm) (ad : Option Addr) (cap : Nat) (es : List Ent) (h : esOk es) (hn : es.length ≤ 1000000) (e : Ent) (he : eOk e) :
    Contract F Tryz.prog 23 [regS ad cap es, entS e] (fun r => ∃ a c, r = tupL [regS a c (addV es e).1, .i .i64 (addV es e).2]) := by
  have fin : ∀ (k : Int) (rd : Nat → Nat → SV), addV es e = ([], k) → ∀ r, r = tupL [.agg 1 fun j => [SV.sl none 0 0 0 rd].getD j default, .i .i64 k] → ∃ r', sim r r' ∧ ∃ a c, r' = tupL [regS a c (addV es e).1, .i .i64 (addV es e).2] := by
    rintro k rd h1 _ rfl
    refine ⟨_, sim_tup2 (sim_agg1 (f := fun j => [SV.sl none 0 0 0 rd].getD j default) (g := fun j => [SV.sl none 0 0 5 (entRd [])].getD j default) (by show sim (SV.sl none 0 0 0 rd) (SV.sl none 0 0 5 (entRd [])); exact sim_nil 0 5 rd (entRd []))) (sim_refl _), none, 0, ?_⟩
    rw [h1]
    rfl
  refine Contract.same (post := fun r => (∃ k rd, addV es e = ([], k) ∧ r = tupL [.agg 1 fun j => [SV.sl none 0 0 0 rd].getD j default, .i .i64 k]) ∨ ∃ a c, r = tupL [regS a c (addV es e).1, .i .i64 (addV es e).2]) ?_ (by
    rintro r (⟨k, rd, h1, h2⟩ | ⟨a, c, h2⟩)
    · exact fin k rd h1 r h2
    · exact ⟨r, sim_refl _, a, c, h2⟩)
  refine contract_of Tryz.func23 rfl (by kernel_rfl) ?_
  simp only [Tryz.ntmps23, argEnv, regS, entS, Ent.cs]
  (repeat refine Sat.seq ?_)
  (refine Sat.region_k fun k hk => ?_; simp -implicitDefEqProofs only [evr, id, seval, ent0, ent1, ent2, ent3, ent4, Nat.sub_zero, pfx_ent, Option.map_none, evn])
  intro b2 b3 b4
  (refine hk _ ?_; clear hk k; try show Sat _ _ _ _ _)
  (repeat refine Sat.seq ?_)
  refine Sat.region_at ⟨87, [(15, .b (decide (¬ RegOk es ∨ ¬ EntOk e))), (2, .op 0 b2 0), (3, .op 1 b3 0), (4, .op 2 b4 0), (5, .i .i64 0)], [.box b2 25 [.sl ad es.length cap 5 (entRd es)], .box b3 31 (Ent.cs e), .box b4 25 [.sl none 0 0 0 fun _ _ => .v undef]]⟩ (fun k hk => ?_) ?_
  · simp -implicitDefEqProofs only [evr, id, seval, ent0, ent1, ent2, ent3, ent4, Nat.sub_zero, pfx_ent, Option.map_none, evn]
    refine wcall_plain (regValidC F ad cap es h) (by simp -implicitDefEqProofs only [evr, id, seval, ent0, ent1, ent2, ent3, ent4, Nat.sub_zero, pfx_ent, Option.map_none, evn]; rfl) (by rintro _ rfl; exact ok_plain rfl) ?_
    rintro r rfl
    simp -implicitDefEqProofs only [evr, id, seval, ent0, ent1, ent2, ent3, ent4, Nat.sub_zero, pfx_ent, Option.map_none, evn]
    refine ⟨fun h1 => ?_, fun h1 => ?_⟩
    · refine hk _ ?_
      have e9 : decide (¬ RegOk es ∨ ¬ EntOk e) = true := decide_eq_true (.inl (by simpa using h1))
      simp only [e9, Ent.cs]
      simp -implicitDefEqProofs only [evr, id, seval, ent0, ent1, ent2, ent3, ent4, Nat.sub_zero, pfx_ent, Option.map_none, evl, evn]
      done
    · refine wcall_plain (entryOkC F e he) (by simp -implicitDefEqProofs only [evr, id, seval, ent0, ent1, ent2, ent3, ent4, Nat.sub_zero, pfx_ent, Option.map_none, evn]; rfl) (by rintro _ rfl; exact ok_plain rfl) ?_
      rintro r rfl
      simp -implicitDefEqProofs only [evr, id, seval, ent0, ent1, ent2, ent3, ent4, Nat.sub_zero, pfx_ent, Option.map_none, evn]
      refine hk _ ?_
      have e9 : decide (¬ RegOk es ∨ ¬ EntOk e) = !decide (EntOk e) := by
        simp only [Bool.not_eq_false', decide_eq_true_eq] at h1
        apply Bool.eq_iff_iff.2
        simp [h1]
      simp only [e9, Ent.cs]
      simp -implicitDefEqProofs only [evr, id, seval, ent0, ent1, ent2, ent3, ent4, Nat.sub_zero, pfx_ent, Option.map_none, evl, evn]
      done
  simp only [Ent.cs]
  refine Sat.cond_b rfl (fun h1 => ?_) (fun h1 => ?_)
  · simp only [decide_eq_true_eq] at h1
    (repeat refine Sat.seq ?_)
    (refine Sat.region_k fun k hk => ?_; simp -implicitDefEqProofs only [evr, id, seval, ent0, ent1, ent2, ent3, ent4, Nat.sub_zero, pfx_ent, Option.map_none, evn]; refine hk _ ?_; clear hk k; try show Sat _ _ _ _ _)
    refine Sat.ret ?_
    simp only [Tryz.results23, evr, id, seval, List.append_nil, Int.toNat_zero, Nat.sub_self, ent0, ent1, ent2, ent3, ent4, Nat.sub_zero, pfx_ent, Option.map_none]
    refine .inl ⟨1, _, ?_, rfl⟩
    unfold addV
    rw [if_pos h1]
  · simp only [decide_eq_false_iff_not, not_or, Decidable.not_not] at h1
    obtain ⟨hr, heo⟩ := h1
    refine Sat.skip ?_
    simp only [thenK]
    (repeat refine Sat.seq ?_)
    (refine Sat.region_k fun k hk => ?_; simp -implicitDefEqProofs only [evr, id, seval, ent0, ent1, ent2, ent3, ent4, Nat.sub_zero, pfx_ent, Option.map_none, evn])
    refine wcall_plain ((placeC F ad cap es hn e.pr e.from_).of_sim (args := [.agg 1 fun j => [SV.sl ad es.length cap 5 (entRd es)].getD j default, .agg 2 fun j => [SV.i .u32 (e.addr : Nat), .i .i64 e.len, .i .i64 e.prov, .i .i64 e.from_, .i .i64 e.to_].getD j default, .i .i64 e.from_]) ⟨sim_refl _, (ent_pr e).1, sim_refl _, trivial⟩) (by simp -implicitDefEqProofs only [evr, id, seval, ent0, ent1, ent2, ent3, ent4, Nat.sub_zero, pfx_ent, Option.map_none, evn]) (by rintro _ ⟨j, _, _, _, rfl⟩; exact ok_plain rfl) ?_
    rintro _ ⟨i, hi, h5, h6, rfl⟩
    have hpl := place_of hr hi h5 h6
    have hcl := clash_iff hr heo hpl
    simp -implicitDefEqProofs only [evr, id, seval, ent0, ent1, ent2, ent3, ent4, Nat.sub_zero, pfx_ent, Option.map_none, evn]
    (refine hk _ ?_; clear hk k; try show Sat _ _ _ _ _)
    (repeat refine Sat.seq ?_)
    (refine Sat.region_k fun k hk => ?_; simp -implicitDefEqProofs only [evr, id, seval, ent0, ent1, ent2, ent3, ent4, Nat.sub_zero, pfx_ent, Option.map_none, evn])
    (refine hk _ ?_; clear hk k; try show Sat _ _ _ _ _)
    (repeat refine Sat.seq ?_)
    refine Sat.region_qat (by kernel_rfl) (by kernel_rfl) ⟨87, [(74, .b (decide (clash es e i))), (6, .i .i64 i), (7, .sl ad es.length cap 5 (entRd es)), (3, .op 1 b3 0), (4, .op 2 b4 0), (5, .i .i64 0)], [.gone, .box b3 31 (Ent.cs e), .box b4 25 [.sl none 0 0 0 fun _ _ => .v undef]]⟩ (fun k hk => ?_) ?_
    · rcases Nat.eq_zero_or_pos i with h0 | h0
      · simp -implicitDefEqProofs only [evr, id, seval, ent0, ent1, ent2, ent3, ent4, Nat.sub_zero, pfx_ent, Option.map_none, pfB_eq, evn]
        repeat' (first
        | (with_reducible refine And.intro ?_ ?_)
        | (with_reducible intro hh)
        | (omega)
        | (with_reducible refine hk _ ?_
           simp only [Ent.cs]
           first
           | (have e9 : decide (clash es e i) = true := by
                clear hk fin hcl hpl h5 h6 hr heo h
                apply decide_eq_true
                rw [clash_b]
                first
                | (left; refine ⟨by omega, by assumption, by assumption⟩; done)
                | (right; refine ⟨by omega, by assumption, by assumption⟩; done)
              simp only [e9]
              simp -implicitDefEqProofs only [evr, id, seval, ent0, ent1, ent2, ent3, ent4, Nat.sub_zero, pfx_ent, Option.map_none, evl, evn]
              done)
           | (have e9 : decide (clash es e i) = false := by
                clear hk fin hcl hpl h5 h6 hr heo h
                apply decide_eq_false
                rw [clash_b]
                rintro (⟨g1, g2, g3⟩ | ⟨g1, g2, g3⟩)
                · first
                  | omega
                  | (simp_all; done)
                · first
                  | omega
                  | (simp_all; done)
              simp only [e9]
              simp -implicitDefEqProofs only [evr, id, seval, ent0, ent1, ent2, ent3, ent4, Nat.sub_zero, pfx_ent, Option.map_none, evl, evn]
              done)
           | (have e9 : decide (clash es e i) = decide (e.from_ < (es.getD (i - 1) default).to_) := by
                clear hk fin hcl hpl h5 h6 hr heo h
                apply Bool.eq_iff_iff.2
                rw [decide_eq_true_eq, decide_eq_true_eq, clash_b]
                constructor
                · rintro (⟨g1, g2, g3⟩ | ⟨g1, g2, g3⟩)
                  · first
                    | omega
                    | (simp_all; done)
                  · exact g3
                · intro g3
                  right
                  exact ⟨by omega, by assumption, g3⟩
              simp only [e9]
              simp -implicitDefEqProofs only [evr, id, seval, ent0, ent1, ent2, ent3, ent4, Nat.sub_zero, pfx_ent, Option.map_none, evl, evn]
              done)))
      · have e2 : IntKind.i64.wrap ((i : Int) - 1) = ((i - 1 : Nat) : Int) := by rw [w64 (by omega)]; omega
        simp -implicitDefEqProofs only [evr, id, seval, ent0, ent1, ent2, ent3, ent4, Nat.sub_zero, pfx_ent, Option.map_none, e2, Int.toNat_natCast, pfB_eq, evn]
        repeat' (first
        | (with_reducible refine And.intro ?_ ?_)
        | (with_reducible intro hh)
        | (omega)
        | (with_reducible refine hk _ ?_
           simp only [Ent.cs]
           first
           | (have e9 : decide (clash es e i) = true := by
                clear hk fin hcl hpl h5 h6 hr heo h
                apply decide_eq_true
                rw [clash_b]
                first
                | (left; refine ⟨by omega, by assumption, by assumption⟩; done)
                | (right; refine ⟨by omega, by assumption, by assumption⟩; done)
              simp only [e9]
              simp -implicitDefEqProofs only [evr, id, seval, ent0, ent1, ent2, ent3, ent4, Nat.sub_zero, pfx_ent, Option.map_none, evl, evn]
              done)
           | (have e9 : decide (clash es e i) = false := by
                clear hk fin hcl hpl h5 h6 hr heo h
                apply decide_eq_false
                rw [clash_b]
                rintro (⟨g1, g2, g3⟩ | ⟨g1, g2, g3⟩)
                · first
                  | omega
                  | (simp_all; done)
                · first
                  | omega
                  | (simp_all; done)
              simp only [e9]
              simp -implicitDefEqProofs only [evr, id, seval, ent0, ent1, ent2, ent3, ent4, Nat.sub_zero, pfx_ent, Option.map_none, evl, evn]
              done)
           | (have e9 : decide (clash es e i) = decide (e.from_ < (es.getD (i - 1) default).to_) := by
                clear hk fin hcl hpl h5 h6 hr heo h
                apply Bool.eq_iff_iff.2
                rw [decide_eq_true_eq, decide_eq_true_eq, clash_b]
                constructor
                · rintro (⟨g1, g2, g3⟩ | ⟨g1, g2, g3⟩)
                  · first
                    | omega
                    | (simp_all; done)
                  · exact g3
                · intro g3
                  right
                  exact ⟨by omega, by assumption, g3⟩
              simp only [e9]
              simp -implicitDefEqProofs only [evr, id, seval, ent0, ent1, ent2, ent3, ent4, Nat.sub_zero, pfx_ent, Option.map_none, evl, evn]
              done)))
    simp only [thenK, Ent.cs]
    refine Sat.cond_b rfl (fun h7 => ?_) (fun h7 => ?_)
    · simp only [decide_eq_true_eq] at h7
      (repeat refine Sat.seq ?_)
      (refine Sat.region_k fun k hk => ?_; simp -implicitDefEqProofs only [evr, id, seval, ent0, ent1, ent2, ent3, ent4, Nat.sub_zero, pfx_ent, Option.map_none, evn]; refine hk _ ?_; clear hk k; try show Sat _ _ _ _ _)
      refine Sat.ret ?_
      simp only [Tryz.results23, evr, id, seval, List.append_nil, Int.toNat_zero, Nat.sub_self, ent0, ent1, ent2, ent3, ent4, Nat.sub_zero, pfx_ent, Option.map_none]
      refine .inl ⟨9, _, ?_, rfl⟩
      unfold addV
      rw [if_neg (fun h9 => h9.elim (fun h9 => h9 hr) (fun h9 => h9 heo)), if_pos (hcl.1 h7)]
    · simp only [decide_eq_false_iff_not] at h7
      refine Sat.skip ?_
      simp only [thenK]
      (repeat refine Sat.seq ?_)
      (refine Sat.region_k fun k hk => ?_; simp -implicitDefEqProofs only [evr, id, seval, ent0, ent1, ent2, ent3, ent4, Nat.sub_zero, pfx_ent, Option.map_none, evn]; refine hk _ ?_; clear hk k; try show Sat _ _ _ _ _)
      (repeat refine Sat.seq ?_)
      refine Sat.cond_b rfl (fun h8 => ?_) (fun h8 => ?_)
      · simp only [decide_eq_true_eq] at h8
        (repeat refine Sat.seq ?_)
        (refine Sat.region_k fun k hk => ?_; simp -implicitDefEqProofs only [evr, id, seval, ent0, ent1, ent2, ent3, ent4, Nat.sub_zero, pfx_ent, Option.map_none, evn]; refine hk _ ?_; clear hk k; try show Sat _ _ _ _ _)
        refine Sat.ret ?_
        simp only [Tryz.results23, evr, id, seval, List.append_nil, Int.toNat_zero, Nat.sub_self, ent0, ent1, ent2, ent3, ent4, Nat.sub_zero, pfx_ent, Option.map_none]
        refine .inl ⟨5, _, ?_, rfl⟩
        unfold addV
        rw [if_neg (fun h9 => h9.elim (fun h9 => h9 hr) (fun h9 => h9 heo)), if_neg (fun h9 => h7 (hcl.2 h9)), if_pos (by omega)]
      · simp only [decide_eq_false_iff_not] at h8
        refine Sat.skip ?_
        simp only [thenK]
        have hv : addV es e = (insE es i e, 0) := by
          unfold addV
          rw [if_neg (fun h9 => h9.elim (fun h9 => h9 hr) (fun h9 => h9 heo)), if_neg (fun h9 => h7 (hcl.2 h9)), if_neg (by omega)]
          rw [hpl.eq]
          rfl
        (repeat refine Sat.seq ?_)
        have hlen := insE_len (e := e) hi
        (refine Sat.region_tree (.keep [0, 2, 3] [1] (.alt 1 (.one 4 (.one 5 (.one 6 (.one 7 (.one 8 .done))))) (.alt 4 (.one 1 (.one 5 (.one 6 (.one 7 (.one 8 .done))))) .none))) (by kernel_rfl) (by kernel_rfl) (fun _ _ h => h) fun k hk => ?_; simp only [WOT, List.map_cons, List.map_nil, List.getD_cons_zero, List.getD_cons_succ]; simp -implicitDefEqProofs only [evr, id, seval, ent0, ent1, ent2, ent3, ent4, Nat.sub_zero, pfx_ent, Option.map_none, WOT, evn])
        refine ⟨?_, ?_⟩
        · refine wcall_new (cloneC F ad cap es (by omega)) rfl (by simp -implicitDefEqProofs only [evr, id, seval, ent0, ent1, ent2, ent3, ent4, Nat.sub_zero, pfx_ent, Option.map_none, evn]) ?_
          rintro ra ty len rc sz rrd ⟨ra', rc', e9⟩
          simp only [entRow, Own.row.injEq] at e9
          obtain ⟨rfl, rfl, rfl, rfl, rfl, rfl⟩ := e9
          simp -implicitDefEqProofs only [evr, id, seval, ent0, ent1, ent2, ent3, ent4, Nat.sub_zero, pfx_ent, Option.map_none, evn]
          refine fun bv => ?_
          refine wcall_multi [] [3, 4] (insertC F ra (some ⟨bv, 0, none⟩) rc 1 es e (rdL (Ent.cs e) 5) (fun q hq => by unfold rdL; simp [entRd]) i hi (by omega)) rfl (by decide) (by simp -implicitDefEqProofs only [evr, id, seval, ent0, ent1, ent2, ent3, ent4, Nat.sub_zero, pfx_ent, Option.map_none, evn]; rfl) (by simp -implicitDefEqProofs only [evr, id, seval, ent0, ent1, ent2, ent3, ent4, Nat.sub_zero, pfx_ent, Option.map_none, argL, argL1, idx, lf, evn]) ?_
          rintro r os1 (⟨a, c, rfl, rfl⟩ | ⟨a, c, rfl, rfl⟩)
          · simp -implicitDefEqProofs only [evr, id, seval, ent0, ent1, ent2, ent3, ent4, Nat.sub_zero, pfx_ent, Option.map_none, setA, renO, renI, toC, idx, evn]
            refine hk _ ?_
            simp only [thenK]
            refine Sat.ret ?_
            simp only [Tryz.results23, evr, id, seval, List.append_nil, Int.toNat_zero, Nat.sub_self, ent0, ent1, ent2, ent3, ent4, Nat.sub_zero, pfx_ent, Option.map_none]
            rw [hv, ← hlen]
            exact .inr ⟨_, _, rfl⟩
          · simp -implicitDefEqProofs only [evr, id, seval, ent0, ent1, ent2, ent3, ent4, Nat.sub_zero, pfx_ent, Option.map_none, setA, renO, renI, toC, idx, evn]
            refine hk _ ?_
            simp only [thenK]
            refine Sat.ret ?_
            simp only [Tryz.results23, evr, id, seval, List.append_nil, Int.toNat_zero, Nat.sub_self, ent0, ent1, ent2, ent3, ent4, Nat.sub_zero, pfx_ent, Option.map_none]
            rw [hv, ← hlen]
            exact .inr ⟨_, _, rfl⟩
        · refine fun bv => ?_
          refine wcall_new (cloneC F ad cap es (by omega)) rfl (by simp -implicitDefEqProofs only [evr, id, seval, ent0, ent1, ent2, ent3, ent4, Nat.sub_zero, pfx_ent, Option.map_none, evn]) ?_
          rintro ra ty len rc sz rrd ⟨ra', rc', e9⟩
          simp only [entRow, Own.row.injEq] at e9
          obtain ⟨rfl, rfl, rfl, rfl, rfl, rfl⟩ := e9
          simp -implicitDefEqProofs only [evr, id, seval, ent0, ent1, ent2, ent3, ent4, Nat.sub_zero, pfx_ent, Option.map_none, evn]
          refine wcall_multi [] [4, 3] (insertC F ra (some ⟨bv, 0, none⟩) rc 1 es e (rdL (Ent.cs e) 5) (fun q hq => by unfold rdL; simp [entRd]) i hi (by omega)) rfl (by decide) (by simp -implicitDefEqProofs only [evr, id, seval, ent0, ent1, ent2, ent3, ent4, Nat.sub_zero, pfx_ent, Option.map_none, evn]; rfl) (by simp -implicitDefEqProofs only [evr, id, seval, ent0, ent1, ent2, ent3, ent4, Nat.sub_zero, pfx_ent, Option.map_none, argL, argL1, idx, lf, evn]) ?_
          rintro r os1 (⟨a, c, rfl, rfl⟩ | ⟨a, c, rfl, rfl⟩)
          · simp -implicitDefEqProofs only [evr, id, seval, ent0, ent1, ent2, ent3, ent4, Nat.sub_zero, pfx_ent, Option.map_none, setA, renO, renI, toC, idx, evn]
            refine hk _ ?_
            simp only [thenK]
            refine Sat.ret ?_
            simp only [Tryz.results23, evr, id, seval, List.append_nil, Int.toNat_zero, Nat.sub_self, ent0, ent1, ent2, ent3, ent4, Nat.sub_zero, pfx_ent, Option.map_none]
            rw [hv, ← hlen]
            exact .inr ⟨_, _, rfl⟩
          · simp -implicitDefEqProofs only [evr, id, seval, ent0, ent1, ent2, ent3, ent4, Nat.sub_zero, pfx_ent, Option.map_none, setA, renO, renI, toC, idx, evn]
            refine hk _ ?_
            simp only [thenK]
            refine Sat.ret ?_
            simp only [Tryz.results23, evr, id, seval, List.append_nil, Int.toNat_zero, Nat.sub_self, ent0, ent1, ent2, ent3, ent4, Nat.sub_zero, pfx_ent, Option.map_none]
            rw [hv, ← hlen]
            exact .inr ⟨_, _, rfl⟩
end Go.Proofs.YtepkbbmjbbnhnaaGreatDoor
