/- slices.Clone, slices.Insert of one, slices.Delete of one, for the entries of a registry. -/
import Derived.Test.YtepkbbmjbbnhnaaGreatDoorPk4
import Derived.Test.YtepkbbmjbbnhnaaGreatDoorEv
set_option linter.unusedSimpArgs false
set_option linter.unusedVariables false
namespace Go.Proofs.YtepkbbmjbbnhnaaGreatDoor
open Eng
abbrev entRow (a : Option Addr) (cap : Nat) (es : List Ent) : Own := .row a 31 es.length cap 5 (entRd es)
set_option maxRecDepth 100000 in
theorem cloneC (F : Frm) (a : Option Addr) (cap : Nat) (xs : List Ent) (hl : xs.length ≤ 1000000000) : ContractN F Tryz.prog 48 [.sl a xs.length cap 5 (entRd xs)] (fun o => ∃ a cap, o = entRow a cap xs) := by
  refine contractN_of Tryz.func48 rfl (by kernel_rfl) ?_
  simp only [Tryz.ntmps48, argEnv]
  refine Sat.know_nil 0 rfl fun hnil => ?_
  (repeat refine Sat.seq ?_)
  (refine Sat.region_k fun k hk => ?_; simp -implicitDefEqProofs only [evr, id, seval]; refine hk _ ?_; clear hk k; try show Sat _ _ _ _ _)
  (repeat refine Sat.seq ?_)
  (refine Sat.region_k fun k hk => ?_; simp -implicitDefEqProofs only [evr, id, seval]; refine hk _ ?_; clear hk k; try show Sat _ _ _ _ _)
  (repeat refine Sat.seq ?_)
  refine Sat.cond_b rfl (fun h => ?_) (fun h => ?_)
  · have h0 : xs = [] := List.eq_nil_of_length_eq_zero (hnil (by simpa using h))
    subst h0
    (repeat refine Sat.seq ?_)
    (refine Sat.region_k fun k hk => ?_; simp -implicitDefEqProofs only [evr, id, seval]; refine hk _ ?_; clear hk k; try show Sat _ _ _ _ _)
    refine Sat.adopt 2 31 5 (entRd []) rfl ?_
    refine Sat.ret ?_
    simp only [Tryz.results48, evr, id, seval, retN, retNK, newRow]
    exact ⟨⟨rfl, rfl, rfl⟩, _, _, rfl⟩
  · refine Sat.skip ?_
    simp only [thenK]
    (repeat refine Sat.seq ?_)
    (refine Sat.region_k fun k hk => ?_; simp -implicitDefEqProofs only [evr, id, seval])
    intro blk
    refine ⟨⟨by unfold maxLen; omega, by omega⟩, fun a2 cap2 => ?_⟩
    (refine hk _ ?_; clear hk k; try show Sat _ _ _ _ _)
    refine Sat.le (st' := ⟨8, [(2, .os 0 a2 xs.length cap2)], [entRow a2 cap2 xs]⟩) ?_ ?_
    · refine Sat.ret ?_
      simp only [Tryz.results48, evr, id, seval, retN, retNK, newRow]
      exact ⟨⟨rfl, rfl, rfl⟩, _, _, rfl⟩
    · simp -implicitDefEqProofs only [evr, id, seval, evl]
      intro p q hp hq
      simp [rdCat]
theorem insE_getD (es : List Ent) (e : Ent) (i p : Nat) (hi : i ≤ es.length) : (insE es i e).getD p default = if p < i then es.getD p default else if p = i then e else es.getD (p - 1) default := by
  unfold insE
  simp only [List.getD, List.getElem?_append, List.length_take, Nat.min_eq_left hi, List.getElem?_take, List.getElem?_cons, List.getElem?_drop]
  by_cases h1 : p < i
  · simp only [h1, if_true]
  · by_cases h2 : p = i
    · subst h2; simp
    · simp only [h1, h2, if_false, show ¬ (p - i = 0) by omega, show i + (p - i - 1) = p - 1 by omega]
theorem entRd_ins (es : List Ent) (e : Ent) (i p q : Nat) (hi : i ≤ es.length) : entRd (insE es i e) p q = if p < i then entRd es p q else if p = i then entRd [e] 0 q else entRd es (p - 1) q := by
  unfold entRd
  rw [insE_getD es e i p hi]
  split
  · rfl
  · split <;> rfl
set_option maxRecDepth 100000 in
theorem insertC (F : Frm) (ac av : Option Addr) (cs cv : Nat) (es : List Ent) (e : Ent) (rv : Nat → Nat → SV) (hrv : ∀ q, q < 5 → rv 0 q = entRd [e] 0 q) (i : Nat) (hi : i ≤ es.length) (hl : es.length ≤ 1000000) :
    ContractL F Tryz.prog 47 [.os 0 ac es.length cs, .i .i64 i, .os 1 av 1 cv] [entRow ac cs es, Own.row av 31 1 cv 5 rv]
      (fun r os => (∃ a c, r = .os 0 a (es.length + 1) c ∧ os = [.row a 31 (es.length + 1) c 5 (entRd (insE es i e)), Own.row av 31 1 cv 5 rv]) ∨ ∃ a c, r = .os 2 a (es.length + 1) c ∧ os = [entRow ac cs es, Own.row av 31 1 cv 5 rv, .row a 31 (es.length + 1) c 5 (entRd (insE es i e))]) := by
  refine contractL_of Tryz.func47 rfl (by kernel_rfl) ?_
  simp only [Tryz.ntmps47, argEnv]
  (repeat refine Sat.seq ?_)
  (refine Sat.region_k fun k hk => ?_; simp -implicitDefEqProofs only [evr, id, seval]; refine hk _ ?_; clear hk k; try show Sat _ _ _ _ _)
  (repeat refine Sat.seq ?_)
  (refine Sat.region_k fun k hk => ?_; simp -implicitDefEqProofs only [evr, id, seval])
  refine ⟨by omega, ?_⟩
  (refine hk _ ?_; clear hk k; try show Sat _ _ _ _ _)
  (repeat refine Sat.seq ?_)
  (refine Sat.region_k fun k hk => ?_; simp -implicitDefEqProofs only [evr, id, seval]; refine hk _ ?_; clear hk k; try show Sat _ _ _ _ _)
  (repeat refine Sat.seq ?_)
  (refine Sat.region_k fun k hk => ?_; simp -implicitDefEqProofs only [evr, id, seval]; refine hk _ ?_; clear hk k; try show Sat _ _ _ _ _)
  (repeat refine Sat.seq ?_)
  refine Sat.cond_b rfl (fun h => absurd h (by simp)) (fun _ => ?_)
  refine Sat.skip ?_
  simp only [thenK]
  (repeat refine Sat.seq ?_)
  (refine Sat.region_k fun k hk => ?_; simp -implicitDefEqProofs only [evr, id, seval]; refine hk _ ?_; clear hk k; try show Sat _ _ _ _ _)
  (repeat refine Sat.seq ?_)
  (refine Sat.region_k fun k hk => ?_; simp -implicitDefEqProofs only [evr, id, seval]; refine hk _ ?_; clear hk k; try show Sat _ _ _ _ _)
  (repeat refine Sat.seq ?_)
  refine Sat.cond_b rfl (fun h => ?_) (fun h => ?_)
  · simp only [beq_iff_eq, Int.natCast_inj] at h
    subst h
    (repeat refine Sat.seq ?_)
    (refine Sat.region_k fun k hk => ?_; simp -implicitDefEqProofs only [evr, id, seval])
    refine ⟨⟨by unfold maxLen; omega, by omega⟩, fun a2 cap2 => ?_⟩
    (refine hk _ ?_; clear hk k; try show Sat _ _ _ _ _)
    refine Sat.le (st' := ⟨95, [(6, .os 0 a2 (es.length + 1) cap2)], [.row a2 31 (es.length + 1) cap2 5 (entRd (insE es es.length e)), Own.row av 31 1 cv 5 rv]⟩) ?_ ?_
    · refine Sat.ret ?_
      simp only [Tryz.results47, evr, id, seval, retL, retLK, resL, lfA, lf]
      exact ⟨_, [], (List.append_nil _).symm, by simp, .inl ⟨_, _, rfl, rfl⟩⟩
    · simp -implicitDefEqProofs only [evr, id, seval, evl]
      intro p q hp hq
      rw [entRd_ins es e _ p q (Nat.le_refl _)]
      unfold rdCat
      by_cases h9 : p < es.length
      · rw [if_pos h9, if_pos h9]
      · rw [if_neg h9, if_neg h9, if_pos (by omega), show p - es.length = 0 by omega]
        exact hrv q hq
  · refine Sat.skip ?_
    simp only [thenK]
    have hi' : i < es.length := by
      simp only [beq_eq_false_iff_ne, ne_eq, Int.natCast_inj] at h
      omega
    clear h
    (repeat refine Sat.seq ?_)
    (refine Sat.region_k fun k hk => ?_; simp -implicitDefEqProofs only [evr, id, seval]; refine hk _ ?_; clear hk k; try show Sat _ _ _ _ _)
    (repeat refine Sat.seq ?_)
    refine Sat.rowAt 0 rfl (by omega) fun g hg hgc hgm => ?_
    subst hg
    refine Sat.rowAt 1 rfl (by simp) fun gv hgv hvc hvm => ?_
    subst hgv
    have e1 : IntKind.i64.wrap ((es.length : Int) + 1) = ((es.length + 1 : Nat) : Int) := by rw [w64 (by omega)]; omega
    refine Sat.cond_b rfl (fun h => ?_) (fun h => ?_)
    · rw [e1] at h
      simp only [decide_eq_true_eq] at h
      refine Sat.toWxAt (sz := 5) 0 rfl ?_
      (repeat refine Sat.seq ?_)
      (refine Sat.region_k fun k hk => ?_; simp -implicitDefEqProofs only [evr, id, seval])
      refine wx_sl (e := 31) (sz := 5) 0 i 0 i cs (show (34 : Nat) < 95 by decide) (by simp -implicitDefEqProofs only [evr, id, seval]) rfl rfl rfl (by simp -implicitDefEqProofs only [evr, id, seval]) (by decide) (by omega) ?_
      simp -implicitDefEqProofs only [evr, id, seval]
      have e2 : IntKind.i64.wrap (IntKind.i64.wrap ((es.length : Int) + 1) - i) = ((es.length + 1 - i : Nat) : Int) := by rw [e1, w64 (by omega)]; omega
      rw [e2]
      refine wx_zeros (e := 31) (kn := .i64) (sz := 5) (len := i) (m := es.length + 1 - i) (cap := cs) (show (40 : Nat) < 95 by decide) (by simp -implicitDefEqProofs only [evr, id, seval]) (by simp -implicitDefEqProofs only [evr, id, seval]) (by simp -implicitDefEqProofs only [evr, id, seval]) (by simp -implicitDefEqProofs only [evr, id, seval]) (by simp -implicitDefEqProofs only [evr, id, seval]) (by decide) rfl rfl rfl (by omega) (by omega) (by omega) (by unfold maxLen; omega) (by simp -implicitDefEqProofs only [evr, id, seval]; omega) fun g2 cap2 hc2 => ?_
      simp -implicitDefEqProofs only [evr, id, seval]
      have e3 : i + (es.length + 1 - i) = es.length + 1 := by omega
      rw [e3]
      (refine hk _ ?_; clear hk k; try show Sat _ _ _ _ _)
      (repeat refine Sat.seq ?_)
      refine Sat.toWxAt (sz := 5) 9 rfl ?_
      (refine Sat.region_k fun k hk => ?_; simp -implicitDefEqProofs only [evr, id, seval])
      refine wx_sl (e := 31) (sz := 5) i (es.length + 1) i (es.length + 1 - i) (cap2 - i) (show (43 : Nat) < 95 by decide) (by simp -implicitDefEqProofs only [evr, id, seval]) rfl rfl rfl (by simp -implicitDefEqProofs only [evr, id, seval]) (by decide) (by omega) ?_
      simp -implicitDefEqProofs only [evr, id, seval]
      refine wx_copy (e := 31) (sz := 5) (m := 1) (len2 := 1) (rd2 := rv) (n := es.length + 1) (c := cap2) (show (45 : Nat) < 95 by decide) (by simp -implicitDefEqProofs only [evr, id, seval]) (by simp -implicitDefEqProofs only [evr, id, seval]) (by decide) rfl rfl (src_row (e := 31) rfl rfl (by decide) (by decide)) (by omega) (by omega) (by omega) ?_
      simp -implicitDefEqProofs only [evr, id, seval]
      have e4 : max (es.length + 1) (i + 1) = es.length + 1 := by omega
      rw [e4]
      (refine hk _ ?_; clear hk k; try show Sat _ _ _ _ _)
      (repeat refine Sat.seq ?_)
      have e5 : IntKind.i64.wrap ((i : Int) + 1) = ((i + 1 : Nat) : Int) := by rw [w64 (by omega)]; omega
      refine Sat.at ⟨95, [(9, .wx 2 g2 5 0 (es.length + 1) cap2)], [entRow (some ⟨g, 0, none⟩) cs es, Own.row (some ⟨gv, 0, none⟩) 31 1 cv 5 rv, .row (some ⟨g2, 0, none⟩) 31 (es.length + 1) cap2 5 (rdPut (i + 1) (es.length - i) (rdPut i 1 (rdCat i (entRd es) fun _ j => [SV.i IntKind.u32 0, SV.i IntKind.i64 0, SV.i IntKind.i64 0, SV.i IntKind.i64 0, SV.i IntKind.i64 0].getD j default) rv) (rdOff i (entRd es)))]⟩ ?_ ?_
      · (refine Sat.region_tree (.keep [0, 1, 2, 3, 5, 6] [] (.alt 4 (.one 7 (.one 8 .done)) (.alt 7 (.one 4 (.one 8 .done)) .none))) (by kernel_rfl) (by kernel_rfl) (fun _ _ h => h) fun k hk => ?_; simp only [WOT, List.map_cons, List.map_nil, List.getD_cons_zero, List.getD_cons_succ]; simp -implicitDefEqProofs only [evr, id, seval, WOT])
        rw [e5]
        have e6 : max (es.length + 1) (i + 1 + (es.length - i)) = es.length + 1 := by omega
        refine ⟨?_, ?_⟩
        · refine wx_sl (e := 31) (sz := 5) (i + 1) (es.length + 1) (i + 1) (es.length - i) (cap2 - (i + 1)) (show (50 : Nat) < 95 by decide) (by simp -implicitDefEqProofs only [evr, id, seval]) rfl rfl rfl (by simp -implicitDefEqProofs only [evr, id, seval]) (by decide) (by omega) ?_
          simp -implicitDefEqProofs only [evr, id, seval]
          refine wx_sl (e := 31) (sz := 5) i es.length i (es.length - i) (cs - i) (show (53 : Nat) < 95 by decide) (by simp -implicitDefEqProofs only [evr, id, seval]) rfl rfl rfl (by simp -implicitDefEqProofs only [evr, id, seval]) (by decide) (by omega) ?_
          simp -implicitDefEqProofs only [evr, id, seval]
          refine wx_copy (e := 31) (sz := 5) (m := es.length - i) (len2 := es.length - i) (rd2 := rdOff i (entRd es)) (n := es.length + 1) (c := cap2) (show (54 : Nat) < 95 by decide) (by simp -implicitDefEqProofs only [evr, id, seval]) (by simp -implicitDefEqProofs only [evr, id, seval]) (by decide) rfl rfl (src_wx (n := es.length) rfl rfl (by decide) (by omega)) (by omega) (by omega) (by omega) ?_
          simp -implicitDefEqProofs only [evr, id, seval]
          rw [e6]
          refine hk _ ?_
          simp -implicitDefEqProofs only [evr, id, seval, evl]
        · refine wx_sl (e := 31) (sz := 5) i es.length i (es.length - i) (cs - i) (show (53 : Nat) < 95 by decide) (by simp -implicitDefEqProofs only [evr, id, seval]) rfl rfl rfl (by simp -implicitDefEqProofs only [evr, id, seval]) (by decide) (by omega) ?_
          simp -implicitDefEqProofs only [evr, id, seval]
          refine wx_sl (e := 31) (sz := 5) (i + 1) (es.length + 1) (i + 1) (es.length - i) (cap2 - (i + 1)) (show (50 : Nat) < 95 by decide) (by simp -implicitDefEqProofs only [evr, id, seval]) rfl rfl rfl (by simp -implicitDefEqProofs only [evr, id, seval]) (by decide) (by omega) ?_
          simp -implicitDefEqProofs only [evr, id, seval]
          refine wx_copy (e := 31) (sz := 5) (m := es.length - i) (len2 := es.length - i) (rd2 := rdOff i (entRd es)) (n := es.length + 1) (c := cap2) (show (54 : Nat) < 95 by decide) (by simp -implicitDefEqProofs only [evr, id, seval]) (by simp -implicitDefEqProofs only [evr, id, seval]) (by decide) rfl rfl (src_wx (n := es.length) rfl rfl (by decide) (by omega)) (by omega) (by omega) (by omega) ?_
          simp -implicitDefEqProofs only [evr, id, seval]
          rw [e6]
          refine hk _ ?_
          simp -implicitDefEqProofs only [evr, id, seval, evl]
      simp only [thenK]
      (repeat refine Sat.seq ?_)
      (refine Sat.region_k fun k hk => ?_; simp -implicitDefEqProofs only [evr, id, seval]; refine hk _ ?_; clear hk k; try show Sat _ _ _ _ _)
      refine Sat.ofWx 6 rfl ?_
      refine Sat.le (st' := ⟨95, [(6, .os 2 (some ⟨g2, 0, none⟩) (es.length + 1) cap2)], [entRow (some ⟨g, 0, none⟩) cs es, Own.row (some ⟨gv, 0, none⟩) 31 1 cv 5 rv, .row (some ⟨g2, 0, none⟩) 31 (es.length + 1) cap2 5 (entRd (insE es i e))]⟩) ?_ ?_
      · refine Sat.ret ?_
        simp only [Tryz.results47, evr, id, seval, retL, retLK, resL, lfA, lf]
        exact ⟨_, [], (List.append_nil _).symm, by simp, .inr ⟨_, _, rfl, rfl⟩⟩
      · simp -implicitDefEqProofs only [evr, id, seval, evl]
        intro p q hp hq
        rw [entRd_ins es e i p q hi]
        simp only [rdPut_eq, rdCat, rdOff]
        by_cases h9 : p < i
        · simp only [h9, show p < i + 1 by omega, if_true]
        · by_cases h8 : p = i
          · subst h8
            simpa using hrv q hq
          · simp only [h9, h8, show ¬ p < i + 1 by omega, show p < i + 1 + (es.length - i) by omega, if_true, if_false]
            congr 1
            omega
    · refine Sat.skip ?_
      simp only [thenK]
      rw [e1] at h
      simp only [decide_eq_false_iff_not] at h
      (repeat refine Sat.seq ?_)
      refine Sat.toWxAt (sz := 5) 0 rfl ?_
      (refine Sat.region_k fun k hk => ?_; simp -implicitDefEqProofs only [evr, id, seval])
      rw [e1]
      refine wx_sl (e := 31) (sz := 5) 0 (es.length + 1) 0 (es.length + 1) cs (show (60 : Nat) < 95 by decide) (by simp -implicitDefEqProofs only [evr, id, seval]) rfl rfl rfl (by simp -implicitDefEqProofs only [evr, id, seval]) (by decide) (by omega) ?_
      simp -implicitDefEqProofs only [evr, id, seval]
      (refine hk _ ?_; clear hk k; try show Sat _ _ _ _ _)
      (repeat refine Sat.seq ?_)
      have e5 : IntKind.i64.wrap ((i : Int) + 1) = ((i + 1 : Nat) : Int) := by rw [w64 (by omega)]; omega
      (refine Sat.region_k fun k hk => ?_; simp -implicitDefEqProofs only [evr, id, seval])
      rw [e5]
      refine wx_sl (e := 31) (sz := 5) (i + 1) (es.length + 1) (i + 1) (es.length - i) (cs - (i + 1)) (show (66 : Nat) < 95 by decide) (by simp -implicitDefEqProofs only [evr, id, seval]) rfl rfl rfl (by simp -implicitDefEqProofs only [evr, id, seval]) (by decide) (by omega) ?_
      simp -implicitDefEqProofs only [evr, id, seval]
      refine wcall_overlaps (tS := (Tryz.f75.params.getD 0 0)) (tR := (Tryz.f75.resultTypes.getD 0 0)) (e := 31) (fn := Tryz.f75) rfl (by kernel_rfl) (by kernel_rfl) (by kernel_rfl) (by kernel_rfl) (by kernel_rfl) (by simp -implicitDefEqProofs only [evr, id, seval]) (idv := 1) (id := 0) rfl rfl (by decide) (by omega) (by decide) ?_
      simp -implicitDefEqProofs only [evr, id, seval]
      (refine hk _ ?_; clear hk k; try show Sat _ _ _ _ _)
      refine Sat.cond_tt rfl ?_
      (repeat refine Sat.seq ?_)
      refine Sat.at ⟨95, [(0, .wx 0 g 5 0 (es.length + 1) cs), (1, .i .i64 i), (2, .os 1 (some ⟨gv, 0, none⟩) 1 cv)], [.row (some ⟨g, 0, none⟩) 31 (es.length + 1) cs 5 (rdPut (i + 1) (es.length - i) (entRd es) (rdOff i (entRd es))), Own.row (some ⟨gv, 0, none⟩) 31 1 cv 5 rv]⟩ ?_ ?_
      · (refine Sat.region_tree (.keep [0, 1, 2, 3, 5, 6] [] (.alt 4 (.one 7 (.one 8 .done)) (.alt 7 (.one 4 (.one 8 .done)) .none))) (by kernel_rfl) (by kernel_rfl) (fun _ _ h => h) fun k hk => ?_; simp only [WOT, List.map_cons, List.map_nil, List.getD_cons_zero, List.getD_cons_succ]; simp -implicitDefEqProofs only [evr, id, seval, WOT])
        rw [e5]
        have e6 : max es.length (i + 1 + (es.length - i)) = es.length + 1 := by omega
        refine ⟨?_, ?_⟩
        · refine wx_sl (e := 31) (sz := 5) (i + 1) (es.length + 1) (i + 1) (es.length - i) (cs - (i + 1)) (show (73 : Nat) < 95 by decide) (by simp -implicitDefEqProofs only [evr, id, seval]) rfl rfl rfl (by simp -implicitDefEqProofs only [evr, id, seval]) (by decide) (by omega) ?_
          simp -implicitDefEqProofs only [evr, id, seval]
          refine wx_sl (e := 31) (sz := 5) i (es.length + 1) i (es.length + 1 - i) (cs - i) (show (76 : Nat) < 95 by decide) (by simp -implicitDefEqProofs only [evr, id, seval]) rfl rfl rfl (by simp -implicitDefEqProofs only [evr, id, seval]) (by decide) (by omega) ?_
          simp -implicitDefEqProofs only [evr, id, seval]
          refine wx_copy (e := 31) (sz := 5) (m := es.length - i) (len2 := es.length + 1 - i) (rd2 := rdOff i (entRd es)) (n := es.length) (c := cs) (show (77 : Nat) < 95 by decide) (by simp -implicitDefEqProofs only [evr, id, seval]) (by simp -implicitDefEqProofs only [evr, id, seval]) (by decide) rfl rfl (src_wx (n := es.length) rfl rfl (by decide) (by omega)) (by omega) (by omega) (by omega) ?_
          simp -implicitDefEqProofs only [evr, id, seval]
          rw [e6]
          refine hk _ ?_
          simp -implicitDefEqProofs only [evr, id, seval, evl]
        · refine wx_sl (e := 31) (sz := 5) i (es.length + 1) i (es.length + 1 - i) (cs - i) (show (76 : Nat) < 95 by decide) (by simp -implicitDefEqProofs only [evr, id, seval]) rfl rfl rfl (by simp -implicitDefEqProofs only [evr, id, seval]) (by decide) (by omega) ?_
          simp -implicitDefEqProofs only [evr, id, seval]
          refine wx_sl (e := 31) (sz := 5) (i + 1) (es.length + 1) (i + 1) (es.length - i) (cs - (i + 1)) (show (73 : Nat) < 95 by decide) (by simp -implicitDefEqProofs only [evr, id, seval]) rfl rfl rfl (by simp -implicitDefEqProofs only [evr, id, seval]) (by decide) (by omega) ?_
          simp -implicitDefEqProofs only [evr, id, seval]
          refine wx_copy (e := 31) (sz := 5) (m := es.length - i) (len2 := es.length + 1 - i) (rd2 := rdOff i (entRd es)) (n := es.length) (c := cs) (show (77 : Nat) < 95 by decide) (by simp -implicitDefEqProofs only [evr, id, seval]) (by simp -implicitDefEqProofs only [evr, id, seval]) (by decide) rfl rfl (src_wx (n := es.length) rfl rfl (by decide) (by omega)) (by omega) (by omega) (by omega) ?_
          simp -implicitDefEqProofs only [evr, id, seval]
          rw [e6]
          refine hk _ ?_
          simp -implicitDefEqProofs only [evr, id, seval, evl]
      simp only [thenK]
      (repeat refine Sat.seq ?_)
      (refine Sat.region_k fun k hk => ?_; simp -implicitDefEqProofs only [evr, id, seval])
      refine wx_sl (e := 31) (sz := 5) i (es.length + 1) i (es.length + 1 - i) (cs - i) (show (80 : Nat) < 95 by decide) (by simp -implicitDefEqProofs only [evr, id, seval]) rfl rfl rfl (by simp -implicitDefEqProofs only [evr, id, seval]) (by decide) (by omega) ?_
      simp -implicitDefEqProofs only [evr, id, seval]
      refine wx_copy (e := 31) (sz := 5) (m := 1) (len2 := 1) (rd2 := rv) (n := es.length + 1) (c := cs) (show (82 : Nat) < 95 by decide) (by simp -implicitDefEqProofs only [evr, id, seval]) (by simp -implicitDefEqProofs only [evr, id, seval]) (by decide) rfl rfl (src_row (e := 31) rfl rfl (by decide) (by decide)) (by omega) (by omega) (by omega) ?_
      simp -implicitDefEqProofs only [evr, id, seval]
      have e4 : max (es.length + 1) (i + 1) = es.length + 1 := by omega
      rw [e4]
      (refine hk _ ?_; clear hk k; try show Sat _ _ _ _ _)
      (repeat refine Sat.seq ?_)
      (refine Sat.region_k fun k hk => ?_; simp -implicitDefEqProofs only [evr, id, seval]; refine hk _ ?_; clear hk k; try show Sat _ _ _ _ _)
      refine Sat.ofWx 6 rfl ?_
      refine Sat.le (st' := ⟨95, [(6, .os 0 (some ⟨g, 0, none⟩) (es.length + 1) cs)], [.row (some ⟨g, 0, none⟩) 31 (es.length + 1) cs 5 (entRd (insE es i e)), Own.row (some ⟨gv, 0, none⟩) 31 1 cv 5 rv]⟩) ?_ ?_
      · refine Sat.ret ?_
        simp only [Tryz.results47, evr, id, seval, retL, retLK, resL, lfA, lf]
        exact ⟨_, [], (List.append_nil _).symm, by simp, .inl ⟨_, _, rfl, rfl⟩⟩
      · simp -implicitDefEqProofs only [evr, id, seval, evl]
        intro p q hp hq
        rw [entRd_ins es e i p q hi]
        simp only [rdPut_eq, rdCat, rdOff]
        by_cases h9 : p < i
        · simp only [h9, show p < i + 1 by omega, if_true]
        · by_cases h8 : p = i
          · subst h8
            simpa using hrv q hq
          · simp only [h9, h8, show ¬ p < i + 1 by omega, show p < i + 1 + (es.length - i) by omega, if_true, if_false]
            congr 1
            omega
end Go.Proofs.YtepkbbmjbbnhnaaGreatDoor
