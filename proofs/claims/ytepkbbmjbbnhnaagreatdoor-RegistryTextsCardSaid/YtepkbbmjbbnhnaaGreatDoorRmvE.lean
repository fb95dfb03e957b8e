/- slices.Delete of one entry. -/
import Derived.Test.YtepkbbmjbbnhnaaGreatDoorInsE
set_option linter.unusedSimpArgs false
set_option linter.unusedVariables false
namespace Go.Proofs.YtepkbbmjbbnhnaaGreatDoor
open Eng
def delE (es : List Ent) (i : Nat) : List Ent := es.take i ++ es.drop (i + 1)
theorem delE_len {es : List Ent} {i : Nat} (h : i < es.length) : (delE es i).length = es.length - 1 := by
  unfold delE
  rw [List.length_append, List.length_take, List.length_drop]; omega
theorem entRd_del (es : List Ent) (i p q : Nat) (hi : i < es.length) : entRd (delE es i) p q = if p < i then entRd es p q else entRd es (p + 1) q := by
  have : (delE es i).getD p default = if p < i then es.getD p default else es.getD (p + 1) default := by
    unfold delE
    simp only [List.getD, List.getElem?_append, List.length_take, Nat.min_eq_left (Nat.le_of_lt hi), List.getElem?_take, List.getElem?_drop]
    by_cases h1 : p < i
    · simp only [h1, if_true]
    · simp only [h1, if_false, show i + 1 + (p - i) = p + 1 by omega]
  unfold entRd
  rw [this]
  split <;> rfl
set_option maxRecDepth 100000 in
theorem deleteC (F : Frm) (ac : Option Addr) (cs : Nat) (es : List Ent) (i : Nat) (hi : i < es.length) (hl : es.length ≤ 1000000) :
    ContractL F Tryz.prog 51 [.os 0 ac es.length cs, .i .i64 i, .i .i64 (i + 1 : Nat)] [entRow ac cs es]
      (fun r os => ∃ a c, r = .os 0 a (es.length - 1) c ∧ os = [.row a 31 (es.length - 1) c 5 (entRd (delE es i))]) := by
  refine contractL_of Tryz.func51 rfl (by kernel_rfl) ?_
  simp only [Tryz.ntmps51, argEnv]
  refine Sat.rowAt 0 rfl (by omega) fun g hg hgc hgm => ?_
  subst hg
  refine Sat.toWxAt (sz := 5) 0 rfl ?_
  (repeat refine Sat.seq ?_)
  (refine Sat.region_k fun k hk => ?_; simp -implicitDefEqProofs only [evr, id, seval]; refine hk _ ?_; clear hk k; try show Sat _ _ _ _ _)
  (repeat refine Sat.seq ?_)
  (refine Sat.region_k fun k hk => ?_; simp -implicitDefEqProofs only [evr, id, seval])
  refine wx_sl3 (e := 31) (sz := 5) (cap := cs) (len := es.length) i (i + 1) es.length (show (13 : Nat) < 33 by decide) (by simp -implicitDefEqProofs only [evr, id, seval]) rfl rfl rfl rfl (by simp -implicitDefEqProofs only [evr, id, seval]) (by decide) (by omega) ?_
  simp -implicitDefEqProofs only [evr, id, seval]
  (refine hk _ ?_; clear hk k; try show Sat _ _ _ _ _)
  (repeat refine Sat.seq ?_)
  (refine Sat.region_k fun k hk => ?_; simp -implicitDefEqProofs only [evr, id, seval]; refine hk _ ?_; clear hk k; try show Sat _ _ _ _ _)
  (repeat refine Sat.seq ?_)
  refine Sat.cond_b rfl (fun h => absurd h (by simp; omega)) (fun _ => ?_)
  refine Sat.skip ?_
  simp only [thenK]
  (repeat refine Sat.seq ?_)
  (refine Sat.region_k fun k hk => ?_; simp -implicitDefEqProofs only [evr, id, seval]; refine hk _ ?_; clear hk k; try show Sat _ _ _ _ _)
  (repeat refine Sat.seq ?_)
  refine Sat.at ⟨33, [(0, .wx 0 g 5 0 (es.length - 1) cs), (7, .i .i64 es.length)], [.row (some ⟨g, 0, none⟩) 31 (es.length - 1) cs 5 (entRd (delE es i))]⟩ ?_ ?_
  · (refine Sat.region_tree (.keep [0, 1, 3, 4] [] (.alt 2 (.one 5 (.one 6 (.one 7 .done))) (.alt 5 (.one 2 (.one 6 (.one 7 .done))) .none))) (by kernel_rfl) (by kernel_rfl) (fun _ _ h => h) fun k hk => ?_; simp only [WOT, List.map_cons, List.map_nil, List.getD_cons_zero, List.getD_cons_succ]; simp -implicitDefEqProofs only [evr, id, seval, WOT])
    have e3 : i + (es.length - (i + 1)) = es.length - 1 := by omega
    have hrd : ∀ p q, p < es.length - 1 → q < 5 → rdCat i (entRd es) (rdOff (i + 1) (entRd es)) p q = entRd (delE es i) p q := fun p q hp hq => by
      rw [entRd_del es i p q hi]
      unfold rdCat rdOff
      split
      · rfl
      · congr 1; omega
    rcases Nat.lt_or_ge (i + 1) cs with hc | hc
    · refine ⟨?_, ?_⟩
      · refine wx_sl (e := 31) (sz := 5) 0 i 0 i cs (show (22 : Nat) < 33 by decide) (by simp -implicitDefEqProofs only [evr, id, seval]) rfl rfl rfl (by simp -implicitDefEqProofs only [evr, id, seval]) (by decide) (by omega) ?_
        simp -implicitDefEqProofs only [evr, id, seval]
        refine wx_sl (e := 31) (sz := 5) (i + 1) es.length (i + 1) (es.length - (i + 1)) (cs - (i + 1)) (show (25 : Nat) < 33 by decide) (by simp -implicitDefEqProofs only [evr, id, seval]) rfl rfl rfl (by simp -implicitDefEqProofs only [evr, id, seval]) (by decide) (by omega) ?_
        simp -implicitDefEqProofs only [evr, id, seval]
        refine wx_append (e := 31) (sz := 5) (len := i) (m := es.length - (i + 1)) (cap := cs) (n := es.length) (rd2 := rdOff (i + 1) (entRd es)) (show (26 : Nat) < 33 by decide) (by simp -implicitDefEqProofs only [evr, id, seval]) (by simp -implicitDefEqProofs only [evr, id, seval]) (by simp -implicitDefEqProofs only [evr, id, seval]) (by decide) rfl rfl rfl (src_wx (n := es.length) rfl rfl (by decide) (by omega)) (by omega) (by omega) ?_
        simp -implicitDefEqProofs only [evr, id, seval]
        rw [e3]
        refine hk _ ?_
        simp -implicitDefEqProofs only [evr, id, seval, evl]
        exact hrd
      · refine wx_sl (e := 31) (sz := 5) (i + 1) es.length (i + 1) (es.length - (i + 1)) (cs - (i + 1)) (show (25 : Nat) < 33 by decide) (by simp -implicitDefEqProofs only [evr, id, seval]) rfl rfl rfl (by simp -implicitDefEqProofs only [evr, id, seval]) (by decide) (by omega) ?_
        simp -implicitDefEqProofs only [evr, id, seval]
        refine wx_sl (e := 31) (sz := 5) 0 i 0 i cs (show (22 : Nat) < 33 by decide) (by simp -implicitDefEqProofs only [evr, id, seval]) rfl rfl rfl (by simp -implicitDefEqProofs only [evr, id, seval]) (by decide) (by omega) ?_
        simp -implicitDefEqProofs only [evr, id, seval]
        refine wx_append (e := 31) (sz := 5) (len := i) (m := es.length - (i + 1)) (cap := cs) (n := es.length) (rd2 := rdOff (i + 1) (entRd es)) (show (26 : Nat) < 33 by decide) (by simp -implicitDefEqProofs only [evr, id, seval]) (by simp -implicitDefEqProofs only [evr, id, seval]) (by simp -implicitDefEqProofs only [evr, id, seval]) (by decide) rfl rfl rfl (src_wx (n := es.length) rfl rfl (by decide) (by omega)) (by omega) (by omega) ?_
        simp -implicitDefEqProofs only [evr, id, seval]
        rw [e3]
        refine hk _ ?_
        simp -implicitDefEqProofs only [evr, id, seval, evl]
        exact hrd
    · refine ⟨?_, ?_⟩
      · refine wx_sl (e := 31) (sz := 5) 0 i 0 i cs (show (22 : Nat) < 33 by decide) (by simp -implicitDefEqProofs only [evr, id, seval]) rfl rfl rfl (by simp -implicitDefEqProofs only [evr, id, seval]) (by decide) (by omega) ?_
        simp -implicitDefEqProofs only [evr, id, seval]
        refine wx_slice_end (e := 31) (sz := 5) (l := ((i + 1 : Nat) : Int)) (show (25 : Nat) < 33 by decide) (by simp -implicitDefEqProofs only [evr, id, seval]) rfl rfl (by simp -implicitDefEqProofs only [evr, id, seval]) (by decide) (by omega) (by omega) ?_
        simp -implicitDefEqProofs only [evr, id, seval]
        refine wx_append_none (e := 31) (sz := 5) (len := i) (cap := cs) (n := es.length) (show (26 : Nat) < 33 by decide) (by simp -implicitDefEqProofs only [evr, id, seval]) (by simp -implicitDefEqProofs only [evr, id, seval]) (by decide) rfl rfl rfl rfl (by omega) ?_
        simp -implicitDefEqProofs only [evr, id, seval]
        obtain rfl : i = es.length - 1 := by omega
        refine hk _ ?_
        simp -implicitDefEqProofs only [evr, id, seval, evl]
        intro p q hp hq
        rw [entRd_del es _ p q hi, if_pos hp]
      · refine wx_slice_end (e := 31) (sz := 5) (l := ((i + 1 : Nat) : Int)) (show (25 : Nat) < 33 by decide) (by simp -implicitDefEqProofs only [evr, id, seval]) rfl rfl (by simp -implicitDefEqProofs only [evr, id, seval]) (by decide) (by omega) (by omega) ?_
        simp -implicitDefEqProofs only [evr, id, seval]
        refine wx_sl (e := 31) (sz := 5) 0 i 0 i cs (show (22 : Nat) < 33 by decide) (by simp -implicitDefEqProofs only [evr, id, seval]) rfl rfl rfl (by simp -implicitDefEqProofs only [evr, id, seval]) (by decide) (by omega) ?_
        simp -implicitDefEqProofs only [evr, id, seval]
        refine wx_append_none (e := 31) (sz := 5) (len := i) (cap := cs) (n := es.length) (show (26 : Nat) < 33 by decide) (by simp -implicitDefEqProofs only [evr, id, seval]) (by simp -implicitDefEqProofs only [evr, id, seval]) (by decide) rfl rfl rfl rfl (by omega) ?_
        simp -implicitDefEqProofs only [evr, id, seval]
        obtain rfl : i = es.length - 1 := by omega
        refine hk _ ?_
        simp -implicitDefEqProofs only [evr, id, seval, evl]
        intro p q hp hq
        rw [entRd_del es _ p q hi, if_pos hp]
  simp only [thenK]
  (repeat refine Sat.seq ?_)
  (refine Sat.region_k fun k hk => ?_; simp -implicitDefEqProofs only [evr, id, seval])
  refine wx_sl (e := 31) (sz := 5) (es.length - 1) es.length (es.length - 1) 1 (cs - (es.length - 1)) (show (31 : Nat) < 33 by decide) (by simp -implicitDefEqProofs only [evr, id, seval]) rfl rfl rfl (by simp -implicitDefEqProofs only [evr, id, seval]) (by decide) (by omega) ?_
  simp -implicitDefEqProofs only [evr, id, seval]
  refine wx_clear (e := 31) (sz := 5) (n := es.length - 1) (c := cs) trivial (by simp -implicitDefEqProofs only [evr, id, seval]) (by simp -implicitDefEqProofs only [evr, id, seval]) (by simp -implicitDefEqProofs only [evr, id, seval]) (by simp -implicitDefEqProofs only [evr, id, seval]) (by decide) rfl rfl rfl (by omega) (by decide) ?_
  simp -implicitDefEqProofs only [evr, id, seval]
  (refine hk _ ?_; clear hk k; try show Sat _ _ _ _ _)
  (repeat refine Sat.seq ?_)
  (refine Sat.region_k fun k hk => ?_; simp -implicitDefEqProofs only [evr, id, seval]; refine hk _ ?_; clear hk k; try show Sat _ _ _ _ _)
  refine Sat.ofWx 6 rfl ?_
  refine Sat.ret ?_
  simp only [Tryz.results51, evr, id, seval, retL, retLK, resL, lfA, lf]
  exact ⟨_, [], (List.append_nil _).symm, by simp, _, _, rfl, rfl⟩
end Go.Proofs.YtepkbbmjbbnhnaaGreatDoor
