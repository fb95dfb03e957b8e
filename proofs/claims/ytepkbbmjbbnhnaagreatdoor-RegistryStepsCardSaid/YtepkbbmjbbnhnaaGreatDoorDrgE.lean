/- dice.Registry, by the evaluator. -/
import Derived.Test.YtepkbbmjbbnhnaaGreatDoorDieE
import Derived.Test.YtepkbbmjbbnhnaaGreatDoorRtdE
import Derived.Test.YtepkbbmjbbnhnaaGreatDoorHisE
set_option linter.unusedSimpArgs false
set_option linter.unusedVariables false
namespace Go.Proofs.YtepkbbmjbbnhnaaGreatDoor
open Go.Sort Eng
theorem adL_ex {es : List Ent} {e : Ent} (hr : RegOk es) (he : EntOk e) (hno : ∀ x ∈ es, ¬ overlap x e) : ∀ i, i ≤ es.length → ∃ k, AdL es e i k
  | 0, _ => ⟨0, Nat.zero_le _, Nat.le_refl _, fun j hj => absurd hj (Nat.not_lt_zero _), fun j hj => absurd hj (Nat.not_lt_zero _), fun j _ hj => absurd hj (Nat.not_lt_zero _)⟩
  | i + 1, hi => by
    obtain ⟨k, hk⟩ := adL_ex hr he hno i (by omega)
    have hn : ¬ overlap (es.getD i default) e := by rw [getD_lt (by omega)]; exact hno _ (List.getElem_mem _)
    by_cases h : cmpE (es.getD i default) e < 0
    · exact ⟨i + 1, hk.less hr he (by omega) hn h⟩
    · exact ⟨k, hk.more hr he (by omega) hn h⟩
theorem addV_place {es : List Ent} {e : Ent} (hr : RegOk es) (he : EntOk e) (hno : ∀ x ∈ es, ¬ overlap x e) : Place es e.fk (plcN es e.fk) := by
  obtain ⟨k, hk⟩ := adL_ex hr he hno es.length (Nat.le_refl _)
  obtain ⟨_, h2⟩ := hk.done
  rw [← h2]
  obtain ⟨g1, g2, g3, g4, g5⟩ := hk
  exact ⟨g2, g4, fun j hj hj2 => g5 j hj hj2⟩
theorem addV_ok {es : List Ent} {e : Ent} (h : (addV es e).2 = 0) : RegOk es ∧ EntOk e ∧ (∀ x ∈ es, ¬ overlap x e) ∧ Place es e.fk (plcN es e.fk) ∧ (addV es e).1 = insE es (plcN es e.fk) e ∧ RegOk (addV es e).1 ∧ (addV es e).1.length = es.length + 1 := by
  unfold addV at h ⊢
  split at h
  · cases h
  · rename_i h1
    split at h
    · cases h
    · rename_i h2
      split at h
      · cases h
      · rename_i h3
        rw [not_or, Decidable.not_not, Decidable.not_not] at h1
        have hno : ∀ x ∈ es, ¬ overlap x e := fun x hx ho => h2 ⟨x, hx, ho⟩
        have hp := addV_place h1.1 h1.2 hno
        rw [if_neg (fun h9 => h9.elim (fun h9 => h9 h1.1) (fun h9 => h9 h1.2)), if_neg h2, if_neg h3]
        exact ⟨h1.1, h1.2, hno, hp, rfl, insE_ok h1.1 h1.2 hp hno (by omega), insE_len hp.1⟩
theorem esOk_ins {es : List Ent} {e : Ent} {i : Nat} (h : esOk es) (he : eOk e) : esOk (insE es i e) := fun x hx => by
  rcases insE_mem.1 hx with hx | rfl
  · exact h x hx
  · exact he
theorem regOk_nil : RegOk [] := ⟨by simp, fun i hi => absurd hi (Nat.not_lt_zero _)⟩
set_option maxRecDepth 100000 in
theorem diceRegistryC (cb : Nat) (most : Nat) (hm : most ≤ 100) : Contract (Frm.codes cb) Tryz.prog 8 [ptr cb, .i .i64 most] (fun r => ∃ a c es, r = regS a c es ∧ RegOk es ∧ esOk es ∧ es.length ≤ most) := by
  have e0 : IntKind.i64.wrap ((most : Int) + 1) = (most : Int) + 1 := w64 (by omega)
  refine contract_of Tryz.func8 rfl (by kernel_rfl) ?_
  simp only [Tryz.ntmps8, argEnv, ptr]
  (repeat refine Sat.seq ?_)
  (refine Sat.region_k fun k hk => ?_; simp -implicitDefEqProofs only [evr, id, seval, Nat.sub_zero, Option.map_none, ent0, ent1, ent2, ent3, ent4, regS, entS, Ent.cs, tupL, ptr, evn])
  intro b4
  (refine hk _ ?_; clear hk k; try show Sat _ _ _ _ _)
  (repeat refine Sat.seq ?_)
  (refine Sat.region_k fun k hk => ?_; simp -implicitDefEqProofs only [evr, id, seval, Nat.sub_zero, Option.map_none, ent0, ent1, ent2, ent3, ent4, regS, entS, Ent.cs, tupL, ptr, evn])
  intro b5
  (refine hk _ ?_; clear hk k; try show Sat _ _ _ _ _)
  (repeat refine Sat.seq ?_)
  (refine Sat.region_k fun k hk => ?_; simp -implicitDefEqProofs only [evr, id, seval, Nat.sub_zero, Option.map_none, ent0, ent1, ent2, ent3, ent4, regS, entS, Ent.cs, tupL, ptr, evn])
  simp only [e0]
  refine wcall_plain (nextC cb ((most : Int) + 1) (by omega) (by omega)) rfl (by rintro _ ⟨x, rfl, _⟩; exact ok_plain rfl) ?_
  rintro r ⟨x, rfl, hx0, hx1⟩
  obtain ⟨n, rfl⟩ := Int.eq_ofNat_of_zero_le hx0
  simp -implicitDefEqProofs only [evr, id, seval, Nat.sub_zero, Option.map_none, ent0, ent1, ent2, ent3, ent4, regS, entS, Ent.cs, tupL, ptr, evn]
  (refine hk _ ?_; clear hk k; try show Sat _ _ _ _ _)
  refine Sat.simBox 1 [.sl none 0 0 5 (entRd [])] rfl ⟨sim_nil _ _ _ _, trivial⟩ ?_
  simp -implicitDefEqProofs only [evr, id, seval, Nat.sub_zero, Option.map_none, ent0, ent1, ent2, ent3, ent4, regS, entS, Ent.cs, tupL, ptr, evn]
  (repeat refine Sat.seq ?_)
  refine Sat.block ?_
  refine Sat.loop (ι := Nat × Option Addr × Nat × List Ent) (fun x => ⟨28, [(6, .i .i64 x.1), (0, .v (.pointer (some ⟨cb, 0, none⟩))), (4, .op 0 b4 0), (5, .op 1 b5 0)], [.box b4 25 [.sl none 0 0 0 fun _ _ => .v undef], .box b5 25 [.sl x.2.1 x.2.2.2.length x.2.2.1 5 (entRd x.2.2.2)]]⟩)
    (fun x => x.1 + x.2.2.2.length ≤ most ∧ RegOk x.2.2.2 ∧ esOk x.2.2.2) (fun x => x.1) (n, none, 0, []) ⟨by simp only [List.length_nil]; omega, regOk_nil, fun e he => by cases he⟩ (by simp -implicitDefEqProofs only [evr, id, seval, Nat.sub_zero, Option.map_none, ent0, ent1, ent2, ent3, ent4, regS, entS, Ent.cs, tupL, ptr, evl, evn]; done) ?_
  rintro ⟨i, a, c, es⟩ ⟨hi, hr, ho⟩
  simp only at hi hr ho ⊢
  (repeat refine Sat.seq ?_)
  (refine Sat.region_k fun k hk => ?_; simp -implicitDefEqProofs only [evr, id, seval, Nat.sub_zero, Option.map_none, ent0, ent1, ent2, ent3, ent4, regS, entS, Ent.cs, tupL, ptr, evn]; refine hk _ ?_; clear hk k; try show Sat _ _ _ _ _)
  (repeat refine Sat.seq ?_)
  refine Sat.cond_b rfl (fun h2 => ?_) (fun h2 => ?_)
  · simp only [decide_eq_true_eq] at h2
    have hlt : 0 < i := by omega
    have e1 : IntKind.i64.wrap ((i : Int) - 1) = ((i - 1 : Nat) : Int) := by rw [w64 (by omega)]; omega
    refine Sat.skip ?_
    simp only [thenK]
    (repeat refine Sat.seq ?_)
    refine Sat.block ?_
    (repeat refine Sat.seq ?_)
    refine Sat.join2 (ι := Nat × Option Addr × Nat × Ent) (fun z => ⟨28, [(8, .i .i64 (addV es z.2.2.2).2), (7, .op 2 z.1 0), (6, .i .i64 i), (0, .v (.pointer (some ⟨cb, 0, none⟩))), (4, .op 0 b4 0), (5, .op 1 b5 0)], [.box b4 25 [.sl none 0 0 0 fun _ _ => .v undef], .box b5 25 [.sl a es.length c 5 (entRd es)], .box z.1 25 [.sl z.2.1 (addV es z.2.2.2).1.length z.2.2.1 5 (entRd (addV es z.2.2.2).1)]]⟩) (fun z => EntOk z.2.2.2 ∧ eOk z.2.2.2) (fun hrest => ?_) ?_
    · (refine Sat.region_tree (.keep [1, 0] [2, 7] (.alt 2 (.alt 3 (.free 4 (.free 5 (.free 6 (.one 7 (.one 8 (.one 9 .done)))))) (.alt 7 (.one 3 (.one 4 (.free 5 (.free 6 (.one 8 (.one 9 .done)))))) .none)) (.alt 7 (.one 2 (.one 3 (.one 4 (.free 5 (.free 6 (.one 8 (.one 9 .done))))))) .none))) (by kernel_rfl) (by kernel_rfl) (fun _ _ h => h) fun k hk => ?_; simp only [WOT, List.map_cons, List.map_nil, List.getD_cons_zero, List.getD_cons_succ]; simp -implicitDefEqProofs only [evr, id, seval, Nat.sub_zero, Option.map_none, ent0, ent1, ent2, ent3, ent4, regS, entS, Ent.cs, tupL, ptr, WOT, evn])
      repeat' (first
        | (with_reducible refine And.intro ?_ ?_)
        | omega
        | (with_reducible intro b7)
        | (with_reducible rfl)
        | (refine wcall_plain (diceEntryC cb) ?_ (by rintro _ ⟨e, rfl, _⟩; exact entS_ok e) ?_
           focus
            simp -implicitDefEqProofs only [evr, id, seval, Nat.sub_zero, Option.map_none, ent0, ent1, ent2, ent3, ent4, regS, entS, Ent.cs, tupL, ptr, evn]
            done
           rintro r ⟨e, rfl, heo, hee⟩
           simp -implicitDefEqProofs only [evr, id, seval, Nat.sub_zero, Option.map_none, ent0, ent1, ent2, ent3, ent4, regS, entS, Ent.cs, tupL, ptr, evn])
        | (refine wcall_slice (refAddC (Frm.codes cb) a c es ho (by omega) e hee) (by simp -implicitDefEqProofs only [evr, id, seval, Nat.sub_zero, Option.map_none, ent0, ent1, ent2, ent3, ent4, regS, entS, Ent.cs, tupL, ptr, evn]; rfl) (by simp -implicitDefEqProofs only [evr, id, seval, Nat.sub_zero, Option.map_none, ent0, ent1, ent2, ent3, ent4, regS, entS, Ent.cs, tupL, ptr, evn]) ?_
           rintro r ⟨a1, c1, rfl⟩
           simp -implicitDefEqProofs only [evr, id, seval, Nat.sub_zero, Option.map_none, ent0, ent1, ent2, ent3, ent4, regS, entS, Ent.cs, tupL, ptr, evn])
        | (refine hk _ ?_
           simp only [thenK]
           refine (hrest (b7, a1, c1, e) ⟨heo, hee⟩).le ?_
           simp -implicitDefEqProofs only [evr, id, seval, Nat.sub_zero, Option.map_none, ent0, ent1, ent2, ent3, ent4, regS, entS, Ent.cs, tupL, ptr, evl, evn]
           done))
    rintro ⟨b7, a1, c1, e⟩ ⟨heo, hee⟩
    simp only at heo hee ⊢
    have hok := @addV_ok es e
    generalize hes : (addV es e).1 = es1 at *
    generalize hcd : (addV es e).2 = cd at *
    (repeat refine Sat.seq ?_)
    (refine Sat.region_k fun k hk => ?_; simp -implicitDefEqProofs only [evr, id, seval, Nat.sub_zero, Option.map_none, ent0, ent1, ent2, ent3, ent4, regS, entS, Ent.cs, tupL, ptr, evn]; refine hk _ ?_; clear hk k; try show Sat _ _ _ _ _)
    (repeat refine Sat.seq ?_)
    refine Sat.cond_b rfl (fun h3 => ?_) (fun h3 => ?_)
    · simp only [beq_iff_eq] at h3
      obtain ⟨_, _, _, _, g5, g6, g7⟩ := hok h3
      refine Sat.region_k fun k hk => ?_
      simp -implicitDefEqProofs only [evr, id, seval, Nat.sub_zero, Option.map_none, ent0, ent1, ent2, ent3, ent4, regS, entS, Ent.cs, tupL, ptr, evn]
      refine hk _ ?_
      simp only [thenK, blockK]
      refine Sat.region_k fun k hk => ?_
      simp -implicitDefEqProofs only [evr, id, seval, Nat.sub_zero, Option.map_none, ent0, ent1, ent2, ent3, ent4, regS, entS, Ent.cs, tupL, ptr, e1, evn]
      refine hk _ ?_
      simp only [thenK, blockK]
      refine ⟨(i - 1, a1, c1, es1), ⟨by simp only; omega, g6, by rw [g5]; exact esOk_ins ho hee⟩, by simp only; omega, ?_⟩
      simp -implicitDefEqProofs only [evr, id, seval, Nat.sub_zero, Option.map_none, ent0, ent1, ent2, ent3, ent4, regS, entS, Ent.cs, tupL, ptr, evl, evn]
    · refine Sat.skip ?_
      simp only [thenK, blockK]
      refine Sat.region_k fun k hk => ?_
      simp -implicitDefEqProofs only [evr, id, seval, Nat.sub_zero, Option.map_none, ent0, ent1, ent2, ent3, ent4, regS, entS, Ent.cs, tupL, ptr, e1, evn]
      refine hk _ ?_
      simp only [thenK, blockK]
      refine ⟨(i - 1, a, c, es), ⟨by simp only; omega, hr, ho⟩, by simp only; omega, ?_⟩
      simp -implicitDefEqProofs only [evr, id, seval, Nat.sub_zero, Option.map_none, ent0, ent1, ent2, ent3, ent4, regS, entS, Ent.cs, tupL, ptr, evl, evn]
  · refine Sat.exit ?_
    simp only [thenK, blockK, reduceIte]
    (repeat refine Sat.seq ?_)
    (refine Sat.region_k fun k hk => ?_; simp -implicitDefEqProofs only [evr, id, seval, Nat.sub_zero, Option.map_none, ent0, ent1, ent2, ent3, ent4, regS, entS, Ent.cs, tupL, ptr, evn]; refine hk _ ?_; clear hk k; try show Sat _ _ _ _ _)
    refine Sat.ret ?_
    simp only [Tryz.results8, evr, id, seval, List.append_nil, Int.toNat_zero, Nat.sub_self, Nat.sub_zero, Option.map_none, ent0, ent1, ent2, ent3, ent4, regS, entS, Ent.cs, tupL, ptr]
    exact ⟨a, c, es, rfl, hr, ho, by omega⟩
end Go.Proofs.YtepkbbmjbbnhnaaGreatDoor
