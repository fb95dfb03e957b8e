/- The reference of law 32: Add, by the evaluator. -/
import Derived.Test.YtepkbbmjbbnhnaaGreatDoorRtcE
set_option linter.unusedSimpArgs false
set_option linter.unusedVariables false
namespace Go.Proofs.YtepkbbmjbbnhnaaGreatDoor
open Go.Sort Eng
theorem keys_fk {x e : Ent} (hn : ¬ (x.pk = e.pk ∧ x.from_ = e.from_)) : cmpE x e = cmpL x.fk e.fk := by
  rw [cmpE_or, fk_cmp]
  rw [orL_cons]
  by_cases h : x.pk = e.pk
  · rw [if_neg (by rw [pk_zero.2 h]; simp), if_pos h, orL_cons, if_pos]
    intro h9
    exact hn ⟨h, by unfold ordI at h9; split at h9; · omega
                    · split at h9 <;> omega⟩
  · rw [if_neg h, if_pos (fun h9 => h (pk_zero.1 h9))]
def AdL (es : List Ent) (e : Ent) (i k : Nat) : Prop := i ≤ es.length ∧ k ≤ i ∧ (∀ j, j < i → ¬ overlap (es.getD j default) e) ∧ (∀ j, j < k → cmpL (es.getD j default).fk e.fk < 0) ∧ ∀ j, k ≤ j → j < i → 0 ≤ cmpL (es.getD j default).fk e.fk
theorem AdL.cmp {es : List Ent} {e : Ent} {i : Nat} (hr : RegOk es) (he : EntOk e) (hi : i < es.length) (hno : ¬ overlap (es.getD i default) e) : cmpE (es.getD i default) e = cmpL (es.getD i default).fk e.fk := keys_fk fun ⟨h1, h2⟩ => hno ⟨h1, by have := he.2.2.2.2.1; omega, by have := (hr.2 i hi).1.2.2.2.2.1; omega⟩
theorem AdL.less {es : List Ent} {e : Ent} {i k : Nat} (h : AdL es e i k) (hr : RegOk es) (he : EntOk e) (hi : i < es.length) (hno : ¬ overlap (es.getD i default) e) (hc : cmpE (es.getD i default) e < 0) : AdL es e (i + 1) (i + 1) := by
  obtain ⟨h1, h2, h3, h4, h5⟩ := h
  rw [AdL.cmp hr he hi hno] at hc
  refine ⟨hi, Nat.le_refl _, fun j hj => ?_, fun j hj => ?_, fun j hj hj2 => by omega⟩
  · rcases (show j = i ∨ j < i by omega) with rfl | h6
    · exact hno
    · exact h3 j h6
  · rcases (show j = i ∨ j < i by omega) with rfl | h6
    · exact hc
    · have g := RegOk.lt hr (i - j - 1) j (by omega)
      rw [show j + (i - j - 1) + 1 = i by omega] at g
      exact cmpL_trans (es.getD j default).fk (es.getD i default).fk e.fk rfl rfl (nb_fk g (hr.2 j (by omega)).1.2.2.2.2.1) hc
theorem AdL.more {es : List Ent} {e : Ent} {i k : Nat} (h : AdL es e i k) (hr : RegOk es) (he : EntOk e) (hi : i < es.length) (hno : ¬ overlap (es.getD i default) e) (hc : ¬ cmpE (es.getD i default) e < 0) : AdL es e (i + 1) k := by
  obtain ⟨h1, h2, h3, h4, h5⟩ := h
  rw [AdL.cmp hr he hi hno] at hc
  refine ⟨hi, by omega, fun j hj => ?_, h4, fun j hj hj2 => ?_⟩
  · rcases (show j = i ∨ j < i by omega) with rfl | h6
    · exact hno
    · exact h3 j h6
  · rcases (show j = i ∨ j < i by omega) with rfl | h6
    · omega
    · exact h5 j hj h6
theorem AdL.done {es : List Ent} {e : Ent} {k : Nat} (h : AdL es e es.length k) : (¬ ∃ x ∈ es, overlap x e) ∧ k = plcN es e.fk := by
  obtain ⟨h1, h2, h3, h4, h5⟩ := h
  refine ⟨?_, Place.eq ⟨h2, h4, fun j hj hj2 => h5 j hj hj2⟩⟩
  rintro ⟨x, hx, ho⟩
  obtain ⟨j, hj, rfl⟩ := List.getElem_of_mem hx
  exact h3 j hj (by rw [getD_lt hj]; exact ho)
theorem ins_rd (es : List Ent) (k : Nat) (e : Ent) (hk : k ≤ es.length) : rdEq (es.length + 1) 5 (rdCat (k + 1) (rdCat k (fun i j => entRd es i j) (rdL (Ent.cs e) 5)) fun i j => entRd es (k + i) j) (entRd (insE es k e)) := by
  intro i j hi hj
  unfold rdCat entRd insE rdL
  by_cases h1 : i < k
  · rw [if_pos (by omega), if_pos h1]
    have e2 : (List.take k es ++ e :: List.drop k es).getD i default = es.getD i default := by
      simp only [List.getD]
      rw [List.getElem?_append_left (by rw [List.length_take]; omega), List.getElem?_take, if_pos h1]
    rw [e2]
  · by_cases h2 : i = k
    · subst h2
      rw [if_pos (by omega), if_neg (by omega)]
      have e1 : (List.take i es ++ e :: List.drop i es).getD i default = e := by simp [List.getD, List.getElem?_append, hk]
      rw [e1]
      simp
    · rw [if_neg (by omega)]
      have e1 : i - k = (i - (k + 1)) + 1 := by omega
      have e2 : (List.take k es ++ e :: List.drop k es).getD i default = es.getD (k + (i - (k + 1))) default := by
        simp only [List.getD]
        rw [List.getElem?_append_right (by rw [List.length_take]; omega), List.length_take, Nat.min_eq_left hk, e1, List.getElem?_cons_succ, List.getElem?_drop]
      rw [e2]
set_option maxRecDepth 100000 in
theorem refAddC (F : Frm) (ad : Option Addr) (cap : Nat) (es : List Ent) (h : esOk es) (hn : es.length ≤ 1000000) (e : Ent) (he : eOk e) :
    Contract F Tryz.prog 24 [regS ad cap es, entS e] (fun r => ∃ a c, r = tupL [regS a c (addV es e).1, .i .i64 (addV es e).2]) := by
  have fin : ∀ (k : Int) (rd : Nat → Nat → SV), addV es e = ([], k) → ∀ r, r = tupL [.agg 1 fun j => [SV.sl none 0 0 0 rd].getD j default, .i .i64 k] → ∃ r', sim r r' ∧ ∃ a c, r' = tupL [regS a c (addV es e).1, .i .i64 (addV es e).2] := by
    rintro k rd h1 _ rfl
    refine ⟨_, sim_tup2 (sim_agg1 (f := fun j => [SV.sl none 0 0 0 rd].getD j default) (g := fun j => [SV.sl none 0 0 5 (entRd [])].getD j default) (by show sim (SV.sl none 0 0 0 rd) (SV.sl none 0 0 5 (entRd [])); exact sim_nil 0 5 rd (entRd []))) (sim_refl _), none, 0, ?_⟩
    rw [h1]
    rfl
  refine Contract.same (post := fun r => (∃ k rd, addV es e = ([], k) ∧ r = tupL [.agg 1 fun j => [SV.sl none 0 0 0 rd].getD j default, .i .i64 k]) ∨ ∃ q a c rd, addV es e = (insE es q e, 0) ∧ q ≤ es.length ∧ rdEq (es.length + 1) 5 rd (entRd (insE es q e)) ∧ r = tupL [.agg 1 fun j => [SV.sl a (es.length + 1) c 5 rd].getD j default, .i .i64 0]) ?_ (by
    rintro r (⟨k, rd, h1, h2⟩ | ⟨q, a, c, rd, h1, h2, h3, rfl⟩)
    · exact fin k rd h1 r h2
    · refine ⟨_, sim_tup2 (sim_agg1 (f := fun j => [SV.sl a (es.length + 1) c 5 rd].getD j default) (g := fun j => [SV.sl a (es.length + 1) c 5 (entRd (insE es q e))].getD j default) (by show sim (SV.sl a (es.length + 1) c 5 rd) (SV.sl a (es.length + 1) c 5 (entRd (insE es q e))); exact sim_sl fun i j hi hj => h3 i j hi hj)) (sim_refl _), a, c, ?_⟩
      rw [h1]
      show _ = tupL [regS a c (insE es q e), .i .i64 0]
      unfold regS
      rw [insE_len h2])
  refine contract_of Tryz.func24 rfl (by kernel_rfl) ?_
  simp only [Tryz.ntmps24, argEnv, regS, entS, Ent.cs]
  (repeat refine Sat.seq ?_)
  (refine Sat.region_k fun k hk => ?_; simp -implicitDefEqProofs only [evr, id, seval, Nat.sub_zero, Option.map_none, ent0, ent1, ent2, ent3, ent4, evn])
  intro b2 b3 b4
  (refine hk _ ?_; clear hk k; try show Sat _ _ _ _ _)
  (repeat refine Sat.seq ?_)
  refine Sat.region_at ⟨76, [(16, .b (decide (¬ RegOk es ∨ ¬ EntOk e))), (2, .op 0 b2 0), (3, .op 1 b3 0), (4, .op 2 b4 0), (5, .i .i64 0)], [.box b2 25 [.sl ad es.length cap 5 (entRd es)], .box b3 31 (Ent.cs e), .box b4 25 [.sl none 0 0 0 fun _ _ => .v undef]]⟩ (fun k hk => ?_) ?_
  · simp -implicitDefEqProofs only [evr, id, seval, Nat.sub_zero, Option.map_none, ent0, ent1, ent2, ent3, ent4, evn]
    refine wcall_plain (refRegValidC F ad cap es h) (by simp -implicitDefEqProofs only [evr, id, seval, Nat.sub_zero, Option.map_none, ent0, ent1, ent2, ent3, ent4, evn]; rfl) (by rintro _ rfl; exact ok_plain rfl) ?_
    rintro r rfl
    simp -implicitDefEqProofs only [evr, id, seval, Nat.sub_zero, Option.map_none, ent0, ent1, ent2, ent3, ent4, evn]
    refine ⟨fun h1 => ?_, fun h1 => ?_⟩
    · refine hk _ ?_
      have e9 : decide (¬ RegOk es ∨ ¬ EntOk e) = true := decide_eq_true (.inl (by simpa using h1))
      simp only [e9, Ent.cs]
      simp -implicitDefEqProofs only [evr, id, seval, Nat.sub_zero, Option.map_none, ent0, ent1, ent2, ent3, ent4, evl, evn]
      done
    · refine wcall_plain (refEntryOkC F e he) (by simp -implicitDefEqProofs only [evr, id, seval, Nat.sub_zero, Option.map_none, ent0, ent1, ent2, ent3, ent4, evn]; rfl) (by rintro _ rfl; exact ok_plain rfl) ?_
      rintro r rfl
      simp -implicitDefEqProofs only [evr, id, seval, Nat.sub_zero, Option.map_none, ent0, ent1, ent2, ent3, ent4, evn]
      refine hk _ ?_
      have e9 : decide (¬ RegOk es ∨ ¬ EntOk e) = !decide (EntOk e) := by
        simp only [Bool.not_eq_false', decide_eq_true_eq] at h1
        apply Bool.eq_iff_iff.2
        simp [h1]
      simp only [e9, Ent.cs]
      simp -implicitDefEqProofs only [evr, id, seval, Nat.sub_zero, Option.map_none, ent0, ent1, ent2, ent3, ent4, evl, evn]
      done
  simp only [Ent.cs]
  refine Sat.cond_b rfl (fun h1 => ?_) (fun h1 => ?_)
  · simp only [decide_eq_true_eq] at h1
    (repeat refine Sat.seq ?_)
    (refine Sat.region_k fun k hk => ?_; simp -implicitDefEqProofs only [evr, id, seval, Nat.sub_zero, Option.map_none, ent0, ent1, ent2, ent3, ent4, evn]; refine hk _ ?_; clear hk k; try show Sat _ _ _ _ _)
    refine Sat.ret ?_
    simp only [Tryz.results24, evr, id, seval, List.append_nil, Int.toNat_zero, Nat.sub_self, Nat.sub_zero, Option.map_none, ent0, ent1, ent2, ent3, ent4]
    refine .inl ⟨1, _, ?_, rfl⟩
    unfold addV
    rw [if_pos h1]
  · simp only [decide_eq_false_iff_not, not_or, Decidable.not_not] at h1
    obtain ⟨hr, heo⟩ := h1
    refine Sat.skip ?_
    simp only [thenK]
    (repeat refine Sat.seq ?_)
    (refine Sat.region_k fun k hk => ?_; simp -implicitDefEqProofs only [evr, id, seval, Nat.sub_zero, Option.map_none, ent0, ent1, ent2, ent3, ent4, evn]; refine hk _ ?_; clear hk k; try show Sat _ _ _ _ _)
    (repeat refine Sat.seq ?_)
    (refine Sat.region_k fun k hk => ?_; simp -implicitDefEqProofs only [evr, id, seval, Nat.sub_zero, Option.map_none, ent0, ent1, ent2, ent3, ent4, evn]; refine hk _ ?_; clear hk k; try show Sat _ _ _ _ _)
    (repeat refine Sat.seq ?_)
    refine Sat.block ?_
    refine Sat.loop (ι := Nat × Nat) (fun x => ⟨76, [(7, .i .i64 x.1), (6, .i .i64 x.2), (2, .op 0 b2 0), (3, .op 1 b3 0), (4, .op 2 b4 0), (5, .i .i64 0)], [.box b2 25 [.sl ad es.length cap 5 (entRd es)], .box b3 31 [.i .u32 e.addr, .i .i64 e.len, .i .i64 e.prov, .i .i64 e.from_, .i .i64 e.to_], .box b4 25 [.sl none 0 0 0 fun _ _ => .v undef]]⟩)
      (fun x => AdL es e x.1 x.2) (fun x => es.length - x.1) (0, 0) ⟨Nat.zero_le _, Nat.le_refl _, fun j hj => absurd hj (Nat.not_lt_zero _), fun j hj => absurd hj (Nat.not_lt_zero _), fun j _ hj => absurd hj (Nat.not_lt_zero _)⟩ (by simp -implicitDefEqProofs only [evr, id, seval, Nat.sub_zero, Option.map_none, ent0, ent1, ent2, ent3, ent4, evl, evn]; done) ?_
    rintro ⟨i, q⟩ hL
    simp only at hL ⊢
    have hi := hL.1
    have hki := hL.2.1
    (repeat refine Sat.seq ?_)
    (refine Sat.region_k fun k hk => ?_; simp -implicitDefEqProofs only [evr, id, seval, Nat.sub_zero, Option.map_none, ent0, ent1, ent2, ent3, ent4, evn]; refine hk _ ?_; clear hk k; try show Sat _ _ _ _ _)
    (repeat refine Sat.seq ?_)
    refine Sat.cond_b rfl (fun h2 => ?_) (fun h2 => ?_)
    · simp only [decide_eq_true_eq] at h2
      have hlt : i < es.length := by omega
      have e1 : IntKind.i64.wrap ((i : Int) + 1) = ((i + 1 : Nat) : Int) := by rw [w64 (by omega)]; omega
      refine Sat.skip ?_
      simp only [thenK]
      (repeat refine Sat.seq ?_)
      refine Sat.block ?_
      (repeat refine Sat.seq ?_)
      (refine Sat.region_k fun k hk => ?_; simp -implicitDefEqProofs only [evr, id, seval, Nat.sub_zero, Option.map_none, ent0, ent1, ent2, ent3, ent4, evn])
      refine ⟨by omega, fun b8 => ?_⟩
      (refine hk _ ?_; clear hk k; try show Sat _ _ _ _ _)
      generalize hx : es.getD i default = x at *
      have hxo : eOk x := hx ▸ esOk_at h i
      (repeat refine Sat.seq ?_)
      refine Sat.region_at ⟨76, [(49, .b (decide (overlap x e))), (8, .op 3 b8 0), (7, .i .i64 i), (6, .i .i64 q), (2, .op 0 b2 0), (3, .op 1 b3 0), (4, .op 2 b4 0), (5, .i .i64 0)], [.box b2 25 [.sl ad es.length cap 5 (entRd es)], .box b3 31 [.i .u32 e.addr, .i .i64 e.len, .i .i64 e.prov, .i .i64 e.from_, .i .i64 e.to_], .box b4 25 [.sl none 0 0 0 fun _ _ => .v undef], .box b8 31 [.i .u32 x.addr, .i .i64 x.len, .i .i64 x.prov, .i .i64 x.from_, .i .i64 x.to_]]⟩ (fun k hk => ?_) ?_
      · simp -implicitDefEqProofs only [evr, id, seval, Nat.sub_zero, Option.map_none, ent0, ent1, ent2, ent3, ent4, evn]
        refine wcall_plain ((rfCompareC F x.pr e.pr hxo he).of_sim (ent_pr2 _ _)) (by simp -implicitDefEqProofs only [evr, id, seval, Nat.sub_zero, Option.map_none, ent0, ent1, ent2, ent3, ent4, evn]) (by rintro _ rfl; exact ok_plain rfl) ?_
        rintro r rfl
        simp -implicitDefEqProofs only [evr, id, seval, Nat.sub_zero, Option.map_none, ent0, ent1, ent2, ent3, ent4, cmpP_pk, evn]
        have hpk := @pk_zero x e
        repeat' (first
          | (with_reducible refine And.intro ?_ ?_)
          | (with_reducible intro hh)
          | (with_reducible refine hk _ ?_
             first
             | (have e9 : decide (overlap x e) = false := by
                  clear hk
                  apply decide_eq_false
                  rintro ⟨g1, g2, g3⟩
                  rw [← hpk] at g1
                  (try simp only [beq_iff_eq, beq_eq_false_iff_ne, decide_eq_true_eq, decide_eq_false_iff_not] at *)
                  omega
                simp only [e9]
                simp -implicitDefEqProofs only [evr, id, seval, Nat.sub_zero, Option.map_none, ent0, ent1, ent2, ent3, ent4, evl, evn]
                done)
             | (have e9 : decide (overlap x e) = decide (e.from_ < x.to_) := by
                  clear hk
                  apply Bool.eq_iff_iff.2
                  rw [decide_eq_true_eq, decide_eq_true_eq]
                  (try simp only [beq_iff_eq, beq_eq_false_iff_ne, decide_eq_true_eq, decide_eq_false_iff_not] at *)
                  constructor
                  · exact fun g => g.2.2
                  · exact fun g => ⟨hpk.1 (by assumption), by assumption, g⟩
                simp only [e9]
                simp -implicitDefEqProofs only [evr, id, seval, Nat.sub_zero, Option.map_none, ent0, ent1, ent2, ent3, ent4, evl, evn]
                done)))
      refine Sat.cond_b rfl (fun h3 => ?_) (fun h3 => ?_)
      · simp only [decide_eq_true_eq] at h3
        (repeat refine Sat.seq ?_)
        (refine Sat.region_k fun k hk => ?_; simp -implicitDefEqProofs only [evr, id, seval, Nat.sub_zero, Option.map_none, ent0, ent1, ent2, ent3, ent4, evn]; refine hk _ ?_; clear hk k; try show Sat _ _ _ _ _)
        refine Sat.ret ?_
        simp only [thenK, blockK, Tryz.results24, evr, id, seval, List.append_nil, Int.toNat_zero, Nat.sub_self, Nat.sub_zero, Option.map_none, ent0, ent1, ent2, ent3, ent4]
        refine .inl ⟨9, _, ?_, rfl⟩
        unfold addV
        rw [if_neg (fun h9 => h9.elim (fun h9 => h9 hr) (fun h9 => h9 heo)), if_pos ⟨x, by rw [← hx, getD_lt hlt]; exact List.getElem_mem hlt, h3⟩]
      · simp only [decide_eq_false_iff_not] at h3
        refine Sat.skip ?_
        simp only [thenK]
        (repeat refine Sat.seq ?_)
        (refine Sat.region_k fun k hk => ?_; simp -implicitDefEqProofs only [evr, id, seval, Nat.sub_zero, Option.map_none, ent0, ent1, ent2, ent3, ent4, evn])
        refine wcall_plain (refCompareC F x e hxo he) (by simp -implicitDefEqProofs only [evr, id, seval, Nat.sub_zero, Option.map_none, ent0, ent1, ent2, ent3, ent4, evn]; rfl) (by rintro _ rfl; exact ok_plain rfl) ?_
        rintro r rfl
        simp -implicitDefEqProofs only [evr, id, seval, Nat.sub_zero, Option.map_none, ent0, ent1, ent2, ent3, ent4, evn]
        (refine hk _ ?_; clear hk k; try show Sat _ _ _ _ _)
        refine Sat.cond_b rfl (fun h4 => ?_) (fun h4 => ?_)
        · simp only [decide_eq_true_eq] at h4
          refine Sat.region_k fun k hk => ?_
          simp -implicitDefEqProofs only [evr, id, seval, Nat.sub_zero, Option.map_none, ent0, ent1, ent2, ent3, ent4, e1, evn]
          refine hk _ ?_
          simp only [thenK, blockK]
          refine Sat.region_k fun k hk => ?_
          simp -implicitDefEqProofs only [evr, id, seval, Nat.sub_zero, Option.map_none, ent0, ent1, ent2, ent3, ent4, e1, evn]
          refine hk _ ?_
          simp only [thenK, blockK]
          refine ⟨(i + 1, i + 1), hL.less hr heo hlt (by rw [hx]; exact h3) (by rw [hx]; exact h4), by simp only; omega, ?_⟩
          simp -implicitDefEqProofs only [evr, id, seval, Nat.sub_zero, Option.map_none, ent0, ent1, ent2, ent3, ent4, evl, evn]
        · simp only [decide_eq_false_iff_not] at h4
          refine Sat.skip ?_
          simp only [thenK, blockK]
          refine Sat.region_k fun k hk => ?_
          simp -implicitDefEqProofs only [evr, id, seval, Nat.sub_zero, Option.map_none, ent0, ent1, ent2, ent3, ent4, e1, evn]
          refine hk _ ?_
          simp only [thenK, blockK]
          refine ⟨(i + 1, q), hL.more hr heo hlt (by rw [hx]; exact h3) (by rw [hx]; exact h4), by simp only; omega, ?_⟩
          simp -implicitDefEqProofs only [evr, id, seval, Nat.sub_zero, Option.map_none, ent0, ent1, ent2, ent3, ent4, evl, evn]
    · simp only [decide_eq_false_iff_not] at h2
      obtain rfl : i = es.length := by omega
      obtain ⟨hno, hqe⟩ := hL.done
      refine Sat.exit ?_
      simp only [thenK, blockK, reduceIte]
      (repeat refine Sat.seq ?_)
      (refine Sat.region_k fun k hk => ?_; simp -implicitDefEqProofs only [evr, id, seval, Nat.sub_zero, Option.map_none, ent0, ent1, ent2, ent3, ent4, evn]; refine hk _ ?_; clear hk k; try show Sat _ _ _ _ _)
      (repeat refine Sat.seq ?_)
      refine Sat.cond_b rfl (fun h8 => ?_) (fun h8 => ?_)
      · simp only [decide_eq_true_eq] at h8
        (repeat refine Sat.seq ?_)
        (refine Sat.region_k fun k hk => ?_; simp -implicitDefEqProofs only [evr, id, seval, Nat.sub_zero, Option.map_none, ent0, ent1, ent2, ent3, ent4, evn]; refine hk _ ?_; clear hk k; try show Sat _ _ _ _ _)
        refine Sat.ret ?_
        simp only [Tryz.results24, evr, id, seval, List.append_nil, Int.toNat_zero, Nat.sub_self, Nat.sub_zero, Option.map_none, ent0, ent1, ent2, ent3, ent4]
        refine .inl ⟨5, _, ?_, rfl⟩
        unfold addV
        rw [if_neg (fun h9 => h9.elim (fun h9 => h9 hr) (fun h9 => h9 heo)), if_neg hno, if_pos (by omega)]
      · simp only [decide_eq_false_iff_not] at h8
        refine Sat.skip ?_
        simp only [thenK]
        have hv : addV es e = (insE es q e, 0) := by
          unfold addV
          rw [if_neg (fun h9 => h9.elim (fun h9 => h9 hr) (fun h9 => h9 heo)), if_neg hno, if_neg (by omega), hqe]
        (repeat refine Sat.seq ?_)
        have e8 : q + 1 + (es.length - q) = es.length + 1 := by omega
        (refine Sat.region_tree (.keep [0, 2, 8, 10, 1, 5, 9] [3, 4, 6, 7, 11] (.alt 3 (.alt 4 (.alt 6 (.alt 7 (.one 11 (.one 12 (.one 13 (.one 14 (.one 15 .done))))) (.alt 11 (.one 7 (.one 12 (.one 13 (.one 14 (.one 15 .done))))) .none)) (.alt 11 (.one 6 (.one 7 (.one 12 (.one 13 (.one 14 (.one 15 .done)))))) .none)) (.alt 6 (.alt 4 (.alt 7 (.one 11 (.one 12 (.one 13 (.one 14 (.one 15 .done))))) (.alt 11 (.one 7 (.one 12 (.one 13 (.one 14 (.one 15 .done))))) .none)) (.alt 11 (.one 4 (.one 7 (.one 12 (.one 13 (.one 14 (.one 15 .done)))))) .none)) (.alt 11 (.alt 4 (.one 6 (.one 7 (.one 12 (.one 13 (.one 14 (.one 15 .done)))))) (.alt 6 (.one 4 (.one 7 (.one 12 (.one 13 (.one 14 (.one 15 .done)))))) .none)) .none))) (.alt 6 (.alt 3 (.alt 4 (.alt 7 (.one 11 (.one 12 (.one 13 (.one 14 (.one 15 .done))))) (.alt 11 (.one 7 (.one 12 (.one 13 (.one 14 (.one 15 .done))))) .none)) (.alt 11 (.one 4 (.one 7 (.one 12 (.one 13 (.one 14 (.one 15 .done)))))) .none)) (.alt 11 (.one 3 (.one 4 (.one 7 (.one 12 (.one 13 (.one 14 (.one 15 .done))))))) .none)) (.alt 11 (.alt 3 (.alt 4 (.one 6 (.one 7 (.one 12 (.one 13 (.one 14 (.one 15 .done)))))) (.alt 6 (.one 4 (.one 7 (.one 12 (.one 13 (.one 14 (.one 15 .done)))))) .none)) (.alt 6 (.one 3 (.one 4 (.one 7 (.one 12 (.one 13 (.one 14 (.one 15 .done))))))) .none)) .none)))) (by kernel_rfl) (by kernel_rfl) (fun _ _ h => h) fun k hk => ?_; simp only [WOT, List.map_cons, List.map_nil, List.getD_cons_zero, List.getD_cons_succ]; simp -implicitDefEqProofs only [evr, id, seval, Nat.sub_zero, Option.map_none, ent0, ent1, ent2, ent3, ent4, WOT, evn])
        have hqi : q ≤ es.length := hki
        repeat' (first
          | (with_reducible refine And.intro ?_ ?_)
          | omega
          | (unfold maxLen; omega)
          | (with_reducible intro)
          | (with_reducible refine hk _ ?_
             simp only [thenK]
             refine Sat.ret ?_
             simp only [Tryz.results24, evr, id, seval, List.append_nil, Int.toNat_zero, Nat.sub_self, Nat.sub_zero, Option.map_none, ent0, ent1, ent2, ent3, ent4, e8]
             exact .inr ⟨q, _, _, _, hv, hqi, ins_rd es q e hqi, rfl⟩))
end Go.Proofs.YtepkbbmjbbnhnaaGreatDoor
