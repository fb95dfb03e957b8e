/- registry.Valid, by the evaluator. -/
import Derived.Test.YtepkbbmjbbnhnaaGreatDoorRgsE
set_option linter.unusedSimpArgs false
set_option linter.unusedVariables false
namespace Go.Proofs.YtepkbbmjbbnhnaaGreatDoor
open Go.Sort Eng
theorem ent0 (es : List Ent) (i : Nat) : entRd es i 0 = .i .u32 ((es.getD i default).addr : Nat) := rfl
theorem ent1 (es : List Ent) (i : Nat) : entRd es i 1 = .i .i64 (es.getD i default).len := rfl
theorem ent2 (es : List Ent) (i : Nat) : entRd es i 2 = .i .i64 (es.getD i default).prov := rfl
theorem ent3 (es : List Ent) (i : Nat) : entRd es i 3 = .i .i64 (es.getD i default).from_ := rfl
theorem ent4 (es : List Ent) (i : Nat) : entRd es i 4 = .i .i64 (es.getD i default).to_ := rfl
theorem ent_pr2 (e f : Ent) : simA [.agg 2 fun j => [SV.i .u32 (e.addr : Nat), .i .i64 e.len, .i .i64 e.prov, .i .i64 e.from_, .i .i64 e.to_].getD j default, .agg 2 fun j => [SV.i .u32 (f.addr : Nat), .i .i64 f.len, .i .i64 f.prov, .i .i64 f.from_, .i .i64 f.to_].getD j default] [prS e.pr, prS f.pr] :=
  ⟨(ent_pr e).1, (ent_pr f).1, trivial⟩
theorem cmpP_pk (a b : Ent) : cmpP a.pr b.pr = cmpL a.pk b.pk := rfl
theorem pk_vals (a b : Ent) : cmpL a.pk b.pk = -1 ∨ cmpL a.pk b.pk = 0 ∨ cmpL a.pk b.pk = 1 := cmpL_vals _ _
set_option maxRecDepth 100000 in
theorem regValidC (F : Frm) (ad : Option Addr) (cap : Nat) (es : List Ent) (h : esOk es) : Contract F Tryz.prog 10 [regS ad cap es] (fun r => r = .b (decide (RegOk es))) := by
  refine contract_of Tryz.func10 rfl (by kernel_rfl) ?_
  simp only [Tryz.ntmps10, argEnv, regS]
  (repeat refine Sat.seq ?_)
  (refine Sat.region_k fun k hk => ?_; simp -implicitDefEqProofs only [evr, id, seval, ent0, ent1, ent2, ent3, ent4, Nat.sub_zero, evn])
  intro b1
  (refine hk _ ?_; clear hk k; try show Sat _ _ _ _ _)
  (repeat refine Sat.seq ?_)
  (refine Sat.region_k fun k hk => ?_; simp -implicitDefEqProofs only [evr, id, seval, ent0, ent1, ent2, ent3, ent4, Nat.sub_zero, evn]; refine hk _ ?_; clear hk k; try show Sat _ _ _ _ _)
  (repeat refine Sat.seq ?_)
  refine Sat.cond_b rfl (fun h1 => ?_) (fun h1 => ?_)
  · simp only [decide_eq_true_eq] at h1
    (repeat refine Sat.seq ?_)
    (refine Sat.region_k fun k hk => ?_; simp -implicitDefEqProofs only [evr, id, seval, ent0, ent1, ent2, ent3, ent4, Nat.sub_zero, evn]; refine hk _ ?_; clear hk k; try show Sat _ _ _ _ _)
    refine Sat.ret ?_
    simp only [Tryz.results10, evr, id, seval, List.append_nil, Int.toNat_zero, Nat.sub_self, ent0, ent1, ent2, ent3, ent4, Nat.sub_zero]
    rw [decide_eq_false (fun h9 : RegOk es => by have := h9.1; omega)]
  refine Sat.skip ?_
  simp only [decide_eq_false_iff_not] at h1
  simp only [thenK]
  (repeat refine Sat.seq ?_)
  (refine Sat.region_k fun k hk => ?_; simp -implicitDefEqProofs only [evr, id, seval, ent0, ent1, ent2, ent3, ent4, Nat.sub_zero, evn]; refine hk _ ?_; clear hk k; try show Sat _ _ _ _ _)
  (repeat refine Sat.seq ?_)
  refine Sat.block ?_
  refine Sat.loop (ι := Nat) (fun i => ⟨49, [(12, .sl ad es.length cap 5 (entRd es)), (13, .i .i64 es.length), (14, .i .i64 i), (1, .op 0 b1 0)], [.box b1 25 [.sl ad es.length cap 5 (entRd es)]]⟩)
    (fun i => i ≤ es.length ∧ ∀ j, j < i → okAt es j) (fun i => es.length - i) 0 ⟨Nat.zero_le _, fun j hj => absurd hj (Nat.not_lt_zero _)⟩ (by simp -implicitDefEqProofs only [evr, id, seval, ent0, ent1, ent2, ent3, ent4, Nat.sub_zero, evl, evn]) ?_
  rintro i ⟨hi, hok⟩
  (repeat refine Sat.seq ?_)
  (refine Sat.region_k fun k hk => ?_; simp -implicitDefEqProofs only [evr, id, seval, ent0, ent1, ent2, ent3, ent4, Nat.sub_zero, evn]; refine hk _ ?_; clear hk k; try show Sat _ _ _ _ _)
  (repeat refine Sat.seq ?_)
  refine Sat.cond_b rfl (fun h2 => ?_) (fun h2 => ?_)
  · simp only [decide_eq_true_eq] at h2
    have hlt : i < es.length := by omega
    refine Sat.skip ?_
    simp only [thenK]
    (repeat refine Sat.seq ?_)
    refine Sat.block ?_
    (repeat refine Sat.seq ?_)
    (refine Sat.region_k fun k hk => ?_; simp -implicitDefEqProofs only [evr, id, seval, ent0, ent1, ent2, ent3, ent4, Nat.sub_zero, evn])
    refine ⟨by omega, fun b4 => ?_⟩
    (refine hk _ ?_; clear hk k; try show Sat _ _ _ _ _)
    (repeat refine Sat.seq ?_)
    (refine Sat.region_k fun k hk => ?_; simp -implicitDefEqProofs only [evr, id, seval, ent0, ent1, ent2, ent3, ent4, Nat.sub_zero, evn])
    refine wcall_plain (entryOkC F (es.getD i default) (esOk_at h i)) rfl (by rintro _ rfl; exact ok_plain rfl) ?_
    rintro r rfl
    simp -implicitDefEqProofs only [evr, id, seval, ent0, ent1, ent2, ent3, ent4, Nat.sub_zero, evn]
    (refine hk _ ?_; clear hk k; try show Sat _ _ _ _ _)
    (repeat refine Sat.seq ?_)
    refine Sat.cond_b rfl (fun h3 => ?_) (fun h3 => ?_)
    · simp only [Bool.not_eq_true', decide_eq_false_iff_not] at h3
      (repeat refine Sat.seq ?_)
      (refine Sat.region_k fun k hk => ?_; simp -implicitDefEqProofs only [evr, id, seval, ent0, ent1, ent2, ent3, ent4, Nat.sub_zero, evn]; refine hk _ ?_; clear hk k; try show Sat _ _ _ _ _)
      refine Sat.ret ?_
      simp only [thenK, blockK, Tryz.results10, evr, id, seval, List.append_nil, Int.toNat_zero, Nat.sub_self, ent0, ent1, ent2, ent3, ent4, Nat.sub_zero]
      rw [decide_eq_false (fun h9 : RegOk es => h3 (h9.2 i hlt).1)]
    · simp only [Bool.not_eq_false', decide_eq_true_eq] at h3
      refine Sat.skip ?_
      simp only [thenK]
      (repeat refine Sat.seq ?_)
      (refine Sat.region_k fun k hk => ?_; simp -implicitDefEqProofs only [evr, id, seval, ent0, ent1, ent2, ent3, ent4, Nat.sub_zero, evn]; refine hk _ ?_; clear hk k; try show Sat _ _ _ _ _)
      (repeat refine Sat.seq ?_)
      refine Sat.cond_b rfl (fun h4 => ?_) (fun h4 => ?_)
      · simp only [beq_iff_eq] at h4
        refine Sat.exit ?_
        simp only [thenK, blockK, reduceIte]
        refine Sat.region_k fun k hk => ?_
        simp -implicitDefEqProofs only [evr, id, seval, ent0, ent1, ent2, ent3, ent4, Nat.sub_zero, evn]
        have e1 : IntKind.i64.wrap ((i : Int) + 1) = ((i + 1 : Nat) : Int) := by rw [w64 (by omega)]; omega
        rw [e1]
        refine hk _ ?_
        simp only [thenK, blockK]
        refine ⟨i + 1, ⟨by omega, fun j hj => ?_⟩, by omega, ?_⟩
        · obtain rfl : j = i := by omega
          exact ⟨h3, .inl (by omega)⟩
        · simp -implicitDefEqProofs only [evr, id, seval, ent0, ent1, ent2, ent3, ent4, Nat.sub_zero, evl, evn]
      · simp only [beq_eq_false_iff_ne, ne_eq] at h4
        have h0 : 0 < i := by omega
        refine Sat.skip ?_
        simp only [thenK]
        (repeat refine Sat.seq ?_)
        have e2 : IntKind.i64.wrap ((i : Int) - 1) = ((i - 1 : Nat) : Int) := by rw [w64 (by omega)]; omega
        (refine Sat.region_k fun k hk => ?_; simp -implicitDefEqProofs only [evr, id, seval, ent0, ent1, ent2, ent3, ent4, Nat.sub_zero, evn])
        simp only [e2, Int.toNat_natCast]
        refine ⟨by omega, fun b5 => ?_⟩
        (refine hk _ ?_; clear hk k; try show Sat _ _ _ _ _)
        (repeat refine Sat.seq ?_)
        (refine Sat.region_k fun k hk => ?_; simp -implicitDefEqProofs only [evr, id, seval, ent0, ent1, ent2, ent3, ent4, Nat.sub_zero, evn])
        refine wcall_plain ((adCompareC F (es.getD (i - 1) default).pr (es.getD i default).pr).of_sim (ent_pr2 _ _)) (by simp -implicitDefEqProofs only [evr, id, seval, ent0, ent1, ent2, ent3, ent4, Nat.sub_zero, evn]) (by rintro _ rfl; exact ok_plain rfl) ?_
        rintro r rfl
        simp -implicitDefEqProofs only [evr, id, seval, ent0, ent1, ent2, ent3, ent4, Nat.sub_zero, cmpP_pk, evn]
        (refine hk _ ?_; clear hk k; try show Sat _ _ _ _ _)
        (repeat refine Sat.seq ?_)
        refine Sat.region_at ⟨49, [(47, .b (decide (¬ nb (es.getD (i - 1) default) (es.getD i default)))), (12, .sl ad es.length cap 5 (entRd es)), (13, .i .i64 es.length), (14, .i .i64 i), (1, .op 0 b1 0)], [.box b1 25 [.sl ad es.length cap 5 (entRd es)]]⟩ (fun k hk => ?_) ?_
        · simp -implicitDefEqProofs only [evr, id, seval, ent0, ent1, ent2, ent3, ent4, Nat.sub_zero, evn]
          have hv := pk_vals (es.getD (i - 1) default) (es.getD i default)
          repeat' (first
            | (with_reducible refine And.intro ?_ ?_)
            | (with_reducible intro hh)
            | (with_reducible refine hk _ ?_
               first
               | (have e9 : decide (¬ nb (es.getD (i - 1) default) (es.getD i default)) = true := by
                    clear hk
                    apply decide_eq_true
                    unfold nb
                    (try simp only [beq_iff_eq, beq_eq_false_iff_ne, decide_eq_true_eq, decide_eq_false_iff_not] at *)
                    omega
                  simp only [e9]
                  simp -implicitDefEqProofs only [evr, id, seval, ent0, ent1, ent2, ent3, ent4, Nat.sub_zero, evl, evn]
                  done)
               | (have e9 : decide (¬ nb (es.getD (i - 1) default) (es.getD i default)) = false := by
                    clear hk
                    apply decide_eq_false
                    unfold nb
                    (try simp only [beq_iff_eq, beq_eq_false_iff_ne, decide_eq_true_eq, decide_eq_false_iff_not] at *)
                    omega
                  simp only [e9]
                  simp -implicitDefEqProofs only [evr, id, seval, ent0, ent1, ent2, ent3, ent4, Nat.sub_zero, evl, evn]
                  done)
               | (have e9 : decide (¬ nb (es.getD (i - 1) default) (es.getD i default)) = decide ((es.getD i default).from_ < (es.getD (i - 1) default).to_) := by
                    clear hk
                    apply Bool.eq_iff_iff.2
                    unfold nb
                    (try simp only [beq_iff_eq, beq_eq_false_iff_ne, decide_eq_true_eq, decide_eq_false_iff_not] at *)
                    omega
                  simp only [e9]
                  simp -implicitDefEqProofs only [evr, id, seval, ent0, ent1, ent2, ent3, ent4, Nat.sub_zero, evl, evn]
                  done)))
        refine Sat.cond_b rfl (fun h5 => ?_) (fun h5 => ?_)
        · simp only [decide_eq_true_eq] at h5
          (repeat refine Sat.seq ?_)
          (refine Sat.region_k fun k hk => ?_; simp -implicitDefEqProofs only [evr, id, seval, ent0, ent1, ent2, ent3, ent4, Nat.sub_zero, evn]; refine hk _ ?_; clear hk k; try show Sat _ _ _ _ _)
          refine Sat.ret ?_
          simp only [thenK, blockK, Tryz.results10, evr, id, seval, List.append_nil, Int.toNat_zero, Nat.sub_self, ent0, ent1, ent2, ent3, ent4, Nat.sub_zero]
          rw [decide_eq_false (fun h9 : RegOk es => ?_)]
          rcases (h9.2 i hlt).2 with h8 | h8
          · omega
          · exact h5 h8
        · simp only [decide_eq_false_iff_not, Decidable.not_not] at h5
          refine Sat.skip ?_
          simp only [thenK, blockK]
          refine Sat.region_k fun k hk => ?_
          simp -implicitDefEqProofs only [evr, id, seval, ent0, ent1, ent2, ent3, ent4, Nat.sub_zero, evn]
          have e1 : IntKind.i64.wrap ((i : Int) + 1) = ((i + 1 : Nat) : Int) := by rw [w64 (by omega)]; omega
          rw [e1]
          refine hk _ ?_
          simp only [thenK, blockK]
          refine ⟨i + 1, ⟨by omega, fun j hj => ?_⟩, by omega, ?_⟩
          · rcases (show j = i ∨ j < i by omega) with rfl | h6
            · exact ⟨h3, .inr h5⟩
            · exact hok j h6
          · simp -implicitDefEqProofs only [evr, id, seval, ent0, ent1, ent2, ent3, ent4, Nat.sub_zero, evl, evn]
  · refine Sat.exit ?_
    simp only [thenK, blockK, reduceIte]
    simp only [decide_eq_false_iff_not] at h2
    obtain rfl : i = es.length := by omega
    (repeat refine Sat.seq ?_)
    (refine Sat.region_k fun k hk => ?_; simp -implicitDefEqProofs only [evr, id, seval, ent0, ent1, ent2, ent3, ent4, Nat.sub_zero, evn]; refine hk _ ?_; clear hk k; try show Sat _ _ _ _ _)
    refine Sat.ret ?_
    simp only [Tryz.results10, evr, id, seval, List.append_nil, Int.toNat_zero, Nat.sub_self, ent0, ent1, ent2, ent3, ent4, Nat.sub_zero]
    have h9 : RegOk es := ⟨by omega, hok⟩
    rw [decide_eq_true h9]
end Go.Proofs.YtepkbbmjbbnhnaaGreatDoor
