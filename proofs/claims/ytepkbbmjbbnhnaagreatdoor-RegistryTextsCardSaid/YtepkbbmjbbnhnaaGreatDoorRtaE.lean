/- The reference of law 32 (entries and registries), by the evaluator. -/
import Derived.Test.YtepkbbmjbbnhnaaGreatDoorRadE
import Derived.Test.YtepkbbmjbbnhnaaGreatDoorSetB
set_option linter.unusedSimpArgs false
set_option linter.unusedVariables false
namespace Go.Proofs.YtepkbbmjbbnhnaaGreatDoor
open Go.Sort Eng
set_option maxRecDepth 100000 in
theorem refEntryOkC (F : Frm) (e : Ent) (he : eOk e) : Contract F Tryz.prog 40 [entS e] (fun r => r = .b (decide (EntOk e))) := by
  refine contract_of Tryz.func40 rfl (by kernel_rfl) ?_
  simp only [Tryz.ntmps40, argEnv, entS, Ent.cs]
  (repeat refine Sat.seq ?_)
  (refine Sat.region_k fun k hk => ?_; simp -implicitDefEqProofs only [evr, id, seval, ent0, ent1, ent2, ent3, ent4, Nat.sub_zero, pfx_ent, Option.map_none, evn])
  intro b1
  (refine hk _ ?_; clear hk k; try show Sat _ _ _ _ _)
  (repeat refine Sat.seq ?_)
  refine Sat.region_at ⟨33, [(2, .b (decide (EntOk e)))], []⟩ (fun k hk => ?_) ?_
  · simp -implicitDefEqProofs only [evr, id, seval, ent0, ent1, ent2, ent3, ent4, Nat.sub_zero, pfx_ent, Option.map_none, evn]
    refine wcall_plain ((rfValidC F e.pr he).of_sim (ent_pr e)) (by simp -implicitDefEqProofs only [evr, id, seval, ent0, ent1, ent2, ent3, ent4, Nat.sub_zero, pfx_ent, Option.map_none, evn]) (by rintro _ rfl; exact ok_plain rfl) ?_
    rintro r rfl
    simp -implicitDefEqProofs only [evr, id, seval, ent0, ent1, ent2, ent3, ent4, Nat.sub_zero, pfx_ent, Option.map_none, evn]
    repeat' (first
      | (with_reducible refine And.intro ?_ ?_)
      | (with_reducible intro hh)
      | (with_reducible refine hk _ ?_
         first
         | (have e9 : decide (EntOk e) = false := by
              clear hk
              apply decide_eq_false
              rintro ⟨g1, g2, g3, g4, g5, g6⟩
              first
              | (simp_all; done)
              | (simp only [decide_eq_false_iff_not, decide_eq_true_eq] at *; omega)
            simp only [e9]
            simp -implicitDefEqProofs only [evr, id, seval, ent0, ent1, ent2, ent3, ent4, Nat.sub_zero, pfx_ent, Option.map_none, evl, evn]
            done)
         | (have e9 : decide (EntOk e) = decide (e.to_ ≤ 1125899906842624) := by
              clear hk
              apply Bool.eq_iff_iff.2
              rw [decide_eq_true_eq, decide_eq_true_eq]
              constructor
              · intro h9
                exact h9.2.2.2.2.2
              · intro g6
                exact ⟨by assumption, by assumption, by assumption, by assumption, by assumption, g6⟩
            simp only [e9]
            simp -implicitDefEqProofs only [evr, id, seval, ent0, ent1, ent2, ent3, ent4, Nat.sub_zero, pfx_ent, Option.map_none, evl, evn]
            done)))
  refine Sat.ret ?_
  simp only [Tryz.results40, evr, id, seval, List.append_nil, Int.toNat_zero, Nat.sub_self, ent0, ent1, ent2, ent3, ent4, Nat.sub_zero, pfx_ent, Option.map_none]
set_option maxRecDepth 100000 in
theorem refRegValidC (F : Frm) (ad : Option Addr) (cap : Nat) (es : List Ent) (h : esOk es) : Contract F Tryz.prog 11 [regS ad cap es] (fun r => r = .b (decide (RegOk es))) := by
  refine contract_of Tryz.func11 rfl (by kernel_rfl) ?_
  simp only [Tryz.ntmps11, argEnv, regS]
  (repeat refine Sat.seq ?_)
  (refine Sat.region_k fun k hk => ?_; simp -implicitDefEqProofs only [evr, id, seval, ent0, ent1, ent2, ent3, ent4, Nat.sub_zero, pfx_ent, Option.map_none, evn])
  intro b1
  (refine hk _ ?_; clear hk k; try show Sat _ _ _ _ _)
  (repeat refine Sat.seq ?_)
  (refine Sat.region_k fun k hk => ?_; simp -implicitDefEqProofs only [evr, id, seval, ent0, ent1, ent2, ent3, ent4, Nat.sub_zero, pfx_ent, Option.map_none, evn]; refine hk _ ?_; clear hk k; try show Sat _ _ _ _ _)
  (repeat refine Sat.seq ?_)
  refine Sat.cond_b rfl (fun h1 => ?_) (fun h1 => ?_)
  · simp only [decide_eq_true_eq] at h1
    (repeat refine Sat.seq ?_)
    (refine Sat.region_k fun k hk => ?_; simp -implicitDefEqProofs only [evr, id, seval, ent0, ent1, ent2, ent3, ent4, Nat.sub_zero, pfx_ent, Option.map_none, evn]; refine hk _ ?_; clear hk k; try show Sat _ _ _ _ _)
    refine Sat.ret ?_
    simp only [Tryz.results11, evr, id, seval, List.append_nil, Int.toNat_zero, Nat.sub_self, ent0, ent1, ent2, ent3, ent4, Nat.sub_zero, pfx_ent, Option.map_none]
    rw [decide_eq_false (fun h9 : RegOk es => by have := h9.1; omega)]
  refine Sat.skip ?_
  simp only [decide_eq_false_iff_not] at h1
  simp only [thenK]
  (repeat refine Sat.seq ?_)
  (refine Sat.region_k fun k hk => ?_; simp -implicitDefEqProofs only [evr, id, seval, ent0, ent1, ent2, ent3, ent4, Nat.sub_zero, pfx_ent, Option.map_none, evn]; refine hk _ ?_; clear hk k; try show Sat _ _ _ _ _)
  (repeat refine Sat.seq ?_)
  refine Sat.block ?_
  refine Sat.loop (ι := Nat) (fun i => ⟨56, [(3, .i .i64 i), (1, .op 0 b1 0)], [.box b1 25 [.sl ad es.length cap 5 (entRd es)]]⟩)
    (fun i => i ≤ es.length ∧ ∀ j, j < i → okAt es j) (fun i => es.length - i) 0 ⟨Nat.zero_le _, fun j hj => absurd hj (Nat.not_lt_zero _)⟩ (by simp -implicitDefEqProofs only [evr, id, seval, ent0, ent1, ent2, ent3, ent4, Nat.sub_zero, pfx_ent, Option.map_none, evl, evn]) ?_
  rintro i ⟨hi, hok⟩
  (repeat refine Sat.seq ?_)
  (refine Sat.region_k fun k hk => ?_; simp -implicitDefEqProofs only [evr, id, seval, ent0, ent1, ent2, ent3, ent4, Nat.sub_zero, pfx_ent, Option.map_none, evn]; refine hk _ ?_; clear hk k; try show Sat _ _ _ _ _)
  (repeat refine Sat.seq ?_)
  refine Sat.cond_b rfl (fun h2 => ?_) (fun h2 => ?_)
  · simp only [decide_eq_true_eq] at h2
    have hlt : i < es.length := by omega
    refine Sat.skip ?_
    simp only [thenK]
    (repeat refine Sat.seq ?_)
    refine Sat.block ?_
    (repeat refine Sat.seq ?_)
    (refine Sat.region_k fun k hk => ?_; simp -implicitDefEqProofs only [evr, id, seval, ent0, ent1, ent2, ent3, ent4, Nat.sub_zero, pfx_ent, Option.map_none, evn])
    refine ⟨by omega, ?_⟩
    refine wcall_plain (refEntryOkC F (es.getD i default) (esOk_at h i)) rfl (by rintro _ rfl; exact ok_plain rfl) ?_
    rintro r rfl
    simp -implicitDefEqProofs only [evr, id, seval, ent0, ent1, ent2, ent3, ent4, Nat.sub_zero, pfx_ent, Option.map_none, evn]
    (refine hk _ ?_; clear hk k; try show Sat _ _ _ _ _)
    (repeat refine Sat.seq ?_)
    refine Sat.cond_b rfl (fun h3 => ?_) (fun h3 => ?_)
    · simp only [Bool.not_eq_true', decide_eq_false_iff_not] at h3
      (repeat refine Sat.seq ?_)
      (refine Sat.region_k fun k hk => ?_; simp -implicitDefEqProofs only [evr, id, seval, ent0, ent1, ent2, ent3, ent4, Nat.sub_zero, pfx_ent, Option.map_none, evn]; refine hk _ ?_; clear hk k; try show Sat _ _ _ _ _)
      refine Sat.ret ?_
      simp only [thenK, blockK, Tryz.results11, evr, id, seval, List.append_nil, Int.toNat_zero, Nat.sub_self, ent0, ent1, ent2, ent3, ent4, Nat.sub_zero, pfx_ent, Option.map_none]
      rw [decide_eq_false (fun h9 : RegOk es => h3 (h9.2 i hlt).1)]
    · simp only [Bool.not_eq_false', decide_eq_true_eq] at h3
      refine Sat.skip ?_
      simp only [thenK]
      (repeat refine Sat.seq ?_)
      (refine Sat.region_k fun k hk => ?_; simp -implicitDefEqProofs only [evr, id, seval, ent0, ent1, ent2, ent3, ent4, Nat.sub_zero, pfx_ent, Option.map_none, evn]; refine hk _ ?_; clear hk k; try show Sat _ _ _ _ _)
      (repeat refine Sat.seq ?_)
      refine Sat.cond_b rfl (fun h4 => ?_) (fun h4 => ?_)
      · simp only [beq_iff_eq] at h4
        refine Sat.exit ?_
        simp only [thenK, blockK, reduceIte]
        refine Sat.region_k fun k hk => ?_
        simp -implicitDefEqProofs only [evr, id, seval, ent0, ent1, ent2, ent3, ent4, Nat.sub_zero, pfx_ent, Option.map_none, evn]
        have e1 : IntKind.i64.wrap ((i : Int) + 1) = ((i + 1 : Nat) : Int) := by rw [w64 (by omega)]; omega
        rw [e1]
        refine hk _ ?_
        simp only [thenK, blockK]
        refine ⟨i + 1, ⟨by omega, fun j hj => ?_⟩, by omega, ?_⟩
        · obtain rfl : j = i := by omega
          exact ⟨h3, .inl (by omega)⟩
        · simp -implicitDefEqProofs only [evr, id, seval, ent0, ent1, ent2, ent3, ent4, Nat.sub_zero, pfx_ent, Option.map_none, evl, evn]
      · simp only [beq_eq_false_iff_ne, ne_eq] at h4
        have h0 : 0 < i := by omega
        refine Sat.skip ?_
        simp only [thenK]
        (repeat refine Sat.seq ?_)
        have e2 : IntKind.i64.wrap ((i : Int) - 1) = ((i - 1 : Nat) : Int) := by rw [w64 (by omega)]; omega
        refine Sat.join2 (ι := Nat × Nat) (fun z => ⟨56, [(5, .el ⟨z.2, 0, none⟩ 5 fun j => (Ent.cs (es.getD i default)).getD j default), (4, .el ⟨z.1, 0, none⟩ 5 fun j => (Ent.cs (es.getD (i - 1) default)).getD j default), (3, .i .i64 i), (1, .op 0 b1 0)], [.box b1 25 [.sl ad es.length cap 5 (entRd es)], .gone, .gone]⟩) (fun _ => True) (fun hrest => ?_) ?_
        · (refine Sat.region_tree (.keep [0, 2, 3, 6, 8, 1, 4, 5] [7, 9, 10, 11, 12] (.alt 7 (.free 9 (.alt 10 (.alt 11 (.one 12 (.one 13 (.one 14 .done))) (.alt 12 (.one 11 (.one 13 (.one 14 .done))) .none)) (.alt 11 (.alt 10 (.one 12 (.one 13 (.one 14 .done))) (.alt 12 (.alt 10 (.one 13 (.one 14 .done)) (.alt 13 (.one 10 (.one 14 .done)) .none)) .none)) (.alt 12 (.alt 10 (.one 11 (.one 13 (.one 14 .done))) (.alt 11 (.alt 10 (.one 13 (.one 14 .done)) (.alt 13 (.one 10 (.one 14 .done)) .none)) .none)) .none)))) (.alt 11 (.alt 7 (.free 9 (.alt 10 (.one 12 (.one 13 (.one 14 .done))) (.alt 12 (.alt 10 (.one 13 (.one 14 .done)) (.alt 13 (.one 10 (.one 14 .done)) .none)) .none))) (.alt 12 (.alt 7 (.free 9 (.alt 10 (.one 13 (.one 14 .done)) (.alt 13 (.one 10 (.one 14 .done)) .none))) (.alt 13 (.one 7 (.one 9 (.one 10 (.one 14 .done)))) .none)) .none)) (.alt 12 (.alt 7 (.free 9 (.alt 10 (.one 11 (.one 13 (.one 14 .done))) (.alt 11 (.alt 10 (.one 13 (.one 14 .done)) (.alt 13 (.one 10 (.one 14 .done)) .none)) .none))) (.alt 11 (.alt 7 (.free 9 (.alt 10 (.one 13 (.one 14 .done)) (.alt 13 (.one 10 (.one 14 .done)) .none))) (.alt 13 (.one 7 (.one 9 (.one 10 (.one 14 .done)))) .none)) .none)) .none)))) (by kernel_rfl) (by kernel_rfl) (fun _ _ h => h) fun k hk => ?_; simp only [WOT, List.map_cons, List.map_nil, List.getD_cons_zero, List.getD_cons_succ]; simp -implicitDefEqProofs only [evr, id, seval, ent0, ent1, ent2, ent3, ent4, Nat.sub_zero, pfx_ent, Option.map_none, WOT, evn])
          simp only [e2, Int.toNat_natCast]
          repeat' (first
            | (with_reducible refine And.intro ?_ ?_)
            | omega
            | (with_reducible intro))
          all_goals
            rename_i c1 c2
            refine hk _ ?_
            simp only [thenK]
            refine Sat.settleBox 4 rfl rfl ?_
            refine Sat.settleBox 5 rfl rfl ?_
            simp -implicitDefEqProofs only [evr, id, seval, ent0, ent1, ent2, ent3, ent4, Nat.sub_zero, pfx_ent, Option.map_none, evn]
            first
            | (refine (hrest (c1, c2) trivial).le ?_
               simp only [Ent.cs]
               simp -implicitDefEqProofs only [evr, id, seval, ent0, ent1, ent2, ent3, ent4, Nat.sub_zero, pfx_ent, Option.map_none, evl, evn]
               done)
            | (refine (hrest (c2, c1) trivial).le ?_
               simp only [Ent.cs]
               simp -implicitDefEqProofs only [evr, id, seval, ent0, ent1, ent2, ent3, ent4, Nat.sub_zero, pfx_ent, Option.map_none, evl, evn]
               done)
        rintro ⟨b4, b5⟩ -
        simp only [Ent.cs]
        (repeat refine Sat.seq ?_)
        (refine Sat.region_k fun k hk => ?_; simp -implicitDefEqProofs only [evr, id, seval, ent0, ent1, ent2, ent3, ent4, Nat.sub_zero, pfx_ent, Option.map_none, evn])
        refine wcall_plain ((rfCompareC F (es.getD (i - 1) default).pr (es.getD i default).pr (esOk_at h (i - 1)) (esOk_at h i)).of_sim (ent_pr2 _ _)) (by simp -implicitDefEqProofs only [evr, id, seval, ent0, ent1, ent2, ent3, ent4, Nat.sub_zero, pfx_ent, Option.map_none, evn]) (by rintro _ rfl; exact ok_plain rfl) ?_
        rintro r rfl
        simp -implicitDefEqProofs only [evr, id, seval, ent0, ent1, ent2, ent3, ent4, Nat.sub_zero, pfx_ent, Option.map_none, cmpP_pk, evn]
        (refine hk _ ?_; clear hk k; try show Sat _ _ _ _ _)
        (repeat refine Sat.seq ?_)
        refine Sat.region_at ⟨56, [(55, .b (decide (¬ nb (es.getD (i - 1) default) (es.getD i default)))), (3, .i .i64 i), (1, .op 0 b1 0)], [.box b1 25 [.sl ad es.length cap 5 (entRd es)]]⟩ (fun k hk => ?_) ?_
        · simp -implicitDefEqProofs only [evr, id, seval, ent0, ent1, ent2, ent3, ent4, Nat.sub_zero, pfx_ent, Option.map_none, evn]
          have hv := pk_vals (es.getD (i - 1) default) (es.getD i default)
          repeat' (first
            | (with_reducible refine And.intro ?_ ?_)
            | (with_reducible intro hh)
            | (with_reducible refine hk _ ?_
               first
               | (have e9 : decide (¬ nb (es.getD (i - 1) default) (es.getD i default)) = true := by
                    clear hk
                    apply decide_eq_true
                    unfold nb
                    (try simp only [beq_iff_eq, beq_eq_false_iff_ne, decide_eq_true_eq, decide_eq_false_iff_not] at *)
                    omega
                  simp only [e9]
                  simp -implicitDefEqProofs only [evr, id, seval, ent0, ent1, ent2, ent3, ent4, Nat.sub_zero, pfx_ent, Option.map_none, evl, evn]
                  done)
               | (have e9 : decide (¬ nb (es.getD (i - 1) default) (es.getD i default)) = false := by
                    clear hk
                    apply decide_eq_false
                    unfold nb
                    (try simp only [beq_iff_eq, beq_eq_false_iff_ne, decide_eq_true_eq, decide_eq_false_iff_not] at *)
                    omega
                  simp only [e9]
                  simp -implicitDefEqProofs only [evr, id, seval, ent0, ent1, ent2, ent3, ent4, Nat.sub_zero, pfx_ent, Option.map_none, evl, evn]
                  done)
               | (have e9 : decide (¬ nb (es.getD (i - 1) default) (es.getD i default)) = decide ((es.getD i default).from_ < (es.getD (i - 1) default).to_) := by
                    clear hk
                    apply Bool.eq_iff_iff.2
                    unfold nb
                    (try simp only [beq_iff_eq, beq_eq_false_iff_ne, decide_eq_true_eq, decide_eq_false_iff_not] at *)
                    omega
                  simp only [e9]
                  simp -implicitDefEqProofs only [evr, id, seval, ent0, ent1, ent2, ent3, ent4, Nat.sub_zero, pfx_ent, Option.map_none, evl, evn]
                  done)))
        refine Sat.cond_b rfl (fun h5 => ?_) (fun h5 => ?_)
        · simp only [decide_eq_true_eq] at h5
          (repeat refine Sat.seq ?_)
          (refine Sat.region_k fun k hk => ?_; simp -implicitDefEqProofs only [evr, id, seval, ent0, ent1, ent2, ent3, ent4, Nat.sub_zero, pfx_ent, Option.map_none, evn]; refine hk _ ?_; clear hk k; try show Sat _ _ _ _ _)
          refine Sat.ret ?_
          simp only [thenK, blockK, Tryz.results11, evr, id, seval, List.append_nil, Int.toNat_zero, Nat.sub_self, ent0, ent1, ent2, ent3, ent4, Nat.sub_zero, pfx_ent, Option.map_none]
          rw [decide_eq_false (fun h9 : RegOk es => ?_)]
          rcases (h9.2 i hlt).2 with h8 | h8
          · omega
          · exact h5 h8
        · simp only [decide_eq_false_iff_not, Decidable.not_not] at h5
          refine Sat.skip ?_
          simp only [thenK, blockK]
          refine Sat.region_k fun k hk => ?_
          simp -implicitDefEqProofs only [evr, id, seval, ent0, ent1, ent2, ent3, ent4, Nat.sub_zero, pfx_ent, Option.map_none, evn]
          have e1 : IntKind.i64.wrap ((i : Int) + 1) = ((i + 1 : Nat) : Int) := by rw [w64 (by omega)]; omega
          rw [e1]
          refine hk _ ?_
          simp only [thenK, blockK]
          refine ⟨i + 1, ⟨by omega, fun j hj => ?_⟩, by omega, ?_⟩
          · rcases (show j = i ∨ j < i by omega) with rfl | h6
            · exact ⟨h3, .inr h5⟩
            · exact hok j h6
          · simp -implicitDefEqProofs only [evr, id, seval, ent0, ent1, ent2, ent3, ent4, Nat.sub_zero, pfx_ent, Option.map_none, evl, evn]
  · refine Sat.exit ?_
    simp only [thenK, blockK, reduceIte]
    simp only [decide_eq_false_iff_not] at h2
    obtain rfl : i = es.length := by omega
    (repeat refine Sat.seq ?_)
    (refine Sat.region_k fun k hk => ?_; simp -implicitDefEqProofs only [evr, id, seval, ent0, ent1, ent2, ent3, ent4, Nat.sub_zero, pfx_ent, Option.map_none, evn]; refine hk _ ?_; clear hk k; try show Sat _ _ _ _ _)
    refine Sat.ret ?_
    simp only [Tryz.results11, evr, id, seval, List.append_nil, Int.toNat_zero, Nat.sub_self, ent0, ent1, ent2, ent3, ent4, Nat.sub_zero, pfx_ent, Option.map_none]
    have h9 : RegOk es := ⟨by omega, hok⟩
    rw [decide_eq_true h9]
end Go.Proofs.YtepkbbmjbbnhnaaGreatDoor
