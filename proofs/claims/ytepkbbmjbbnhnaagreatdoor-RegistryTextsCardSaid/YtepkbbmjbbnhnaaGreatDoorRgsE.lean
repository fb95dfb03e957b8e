/- Entries and registries: valid, compared, looked up, by the evaluator. -/
import Derived.Test.YtepkbbmjbbnhnaaGreatDoorCpaE
import Derived.Test.YtepkbbmjbbnhnaaGreatDoorRmvE
set_option linter.unusedSimpArgs false
set_option linter.unusedVariables false
namespace Go.Proofs.YtepkbbmjbbnhnaaGreatDoor
open Go.Sort Eng
def entS (e : Ent) : SV := .agg 5 fun j => (Ent.cs e).getD j default
def regS (a : Option Addr) (cap : Nat) (es : List Ent) : SV := .agg 1 fun j => [SV.sl a es.length cap 5 (entRd es)].getD j default
def eOk (e : Ent) : Prop := e.addr < 2 ^ 32
def esOk (es : List Ent) : Prop := ∀ e ∈ es, eOk e
theorem esOk_at {es : List Ent} (h : esOk es) (i : Nat) : eOk (es.getD i default) := by
  rcases Nat.lt_or_ge i es.length with h1 | h1
  · rw [getD_lt h1]; exact h _ (List.getElem_mem h1)
  · simp only [List.getD, List.getElem?_eq_none h1, Option.getD_none]; exact (by decide : (0 : Nat) < 2 ^ 32)
theorem entRd_at (es : List Ent) (i : Nat) : (fun j => entRd es i j) = fun j => (Ent.cs (es.getD i default)).getD j default := rfl
theorem ent_pr (e : Ent) : simA [.agg 2 fun j => [SV.i .u32 (e.addr : Nat), .i .i64 e.len, .i .i64 e.prov, .i .i64 e.from_, .i .i64 e.to_].getD j default] [prS e.pr] := by
  exact ⟨sim_agg2 (sim_refl _) (sim_refl _), trivial⟩
set_option maxRecDepth 100000 in
theorem entryOkC (F : Frm) (e : Ent) (he : eOk e) : Contract F Tryz.prog 38 [entS e] (fun r => r = .b (decide (EntOk e))) := by
  refine contract_of Tryz.func38 rfl (by kernel_rfl) ?_
  simp only [Tryz.ntmps38, argEnv, entS, Ent.cs]
  (repeat refine Sat.seq ?_)
  (refine Sat.region_k fun k hk => ?_; simp -implicitDefEqProofs only [evr, id, seval, evn])
  intro b1
  (refine hk _ ?_; clear hk k; try show Sat _ _ _ _ _)
  (repeat refine Sat.seq ?_)
  refine Sat.region_at ⟨33, [(2, .b (decide (EntOk e)))], []⟩ (fun k hk => ?_) ?_
  · simp -implicitDefEqProofs only [evr, id, seval, evn]
    refine wcall_plain ((validC F e.pr he).of_sim (ent_pr e)) (by simp -implicitDefEqProofs only [evr, id, seval, evn]) (by rintro _ rfl; exact ok_plain rfl) ?_
    rintro r rfl
    simp -implicitDefEqProofs only [evr, id, seval, evn]
    repeat' (first
      | (with_reducible refine And.intro ?_ ?_)
      | (with_reducible intro hh)
      | (with_reducible refine hk _ ?_
         first
         | (have e9 : decide (EntOk e) = false := by
              clear hk
              apply decide_eq_false
              rintro ⟨g1, g2, g3, g4, g5, g6⟩
              first
              | (simp_all; done)
              | (simp only [decide_eq_false_iff_not, decide_eq_true_eq] at *; omega)
            simp only [e9]
            simp -implicitDefEqProofs only [evr, id, seval, evl, evn]
            done)
         | (have e9 : decide (EntOk e) = decide (e.to_ ≤ 1125899906842624) := by
              clear hk
              apply Bool.eq_iff_iff.2
              rw [decide_eq_true_eq, decide_eq_true_eq]
              constructor
              · intro h9
                exact h9.2.2.2.2.2
              · intro g6
                exact ⟨by assumption, by assumption, by assumption, by assumption, by assumption, g6⟩
            simp only [e9]
            simp -implicitDefEqProofs only [evr, id, seval, evl, evn]
            done)))
  refine Sat.ret ?_
  simp only [Tryz.results38, evr, id, seval, List.append_nil, Int.toNat_zero, Nat.sub_self]
end Go.Proofs.YtepkbbmjbbnhnaaGreatDoor
