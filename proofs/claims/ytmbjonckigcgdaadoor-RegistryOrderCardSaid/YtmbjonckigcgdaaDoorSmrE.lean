/- The reference of law 32: Same, by the evaluator. -/
import Derived.Test.YtmbjonckigcgdaaDoorRadE
set_option linter.unusedSimpArgs false
set_option linter.unusedVariables false
namespace Go.Proofs.YtmbjonckigcgdaaDoor
open Go.Sort Eng
def entB (x y : Ent) : Bool := [[(x.addr : Int) == y.addr, x.len == y.len].all id, x.prov == y.prov, x.from_ == y.from_, x.to_ == y.to_].all id
theorem entB_iff {x y : Ent} : entB x y = true ↔ x = y := by
  obtain ⟨a, b, c, d, e⟩ := x
  obtain ⟨a', b', c', d', e'⟩ := y
  unfold entB
  simp only [List.all_cons, List.all_nil, id, Bool.and_true, Bool.and_eq_true, beq_iff_eq, Ent.mk.injEq]
  omega
theorem ent_eqA (es fs : List Ent) (i j : Nat) : aggEq Tryd.prog 37 5 (fun p => entRd es i p) 5 (fun p => entRd fs j p) = some (entB (es.getD i default) (fs.getD j default)) := by kernel_rfl
set_option maxRecDepth 100000 in
theorem refSameC (F : Frm) (ad ad' : Option Addr) (cap cap' : Nat) (es fs : List Ent) (hn : es.length ≤ 1000000) :
    Contract F Tryd.prog 22 [regS ad cap es, regS ad' cap' fs] (fun r => r = .b (decide (es = fs))) := by
  refine contract_of Tryd.func22 rfl (by kernel_rfl) ?_
  simp only [Tryd.ntmps22, argEnv, regS]
  (repeat refine Sat.seq ?_)
  (refine Sat.region_k fun k hk => ?_; simp -implicitDefEqProofs only [evr, id, seval, Nat.sub_zero, Option.map_none, ent0, ent1, ent2, ent3, ent4, ent_eqA, evn])
  intro b2 b3
  (refine hk _ ?_; clear hk k; try show Sat _ _ _ _ _)
  (repeat refine Sat.seq ?_)
  (refine Sat.region_k fun k hk => ?_; simp -implicitDefEqProofs only [evr, id, seval, Nat.sub_zero, Option.map_none, ent0, ent1, ent2, ent3, ent4, ent_eqA, evn]; refine hk _ ?_; clear hk k; try show Sat _ _ _ _ _)
  (repeat refine Sat.seq ?_)
  refine Sat.cond_b rfl (fun h => ?_) (fun h => ?_)
  · (repeat refine Sat.seq ?_)
    (refine Sat.region_k fun k hk => ?_; simp -implicitDefEqProofs only [evr, id, seval, Nat.sub_zero, Option.map_none, ent0, ent1, ent2, ent3, ent4, ent_eqA, evn]; refine hk _ ?_; clear hk k; try show Sat _ _ _ _ _)
    refine Sat.ret ?_
    simp only [Tryd.results22, evr, id, seval, List.append_nil, Int.toNat_zero, Nat.sub_self, Nat.sub_zero, Option.map_none, ent0, ent1, ent2, ent3, ent4, ent_eqA]
    have hne : ¬ es = fs := fun e => by simp [e] at h
    rw [decide_eq_false hne]
  · have hlen : es.length = fs.length := by
      have : (es.length : Int) = fs.length := by simpa using h
      omega
    refine Sat.skip ?_
    simp only [thenK]
    (repeat refine Sat.seq ?_)
    (refine Sat.region_k fun k hk => ?_; simp -implicitDefEqProofs only [evr, id, seval, Nat.sub_zero, Option.map_none, ent0, ent1, ent2, ent3, ent4, ent_eqA, evn]; refine hk _ ?_; clear hk k; try show Sat _ _ _ _ _)
    (repeat refine Sat.seq ?_)
    refine Sat.block ?_
    refine Sat.loop (ι := Nat) (fun i => ⟨31, [(5, .i .i64 i), (2, .op 0 b2 0), (3, .op 1 b3 0)], [.box b2 29 [.sl ad es.length cap 5 (entRd es)], .box b3 29 [.sl ad' fs.length cap' 5 (entRd fs)]]⟩)
      (fun i => i ≤ es.length ∧ ∀ j, j < i → es.getD j default = fs.getD j default) (fun i => es.length - i) 0 ⟨Nat.zero_le _, fun j hj => absurd hj (Nat.not_lt_zero _)⟩ (by simp -implicitDefEqProofs only [evr, id, seval, Nat.sub_zero, Option.map_none, ent0, ent1, ent2, ent3, ent4, ent_eqA, evl, evn]; done) ?_
    rintro i ⟨hi, hz⟩
    (repeat refine Sat.seq ?_)
    (refine Sat.region_k fun k hk => ?_; simp -implicitDefEqProofs only [evr, id, seval, Nat.sub_zero, Option.map_none, ent0, ent1, ent2, ent3, ent4, ent_eqA, evn]; refine hk _ ?_; clear hk k; try show Sat _ _ _ _ _)
    (repeat refine Sat.seq ?_)
    refine Sat.cond_b rfl (fun h2 => ?_) (fun h2 => ?_)
    · simp only [decide_eq_true_eq] at h2
      have hlt : i < es.length := by omega
      refine Sat.skip ?_
      simp only [thenK]
      (repeat refine Sat.seq ?_)
      refine Sat.block ?_
      (repeat refine Sat.seq ?_)
      (refine Sat.region_rows [⟨0, 21, 4, 0⟩, ⟨1, 22, 1048576, 1⟩, ⟨0, 23, 32, 0⟩, ⟨6, 24, 6291456, 0⟩, ⟨8, 25, 8388608, 1⟩, ⟨0, 26, 8, 0⟩, ⟨32, 27, 33554432, 1⟩, ⟨0, 28, 32, 0⟩, ⟨192, 29, 201326592, 0⟩, ⟨256, 30, 268435456, 1⟩, ⟨528, 31, 553648128, 0⟩] [0, 2, 5, 7, 1, 6, 3, 8, 4, 9, 10] [] [] (by kernel_rfl) (by kernel_rfl) (fun _ _ h => h) fun k hk => ?_; simp only [List.map_cons, List.map_nil, List.getD_cons_zero, List.getD_cons_succ, btseq_cons, btseq_free, btseq_nil]; simp -implicitDefEqProofs only [evr, id, seval, Nat.sub_zero, Option.map_none, ent0, ent1, ent2, ent3, ent4, ent_eqA, evn])
      refine ⟨by omega, by omega, ?_⟩
      (refine hk _ ?_; clear hk k; try show Sat _ _ _ _ _)
      (repeat refine Sat.seq ?_)
      refine Sat.cond_b rfl (fun h3 => ?_) (fun h3 => ?_)
      · have h4 : ¬ es.getD i default = fs.getD i default := fun e => by
          rw [entB_iff.2 e] at h3
          cases h3
        (repeat refine Sat.seq ?_)
        (refine Sat.region_k fun k hk => ?_; simp -implicitDefEqProofs only [evr, id, seval, Nat.sub_zero, Option.map_none, ent0, ent1, ent2, ent3, ent4, ent_eqA, evn]; refine hk _ ?_; clear hk k; try show Sat _ _ _ _ _)
        refine Sat.ret ?_
        simp only [thenK, blockK, Tryd.results22, evr, id, seval, List.append_nil, Int.toNat_zero, Nat.sub_self, Nat.sub_zero, Option.map_none, ent0, ent1, ent2, ent3, ent4, ent_eqA]
        rw [decide_eq_false (fun e => h4 (by rw [e]))]
      · have h4 : es.getD i default = fs.getD i default := entB_iff.1 (by simpa using h3)
        refine Sat.skip ?_
        simp only [thenK, blockK, reduceIte]
        refine Sat.region_k fun k hk => ?_
        simp -implicitDefEqProofs only [evr, id, seval, Nat.sub_zero, Option.map_none, ent0, ent1, ent2, ent3, ent4, ent_eqA, evn]
        have e1 : IntKind.i64.wrap ((i : Int) + 1) = ((i + 1 : Nat) : Int) := by rw [w64 (by omega)]; omega
        rw [e1]
        refine hk _ ?_
        simp only [thenK, blockK]
        refine ⟨i + 1, ⟨by omega, fun j hj => ?_⟩, by omega, ?_⟩
        · rcases (show j = i ∨ j < i by omega) with rfl | h6
          · exact h4
          · exact hz j h6
        · simp -implicitDefEqProofs only [evr, id, seval, Nat.sub_zero, Option.map_none, ent0, ent1, ent2, ent3, ent4, ent_eqA, evl, evn]
    · simp only [decide_eq_false_iff_not] at h2
      obtain rfl : i = es.length := by omega
      refine Sat.exit ?_
      simp only [thenK, blockK, reduceIte]
      (repeat refine Sat.seq ?_)
      (refine Sat.region_k fun k hk => ?_; simp -implicitDefEqProofs only [evr, id, seval, Nat.sub_zero, Option.map_none, ent0, ent1, ent2, ent3, ent4, ent_eqA, evn]; refine hk _ ?_; clear hk k; try show Sat _ _ _ _ _)
      refine Sat.ret ?_
      simp only [Tryd.results22, evr, id, seval, List.append_nil, Int.toNat_zero, Nat.sub_self, Nat.sub_zero, Option.map_none, ent0, ent1, ent2, ent3, ent4, ent_eqA]
      have e9 : es = fs := List.ext_getElem hlen fun j h5 h6 => by
        have := hz j h5
        rwa [getD_lt h5, getD_lt h6] at this
      rw [decide_eq_true e9]
end Go.Proofs.YtmbjonckigcgdaaDoor
