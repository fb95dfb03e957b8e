import Derived.Test.YtfeiiadligkamaaGreatPoE

/- Functions that are asked of each result, by the evaluator: slices.IndexFunc, slices.ContainsFunc. -/
set_option linter.unusedSimpArgs false
set_option linter.unusedVariables false
namespace Go.Proofs.YtfeiiadligkamaaGreat
open Go.Sort Eng
def resAsk (g : FuncId) (p : Res → Bool) : Prop := ∀ x F, Contract F Tryz.prog g [resAg x] (fun r => r = .b (p x))
set_option maxRecDepth 100000 in
theorem indexFuncC (F : Frm) (g : FuncId) (cc : Nat → SV) (p : Res → Bool) (hg : resAsk g p) (a : Option Addr) (cap : Nat) (d : Array Res) (hl : d.size ≤ 1000000000) :
  Contract F Tryz.prog 112 [.sl a d.size cap 17 (resRd d), .fn g 0 cc] (fun r => (r = .i .i64 (-1) ∧ ∀ q, q < d.size → p d[q]! = false) ∨ ∃ i : Nat, i < d.size ∧ p d[i]! = true ∧ r = .i .i64 i) := by
 refine contract_of Tryz.func112 rfl (by kernel_rfl) ?_
 simp only [Tryz.ntmps112, argEnv]
 (repeat refine Sat.seq ?_)
 (refine Sat.region_k fun k hk => ?_; simp -implicitDefEqProofs only [evr, id, seval, res_one, resRow, res_ro, evn]; refine hk _ ?_; clear hk k; try show Sat _ _ _ _ _)
 (repeat refine Sat.seq ?_)
 (refine Sat.region_k fun k hk => ?_; simp -implicitDefEqProofs only [evr, id, seval, res_one, resRow, res_ro, evn]; refine hk _ ?_; clear hk k; try show Sat _ _ _ _ _)
 (repeat refine Sat.seq ?_)
 refine Sat.block ?_
 refine Sat.loop (ι := Nat) (fun i => ⟨19, [(8, .i .i64 i), (7, .i .i64 d.size), (0, .sl a d.size cap 17 (resRd d)), (1, .fn g 0 cc)], []⟩)
  (fun i => i ≤ d.size ∧ ∀ q, q < i → p d[q]! = false) (fun i => d.size - i) 0 ⟨Nat.zero_le _, fun q h => by omega⟩ (by simp -implicitDefEqProofs only [evr, id, seval, res_one, resRow, res_ro, evl, evn]; first | rfl | trace_state) ?_
 rintro i ⟨hi, hq⟩
 (repeat refine Sat.seq ?_)
 (refine Sat.region_k fun k hk => ?_; simp -implicitDefEqProofs only [evr, id, seval, res_one, resRow, res_ro, evn]; refine hk _ ?_; clear hk k; try show Sat _ _ _ _ _)
 (repeat refine Sat.seq ?_)
 refine Sat.cond_b rfl (fun h => ?_) (fun h => ?_)
 ·have h1 : i < d.size := by simp only [decide_eq_true_eq] at h; omega
  have e3 : IntKind.i64.wrap ((i : Int) + 1) = ((i + 1 : Nat) : Int) := by rw [w64 (by omega)]; omega
  refine Sat.skip ?_
  simp only [thenK]
  (repeat refine Sat.seq ?_)
  refine Sat.block ?_
  (repeat refine Sat.seq ?_)
  (refine Sat.region_k fun k hk => ?_; simp -implicitDefEqProofs only [evr, id, seval, res_one, resRow, res_ro, evn]; refine hk _ ?_; clear hk k; try show Sat _ _ _ _ _)
  (repeat refine Sat.seq ?_)
  (refine Sat.region_k fun k hk => ?_; simp -implicitDefEqProofs only [evr, id, seval, res_one, resRow, res_ro, evn])
  refine ⟨by omega, ?_⟩
  refine wcall_plain (hg d[i]! F) (by simp -implicitDefEqProofs only [evr, id, seval, res_one, resRow, res_ro, evn]; rfl) (by rintro _ rfl; exact ok_plain rfl) ?_
  rintro r rfl
  simp -implicitDefEqProofs only [evr, id, seval, res_one, resRow, res_ro, evn]
  (refine hk _ ?_; clear hk k; try show Sat _ _ _ _ _)
  refine Sat.cond_b rfl (fun h2 => ?_) (fun h2 => ?_)
  ·(repeat refine Sat.seq ?_)
   (refine Sat.region_k fun k hk => ?_; simp -implicitDefEqProofs only [evr, id, seval, res_one, resRow, res_ro, evn]; refine hk _ ?_; clear hk k; try show Sat _ _ _ _ _)
   refine Sat.ret ?_
   simp only [blockK, Tryz.results112, evr, id, seval, res_one, List.append_nil, Int.toNat_zero, Nat.sub_self, Int.reduceToNat, resRow, res_ro]
   exact .inr ⟨i, h1, h2, rfl⟩
  ·refine Sat.skip ?_
   simp only [thenK, blockK]
   refine Sat.region_k fun k hk => ?_
   simp -implicitDefEqProofs only [evr, id, seval, res_one, resRow, res_ro, e3, evn]
   refine hk _ ?_
   simp only [thenK, blockK]
   refine ⟨i + 1, ⟨h1, fun q hq2 => ?_⟩, by omega, ?_⟩
   ·by_cases e : q = i
    ·subst e; exact h2
    ·exact hq q (by omega)
   ·simp -implicitDefEqProofs only [evr, id, seval, res_one, resRow, res_ro, evl, evn]
 ·have h1 : i = d.size := by simp only [decide_eq_false_iff_not] at h; omega
  subst h1
  refine Sat.exit ?_
  simp only [thenK, blockK, reduceIte]
  (repeat refine Sat.seq ?_)
  (refine Sat.region_k fun k hk => ?_; simp -implicitDefEqProofs only [evr, id, seval, res_one, resRow, res_ro, evn]; refine hk _ ?_; clear hk k; try show Sat _ _ _ _ _)
  refine Sat.ret ?_
  simp only [Tryz.results112, evr, id, seval, res_one, List.append_nil, Int.toNat_zero, Nat.sub_self, Int.reduceToNat, resRow, res_ro]
  exact .inl hq
set_option maxRecDepth 100000 in
theorem containsFuncC (F : Frm) (g : FuncId) (cc : Nat → SV) (p : Res → Bool) (hg : resAsk g p) (a : Option Addr) (cap : Nat) (xs : List Res) (hl : xs.length ≤ 1000000000) :
  Contract F Tryz.prog 81 [.sl a xs.length cap 17 (resRd xs.toArray), .fn g 0 cc] (fun r => r = .b (xs.any p)) := by
 refine contract_of Tryz.func81 rfl (by kernel_rfl) ?_
 simp only [Tryz.ntmps81, argEnv]
 (repeat refine Sat.seq ?_)
 (refine Sat.region_k fun k hk => ?_; simp -implicitDefEqProofs only [evr, id, seval, res_one, resRow, res_ro, evn]; refine hk _ ?_; clear hk k; try show Sat _ _ _ _ _)
 (repeat refine Sat.seq ?_)
 (refine Sat.region_k fun k hk => ?_; simp -implicitDefEqProofs only [evr, id, seval, res_one, resRow, res_ro, evn])
 have hc := indexFuncC F g (fun j => roPtr [] (cc j)) p hg a cap xs.toArray (by simp; omega)
 simp only [List.size_toArray] at hc
 refine wcall_plain hc (by simp -implicitDefEqProofs only [evr, id, seval, res_one, resRow, res_ro, evn]) (by rintro _ (⟨rfl, _⟩ | ⟨i, _, _, rfl⟩) <;> exact ok_plain rfl) ?_
 rintro r (⟨rfl, hno⟩ | ⟨i, hi, hp, rfl⟩)
 ·simp -implicitDefEqProofs only [evr, id, seval, res_one, resRow, res_ro, evn]
  (refine hk _ ?_; clear hk k; try show Sat _ _ _ _ _)
  refine Sat.ret ?_
  simp only [Tryz.results81, evr, id, seval, res_one, List.append_nil, Int.toNat_zero, Nat.sub_self, Int.reduceToNat, resRow, res_ro]
  have : xs.any p = false := by
   rw [List.any_eq_false]
   intro x hx
   obtain ⟨q, hq, rfl⟩ := List.getElem_of_mem hx
   have := hno q hq
   rw [getB hq] at this
   simp [this]
  rw [this]; rfl
 ·simp -implicitDefEqProofs only [evr, id, seval, res_one, resRow, res_ro, evn]
  (refine hk _ ?_; clear hk k; try show Sat _ _ _ _ _)
  refine Sat.ret ?_
  simp only [Tryz.results81, evr, id, seval, res_one, List.append_nil, Int.toNat_zero, Nat.sub_self, Int.reduceToNat, resRow, res_ro]
  have : xs.any p = true := by
   rw [List.any_eq_true]
   exact ⟨xs[i], List.getElem_mem hi, by rw [getB hi] at hp; exact hp⟩
  rw [this]
end Go.Proofs.YtfeiiadligkamaaGreat
