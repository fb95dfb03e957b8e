import Derived.Test.YtfeiiadligkamaaGreatExA
import Derived.Test.YtfeiiadligkamaaGreatEpcE
import Derived.Test.YtfeiiadligkamaaGreatR24H

/- The results of a trace, the limits of Pairs and Mates, by the evaluator: paths.Of, exclusion.check. -/
set_option linter.unusedSimpArgs false
set_option linter.unusedVariables false
namespace Go.Proofs.YtfeiiadligkamaaGreat
open Go.Sort Eng
set_option maxRecDepth 100000 in
theorem pthOfC (F : Frm) (ad : Option Addr) (cap : Nat) (xs : List Res) (t : Tre) (hl : xs.length ≤ 1000000000) (hin : ∀ r ∈ xs, RgR r) :
  ContractN F Tryz.prog 85 [.sl ad xs.length cap 17 (resRd xs.toArray), treAg t] (fun o => ∃ a cap ys, OrdOf xs ys ∧ ys.length ≤ xs.length ∧ o = resRow a (ys.filter (isTre t)).length cap (ys.filter (isTre t)).toArray) := by
 refine contractN_of Tryz.func85 rfl (by kernel_rfl) ?_
 simp only [Tryz.ntmps85, argEnv, treAg, Tre.cs]
 (repeat refine Sat.seq ?_)
 (refine Sat.region_k fun k hk => ?_; simp -implicitDefEqProofs only [evr, id, seval, tre_eql, res_one, resRow, res_ro, evn])
 intro b1
 (refine hk _ ?_; clear hk k; try show Sat _ _ _ _ _)
 (repeat refine Sat.seq ?_)
 (refine Sat.region_k fun k hk => ?_; simp -implicitDefEqProofs only [evr, id, seval, tre_eql, res_one, resRow, res_ro, evn]; refine hk _ ?_; clear hk k; try show Sat _ _ _ _ _)
 (repeat refine Sat.seq ?_)
 (refine Sat.region_k fun k hk => ?_; simp -implicitDefEqProofs only [evr, id, seval, tre_eql, res_one, resRow, res_ro, evn])
 refine wcall_new (orderC F ad cap xs hl hin) rfl rfl ?_
 rintro ra ty len rc sz rrd ⟨a, c, ys, ho, hyl, e⟩
 simp only [resRow, Eng.Own.row.injEq] at e
 obtain ⟨rfl, rfl, rfl, rfl, rfl, rfl⟩ := e
 simp -implicitDefEqProofs only [evr, id, seval, tre_eql, res_one, resRow, res_ro, evn]
 (refine hk _ ?_; clear hk k; try show Sat _ _ _ _ _)
 refine Sat.settle2 9 rfl rfl ?_
 simp -implicitDefEqProofs only [evr, id, seval, tre_eql, res_one, resRow, res_ro, evn]
 refine Sat.adopt 5 62 17 (resRd #[]) rfl ?_
 (repeat refine Sat.seq ?_)
 refine Sat.block ?_
 refine Sat.loop (ι := Nat × Option Addr × Nat × List Res) (fun z => ⟨25, [(11, .i .i64 z.1), (10, .i .i64 ys.length), (5, .os 2 z.2.1 z.2.2.2.length z.2.2.1), (9, .sl ra ys.length rc 17 (resRd ys.toArray)), (3, .op 0 b1 0)], [.box b1 68 (Tre.cs t), .gone, resRow z.2.1 z.2.2.2.length z.2.2.1 z.2.2.2.toArray]⟩)
  (fun z => z.1 ≤ ys.length ∧ z.2.2.2 = (ys.take z.1).filter (isTre t)) (fun z => ys.length - z.1) (0, none, 0, []) ⟨Nat.zero_le _, rfl⟩ (by simp only [Tre.cs]; simp -implicitDefEqProofs only [evr, id, seval, tre_eql, res_one, resRow, res_ro, evl, evn]; first | rfl | trace_state) ?_
 rintro ⟨i, a, c, zs⟩ ⟨hi, hy⟩
 simp only [resRow, Tre.cs] at hi hy ⊢
 have hzl : zs.length ≤ i := by rw [hy]; exact filter_take_len
 (repeat refine Sat.seq ?_)
 (refine Sat.region_k fun k hk => ?_; simp -implicitDefEqProofs only [evr, id, seval, tre_eql, res_one, resRow, res_ro, evn]; refine hk _ ?_; clear hk k; try show Sat _ _ _ _ _)
 (repeat refine Sat.seq ?_)
 refine Sat.cond_b rfl (fun h => ?_) (fun h => ?_)
 ·have h1 : i < ys.length := by simp only [decide_eq_true_eq] at h; omega
  have e2 : IntKind.i64.wrap ((i : Int) + 1) = ((i + 1 : Nat) : Int) := by rw [w64 (by omega)]; omega
  have hstep := filter_take_succ (p := isTre t) h1
  refine Sat.skip ?_
  simp only [thenK]
  (repeat refine Sat.seq ?_)
  refine Sat.block ?_
  (repeat refine Sat.seq ?_)
  (refine Sat.region_k fun k hk => ?_; simp -implicitDefEqProofs only [evr, id, seval, tre_eql, res_one, resRow, res_ro, evn])
  refine ⟨by omega, fun b2 => ?_⟩
  (refine hk _ ?_; clear hk k; try show Sat _ _ _ _ _)
  (repeat refine Sat.seq ?_)
  (refine Sat.region_qk (by kernel_rfl) (by kernel_rfl) fun k hk => ?_; simp -implicitDefEqProofs only [evr, id, seval, tre_eql, res_one, resRow, res_ro, evn])
  refine qcall (traceOfC Frm.nil ys.toArray[i]!) rfl (trcAg_ok _) ?_
  simp only [trcAg, evr, id, seval, tre_eql, res_one, List.append_nil, Int.toNat_zero, Nat.sub_self, Int.reduceToNat, resRow, res_ro]
  (refine hk _ ?_; clear hk k; try show Sat _ _ _ _ _)
  (repeat refine Sat.seq ?_)
  refine Sat.cond_b rfl (fun h2 => ?_) (fun h2 => ?_)
  ·(repeat refine Sat.seq ?_)
   (refine Sat.region_k fun k hk => ?_; simp -implicitDefEqProofs only [evr, id, seval, tre_eql, res_one, resRow, res_ro, evn])
   refine fun b3 => ⟨⟨by unfold maxLen; omega, by omega⟩, fun a2 cap2 => ?_⟩
   (refine hk _ ?_; clear hk k; try show Sat _ _ _ _ _)
   refine Sat.region_k fun k hk => ?_
   simp -implicitDefEqProofs only [evr, id, seval, tre_eql, res_one, resRow, res_ro, e2, evn]
   refine hk _ ?_
   simp only [thenK, blockK]
   have e3 : zs ++ [ys[i]] = (ys.take (i + 1)).filter (isTre t) := by
    rw [getB h1] at h2
    rw [hstep, ← hy, if_pos (by exact h2)]
   refine ⟨(i + 1, a2, cap2, zs ++ [ys[i]]), ⟨by simp only; omega, e3⟩, by simp only; omega, ?_⟩
   simp only [List.length_append, List.length_singleton]
   simp -implicitDefEqProofs only [evr, id, seval, tre_eql, res_one, resRow, res_ro, evl, evn]
   exact res_app (res_cs h1)
  ·refine Sat.skip ?_
   simp only [thenK, blockK]
   refine Sat.region_k fun k hk => ?_
   simp -implicitDefEqProofs only [evr, id, seval, tre_eql, res_one, resRow, res_ro, e2, evn]
   refine hk _ ?_
   simp only [thenK, blockK]
   refine ⟨(i + 1, a, c, zs), ⟨by simp only; omega, ?_⟩, by simp only; omega, ?_⟩
   ·rw [getB h1] at h2
    simp only
    rw [hstep, ← hy, if_neg (by intro hh; rw [show isTre t ys[i] = false from h2] at hh; cases hh), List.append_nil]
   ·simp -implicitDefEqProofs only [evr, id, seval, tre_eql, res_one, resRow, res_ro, evl, evn]
 ·have h1 : i = ys.length := by simp only [decide_eq_false_iff_not] at h; omega
  have hzs : zs = ys.filter (isTre t) := by rw [hy, h1, List.take_length]
  refine Sat.exit ?_
  simp only [thenK, blockK, reduceIte]
  (repeat refine Sat.seq ?_)
  (refine Sat.region_k fun k hk => ?_; simp -implicitDefEqProofs only [evr, id, seval, tre_eql, res_one, resRow, res_ro, evn]; refine hk _ ?_; clear hk k; try show Sat _ _ _ _ _)
  refine Sat.ret ?_
  simp only [Tryz.results85, evr, id, seval, tre_eql, res_one, List.append_nil, Int.toNat_zero, Nat.sub_self, Int.reduceToNat, resRow, res_ro, retN, retNK, newRow]
  refine ⟨⟨rfl, rfl, rfl⟩, a, c, ys, ho, hyl, ?_⟩
  rw [← hzs]
set_option maxRecDepth 100000 in
theorem chkFnC : resAsk 82 (fun x => !validR x) := by
 intro x F
 refine contract_of Tryz.func82 rfl (by kernel_rfl) ?_
 simp only [Tryz.ntmps82, argEnv, resAg, Res.cs]
 (repeat refine Sat.seq ?_)
 (refine Sat.region_k fun k hk => ?_; simp -implicitDefEqProofs only [evr, id, seval, tre_eql, res_one, resRow, res_ro, evn])
 intro blk2
 (refine hk _ ?_; clear hk k; try show Sat _ _ _ _ _)
 (repeat refine Sat.seq ?_)
 (refine Sat.region_k fun k hk => ?_; simp -implicitDefEqProofs only [evr, id, seval, tre_eql, res_one, resRow, res_ro, evn])
 refine wcall_plain (validC F x) rfl (by rintro _ rfl; exact ok_plain rfl) ?_
 rintro r rfl
 simp -implicitDefEqProofs only [evr, id, seval, tre_eql, res_one, resRow, res_ro, evn]
 (refine hk _ ?_; clear hk k; try show Sat _ _ _ _ _)
 refine Sat.ret ?_
 simp only [Tryz.results82, evr, id, seval, tre_eql, res_one, List.append_nil, Int.toNat_zero, Nat.sub_self, Int.reduceToNat, resRow, res_ro]
set_option maxRecDepth 100000 in
theorem exCheckC (F : Frm) (ad : Option Addr) (cap : Nat) (xs : List Res) (hl : xs.length ≤ 512) (hin : ∀ r ∈ xs, RgR r) :
  Contract F Tryz.prog 44 [.sl ad xs.length cap 17 (resRd xs.toArray)] (fun r => r = .i .i64 (if xs.any (fun x => !validR x) = true then 1 else 0)) := by
 refine contract_of Tryz.func44 rfl (by kernel_rfl) ?_
 simp only [Tryz.ntmps44, argEnv]
 (repeat refine Sat.seq ?_)
 (refine Sat.region_k fun k hk => ?_; simp -implicitDefEqProofs only [evr, id, seval, tre_eql, res_one, resRow, res_ro, evn]; refine hk _ ?_; clear hk k; try show Sat _ _ _ _ _)
 (repeat refine Sat.seq ?_)
 refine Sat.block ?_
 (repeat refine Sat.seq ?_)
 (refine Sat.region_k fun k hk => ?_; simp -implicitDefEqProofs only [evr, id, seval, tre_eql, res_one, resRow, res_ro, evn])
 refine wcall_plain (containsFuncC F _ _ _ chkFnC ad cap xs (by omega)) (by simp -implicitDefEqProofs only [evr, id, seval, tre_eql, res_one, resRow, res_ro, evn]; try rfl) (by rintro _ rfl; exact ok_plain rfl) ?_
 rintro r rfl
 simp -implicitDefEqProofs only [evr, id, seval, tre_eql, res_one, resRow, res_ro, evn]
 (refine hk _ ?_; clear hk k; try show Sat _ _ _ _ _)
 (repeat refine Sat.seq ?_)
 refine Sat.cond_b rfl (fun h => ?_) (fun h => ?_)
 ·(repeat refine Sat.seq ?_)
  (refine Sat.region_k fun k hk => ?_; simp -implicitDefEqProofs only [evr, id, seval, tre_eql, res_one, resRow, res_ro, evn]; refine hk _ ?_; clear hk k; try show Sat _ _ _ _ _)
  refine Sat.ret ?_
  simp only [blockK, Tryz.results44, evr, id, seval, tre_eql, res_one, List.append_nil, Int.toNat_zero, Nat.sub_self, Int.reduceToNat, resRow, res_ro]
  rw [if_pos h]
 ·(repeat refine Sat.seq ?_)
  (refine Sat.region_k fun k hk => ?_; simp -implicitDefEqProofs only [evr, id, seval, tre_eql, res_one, resRow, res_ro, evn])
  refine wcall_new (orderC F ad cap xs (by omega) hin) rfl rfl ?_
  rintro ra ty len rc sz rrd ⟨a, c, ys, ho, hyl, e⟩
  simp only [resRow, Eng.Own.row.injEq] at e
  obtain ⟨rfl, rfl, rfl, rfl, rfl, rfl⟩ := e
  simp -implicitDefEqProofs only [evr, id, seval, tre_eql, res_one, resRow, res_ro, evn]
  (refine hk _ ?_; clear hk k; try show Sat _ _ _ _ _)
  (repeat refine Sat.seq ?_)
  refine Sat.cond_b rfl (fun h2 => ?_) (fun h2 => ?_)
  ·simp only [decide_eq_true_eq] at h2
   omega
  refine Sat.skip ?_
  simp only [thenK, blockK, reduceIte]
  (repeat refine Sat.seq ?_)
  (refine Sat.region_k fun k hk => ?_; simp -implicitDefEqProofs only [evr, id, seval, tre_eql, res_one, resRow, res_ro, evn]; refine hk _ ?_; clear hk k; try show Sat _ _ _ _ _)
  refine Sat.ret ?_
  simp only [Tryz.results44, evr, id, seval, tre_eql, res_one, List.append_nil, Int.toNat_zero, Nat.sub_self, Int.reduceToNat, resRow, res_ro]
  rw [if_neg (by rw [h]; simp)]
end Go.Proofs.YtfeiiadligkamaaGreat
