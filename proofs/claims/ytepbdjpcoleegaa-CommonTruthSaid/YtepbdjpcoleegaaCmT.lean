/- CommonTruth: in a network in which only the owner of an address answers, both addresses of a pair belong to one node. The law holds of every input. -/
import Derived.Test.YtepbdjpcoleegaaPk4
import Derived.Test.YtepbdjpcoleegaaPk3
import Derived.Test.YtepbdjpcoleegaaWalkE
import Derived.Test.YtepbdjpcoleegaaShCommonTruth
set_option linter.unusedSimpArgs false
set_option linter.unusedVariables false
namespace Go.Proofs.Ytepbdjpcoleegaa
open Go.Sort Eng
def nodeV (z : List Int) (x : Int) : Int := if x < (z.length : Int) then (z.getD x.toNat 0).tmod 4 else 0
set_option maxRecDepth 100000 in
theorem nodeC (F : Frm) (a : Option Addr) (cap : Nat) (z : List Int) (hz : ∀ n ∈ z, (Lit.int .u8 n).wf = true) (blk : Nat) (rd : Nat → SV) (hrd : rd 0 = slB a cap z) (x : Int) (hx : 0 ≤ x ∧ x < 4294967296) :
  Contract F Try.prog 13 [.i .u32 x, .el ⟨blk, 0, none⟩ 1 rd] (fun r => r = .i .i64 (nodeV z x)) := by
 refine contract_of Try.func13 rfl (by kernel_rfl) ?_
 simp only [Try.ntmps13, argEnv]
 have e1 : IntKind.i64.wrap x = x := w64 (by omega)
 (repeat refine Sat.seq ?_)
 (refine Sat.region_k fun k hk => ?_; simp -implicitDefEqProofs only [evr, id, seval, ptr, res_one, par_one, idn_one, idn_0, idn_1, idn_2, resRow, res_ro, rExtract_tup, par_eq, ev_0, ev_1, ev_2, ev_3, evn]; refine hk _ ?_; clear hk k; try show Sat _ _ _ _ _)
 (repeat refine Sat.seq ?_)
 (refine Sat.region_k fun k hk => ?_; simp -implicitDefEqProofs only [evr, id, seval, ptr, res_one, par_one, idn_one, idn_0, idn_1, idn_2, resRow, res_ro, rExtract_tup, par_eq, ev_0, ev_1, ev_2, ev_3, evn])
 simp only [e1, hrd, slB, evr, id, reduceCtorEq, reduceIte, Nat.reduceMul, Nat.reduceAdd, Nat.reduceLT, Nat.reduceLeDiff, Nat.reduceEqDiff, Int.reduceLT, Int.reduceBEq, Int.reduceBNe, Nat.reduceBEq, ptr, res_one, par_one, idn_one, idn_0, idn_1, idn_2, List.append_nil, Int.toNat_zero, Nat.sub_self, Int.reduceToNat, resRow, res_ro, rExtract_tup, par_eq, ev_0, ev_1, ev_2, ev_3]
 (refine hk _ ?_; clear hk k; try show Sat _ _ _ _ _)
 refine Sat.cond_b rfl (fun h => ?_) (fun h => ?_)
 ·have h1 : x < (z.length : Int) := by simpa using h
  have hn := bounds_u8 (hz (z.getD x.toNat 0) (getD_mem (by omega)))
  have e2 : IntKind.i64.wrap (z.getD x.toNat 0) = z.getD x.toNat 0 := w64 (by omega)
  (repeat refine Sat.seq ?_)
  (refine Sat.region_k fun k hk => ?_; simp -implicitDefEqProofs only [evr, id, seval, ptr, res_one, par_one, idn_one, idn_0, idn_1, idn_2, resRow, res_ro, rExtract_tup, par_eq, ev_0, ev_1, ev_2, ev_3, evn])
  simp only [hrd, slB, evr, id, reduceCtorEq, reduceIte, Nat.reduceMul, Nat.reduceAdd, Nat.reduceLT, Nat.reduceLeDiff, Nat.reduceEqDiff, Int.reduceLT, Int.reduceBEq, Int.reduceBNe, Nat.reduceBEq, ptr, res_one, par_one, idn_one, idn_0, idn_1, idn_2, List.append_nil, Int.toNat_zero, Nat.sub_self, Int.reduceToNat, resRow, res_ro, rExtract_tup, par_eq, ev_0, ev_1, ev_2, ev_3, e2]
  refine ⟨by omega, by decide, ?_⟩
  (refine hk _ ?_; clear hk k; try show Sat _ _ _ _ _)
  refine Sat.ret ?_
  simp only [Try.results13, evr, id, reduceCtorEq, reduceIte, Nat.reduceMul, Nat.reduceAdd, Nat.reduceLT, Nat.reduceLeDiff, Nat.reduceEqDiff, Int.reduceLT, Int.reduceBEq, Int.reduceBNe, Nat.reduceBEq, ptr, res_one, par_one, idn_one, idn_0, idn_1, idn_2, List.append_nil, Int.toNat_zero, Nat.sub_self, Int.reduceToNat, resRow, res_ro, rExtract_tup, par_eq, ev_0, ev_1, ev_2, ev_3]
  unfold nodeV
  rw [if_pos h1]
 have h1 : ¬ x < (z.length : Int) := by simpa using h
 refine Sat.skip ?_
 simp only [thenK]
 (repeat refine Sat.seq ?_)
 (refine Sat.region_k fun k hk => ?_; simp -implicitDefEqProofs only [evr, id, seval, ptr, res_one, par_one, idn_one, idn_0, idn_1, idn_2, resRow, res_ro, rExtract_tup, par_eq, ev_0, ev_1, ev_2, ev_3, evn]; refine hk _ ?_; clear hk k; try show Sat _ _ _ _ _)
 refine Sat.ret ?_
 simp only [Try.results13, evr, id, reduceCtorEq, reduceIte, Nat.reduceMul, Nat.reduceAdd, Nat.reduceLT, Nat.reduceLeDiff, Nat.reduceEqDiff, Int.reduceLT, Int.reduceBEq, Int.reduceBNe, Nat.reduceBEq, ptr, res_one, par_one, idn_one, idn_0, idn_1, idn_2, List.append_nil, Int.toNat_zero, Nat.sub_self, Int.reduceToNat, resRow, res_ro, rExtract_tup, par_eq, ev_0, ev_1, ev_2, ev_3]
 unfold nodeV
 rw [if_neg h1]
theorem res_appS {ys : List Res} {x : Res} {cs : List SV} (h : simA cs (Res.cs x)) : ∀ i j, i < ys.length + 1 → j < 17 → sim (rdCat ys.length (resRd ys.toArray) (rdL cs 17) i j) (resRd (ys ++ [x]).toArray i j) := by
 intro i j hi hj
 unfold rdCat
 by_cases e : i < ys.length
 ·rw [if_pos e]
  have : resRd ys.toArray i j = resRd (ys ++ [x]).toArray i j := by unfold resRd; simp [getElem!_def, List.getElem?_append, e]
  rw [this]
  exact sim_refl _
 ·obtain rfl : i = ys.length := by omega
  rw [if_neg e]
  have e1 : resRd (ys ++ [x]).toArray ys.length j = (Res.cs x).getD j default := by unfold resRd; simp [getElem!_def]
  have e2 : rdL cs 17 (ys.length - ys.length) j = cs.getD j default := by unfold rdL; simp
  rw [e1, e2]
  exact simA_getD h j
structure OwnedR (y : List Int) (r : Res) : Prop where
 rg : RgR r
 val : validR r = true
 node : nodeV y r.dst = nodeV y r.from_
 ttl : r.ttl = 5
 da : 0 ≤ r.dst ∧ r.dst < 4294967296
 fa : 0 ≤ r.from_ ∧ r.from_ < 4294967296
theorem owned_pair {y : List Int} {xs : List Res} {es : List Evd} (h : PairsOf xs es) (hx : ∀ r ∈ xs, OwnedR y r) {e : Evd} (he : e ∈ es) : (0 ≤ e.a ∧ e.a < 4294967296) ∧ (0 ≤ e.b ∧ e.b < 4294967296) ∧ nodeV y e.a = nodeV y e.b := by
 obtain ⟨r, hr, h1⟩ := (h.prs e.pr).1 (List.mem_map.2 ⟨e, he, rfl⟩)
 obtain ⟨_, _, g3, _, g4, g5⟩ := hx r hr
 unfold showR at h1
 split at h1
 ·have h2 := Option.some.inj h1
  have ha : e.a = min r.dst r.from_ := (congrArg Par.a h2).symm
  have hb : e.b = max r.dst r.from_ := (congrArg Par.b h2).symm
  rw [ha, hb]
  rcases Int.le_total r.dst r.from_ with h5 | h5
  ·rw [Int.min_eq_left h5, Int.max_eq_right h5]; exact ⟨g4, g5, g3⟩
  ·rw [Int.min_eq_right h5, Int.max_eq_left h5]; exact ⟨g5, g4, g3.symm⟩
 ·cases h1
set_option maxRecDepth 100000 in
theorem usableG (F : Frm) (x : Res) : Contract F Try.prog 58 [resAg x] (fun r => r = .b (usableR x)) := by
 refine contract_of Try.func58 rfl (by kernel_rfl) ?_
 simp only [Try.ntmps58, argEnv, resAg, Res.cs]
 (repeat refine Sat.seq ?_)
 (refine Sat.region_k fun k hk => ?_; simp -implicitDefEqProofs only [evr, id, seval, ptr, res_one, par_one, idn_one, idn_0, idn_1, idn_2, resRow, res_ro, rExtract_tup, par_eq, ev_0, ev_1, ev_2, ev_3, evn])
 intro blk1
 (refine hk _ ?_; clear hk k; try show Sat _ _ _ _ _)
 (repeat refine Sat.seq ?_)
 refine Sat.at ⟨10, [(2, .b (usableR x))], []⟩ ?_ ?_
 ·(refine Sat.region_k fun k hk => ?_; simp -implicitDefEqProofs only [evr, id, seval, ptr, res_one, par_one, idn_one, idn_0, idn_1, idn_2, resRow, res_ro, rExtract_tup, par_eq, ev_0, ev_1, ev_2, ev_3, evn])
  refine wcall_plain (validG F x) rfl (by rintro _ rfl; exact ok_plain rfl) ?_
  rintro r rfl
  simp -implicitDefEqProofs only [evr, id, seval, ptr, res_one, par_one, idn_one, idn_0, idn_1, idn_2, resRow, res_ro, rExtract_tup, par_eq, ev_0, ev_1, ev_2, ev_3, evn]
  refine ⟨fun h1 => hk _ ?_, fun h1 => hk _ ?_⟩
  ·have e : usableR x = !x.doubled := by simp only [usableR, h1, Bool.and_true]
   simp only [thenK, e]
   simp -implicitDefEqProofs only [evr, id, seval, ptr, res_one, par_one, idn_one, idn_0, idn_1, idn_2, resRow, res_ro, rExtract_tup, par_eq, ev_0, ev_1, ev_2, ev_3, evl, evn]
  ·have e : usableR x = false := by simp only [usableR, h1, Bool.and_false]
   simp only [thenK, e]
   simp -implicitDefEqProofs only [evr, id, seval, ptr, res_one, par_one, idn_one, idn_0, idn_1, idn_2, resRow, res_ro, rExtract_tup, par_eq, ev_0, ev_1, ev_2, ev_3, evl, evn]
 simp only [thenK, blockK]
 refine Sat.ret ?_
 simp only [Try.results58, evr, id, reduceCtorEq, reduceIte, Nat.reduceMul, Nat.reduceAdd, Nat.reduceLT, Nat.reduceLeDiff, Nat.reduceEqDiff, Int.reduceLT, Int.reduceBEq, Int.reduceBNe, Nat.reduceBEq, ptr, res_one, par_one, idn_one, idn_0, idn_1, idn_2, List.append_nil, Int.toNat_zero, Nat.sub_self, Int.reduceToNat, resRow, res_ro, rExtract_tup, par_eq, ev_0, ev_1, ev_2, ev_3]
set_option maxRecDepth 100000 in
theorem finalG (F : Frm) (x : Res) : Contract F Try.prog 40 [resAg x] (fun r => ∃ b, r = .b b) := by
 refine contract_of Try.func40 rfl (by kernel_rfl) ?_
 simp only [Try.ntmps40, argEnv, resAg, Res.cs]
 (repeat refine Sat.seq ?_)
 (refine Sat.region_k fun k hk => ?_; simp -implicitDefEqProofs only [evr, id, seval, ptr, res_one, par_one, idn_one, idn_0, idn_1, idn_2, resRow, res_ro, rExtract_tup, par_eq, ev_0, ev_1, ev_2, ev_3, evn])
 intro b1
 (refine hk _ ?_; clear hk k; try show Sat _ _ _ _ _)
 (repeat refine Sat.seq ?_)
 refine Sat.joinK (ι := Bool) (fun q => ⟨15, [(2, .b q)], []⟩) (fun _ => True) (fun hrest => ?_) ?_
 ·(refine Sat.region_k fun k hk => ?_; simp -implicitDefEqProofs only [evr, id, seval, ptr, res_one, par_one, idn_one, idn_0, idn_1, idn_2, resRow, res_ro, rExtract_tup, par_eq, ev_0, ev_1, ev_2, ev_3, evn])
  refine wcall_plain (usableG F x) (by simp only [resAg, Res.cs, evr, id, reduceCtorEq, reduceIte, Nat.reduceMul, Nat.reduceAdd, Nat.reduceLT, Nat.reduceLeDiff, Nat.reduceEqDiff, Int.reduceLT, Int.reduceBEq, Int.reduceBNe, Nat.reduceBEq, ptr, res_one, par_one, idn_one, idn_0, idn_1, idn_2, List.append_nil, Int.toNat_zero, Nat.sub_self, Int.reduceToNat, resRow, res_ro, rExtract_tup, par_eq, ev_0, ev_1, ev_2, ev_3]; try rfl) (by rintro _ rfl; exact ok_plain rfl) ?_
  rintro r rfl
  simp -implicitDefEqProofs only [evr, id, seval, ptr, res_one, par_one, idn_one, idn_0, idn_1, idn_2, resRow, res_ro, rExtract_tup, par_eq, ev_0, ev_1, ev_2, ev_3, evn]
  refine ⟨fun g1 => ⟨fun g2 => ?_, fun g2 => ?_⟩, fun g1 => ?_⟩
  ·refine hk _ ?_
   simp only [thenK]
   refine (hrest (x.kind != 1) trivial).le ?_
   simp -implicitDefEqProofs only [evr, id, seval, ptr, res_one, par_one, idn_one, idn_0, idn_1, idn_2, resRow, res_ro, rExtract_tup, par_eq, ev_0, ev_1, ev_2, ev_3, evl, evn]
  ·refine hk _ ?_
   simp only [thenK]
   refine (hrest false trivial).le ?_
   simp -implicitDefEqProofs only [evr, id, seval, ptr, res_one, par_one, idn_one, idn_0, idn_1, idn_2, resRow, res_ro, rExtract_tup, par_eq, ev_0, ev_1, ev_2, ev_3, evl, evn]
  ·refine hk _ ?_
   simp only [thenK]
   refine (hrest false trivial).le ?_
   simp -implicitDefEqProofs only [evr, id, seval, ptr, res_one, par_one, idn_one, idn_0, idn_1, idn_2, resRow, res_ro, rExtract_tup, par_eq, ev_0, ev_1, ev_2, ev_3, evl, evn]
 rintro q -
 refine Sat.ret ?_
 simp only [Try.results40, evr, id, reduceCtorEq, reduceIte, Nat.reduceMul, Nat.reduceAdd, Nat.reduceLT, Nat.reduceLeDiff, Nat.reduceEqDiff, Int.reduceLT, Int.reduceBEq, Int.reduceBNe, Nat.reduceBEq, ptr, res_one, par_one, idn_one, idn_0, idn_1, idn_2, List.append_nil, Int.toNat_zero, Nat.sub_self, Int.reduceToNat, resRow, res_ro, rExtract_tup, par_eq, ev_0, ev_1, ev_2, ev_3]
 exact ⟨_, rfl⟩
set_option maxRecDepth 100000 in
theorem endG (F : Frm) (a : Option Addr) (cap : Nat) (xs : List Res) (hl : xs.length ≤ 1000) (ht : ∀ r ∈ xs, r.ttl = 5) :
  Contract F Try.prog 14 [.sl a xs.length cap 17 (resRd xs.toArray)] (fun r => ∃ v : Int, v ≤ 5 ∧ r = .i .i64 v) := by
 refine contract_of Try.func14 rfl (by kernel_rfl) ?_
 simp only [Try.ntmps14, argEnv]
 (repeat refine Sat.seq ?_)
 (refine Sat.region_k fun k hk => ?_; simp -implicitDefEqProofs only [evr, id, seval, ptr, res_one, par_one, idn_one, idn_0, idn_1, idn_2, resRow, res_ro, rExtract_tup, par_eq, ev_0, ev_1, ev_2, ev_3, evn]; refine hk _ ?_; clear hk k; try show Sat _ _ _ _ _)
 (repeat refine Sat.seq ?_)
 (refine Sat.region_k fun k hk => ?_; simp -implicitDefEqProofs only [evr, id, seval, ptr, res_one, par_one, idn_one, idn_0, idn_1, idn_2, resRow, res_ro, rExtract_tup, par_eq, ev_0, ev_1, ev_2, ev_3, evn]; refine hk _ ?_; clear hk k; try show Sat _ _ _ _ _)
 (repeat refine Sat.seq ?_)
 (refine Sat.region_k fun k hk => ?_; simp -implicitDefEqProofs only [evr, id, seval, ptr, res_one, par_one, idn_one, idn_0, idn_1, idn_2, resRow, res_ro, rExtract_tup, par_eq, ev_0, ev_1, ev_2, ev_3, evn]; refine hk _ ?_; clear hk k; try show Sat _ _ _ _ _)
 (repeat refine Sat.seq ?_)
 refine Sat.block ?_
 refine Sat.loop (ι := Nat × Int) (fun z => ⟨35, [(4, .i .i64 z.1), (3, .i .i64 z.2), (0, .sl a xs.length cap 17 (resRd xs.toArray))], []⟩)
  (fun z => z.1 ≤ xs.length ∧ z.2 ≤ 5) (fun z => xs.length - z.1) (0, 0) ⟨Nat.zero_le _, by decide⟩ (by simp -implicitDefEqProofs only [evr, id, seval, ptr, res_one, par_one, idn_one, idn_0, idn_1, idn_2, resRow, res_ro, rExtract_tup, par_eq, ev_0, ev_1, ev_2, ev_3, evl, evn]; try rfl) ?_
 rintro ⟨i, v⟩ ⟨hi, hv⟩
 simp only at hi hv ⊢
 (repeat refine Sat.seq ?_)
 (refine Sat.region_k fun k hk => ?_; simp -implicitDefEqProofs only [evr, id, seval, ptr, res_one, par_one, idn_one, idn_0, idn_1, idn_2, resRow, res_ro, rExtract_tup, par_eq, ev_0, ev_1, ev_2, ev_3, evn]; refine hk _ ?_; clear hk k; try show Sat _ _ _ _ _)
 (repeat refine Sat.seq ?_)
 refine Sat.cond_b rfl (fun h => ?_) (fun h => ?_)
 ·have h1 : i < xs.length := by simp only [decide_eq_true_eq] at h; omega
  have e2 : IntKind.i64.wrap ((i : Int) + 1) = ((i + 1 : Nat) : Int) := by rw [w64 (by omega)]; omega
  obtain ⟨x, hx⟩ : ∃ x, x = xs.toArray[i]! := ⟨_, rfl⟩
  have hxm : x ∈ xs := by rw [hx]; simp [getElem!_def, h1]
  have hx5 := ht x hxm
  refine Sat.skip ?_
  simp only [thenK]
  (repeat refine Sat.seq ?_)
  refine Sat.block ?_
  (repeat refine Sat.seq ?_)
  refine Sat.joinK (ι := Bool) (fun q => ⟨35, [(28, .b q), (4, .i .i64 i), (3, .i .i64 v), (0, .sl a xs.length cap 17 (resRd xs.toArray))], []⟩) (fun _ => True) (fun hrest => ?_) ?_
  ·(refine Sat.region_k fun k hk => ?_; simp -implicitDefEqProofs only [evr, id, seval, ptr, res_one, par_one, idn_one, idn_0, idn_1, idn_2, resRow, res_ro, rExtract_tup, par_eq, ev_0, ev_1, ev_2, ev_3, evn])
   refine ⟨by omega, ?_⟩
   refine wcall_plain (finalG F xs.toArray[i]!) rfl (by rintro _ ⟨b, rfl⟩; exact ok_plain rfl) ?_
   rintro r ⟨b, rfl⟩
   have q7 : resRd xs.toArray i 7 = .i .i64 5 := by rw [← hx5, hx]; rfl
   simp -implicitDefEqProofs only [evr, id, seval, ptr, res_one, par_one, idn_one, idn_0, idn_1, idn_2, resRow, res_ro, rExtract_tup, par_eq, ev_0, ev_1, ev_2, ev_3, q7, evn]
   refine ⟨fun g1 => ⟨fun g2 => ?_, fun g2 => ⟨by omega, ?_⟩⟩, fun g1 => ?_⟩
   ·refine hk _ ?_
    simp only [thenK]
    refine (hrest true trivial).le ?_
    simp -implicitDefEqProofs only [evr, id, seval, ptr, res_one, par_one, idn_one, idn_0, idn_1, idn_2, resRow, res_ro, rExtract_tup, par_eq, ev_0, ev_1, ev_2, ev_3, evl, evn]
   ·refine hk _ ?_
    simp only [thenK]
    refine (hrest (decide (5 < v)) trivial).le ?_
    simp -implicitDefEqProofs only [evr, id, seval, ptr, res_one, par_one, idn_one, idn_0, idn_1, idn_2, resRow, res_ro, rExtract_tup, par_eq, ev_0, ev_1, ev_2, ev_3, evl, evn]
   ·refine hk _ ?_
    simp only [thenK]
    refine (hrest false trivial).le ?_
    simp -implicitDefEqProofs only [evr, id, seval, ptr, res_one, par_one, idn_one, idn_0, idn_1, idn_2, resRow, res_ro, rExtract_tup, par_eq, ev_0, ev_1, ev_2, ev_3, evl, evn]
  rintro q -
  have q7 : resRd xs.toArray i 7 = .i .i64 5 := by rw [← hx5, hx]; rfl
  (repeat refine Sat.seq ?_)
  refine Sat.cond_b rfl (fun h => ?_) (fun h => ?_)
  ·(repeat refine Sat.seq ?_)
   (refine Sat.region_k fun k hk => ?_; simp -implicitDefEqProofs only [evr, id, seval, ptr, res_one, par_one, idn_one, idn_0, idn_1, idn_2, resRow, res_ro, rExtract_tup, par_eq, ev_0, ev_1, ev_2, ev_3, evn])
   simp only [q7]
   refine ⟨by omega, hk _ ?_⟩
   simp only [thenK, blockK, reduceIte]
   refine Sat.region_k fun k hk => ?_
   simp -implicitDefEqProofs only [evr, id, seval, ptr, res_one, par_one, idn_one, idn_0, idn_1, idn_2, resRow, res_ro, rExtract_tup, par_eq, ev_0, ev_1, ev_2, ev_3, e2, evn]
   refine hk _ ?_
   simp only [thenK, blockK]
   refine ⟨(i + 1, 5), ⟨by simp only; omega, Int.le_refl 5⟩, by simp only; omega, ?_⟩
   simp -implicitDefEqProofs only [evr, id, seval, ptr, res_one, par_one, idn_one, idn_0, idn_1, idn_2, resRow, res_ro, rExtract_tup, par_eq, ev_0, ev_1, ev_2, ev_3, evl, evn]
  ·refine Sat.skip ?_
   simp only [thenK, blockK, reduceIte]
   refine Sat.region_k fun k hk => ?_
   simp -implicitDefEqProofs only [evr, id, seval, ptr, res_one, par_one, idn_one, idn_0, idn_1, idn_2, resRow, res_ro, rExtract_tup, par_eq, ev_0, ev_1, ev_2, ev_3, e2, evn]
   refine hk _ ?_
   simp only [thenK, blockK]
   refine ⟨(i + 1, v), ⟨by simp only; omega, hv⟩, by simp only; omega, ?_⟩
   simp -implicitDefEqProofs only [evr, id, seval, ptr, res_one, par_one, idn_one, idn_0, idn_1, idn_2, resRow, res_ro, rExtract_tup, par_eq, ev_0, ev_1, ev_2, ev_3, evl, evn]
 refine Sat.exit ?_
 simp only [thenK, blockK, reduceIte]
 (repeat refine Sat.seq ?_)
 (refine Sat.region_k fun k hk => ?_; simp -implicitDefEqProofs only [evr, id, seval, ptr, res_one, par_one, idn_one, idn_0, idn_1, idn_2, resRow, res_ro, rExtract_tup, par_eq, ev_0, ev_1, ev_2, ev_3, evn]; refine hk _ ?_; clear hk k; try show Sat _ _ _ _ _)
 refine Sat.ret ?_
 simp only [Try.results14, evr, id, reduceCtorEq, reduceIte, Nat.reduceMul, Nat.reduceAdd, Nat.reduceLT, Nat.reduceLeDiff, Nat.reduceEqDiff, Int.reduceLT, Int.reduceBEq, Int.reduceBNe, Nat.reduceBEq, ptr, res_one, par_one, idn_one, idn_0, idn_1, idn_2, List.append_nil, Int.toNat_zero, Nat.sub_self, Int.reduceToNat, resRow, res_ro, rExtract_tup, par_eq, ev_0, ev_1, ev_2, ev_3]
 exact ⟨v, hv, rfl⟩
set_option maxHeartbeats 1000000 in
set_option maxRecDepth 100000 in
theorem truthC (a : Option Addr) (cap : Nat) (z : List Int) (hz : ∀ n ∈ z, (Lit.int .u8 n).wf = true) (a' : Option Addr) (cap' : Nat) (y : List Int) (hy : ∀ n ∈ y, (Lit.int .u8 n).wf = true) :
  Contract Frm.nil Try.prog 4 [slB a cap z, slB a' cap' y] (fun r => r = .b true) := by
 have hb : isBytes (slB a cap z) := ⟨a, z.length, cap, _, rfl, fun i hi => ⟨z.getD i 0, by have := bounds_u8 (hz _ (getD_mem (d := 0) hi)); omega, by have := bounds_u8 (hz _ (getD_mem (d := 0) hi)); omega, rfl⟩⟩
 refine contract_of Try.func4 rfl (by kernel_rfl) ?_
 simp only [Try.ntmps4, argEnv]
 obtain ⟨rdy, hsy⟩ : ∃ q, slB a' cap' y = .sl a' y.length cap' 1 q := ⟨_, rfl⟩
 rw [hsy]
 (repeat refine Sat.seq ?_)
 (refine Sat.region_k fun k hk => ?_; simp -implicitDefEqProofs only [evr, id, seval, ptr, res_one, par_one, idn_one, idn_0, idn_1, idn_2, resRow, res_ro, rExtract_tup, par_eq, ev_0, ev_1, ev_2, ev_3, evn])
 intro b3
 (refine hk _ ?_; clear hk k; try show Sat _ _ _ _ _)
 (repeat refine Sat.seq ?_)
 refine Sat.joinK (ι := Bool) (fun q => ⟨93, [(20, .b q), (3, .op 0 b3 0), (4, .b false), (0, slB a cap z), (1, .sl a' y.length cap' 1 rdy)], [.box b3 22 [.sl a' y.length cap' 1 rdy]]⟩) (fun _ => True) (fun hrest => ?_) ?_
 ·(refine Sat.region_k fun k hk => ?_; simp -implicitDefEqProofs only [evr, id, seval, ptr, res_one, par_one, idn_one, idn_0, idn_1, idn_2, resRow, res_ro, rExtract_tup, par_eq, ev_0, ev_1, ev_2, ev_3, evn])
  refine wcall_plain (awakeC Frm.nil) rfl (by rintro _ rfl; exact ok_plain rfl) ?_
  rintro r rfl
  simp -implicitDefEqProofs only [evr, id, seval, ptr, res_one, par_one, idn_one, idn_0, idn_1, idn_2, resRow, res_ro, rExtract_tup, par_eq, ev_0, ev_1, ev_2, ev_3, evn]
  refine hk _ ?_
  simp only [thenK]
  refine (hrest (decide ((40 : Int) < (y.length : Int))) trivial).le ?_
  simp -implicitDefEqProofs only [evr, id, seval, ptr, res_one, par_one, idn_one, idn_0, idn_1, idn_2, resRow, res_ro, rExtract_tup, par_eq, ev_0, ev_1, ev_2, ev_3, evl, evn]
 rintro q -
 (repeat refine Sat.seq ?_)
 refine Sat.cond_b rfl (fun h => ?_) (fun h => ?_)
 ·(repeat refine Sat.seq ?_)
  (refine Sat.region_k fun k hk => ?_; simp -implicitDefEqProofs only [evr, id, seval, ptr, res_one, par_one, idn_one, idn_0, idn_1, idn_2, resRow, res_ro, rExtract_tup, par_eq, ev_0, ev_1, ev_2, ev_3, evn])
  refine wcall_plain (awakeC Frm.nil) rfl (by rintro _ rfl; exact ok_plain rfl) ?_
  rintro r rfl
  simp -implicitDefEqProofs only [evr, id, seval, ptr, res_one, par_one, idn_one, idn_0, idn_1, idn_2, resRow, res_ro, rExtract_tup, par_eq, ev_0, ev_1, ev_2, ev_3, evn]
  (refine hk _ ?_; clear hk k; try show Sat _ _ _ _ _)
  refine Sat.ret ?_
  simp only [Try.results4, evr, id, reduceCtorEq, reduceIte, Nat.reduceMul, Nat.reduceAdd, Nat.reduceLT, Nat.reduceLeDiff, Nat.reduceEqDiff, Int.reduceLT, Int.reduceBEq, Int.reduceBNe, Nat.reduceBEq, ptr, res_one, par_one, idn_one, idn_0, idn_1, idn_2, List.append_nil, Int.toNat_zero, Nat.sub_self, Int.reduceToNat, resRow, res_ro, rExtract_tup, par_eq, ev_0, ev_1, ev_2, ev_3]
 refine Sat.skip ?_
 simp only [thenK]
 refine Sat.settleBoxG 3 rfl rfl ?_
 simp -implicitDefEqProofs only [evr, id, seval, ptr, res_one, par_one, idn_one, idn_0, idn_1, idn_2, resRow, res_ro, rExtract_tup, par_eq, ev_0, ev_1, ev_2, ev_3, evn]
 refine Sat.seq ?_
 (refine Sat.region_k fun k hk => ?_; simp -implicitDefEqProofs only [evr, id, seval, ptr, res_one, par_one, idn_one, idn_0, idn_1, idn_2, resRow, res_ro, rExtract_tup, par_eq, ev_0, ev_1, ev_2, ev_3, evn])
 refine wcall_make (rollC (slB a cap z) hb) ?_
 intro cb
 simp -implicitDefEqProofs only [evr, id, seval, ptr, res_one, par_one, idn_one, idn_0, idn_1, idn_2, resRow, res_ro, rExtract_tup, par_eq, ev_0, ev_1, ev_2, ev_3, evn]
 (refine hk _ ?_; clear hk k; try show Sat _ _ _ _ _)
 refine Sat.switch (cb := cb) (id := 1) (F' := Frm.codes cb) (fun b => Iff.rfl) (fun _ h => h) rfl ?_
 (repeat refine Sat.seq ?_)
 (refine Sat.region_k fun k hk => ?_; simp -implicitDefEqProofs only [evr, id, seval, ptr, res_one, par_one, idn_one, idn_0, idn_1, idn_2, resRow, res_ro, rExtract_tup, par_eq, ev_0, ev_1, ev_2, ev_3, evn]; refine hk _ ?_; clear hk k; try show Sat _ _ _ _ _)
 (repeat refine Sat.seq ?_)
 (refine Sat.region_k fun k hk => ?_; simp -implicitDefEqProofs only [evr, id, seval, ptr, res_one, par_one, idn_one, idn_0, idn_1, idn_2, resRow, res_ro, rExtract_tup, par_eq, ev_0, ev_1, ev_2, ev_3, evn]; refine hk _ ?_; clear hk k; try show Sat _ _ _ _ _)
 (repeat refine Sat.seq ?_)
 generalize hcc : (fun j => [SV.el ⟨b3, 0, none⟩ 1 fun j => [SV.sl a' y.length cap' 1 rdy].getD j default].getD j default) = cc
 have hc0 : cc 0 = SV.el ⟨b3, 0, none⟩ 1 fun j => [SV.sl a' y.length cap' 1 rdy].getD j default := by rw [← hcc]; rfl
 clear hcc
 (refine Sat.region_k fun k hk => ?_; simp -implicitDefEqProofs only [evr, id, seval, ptr, res_one, par_one, idn_one, idn_0, idn_1, idn_2, resRow, res_ro, rExtract_tup, par_eq, ev_0, ev_1, ev_2, ev_3, evn])
 refine wcall_plain (nextC cb 16 (by omega) (by omega)) rfl (by rintro _ ⟨x, rfl, _⟩; exact ok_plain rfl) ?_
 rintro r ⟨x, rfl, hx0, hx1⟩
 obtain ⟨m0, rfl⟩ := Int.eq_ofNat_of_zero_le hx0
 simp -implicitDefEqProofs only [evr, id, seval, ptr, res_one, par_one, idn_one, idn_0, idn_1, idn_2, resRow, res_ro, rExtract_tup, par_eq, ev_0, ev_1, ev_2, ev_3, evn]
 (refine hk _ ?_; clear hk k; try show Sat _ _ _ _ _)
 refine Sat.adopt 6 44 17 (resRd #[]) rfl ?_
 simp -implicitDefEqProofs only [evr, id, seval, ptr, res_one, par_one, idn_one, idn_0, idn_1, idn_2, resRow, res_ro, rExtract_tup, par_eq, ev_0, ev_1, ev_2, ev_3, evn]
 (repeat refine Sat.seq ?_)
 refine Sat.block ?_
 refine Sat.loop (ι := Nat × Option Addr × Nat × List Res) (fun z => ⟨93, [(8, .i .i64 z.1), (6, .os 0 z.2.1 z.2.2.2.length z.2.2.1), (5, ptr cb), (7, .fn 13 1 cc)], [resRow z.2.1 z.2.2.2.length z.2.2.1 z.2.2.2.toArray]⟩)
  (fun z => z.2.2.2.length + z.1 ≤ 15 ∧ ∀ r ∈ z.2.2.2, OwnedR y r) (fun z => z.1) (m0, none, 0, []) ⟨by simp only [List.length_nil]; omega, fun r h => (by cases h)⟩ (by simp -implicitDefEqProofs only [evr, id, seval, ptr, res_one, par_one, idn_one, idn_0, idn_1, idn_2, resRow, res_ro, rExtract_tup, par_eq, ev_0, ev_1, ev_2, ev_3, evl, evn]; first | rfl | trace_state) ?_
 rintro ⟨m, xa, xc, xs⟩ ⟨hm, hxs⟩
 simp only [resRow] at hm hxs ⊢
 (repeat refine Sat.seq ?_)
 (refine Sat.region_k fun k hk => ?_; simp -implicitDefEqProofs only [evr, id, seval, ptr, res_one, par_one, idn_one, idn_0, idn_1, idn_2, resRow, res_ro, rExtract_tup, par_eq, ev_0, ev_1, ev_2, ev_3, evn]; refine hk _ ?_; clear hk k; try show Sat _ _ _ _ _)
 (repeat refine Sat.seq ?_)
 refine Sat.cond_b rfl (fun h2 => ?_) (fun h2 => ?_)
 ·have h1 : 0 < m := by simp only [decide_eq_true_eq] at h2; omega
  have e2 : IntKind.i64.wrap ((m : Int) - 1) = ((m - 1 : Nat) : Int) := by rw [w64 (by omega)]; omega
  refine Sat.skip ?_
  simp only [thenK]
  (repeat refine Sat.seq ?_)
  refine Sat.block ?_
  (repeat refine Sat.seq ?_)
  (refine Sat.region_k fun k hk => ?_; simp -implicitDefEqProofs only [evr, id, seval, ptr, res_one, par_one, idn_one, idn_0, idn_1, idn_2, resRow, res_ro, rExtract_tup, par_eq, ev_0, ev_1, ev_2, ev_3, evn])
  refine wcall_plain (nextC cb 30 (by omega) (by omega)) rfl (by rintro _ ⟨x, rfl, _⟩; exact ok_plain rfl) ?_
  rintro r ⟨d, rfl, hd0, hd1⟩
  have ed : IntKind.u32.wrap (IntKind.i64.wrap (1 + d)) = 1 + d := by rw [w64 (by omega), IntKind.wrap_u32]; omega
  simp -implicitDefEqProofs only [evr, id, seval, ptr, res_one, par_one, idn_one, idn_0, idn_1, idn_2, resRow, res_ro, rExtract_tup, par_eq, ev_0, ev_1, ev_2, ev_3, ed, evn]
  refine wcall_plain (nextC cb 30 (by omega) (by omega)) rfl (by rintro _ ⟨x, rfl, _⟩; exact ok_plain rfl) ?_
  rintro r ⟨f, rfl, hf0, hf1⟩
  have ef : IntKind.u32.wrap (IntKind.i64.wrap (1 + f)) = 1 + f := by rw [w64 (by omega), IntKind.wrap_u32]; omega
  simp -implicitDefEqProofs only [evr, id, seval, ptr, res_one, par_one, idn_one, idn_0, idn_1, idn_2, resRow, res_ro, rExtract_tup, par_eq, ev_0, ev_1, ev_2, ev_3, ef, evn]
  (refine hk _ ?_; clear hk k; try show Sat _ _ _ _ _)
  clear ed ef
  (repeat refine Sat.seq ?_)
  (refine Sat.region_k fun k hk => ?_; simp -implicitDefEqProofs only [evr, id, seval, ptr, res_one, par_one, idn_one, idn_0, idn_1, idn_2, resRow, res_ro, rExtract_tup, par_eq, ev_0, ev_1, ev_2, ev_3, evn])
  have hrd : (fun j => [SV.sl a' y.length cap' 1 rdy].getD j default) 0 = slB a' cap' y := hsy.symm
  refine wcall_plain (nodeC (Frm.codes cb) a' cap' y hy b3 (fun j => [SV.sl a' y.length cap' 1 rdy].getD j default) hrd (1 + d) (by omega)) (by simp only [hc0]; rfl) (by rintro _ rfl; exact ok_plain rfl) ?_
  rintro r rfl
  simp -implicitDefEqProofs only [evr, id, seval, ptr, res_one, par_one, idn_one, idn_0, idn_1, idn_2, resRow, res_ro, rExtract_tup, par_eq, ev_0, ev_1, ev_2, ev_3, evn]
  refine wcall_plain (nodeC (Frm.codes cb) a' cap' y hy b3 (fun j => [SV.sl a' y.length cap' 1 rdy].getD j default) hrd (1 + f) (by omega)) (by simp only [hc0]; rfl) (by rintro _ rfl; exact ok_plain rfl) ?_
  rintro r rfl
  simp -implicitDefEqProofs only [evr, id, seval, ptr, res_one, par_one, idn_one, idn_0, idn_1, idn_2, resRow, res_ro, rExtract_tup, par_eq, ev_0, ev_1, ev_2, ev_3, evn]
  (refine hk _ ?_; clear hk k; try show Sat _ _ _ _ _)
  (repeat refine Sat.seq ?_)
  refine Sat.cond_b rfl (fun h3 => ?_) (fun h3 => ?_)
  ·refine Sat.exit ?_
   simp only [thenK, blockK, reduceIte]
   refine Sat.region_k fun k hk => ?_
   simp -implicitDefEqProofs only [evr, id, seval, ptr, res_one, par_one, idn_one, idn_0, idn_1, idn_2, resRow, res_ro, rExtract_tup, par_eq, ev_0, ev_1, ev_2, ev_3, e2, evn]
   refine hk _ ?_
   simp only [thenK, blockK]
   refine ⟨(m - 1, xa, xc, xs), ⟨by simp only; omega, hxs⟩, by simp only; omega, ?_⟩
   simp -implicitDefEqProofs only [evr, id, seval, ptr, res_one, par_one, idn_one, idn_0, idn_1, idn_2, resRow, res_ro, rExtract_tup, par_eq, ev_0, ev_1, ev_2, ev_3, evl, evn]
  have hnn : nodeV y (1 + d) = nodeV y (1 + f) := by simpa using h3
  have e4 : IntKind.i64.wrap ((xs.length : Int) + 3) = (xs.length : Int) + 3 := w64 (by omega)
  refine Sat.skip ?_
  simp only [thenK]
  (repeat refine Sat.seq ?_)
  (refine Sat.region_k fun k hk => ?_; simp -implicitDefEqProofs only [evr, id, seval, ptr, res_one, par_one, idn_one, idn_0, idn_1, idn_2, resRow, res_ro, rExtract_tup, par_eq, ev_0, ev_1, ev_2, ev_3, evn])
  simp only [e4]
  intro b9
  refine ⟨⟨by unfold maxLen; omega, by omega⟩, fun a2 cap2 => ?_⟩
  (refine hk _ ?_; clear hk k; try show Sat _ _ _ _ _)
  obtain ⟨r, hr⟩ : ∃ r : Res, r = ⟨0, 0, xs.length, xs.length, 1 + d, 17, 0, 5, true, false, xs.length + 3, 1 + f, 3, 0, 0, 0, 0⟩ := ⟨_, rfl⟩
  refine Sat.reread 0 (resRd (xs ++ [r]).toArray) rfl ?_ ?_
  ·refine res_appS ?_
   subst hr
   simp only [Res.cs, simA]
   refine ⟨?_, ?_, ?_, ?_, ?_, ?_, ?_, ?_, ?_, ?_, ?_, ?_, ?_, ?_, ?_, ?_, ?_, trivial⟩ <;> first | exact sim_refl _ | exact sim_tt
  simp -implicitDefEqProofs only [evr, id, seval, ptr, res_one, par_one, idn_one, idn_0, idn_1, idn_2, resRow, res_ro, rExtract_tup, par_eq, ev_0, ev_1, ev_2, ev_3, evn]
  have hok : OwnedR y r := by
   subst hr
   refine ⟨⟨(show w64i (1 + d) = 1 + d from w64 (by omega)), (show w64i (1 + f) = 1 + f from w64 (by omega))⟩, ?_, hnn, rfl, ⟨by show 0 ≤ 1 + d; omega, by show 1 + d < 4294967296; omega⟩, ⟨by show 0 ≤ 1 + f; omega, by show 1 + f < 4294967296; omega⟩⟩
   have g1 : badRange ⟨0, 0, xs.length, xs.length, 1 + d, 17, 0, 5, true, false, xs.length + 3, 1 + f, 3, 0, 0, 0, 0⟩ = false := by
    unfold badRange idOk
    simp
    omega
   have g3 : 1 + d ≠ 0 := by omega
   have g4 : 1 + f ≠ 0 := by omega
   unfold validR chk
   rw [g1]
   simp [badProto, badState, badAnswer, octOk, g3, g4]
  refine Sat.region_k fun k hk => ?_
  simp -implicitDefEqProofs only [evr, id, seval, ptr, res_one, par_one, idn_one, idn_0, idn_1, idn_2, resRow, res_ro, rExtract_tup, par_eq, ev_0, ev_1, ev_2, ev_3, e2, evn]
  refine hk _ ?_
  simp only [thenK, blockK]
  refine ⟨(m - 1, a2, cap2, xs ++ [r]), ⟨by simp only [List.length_append, List.length_singleton]; omega, fun x hx => ?_⟩, by simp only; omega, ?_⟩
  ·rcases List.mem_append.1 hx with h9 | h9
   ·exact hxs x h9
   ·rw [List.mem_singleton.1 h9]; exact hok
  simp only [List.length_append, List.length_singleton]
  simp -implicitDefEqProofs only [evr, id, seval, ptr, res_one, par_one, idn_one, idn_0, idn_1, idn_2, resRow, res_ro, rExtract_tup, par_eq, ev_0, ev_1, ev_2, ev_3, evl, evn]
 have h1 : m = 0 := by simp only [decide_eq_false_iff_not] at h2; omega
 refine Sat.exit ?_
 simp only [thenK, blockK, reduceIte]
 refine Sat.settle2 6 rfl rfl ?_
 simp -implicitDefEqProofs only [evr, id, seval, ptr, res_one, par_one, idn_one, idn_0, idn_1, idn_2, resRow, res_ro, rExtract_tup, par_eq, ev_0, ev_1, ev_2, ev_3, evn]
 (repeat refine Sat.seq ?_)
 (refine Sat.region_k fun k hk => ?_; simp -implicitDefEqProofs only [evr, id, seval, ptr, res_one, par_one, idn_one, idn_0, idn_1, idn_2, resRow, res_ro, rExtract_tup, par_eq, ev_0, ev_1, ev_2, ev_3, evn])
 refine wcall_slice (pairsC (Frm.codes cb) xa xc xs (by omega) fun r hr => (hxs r hr).rg) rfl rfl ?_
 rintro r (⟨hbad, _⟩ | ⟨_, a3, c3, es, hes, rfl⟩)
 ·exfalso
  obtain ⟨x, hx, hx2⟩ := List.any_eq_true.1 hbad
  rw [(hxs x hx).val] at hx2
  cases hx2
 simp -implicitDefEqProofs only [evr, id, seval, ptr, res_one, par_one, idn_one, idn_0, idn_1, idn_2, resRow, res_ro, rExtract_tup, par_eq, ev_0, ev_1, ev_2, ev_3, evn]
 (refine hk _ ?_; clear hk k; try show Sat _ _ _ _ _)
 have hel : es.length ≤ 15 := by have := hes.len; omega
 (repeat refine Sat.seq ?_)
 (refine Sat.region_k fun k hk => ?_; simp -implicitDefEqProofs only [evr, id, seval, ptr, res_one, par_one, idn_one, idn_0, idn_1, idn_2, resRow, res_ro, rExtract_tup, par_eq, ev_0, ev_1, ev_2, ev_3, evn]; refine hk _ ?_; clear hk k; try show Sat _ _ _ _ _)
 (repeat refine Sat.seq ?_)
 refine Sat.block ?_
 refine Sat.loop (ι := Nat) (fun i => ⟨93, [(67, .i .i64 i), (66, .i .i64 es.length), (11, .sl a3 es.length c3 4 (evRd es)), (12, .i .i64 0), (6, .sl xa xs.length xc 17 (resRd xs.toArray)), (7, .fn 13 1 cc)], []⟩)
  (fun i => i ≤ es.length) (fun i => es.length - i) 0 (Nat.zero_le _) (by simp -implicitDefEqProofs only [evr, id, seval, ptr, res_one, par_one, idn_one, idn_0, idn_1, idn_2, resRow, res_ro, rExtract_tup, par_eq, ev_0, ev_1, ev_2, ev_3, evl, evn]; try rfl) ?_
 rintro i hi
 (repeat refine Sat.seq ?_)
 (refine Sat.region_k fun k hk => ?_; simp -implicitDefEqProofs only [evr, id, seval, ptr, res_one, par_one, idn_one, idn_0, idn_1, idn_2, resRow, res_ro, rExtract_tup, par_eq, ev_0, ev_1, ev_2, ev_3, evn]; refine hk _ ?_; clear hk k; try show Sat _ _ _ _ _)
 (repeat refine Sat.seq ?_)
 refine Sat.cond_b rfl (fun h => ?_) (fun h => ?_)
 ·have h1 : i < es.length := by simp only [decide_eq_true_eq] at h; omega
  have e2 : IntKind.i64.wrap ((i : Int) + 1) = ((i + 1 : Nat) : Int) := by rw [w64 (by omega)]; omega
  have hem : es.getD i default ∈ es := getD_mem h1
  obtain ⟨hna, hnb, hnn⟩ := owned_pair hes hxs hem
  refine Sat.skip ?_
  simp only [thenK]
  (repeat refine Sat.seq ?_)
  refine Sat.block ?_
  (repeat refine Sat.seq ?_)
  (refine Sat.region_k fun k hk => ?_; simp -implicitDefEqProofs only [evr, id, seval, ptr, res_one, par_one, idn_one, idn_0, idn_1, idn_2, resRow, res_ro, rExtract_tup, par_eq, ev_0, ev_1, ev_2, ev_3, evn]; refine hk _ ?_; clear hk k; try show Sat _ _ _ _ _)
  (repeat refine Sat.seq ?_)
  (refine Sat.region_qk (by kernel_rfl) (by kernel_rfl) fun k hk => ?_; simp -implicitDefEqProofs only [evr, id, seval, ptr, res_one, par_one, idn_one, idn_0, idn_1, idn_2, resRow, res_ro, rExtract_tup, par_eq, ev_0, ev_1, ev_2, ev_3, evn])
  refine ⟨by omega, ?_⟩
  have hrd : (fun j => [SV.sl a' y.length cap' 1 rdy].getD j default) 0 = slB a' cap' y := hsy.symm
  have hq1 := nodeC Frm.nil a' cap' y hy b3 (fun j => [SV.sl a' y.length cap' 1 rdy].getD j default) hrd (es.getD i default).a hna
  have hq2 := nodeC Frm.nil a' cap' y hy b3 (fun j => [SV.sl a' y.length cap' 1 rdy].getD j default) hrd (es.getD i default).b hnb
  rw [← hnn] at hq2
  refine qcall hq1 (by simp only [hc0]; rfl) (ok_plain rfl) ?_
  simp -implicitDefEqProofs only [evr, id, seval, ptr, res_one, par_one, idn_one, idn_0, idn_1, idn_2, resRow, res_ro, rExtract_tup, par_eq, ev_0, ev_1, ev_2, ev_3, evn]
  refine ⟨by omega, ?_⟩
  refine qcall hq2 (by simp only [hc0]; rfl) (ok_plain rfl) ?_
  simp -implicitDefEqProofs only [evr, id, seval, ptr, res_one, par_one, idn_one, idn_0, idn_1, idn_2, resRow, res_ro, rExtract_tup, par_eq, ev_0, ev_1, ev_2, ev_3, bne_self_eq_false, evn]
  refine hk _ ?_
  simp only [thenK]
  (repeat refine Sat.seq ?_)
  refine Sat.cond_b rfl (fun h => absurd h (by decide)) (fun _ => ?_)
  refine Sat.skip ?_
  simp only [thenK, blockK, reduceIte]
  refine Sat.region_k fun k hk => ?_
  simp -implicitDefEqProofs only [evr, id, seval, ptr, res_one, par_one, idn_one, idn_0, idn_1, idn_2, resRow, res_ro, rExtract_tup, par_eq, ev_0, ev_1, ev_2, ev_3, e2, evn]
  refine hk _ ?_
  simp only [thenK, blockK]
  refine ⟨i + 1, h1, by omega, ?_⟩
  simp -implicitDefEqProofs only [evr, id, seval, ptr, res_one, par_one, idn_one, idn_0, idn_1, idn_2, resRow, res_ro, rExtract_tup, par_eq, ev_0, ev_1, ev_2, ev_3, evl, evn]
 refine Sat.exit ?_
 simp only [thenK, blockK, reduceIte]
 (repeat refine Sat.seq ?_)
 (refine Sat.region_k fun k hk => ?_; simp -implicitDefEqProofs only [evr, id, seval, ptr, res_one, par_one, idn_one, idn_0, idn_1, idn_2, resRow, res_ro, rExtract_tup, par_eq, ev_0, ev_1, ev_2, ev_3, evn])
 refine wcall_plain (endG (Frm.codes cb) xa xc xs (by omega) fun r hr => (hxs r hr).ttl) rfl (by rintro _ ⟨v, _, rfl⟩; exact ok_plain rfl) ?_
 rintro r ⟨v, hv, rfl⟩
 have hv5 : decide (v ≤ 5) = true := decide_eq_true (by omega)
 simp -implicitDefEqProofs only [evr, id, seval, ptr, res_one, par_one, idn_one, idn_0, idn_1, idn_2, resRow, res_ro, rExtract_tup, par_eq, ev_0, ev_1, ev_2, ev_3, hv5, evn]
 (refine hk _ ?_; clear hk k; try show Sat _ _ _ _ _)
 refine Sat.ret ?_
 simp only [Try.results4, evr, id, reduceCtorEq, reduceIte, Nat.reduceMul, Nat.reduceAdd, Nat.reduceLT, Nat.reduceLeDiff, Nat.reduceEqDiff, Int.reduceLT, Int.reduceBEq, Int.reduceBNe, Nat.reduceBEq, ptr, res_one, par_one, idn_one, idn_0, idn_1, idn_2, List.append_nil, Int.toNat_zero, Nat.sub_self, Int.reduceToNat, resRow, res_ro, rExtract_tup, par_eq, ev_0, ev_1, ev_2, ev_3]
theorem truth_holds : Rows.CommonTruthSaid := commonTruth.of_walk fun a0 z0 a1 z1 w ⟨h, hz⟩ ⟨h1, hz1⟩ => by
 obtain ⟨a, cap, rfl, hok⟩ := slB_of h
 obtain ⟨a', cap', rfl, hok'⟩ := slB_of h1
 exact walk_of (truthC a cap z0 hz a' cap' z1 hz1) (fun s hs => by
  rcases List.mem_cons.1 hs with rfl | hs
  ·exact hok
  ·rw [List.mem_singleton.1 hs]; exact hok')
#print axioms truth_holds
end Go.Proofs.Ytepbdjpcoleegaa
