import Derived.Test.YtepbdjpcoleegaaGreatCmR
import Derived.Test.YtepbdjpcoleegaaGreatCmO
import Derived.Test.YtepbdjpcoleegaaGreatCmP

/- The reference's SameEvidence, by the evaluator. -/
set_option linter.unusedSimpArgs false
set_option linter.unusedVariables false
namespace Go.Proofs.YtepbdjpcoleegaaGreat
open Go.Sort Eng
def EvIn (e : Evd) : Prop := IntKind.i64.wrap e.a = e.a ∧ IntKind.i64.wrap e.b = e.b ∧ e.ids.length ≤ 1000000000
theorem evCmp_say (e f : Evd) : evCmp e f = 0 ↔ e.say = f.say := by
 rw [evCmp_zero]
 unfold Evd.say Evd.pr
 simp only [Prod.mk.injEq, Par.mk.injEq, and_assoc]
theorem say_take {es fs : List Evd} {i : Nat} (h1 : i < es.length) (h2 : i < fs.length) (h : (es.take i).map Evd.say = (fs.take i).map Evd.say) (hs : (es.getD i default).say = (fs.getD i default).say) : (es.take (i + 1)).map Evd.say = (fs.take (i + 1)).map Evd.say := by
 rw [List.take_add_one, List.take_add_one, List.getElem?_eq_getElem h1, List.getElem?_eq_getElem h2, List.map_append, List.map_append, h]
 rw [List.getD_eq_getElem?_getD, List.getD_eq_getElem?_getD, List.getElem?_eq_getElem h1, List.getElem?_eq_getElem h2] at hs
 simp only [Option.getD_some] at hs
 simp only [Option.toList_some, List.map_cons, List.map_nil, hs]
theorem say_ne {es fs : List Evd} {i : Nat} (h1 : i < es.length) (h2 : i < fs.length) (hs : (es.getD i default).say ≠ (fs.getD i default).say) : es.map Evd.say ≠ fs.map Evd.say := fun h => hs (by
 have := congrArg (fun l => l[i]?) h
 simp only [List.getElem?_map, List.getElem?_eq_getElem h1, List.getElem?_eq_getElem h2, Option.map_some, Option.some.injEq] at this
 rw [List.getD_eq_getElem?_getD, List.getD_eq_getElem?_getD, List.getElem?_eq_getElem h1, List.getElem?_eq_getElem h2]
 exact this)
set_option maxRecDepth 100000 in
theorem sameEvC (F : Frm) (a b : Option Addr) (c d : Nat) (es fs : List Evd) (hl : es.length ≤ 1000000000) (he : ∀ e ∈ es, EvIn e) (hf : ∀ f ∈ fs, EvIn f) :
  Contract F Tryz.prog 13 [.sl a es.length c 4 (evRd es), .sl b fs.length d 4 (evRd fs)] (fun r => r = .b (decide (es.map Evd.say = fs.map Evd.say))) := by
 refine contract_of Tryz.func13 rfl (by kernel_rfl) ?_
 simp only [Tryz.ntmps13, argEnv]
 (repeat refine Sat.seq ?_)
 (refine Sat.region_k fun k hk => ?_; simp -implicitDefEqProofs only [evr, id, seval, res_one, par_one, idn_one, idn_0, idn_1, idn_2, resRow, res_ro, rExtract_tup, evn]; refine hk _ ?_; clear hk k; try show Sat _ _ _ _ _)
 (repeat refine Sat.seq ?_)
 (refine Sat.region_k fun k hk => ?_; simp -implicitDefEqProofs only [evr, id, seval, res_one, par_one, idn_one, idn_0, idn_1, idn_2, resRow, res_ro, rExtract_tup, evn]; refine hk _ ?_; clear hk k; try show Sat _ _ _ _ _)
 (repeat refine Sat.seq ?_)
 refine Sat.cond_b rfl (fun h => ?_) (fun h => ?_)
 ·have h1 : es.length ≠ fs.length := by simp at h; omega
  (repeat refine Sat.seq ?_)
  (refine Sat.region_k fun k hk => ?_; simp -implicitDefEqProofs only [evr, id, seval, res_one, par_one, idn_one, idn_0, idn_1, idn_2, resRow, res_ro, rExtract_tup, evn]; refine hk _ ?_; clear hk k; try show Sat _ _ _ _ _)
  refine Sat.ret ?_
  simp only [Tryz.results13, evr, id, seval, res_one, par_one, idn_one, idn_0, idn_1, idn_2, List.append_nil, Int.toNat_zero, Nat.sub_self, Int.reduceToNat, resRow, res_ro, rExtract_tup]
  rw [decide_eq_false fun e => h1 (by have := congrArg List.length e; simpa using this)]
 have hlen : es.length = fs.length := by simp at h; omega
 refine Sat.skip ?_
 simp only [thenK]
 (repeat refine Sat.seq ?_)
 (refine Sat.region_k fun k hk => ?_; simp -implicitDefEqProofs only [evr, id, seval, res_one, par_one, idn_one, idn_0, idn_1, idn_2, resRow, res_ro, rExtract_tup, evn]; refine hk _ ?_; clear hk k; try show Sat _ _ _ _ _)
 (repeat refine Sat.seq ?_)
 refine Sat.block ?_
 refine Sat.loop (ι := Nat) (fun i => ⟨27, [(5, .i .i64 i), (0, .sl a es.length c 4 (evRd es)), (1, .sl b fs.length d 4 (evRd fs))], []⟩)
  (fun i => i ≤ es.length ∧ (es.take i).map Evd.say = (fs.take i).map Evd.say) (fun i => es.length - i) 0 ⟨Nat.zero_le _, rfl⟩ (by simp -implicitDefEqProofs only [evr, id, seval, res_one, par_one, idn_one, idn_0, idn_1, idn_2, resRow, res_ro, rExtract_tup, evl, evn]; try rfl) ?_
 rintro i ⟨hi, hq⟩
 (repeat refine Sat.seq ?_)
 (refine Sat.region_k fun k hk => ?_; simp -implicitDefEqProofs only [evr, id, seval, res_one, par_one, idn_one, idn_0, idn_1, idn_2, resRow, res_ro, rExtract_tup, evn]; refine hk _ ?_; clear hk k; try show Sat _ _ _ _ _)
 (repeat refine Sat.seq ?_)
 refine Sat.cond_b rfl (fun h => ?_) (fun h => ?_)
 ·have h1 : i < es.length := by simp only [decide_eq_true_eq] at h; omega
  have e1 : IntKind.i64.wrap ((i : Int) + 1) = ((i + 1 : Nat) : Int) := by rw [w64 (by omega)]; omega
  obtain ⟨k1, k2, k3⟩ := he (es.getD i default) (getD_mem h1)
  obtain ⟨m1, m2, m3⟩ := hf (fs.getD i default) (getD_mem (by omega))
  refine Sat.skip ?_
  simp only [thenK]
  (repeat refine Sat.seq ?_)
  refine Sat.block ?_
  (repeat refine Sat.seq ?_)
  (refine Sat.region_qk (by kernel_rfl) (by kernel_rfl) fun k hk => ?_; simp -implicitDefEqProofs only [evr, id, seval, res_one, par_one, idn_one, idn_0, idn_1, idn_2, resRow, res_ro, rExtract_tup, evn])
  refine ⟨by omega, by omega, ?_⟩
  refine qcall (refCompareEvC Frm.nil (es.getD i default) (fs.getD i default) k3 m3 k1 k2 m1 m2) rfl (ok_plain rfl) ?_
  simp -implicitDefEqProofs only [evr, id, seval, res_one, par_one, idn_one, idn_0, idn_1, idn_2, resRow, res_ro, rExtract_tup, evn]
  refine hk _ ?_
  simp only [thenK]
  (repeat refine Sat.seq ?_)
  refine Sat.cond_b rfl (fun h4 => ?_) (fun h4 => ?_)
  ·have hne : evCmp (es.getD i default) (fs.getD i default) ≠ 0 := by simpa using h4
   (repeat refine Sat.seq ?_)
   (refine Sat.region_k fun k hk => ?_; simp -implicitDefEqProofs only [evr, id, seval, res_one, par_one, idn_one, idn_0, idn_1, idn_2, resRow, res_ro, rExtract_tup, evn]; refine hk _ ?_; clear hk k; try show Sat _ _ _ _ _)
   refine Sat.ret ?_
   simp only [blockK, Tryz.results13, evr, id, seval, res_one, par_one, idn_one, idn_0, idn_1, idn_2, List.append_nil, Int.toNat_zero, Nat.sub_self, Int.reduceToNat, resRow, res_ro, rExtract_tup]
   rw [decide_eq_false (say_ne h1 (by omega) fun e => hne ((evCmp_say _ _).2 e))]
  have hz : evCmp (es.getD i default) (fs.getD i default) = 0 := by simpa using h4
  refine Sat.skip ?_
  simp only [thenK, blockK, reduceIte]
  refine Sat.region_k fun k hk => ?_
  simp -implicitDefEqProofs only [evr, id, seval, res_one, par_one, idn_one, idn_0, idn_1, idn_2, resRow, res_ro, rExtract_tup, e1, evn]
  refine hk _ ?_
  simp only [thenK, blockK]
  refine ⟨i + 1, ⟨h1, say_take h1 (by omega) hq ((evCmp_say _ _).1 hz)⟩, by omega, ?_⟩
  simp -implicitDefEqProofs only [evr, id, seval, res_one, par_one, idn_one, idn_0, idn_1, idn_2, resRow, res_ro, rExtract_tup, evl, evn]
 have h1 : i = es.length := by simp only [decide_eq_false_iff_not] at h; omega
 subst h1
 refine Sat.exit ?_
 simp only [thenK, blockK, reduceIte]
 (repeat refine Sat.seq ?_)
 (refine Sat.region_k fun k hk => ?_; simp -implicitDefEqProofs only [evr, id, seval, res_one, par_one, idn_one, idn_0, idn_1, idn_2, resRow, res_ro, rExtract_tup, evn]; refine hk _ ?_; clear hk k; try show Sat _ _ _ _ _)
 refine Sat.ret ?_
 simp only [Tryz.results13, evr, id, seval, res_one, par_one, idn_one, idn_0, idn_1, idn_2, List.append_nil, Int.toNat_zero, Nat.sub_self, Int.reduceToNat, resRow, res_ro, rExtract_tup]
 rw [List.take_length, hlen, List.take_length] at hq
 rw [decide_eq_true hq]
end Go.Proofs.YtepbdjpcoleegaaGreat
