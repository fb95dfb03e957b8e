import Derived.Test.YtepbdjpcoleegaaGreatCmG
import Derived.Test.YtepbdjpcoleegaaGreatCmS
import Derived.Test.YtepbdjpcoleegaaGreatR24F

/- The reference of law 28, by the evaluator: Usable, Show, ValidEvidence, Find, Holds, Limited. -/
set_option linter.unusedSimpArgs false
set_option linter.unusedVariables false
namespace Go.Proofs.YtepbdjpcoleegaaGreat
open Go.Sort Eng
set_option maxRecDepth 100000 in
set_option maxRecDepth 100000 in
theorem usableG (F : Frm) (x : Res) : Contract F Tryz.prog 51 [resAg x] (fun r => r = .b (usableR x)) := by
 refine contract_of Tryz.func51 rfl (by kernel_rfl) ?_
 simp only [Tryz.ntmps51, argEnv, resAg, Res.cs]
 (repeat refine Sat.seq ?_)
 (refine Sat.region_k fun k hk => ?_; simp -implicitDefEqProofs only [evr, id, seval, res_one, par_one, idn_one, idn_0, idn_1, idn_2, resRow, res_ro, rExtract_tup, par_eq, evn])
 intro blk1
 (refine hk _ ?_; clear hk k; try show Sat _ _ _ _ _)
 (repeat refine Sat.seq ?_)
 refine Sat.at ⟨10, [(2, .b (usableR x))], []⟩ ?_ ?_
 ·(refine Sat.region_k fun k hk => ?_; simp -implicitDefEqProofs only [evr, id, seval, res_one, par_one, idn_one, idn_0, idn_1, idn_2, resRow, res_ro, rExtract_tup, par_eq, evn])
  refine wcall_plain (validG F x) rfl (by rintro _ rfl; exact ok_plain rfl) ?_
  rintro r rfl
  simp -implicitDefEqProofs only [evr, id, seval, res_one, par_one, idn_one, idn_0, idn_1, idn_2, resRow, res_ro, rExtract_tup, par_eq, evn]
  refine ⟨fun h1 => hk _ ?_, fun h1 => hk _ ?_⟩
  ·have e : usableR x = !x.doubled := by simp only [usableR, h1, Bool.and_true]
   simp only [thenK, e]
   simp -implicitDefEqProofs only [evr, id, seval, res_one, par_one, idn_one, idn_0, idn_1, idn_2, resRow, res_ro, rExtract_tup, par_eq, evl, evn]
  ·have e : usableR x = false := by simp only [usableR, h1, Bool.and_false]
   simp only [thenK, e]
   simp -implicitDefEqProofs only [evr, id, seval, res_one, par_one, idn_one, idn_0, idn_1, idn_2, resRow, res_ro, rExtract_tup, par_eq, evl, evn]
 simp only [thenK, blockK]
 refine Sat.ret ?_
 simp only [Tryz.results51, evr, id, seval, res_one, par_one, idn_one, idn_0, idn_1, idn_2, List.append_nil, Int.toNat_zero, Nat.sub_self, Int.reduceToNat, resRow, res_ro, rExtract_tup, par_eq]
set_option maxHeartbeats 1000000 in
set_option maxRecDepth 100000 in
set_option maxHeartbeats 1000000 in
set_option maxRecDepth 100000 in
theorem refValidEvC (F : Frm) (e : Evd) (he : e.ids.length ≤ 1000000000) : Contract F Tryz.prog 22 [evAg e] (fun r => r = .b (validEv e)) := by
 refine contract_of Tryz.func22 rfl (by kernel_rfl) ?_
 simp only [Tryz.ntmps22, argEnv, evAg, Evd.cs]
 (repeat refine Sat.seq ?_)
 (refine Sat.region_k fun k hk => ?_; simp -implicitDefEqProofs only [evr, id, seval, res_one, par_one, idn_one, idn_0, idn_1, idn_2, resRow, res_ro, rExtract_tup, par_eq, evn])
 intro b1
 (refine hk _ ?_; clear hk k; try show Sat _ _ _ _ _)
 (repeat refine Sat.seq ?_)
 refine Sat.atF (ι := Bool) (fun q => ⟨50, [(29, .b q), (1, .op 0 b1 0), (2, .ff)], [.box b1 28 (Evd.cs e)]⟩) (fun q => q = !evPre e) ?_ ?_
 ·(refine Sat.region_k fun k hk => ?_; simp -implicitDefEqProofs only [evr, id, seval, res_one, par_one, idn_one, idn_0, idn_1, idn_2, resRow, res_ro, rExtract_tup, par_eq, evn])
  refine ⟨fun h1 => ?_, fun h1 => ⟨fun h2 => ?_, fun h2 => ⟨fun h3 => ?_, fun h3 => ⟨fun h4 => ?_, fun h4 => ?_⟩⟩⟩⟩
  ·refine hk _ ?_
   simp only [thenK]
   refine ⟨true, by unfold evPre; symm; rw [Bool.not_eq_true', decide_eq_false_iff_not]; omega, ?_⟩
   simp only [Evd.cs]
   simp -implicitDefEqProofs only [evr, id, seval, res_one, par_one, idn_one, idn_0, idn_1, idn_2, resRow, res_ro, rExtract_tup, par_eq, evl, evn]
  ·refine hk _ ?_
   simp only [thenK]
   refine ⟨true, by unfold evPre; symm; rw [Bool.not_eq_true', decide_eq_false_iff_not]; omega, ?_⟩
   simp only [Evd.cs]
   simp -implicitDefEqProofs only [evr, id, seval, res_one, par_one, idn_one, idn_0, idn_1, idn_2, resRow, res_ro, rExtract_tup, par_eq, evl, evn]
  ·refine hk _ ?_
   simp only [thenK]
   refine ⟨true, by unfold evPre; symm; rw [Bool.not_eq_true', decide_eq_false_iff_not]; (rw [beq_iff_eq] at h3; exact fun hh => hh.2.1 h3), ?_⟩
   simp only [Evd.cs]
   simp -implicitDefEqProofs only [evr, id, seval, res_one, par_one, idn_one, idn_0, idn_1, idn_2, resRow, res_ro, rExtract_tup, par_eq, evl, evn]
  ·refine hk _ ?_
   simp only [thenK]
   refine ⟨true, by unfold evPre; symm; rw [Bool.not_eq_true', decide_eq_false_iff_not]; omega, ?_⟩
   simp only [Evd.cs]
   simp -implicitDefEqProofs only [evr, id, seval, res_one, par_one, idn_one, idn_0, idn_1, idn_2, resRow, res_ro, rExtract_tup, par_eq, evl, evn]
  ·refine hk _ ?_
   simp only [thenK]
   refine ⟨((e.ids.length : Int) == 0), ?_, ?_⟩
   rotate_left
   ·simp only [Evd.cs]
    simp -implicitDefEqProofs only [evr, id, seval, res_one, par_one, idn_one, idn_0, idn_1, idn_2, resRow, res_ro, rExtract_tup, par_eq, evl, evn]
   ·rw [beq_eq_false_iff_ne] at h3
    unfold evPre
    by_cases h5 : e.ids.length = 0
    ·simp [h5]
    ·have a1 : ((e.ids.length : Int) == 0) = false := by rw [beq_eq_false_iff_ne]; omega
     rw [a1, decide_eq_true ⟨⟨by omega, by omega⟩, h3, by omega, h5⟩]
     rfl
 rintro q rfl
 simp only [Evd.cs]
 (repeat refine Sat.seq ?_)
 refine Sat.cond_b rfl (fun h => ?_) (fun h => ?_)
 ·have hp : evPre e = false := by simpa using h
  (repeat refine Sat.seq ?_)
  (refine Sat.region_k fun k hk => ?_; simp -implicitDefEqProofs only [evr, id, seval, res_one, par_one, idn_one, idn_0, idn_1, idn_2, resRow, res_ro, rExtract_tup, par_eq, evn]; refine hk _ ?_; clear hk k; try show Sat _ _ _ _ _)
  refine Sat.ret ?_
  simp only [Tryz.results22, evr, id, seval, res_one, par_one, idn_one, idn_0, idn_1, idn_2, List.append_nil, Int.toNat_zero, Nat.sub_self, Int.reduceToNat, resRow, res_ro, rExtract_tup, par_eq]
  unfold validEv
  rw [hp]
  rfl
 have hp : evPre e = true := by simpa using h
 refine Sat.skip ?_
 simp only [thenK]
 have hlen : e.ids.length ≠ 0 := by
  unfold evPre at hp
  exact (of_decide_eq_true hp).2.2.2
 (repeat refine Sat.seq ?_)
 (refine Sat.region_k fun k hk => ?_; simp -implicitDefEqProofs only [evr, id, seval, res_one, par_one, idn_one, idn_0, idn_1, idn_2, resRow, res_ro, rExtract_tup, par_eq, evn]; refine hk _ ?_; clear hk k; try show Sat _ _ _ _ _)
 (repeat refine Sat.seq ?_)
 refine Sat.block ?_
 refine Sat.loop (ι := Nat) (fun i => ⟨50, [(3, .i .i64 i), (1, .op 0 b1 0), (2, .ff)], [.box b1 28 [.i .i64 e.kind, .i .u32 e.a, .i .u32 e.b, .sl e.ad e.ids.length e.cap 3 (idnRd e.ids.toArray)]]⟩)
  (fun i => 1 ≤ i ∧ i ≤ e.ids.length ∧ ∀ q, q + 1 < i → idnLt (e.ids.getD q default) (e.ids.getD (q + 1) default) = true) (fun i => e.ids.length - i) 1 ⟨Nat.le_refl _, by omega, fun q hq => by omega⟩ (by simp -implicitDefEqProofs only [evr, id, seval, res_one, par_one, idn_one, idn_0, idn_1, idn_2, resRow, res_ro, rExtract_tup, par_eq, evl, evn]; try rfl) ?_
 rintro i ⟨hi1, hi, hq⟩
 (repeat refine Sat.seq ?_)
 (refine Sat.region_k fun k hk => ?_; simp -implicitDefEqProofs only [evr, id, seval, res_one, par_one, idn_one, idn_0, idn_1, idn_2, resRow, res_ro, rExtract_tup, par_eq, evn]; refine hk _ ?_; clear hk k; try show Sat _ _ _ _ _)
 (repeat refine Sat.seq ?_)
 refine Sat.cond_b rfl (fun h2 => ?_) (fun h2 => ?_)
 ·have hlt : i < e.ids.length := by simp only [decide_eq_true_eq] at h2; omega
  have e1 : IntKind.i64.wrap ((i : Int) + 1) = ((i + 1 : Nat) : Int) := by rw [w64 (by omega)]; omega
  have e2 : IntKind.i64.wrap ((i : Int) - 1) = ((i - 1 : Nat) : Int) := by rw [w64 (by omega)]; omega
  refine Sat.skip ?_
  simp only [thenK]
  (repeat refine Sat.seq ?_)
  refine Sat.block ?_
  (repeat refine Sat.seq ?_)
  (refine Sat.region_rows [⟨0, 38, 2, 0⟩, ⟨1, 39, 137438953472, 1⟩, ⟨0, 40, 8, 0⟩, ⟨4, 41, 549755813888, 0⟩, ⟨10, 42, 1374389534720, 0⟩, ⟨16, 43, 2199023255552, 1⟩, ⟨0, 44, 2, 0⟩, ⟨64, 45, 8796093022208, 1⟩, ⟨0, 46, 8, 0⟩, ⟨384, 47, 52776558133248, 0⟩, ⟨512, 48, 70368744177664, 1⟩, ⟨1056, 49, 145135534866432, 2⟩, ⟨2048, 50, 281474976710656, 0⟩] [0, 2, 3, 6, 8, 1, 7, 4, 9, 5, 10] [(11, false), (12, false)] [] (by kernel_rfl) (by kernel_rfl) (fun _ _ h => h) fun k hk => ?_; simp only [List.map_cons, List.map_nil, List.getD_cons_zero, List.getD_cons_succ, btseq_cons, btseq_free, btseq_nil]; simp -implicitDefEqProofs only [evr, id, seval, res_one, par_one, idn_one, idn_0, idn_1, idn_2, resRow, res_ro, rExtract_tup, par_eq, evn])
  simp only [e2, Int.toNat_natCast]
  refine ⟨⟨by omega, by omega⟩, by omega, ?_⟩
  refine wcall_plain (refCompareIdC F e.ids.toArray[i - 1]! e.ids.toArray[i]!) rfl (by rintro _ rfl; exact ok_plain rfl) ?_
  rintro _ rfl
  simp -implicitDefEqProofs only [evr, id, seval, res_one, par_one, idn_one, idn_0, idn_1, idn_2, resRow, res_ro, rExtract_tup, par_eq, evn]
  (refine hk _ ?_; clear hk k; try show Sat _ _ _ _ _)
  have g1 : e.ids.toArray[i - 1]! = e.ids.getD (i - 1) default := by simp [getElem!_def, List.getD, show i - 1 < e.ids.length by omega]
  have g2 : e.ids.toArray[i]! = e.ids.getD i default := by simp [getElem!_def, List.getD, hlt]
  rw [g1, g2]
  (repeat refine Sat.seq ?_)
  refine Sat.cond_b rfl (fun h3 => ?_) (fun h3 => ?_)
  ·have hno : idnLt (e.ids.getD (i - 1) default) (e.ids.getD i default) = false := by
    unfold idnLt
    simp only [decide_eq_true_eq, ge_iff_le] at h3
    rw [decide_eq_false_iff_not]
    omega
   (repeat refine Sat.seq ?_)
   (refine Sat.region_k fun k hk => ?_; simp -implicitDefEqProofs only [evr, id, seval, res_one, par_one, idn_one, idn_0, idn_1, idn_2, resRow, res_ro, rExtract_tup, par_eq, evn]; refine hk _ ?_; clear hk k; try show Sat _ _ _ _ _)
   refine Sat.ret ?_
   simp only [blockK, Tryz.results22, evr, id, seval, res_one, par_one, idn_one, idn_0, idn_1, idn_2, List.append_nil, Int.toNat_zero, Nat.sub_self, Int.reduceToNat, resRow, res_ro, rExtract_tup, par_eq]
   have : idsAsc e.ids = false := by
    cases hA : idsAsc e.ids with
    | false => rfl
    | true =>
     unfold idsAsc at hA
     have := of_decide_eq_true hA (i - 1) (by omega)
     rw [show i - 1 + 1 = i by omega, hno] at this
     cases this
   unfold validEv
   rw [this, Bool.and_false]
  have hyes : idnLt (e.ids.getD (i - 1) default) (e.ids.getD i default) = true := by
   unfold idnLt
   simp only [decide_eq_false_iff_not, ge_iff_le] at h3
   rw [decide_eq_true_eq]
   omega
  refine Sat.skip ?_
  simp only [thenK, blockK]
  refine Sat.region_k fun k hk => ?_
  simp -implicitDefEqProofs only [evr, id, seval, res_one, par_one, idn_one, idn_0, idn_1, idn_2, resRow, res_ro, rExtract_tup, par_eq, e1, evn]
  refine hk _ ?_
  simp only [thenK, blockK]
  refine ⟨i + 1, ⟨by omega, by omega, fun q hq2 => ?_⟩, by omega, ?_⟩
  ·by_cases hqi : q + 1 < i
   ·exact hq q hqi
   ·obtain rfl : q = i - 1 := by omega
    rw [show i - 1 + 1 = i by omega]
    exact hyes
  ·simp -implicitDefEqProofs only [evr, id, seval, res_one, par_one, idn_one, idn_0, idn_1, idn_2, resRow, res_ro, rExtract_tup, par_eq, evl, evn]
 ·have hie : i = e.ids.length := by simp only [decide_eq_false_iff_not] at h2; omega
  refine Sat.exit ?_
  simp only [thenK, blockK, reduceIte]
  (repeat refine Sat.seq ?_)
  (refine Sat.region_k fun k hk => ?_; simp -implicitDefEqProofs only [evr, id, seval, res_one, par_one, idn_one, idn_0, idn_1, idn_2, resRow, res_ro, rExtract_tup, par_eq, evn]; refine hk _ ?_; clear hk k; try show Sat _ _ _ _ _)
  refine Sat.ret ?_
  simp only [Tryz.results22, evr, id, seval, res_one, par_one, idn_one, idn_0, idn_1, idn_2, List.append_nil, Int.toNat_zero, Nat.sub_self, Int.reduceToNat, resRow, res_ro, rExtract_tup, par_eq]
  have : idsAsc e.ids = true := by
   unfold idsAsc
   rw [decide_eq_true_eq]
   intro q hq2
   exact hq q (by omega)
  unfold validEv
  rw [hp, this]
  rfl
set_option maxHeartbeats 1000000 in
set_option maxRecDepth 100000 in
theorem refShowC (F : Frm) (x : Res) : Contract F Tryz.prog 15 [resAg x] (fun r => r = showS (showR x)) := by
 refine contract_of Tryz.func15 rfl (by kernel_rfl) ?_
 simp only [Tryz.ntmps15, argEnv, resAg, Res.cs]
 (repeat refine Sat.seq ?_)
 (refine Sat.region_k fun k hk => ?_; simp -implicitDefEqProofs only [evr, id, seval, res_one, par_one, idn_one, idn_0, idn_1, idn_2, resRow, res_ro, rExtract_tup, par_eq, evn])
 intro b1 b2
 (refine hk _ ?_; clear hk k; try show Sat _ _ _ _ _)
 (repeat refine Sat.seq ?_)
 refine Sat.at ⟨40, [(25, .b (showR x).isNone), (2, .op 1 b2 0), (1, .op 0 b1 0), (3, .ff)], [.box b1 51 (Res.cs x), .box b2 45 [.i .u32 0, .i .u32 0]]⟩ ?_ ?_
 ·(refine Sat.region_k fun k hk => ?_; simp -implicitDefEqProofs only [evr, id, seval, res_one, par_one, idn_one, idn_0, idn_1, idn_2, resRow, res_ro, rExtract_tup, par_eq, evn])
  refine wcall_plain (usableG F x) (by simp only [resAg, Res.cs, evr, id, seval, res_one, par_one, idn_one, idn_0, idn_1, idn_2, List.append_nil, Int.toNat_zero, Nat.sub_self, Int.reduceToNat, resRow, res_ro, rExtract_tup, par_eq]; try rfl) (by rintro _ rfl; exact ok_plain rfl) ?_
  rintro r rfl
  simp -implicitDefEqProofs only [evr, id, seval, res_one, par_one, idn_one, idn_0, idn_1, idn_2, resRow, res_ro, rExtract_tup, par_eq, evn]
  refine ⟨fun h1 => hk _ ?_, fun h1 => ⟨fun h2 => hk _ ?_, fun h2 => ⟨fun h3 => hk _ ?_, fun h3 => hk _ ?_⟩⟩⟩
  ·have e : (showR x).isNone = true := by
    unfold showR; rw [if_neg (fun h => by simp [h.2.2.2] at h1)]; rfl
   simp only [thenK, e, Res.cs]
   simp -implicitDefEqProofs only [evr, id, seval, res_one, par_one, idn_one, idn_0, idn_1, idn_2, resRow, res_ro, rExtract_tup, par_eq, evl, evn]
  ·have e : (showR x).isNone = true := by
    unfold showR; rw [if_neg (fun h => by simp [h.1] at h2)]; rfl
   simp only [thenK, e, Res.cs]
   simp -implicitDefEqProofs only [evr, id, seval, res_one, par_one, idn_one, idn_0, idn_1, idn_2, resRow, res_ro, rExtract_tup, par_eq, evl, evn]
  ·have e : (showR x).isNone = true := by
    unfold showR; rw [if_neg (fun h => by simp [h.2.1] at h3)]; rfl
   simp only [thenK, e, Res.cs]
   simp -implicitDefEqProofs only [evr, id, seval, res_one, par_one, idn_one, idn_0, idn_1, idn_2, resRow, res_ro, rExtract_tup, par_eq, evl, evn]
  ·have e : (showR x).isNone = (x.from_ == x.dst) := by
    unfold showR
    simp only [Bool.not_eq_false'] at h1 h2
    simp only [bne_eq_false_iff_eq] at h3
    by_cases h5 : x.from_ = x.dst
    ·simp [h1, h2, h3, h5]
    ·simp [h1, h2, h3, h5]
   simp only [thenK, e, Res.cs]
   simp -implicitDefEqProofs only [evr, id, seval, res_one, par_one, idn_one, idn_0, idn_1, idn_2, resRow, res_ro, rExtract_tup, par_eq, evl, evn]
 simp only [Res.cs]
 (repeat refine Sat.seq ?_)
 refine Sat.cond_b rfl (fun h => ?_) (fun h => ?_)
 ·obtain hs := Option.isNone_iff_eq_none.1 h
  rw [hs]
  (repeat refine Sat.seq ?_)
  (refine Sat.region_k fun k hk => ?_; simp -implicitDefEqProofs only [evr, id, seval, res_one, par_one, idn_one, idn_0, idn_1, idn_2, resRow, res_ro, rExtract_tup, par_eq, evn]; refine hk _ ?_; clear hk k; try show Sat _ _ _ _ _)
  refine Sat.ret ?_
  simp only [Tryz.results15, evr, id, seval, res_one, par_one, idn_one, idn_0, idn_1, idn_2, List.append_nil, Int.toNat_zero, Nat.sub_self, Int.reduceToNat, resRow, res_ro, rExtract_tup, par_eq]
  rfl
 ·have hs : showR x = some ⟨min x.dst x.from_, max x.dst x.from_⟩ := by
   unfold showR at h ⊢
   split
   ·rfl
   ·rename_i hn; rw [if_neg hn] at h; cases h
  rw [hs]
  refine Sat.skip ?_
  simp only [thenK]
  (repeat refine Sat.seq ?_)
  (refine Sat.region_k fun k hk => ?_; simp -implicitDefEqProofs only [evr, id, seval, res_one, par_one, idn_one, idn_0, idn_1, idn_2, resRow, res_ro, rExtract_tup, par_eq, evn]; refine hk _ ?_; clear hk k; try show Sat _ _ _ _ _)
  refine Sat.ret ?_
  simp only [Tryz.results15, evr, id, seval, res_one, par_one, idn_one, idn_0, idn_1, idn_2, List.append_nil, Int.toNat_zero, Nat.sub_self, Int.reduceToNat, resRow, res_ro, rExtract_tup, par_eq]
  rw [Int.min_comm x.from_, Int.max_comm x.from_]
  rfl
theorem wCompare_tr {a b c : Res} (h : wCompare a b < 0) (g : wCompare b c < 0) : wCompare a c < 0 := cmpL_trans a.wkeys b.wkeys c.wkeys rfl rfl h g
theorem wCompare_tot (a b : Res) : wCompare a b < 0 ∨ wCompare a b = 0 ∨ wCompare b a < 0 := by
 unfold wCompare
 have h1 := cmpL_neg a.wkeys b.wkeys
 rcases cmpL_vals a.wkeys b.wkeys with h | h | h <;> omega
theorem wCompare_lt_of_eq {a b c : Res} (h : wCompare a b = 0) (g : wCompare a c < 0) : wCompare b c < 0 := by
 have e : a.wkeys = b.wkeys := (cmpL_zero a.wkeys b.wkeys rfl).1 h
 unfold wCompare at g ⊢
 rw [← e]
 exact g
theorem findV_min {d : Idn} : ∀ {xs : List Res} {o : Option Res} {r : Res}, xs.foldl (findStep d) o = some r → (∀ s ∈ xs, validR s = true → s.idn = d → ¬ wCompare s r < 0) ∧ (∀ b, o = some b → ¬ wCompare b r < 0)
 | [], o, r, h => ⟨fun s hs => (by cases hs), fun b hb => by
  have e : o = some r := h
  rw [hb] at e
  cases e
  unfold wCompare
  rw [cmpL_self]
  decide⟩
 | x :: xs, o, r, h => by
  obtain ⟨h1, h2⟩ := findV_min (xs := xs) h
  have key : (validR x = true → x.idn = d → ¬ wCompare x r < 0) ∧ (∀ b, o = some b → ¬ wCompare b r < 0) := by
   unfold findStep at h2
   split at h2
   ·rename_i hp
    have hx := h2 x rfl
    refine ⟨fun _ _ => hx, fun b hb hlt => ?_⟩
    subst hb
    simp only [findP, Bool.and_eq_true, decide_eq_true_eq] at hp
    exact hx (wCompare_tr hp.2.1 hlt)
   ·rename_i hp
    refine ⟨fun hv hd hlt => ?_, h2⟩
    match o, h2, hp with
    | none, _, hp => exact hp (by simp [findP, hv, hd])
    | some b, h2, hp =>
     have hb := h2 b rfl
     have : ¬ wCompare x b < 0 := fun h9 => hp (by simp [findP, hv, hd, h9])
     rcases wCompare_tot x b with h9 | h9 | h9
     ·exact this h9
     ·exact hb (wCompare_lt_of_eq h9 hlt)
     ·exact hb (wCompare_tr h9 hlt)
  refine ⟨fun s hs hv hd => ?_, key.2⟩
  rcases List.mem_cons.1 hs with rfl | hs
  ·exact key.1 hv hd
  ·exact h1 s hs hv hd
theorem ord_lt {a b : Res} (ha : RgR a) (hb : RgR b) (h : pthLt a b = true) : wCompare a b < 0 := by
 unfold pthLt at h
 have h2 := of_decide_eq_true h
 unfold wCompare
 rw [wkeys_in ha.1 ha.2, wkeys_in hb.1 hb.2]
 exact h2
theorem findV_ord {xs ys : List Res} {d : Idn} (h : OrdOf xs ys) (hin : ∀ r ∈ xs, RgR r) {i : Nat} (hi : i < ys.length) (hd : (ys.getD i default).idn = d) (hq : ∀ q, q < i → (ys.getD q default).idn ≠ d) : findV xs d = some (ys.getD i default) := by
 have hat : ∀ q, q < ys.length → ys.getD q default = ys[q]! := fun q h => by simp [getElem!_def, List.getD, h]
 have hgi : ys.getD i default = ys[i] := by rw [List.getD_eq_getElem?_getD, List.getElem?_eq_getElem hi]; rfl
 rw [hgi] at hd ⊢
 have hm := (h.2 ys[i]).1 (List.getElem_mem _)
 cases hf : findV xs d with
 | none => exact absurd hd ((findV_none hf).2 _ hm.1 hm.2)
 | some r =>
  rcases findV_some hf with ⟨h1, h2, h3⟩ | h1
  ·obtain ⟨j, hj, rfl⟩ := List.getElem_of_mem ((h.2 r).2 ⟨h1, h2⟩)
   rcases Nat.lt_trichotomy j i with g | g | g
   ·exact absurd h3 (by have := hq j g; rwa [List.getD_eq_getElem?_getD, List.getElem?_eq_getElem hj] at this)
   ·subst g; rfl
   ·have hlt := ord_lt (hin _ hm.1) (hin _ h1) (List.pairwise_iff_getElem.1 h.1 i j hi hj g)
    exact absurd hlt ((findV_min hf).1 _ hm.1 hm.2 hd)
  ·cases h1
theorem findV_ordN {xs ys : List Res} {d : Idn} (h : OrdOf xs ys) (hq : ∀ q, q < ys.length → (ys.getD q default).idn ≠ d) : findV xs d = none := by
 cases hf : findV xs d with
 | none => rfl
 | some r =>
  rcases findV_some hf with ⟨h1, h2, h3⟩ | h1
  ·obtain ⟨j, hj, rfl⟩ := List.getElem_of_mem ((h.2 r).2 ⟨h1, h2⟩)
   exact absurd h3 (by have := hq j hj; rwa [List.getD_eq_getElem?_getD, List.getElem?_eq_getElem hj] at this)
  ·cases h1
set_option maxHeartbeats 1000000 in
set_option maxRecDepth 100000 in
theorem findG (F : Frm) (ad : Option Addr) (cap : Nat) (xs : List Res) (d : Idn) (hl : xs.length ≤ 1000000000) (hin : ∀ r ∈ xs, RgR r) :
  Contract F Tryz.prog 53 [.sl ad xs.length cap 17 (resRd xs.toArray), idnAg d] (fun r => r = findS (findV xs d)) := by
 refine contract_of Tryz.func53 rfl (by kernel_rfl) ?_
 simp only [Tryz.ntmps53, argEnv, idnAg, Idn.cs]
 (repeat refine Sat.seq ?_)
 (refine Sat.region_k fun k hk => ?_; simp -implicitDefEqProofs only [evr, id, seval, res_one, par_one, idn_one, idn_0, idn_1, idn_2, resRow, res_ro, rExtract_tup, par_eq, evn])
 intro b3 b4
 (refine hk _ ?_; clear hk k; try show Sat _ _ _ _ _)
 (repeat refine Sat.seq ?_)
 (refine Sat.region_k fun k hk => ?_; simp -implicitDefEqProofs only [evr, id, seval, res_one, par_one, idn_one, idn_0, idn_1, idn_2, resRow, res_ro, rExtract_tup, par_eq, evn])
 refine wcall_new (orderG F ad cap xs hl hin) rfl (by simp -implicitDefEqProofs only [evr, id, seval, res_one, par_one, idn_one, idn_0, idn_1, idn_2, resRow, res_ro, rExtract_tup, par_eq, evn]; try rfl) ?_
 rintro ya ty len yc sz rrd ⟨a1, c1, ys, hord, hyl, e⟩
 simp only [resRow, Own.row.injEq] at e
 obtain ⟨rfl, rfl, rfl, rfl, rfl, rfl⟩ := e
 simp -implicitDefEqProofs only [evr, id, seval, res_one, par_one, idn_one, idn_0, idn_1, idn_2, resRow, res_ro, rExtract_tup, par_eq, evn]
 (refine hk _ ?_; clear hk k; try show Sat _ _ _ _ _)
 refine Sat.settle2 6 rfl rfl ?_
 simp -implicitDefEqProofs only [evr, id, seval, res_one, par_one, idn_one, idn_0, idn_1, idn_2, resRow, res_ro, rExtract_tup, par_eq, evn]
 (repeat refine Sat.seq ?_)
 (refine Sat.region_k fun k hk => ?_; simp -implicitDefEqProofs only [evr, id, seval, res_one, par_one, idn_one, idn_0, idn_1, idn_2, resRow, res_ro, rExtract_tup, par_eq, evn]; refine hk _ ?_; clear hk k; try show Sat _ _ _ _ _)
 (repeat refine Sat.seq ?_)
 refine Sat.block ?_
 refine Sat.loop (ι := Nat) (fun i => ⟨28, [(7, .i .i64 i), (6, .sl ya ys.length yc 17 (resRd ys.toArray)), (5, .b false), (4, .op 1 b4 0), (3, .op 0 b3 0)], [.box b3 30 [.i .i64 d.van, .i .i64 d.run, .i .i64 d.num], .box b4 51 (Res.cs default)]⟩)
  (fun i => i ≤ ys.length ∧ ∀ q, q < i → (ys.getD q default).idn ≠ d) (fun i => ys.length - i) 0 ⟨Nat.zero_le _, fun q hq => by omega⟩ (by simp only [Res.cs]; simp -implicitDefEqProofs only [evr, id, seval, res_one, par_one, idn_one, idn_0, idn_1, idn_2, resRow, res_ro, rExtract_tup, par_eq, evl, evn]; try rfl) ?_
 rintro i ⟨hi, hq⟩
 simp only [Res.cs]
 (repeat refine Sat.seq ?_)
 (refine Sat.region_k fun k hk => ?_; simp -implicitDefEqProofs only [evr, id, seval, res_one, par_one, idn_one, idn_0, idn_1, idn_2, resRow, res_ro, rExtract_tup, par_eq, evn]; refine hk _ ?_; clear hk k; try show Sat _ _ _ _ _)
 (repeat refine Sat.seq ?_)
 refine Sat.cond_b rfl (fun h => ?_) (fun h => ?_)
 ·have h1 : i < ys.length := by simp only [decide_eq_true_eq] at h; omega
  have e1 : IntKind.i64.wrap ((i : Int) + 1) = ((i + 1 : Nat) : Int) := by rw [w64 (by omega)]; omega
  obtain ⟨x, hx⟩ : ∃ x, x = ys.toArray[i]! := ⟨_, rfl⟩
  have hxg : ys.getD i default = x := by rw [hx]; simp [getElem!_def, List.getD, h1]
  refine Sat.skip ?_
  simp only [thenK]
  (repeat refine Sat.seq ?_)
  refine Sat.block ?_
  (repeat refine Sat.seq ?_)
  (refine Sat.region_qk (by kernel_rfl) (by kernel_rfl) fun k hk => ?_; simp -implicitDefEqProofs only [evr, id, seval, res_one, par_one, idn_one, idn_0, idn_1, idn_2, resRow, res_ro, rExtract_tup, par_eq, evn])
  refine ⟨by omega, ?_⟩
  refine qcall (identG Frm.nil ys.toArray[i]!) rfl (ok_aggL (l := [SV.i .i64 _, .i .i64 _, .i .i64 _]) rfl) ?_
  rw [← hx]
  simp only [idAg, id_eq, evr, id, seval, res_one, par_one, idn_one, idn_0, idn_1, idn_2, List.append_nil, Int.toNat_zero, Nat.sub_self, Int.reduceToNat, resRow, res_ro, rExtract_tup, par_eq]
  refine hk _ ?_
  clear hk k
  try show Sat _ _ _ _ _
  (repeat refine Sat.seq ?_)
  refine Sat.cond_b rfl (fun h2 => ?_) (fun h2 => ?_)
  ·have hid : (ys.getD i default).idn = d := by rw [hxg]; exact of_decide_eq_true h2
   (repeat refine Sat.seq ?_)
   (refine Sat.region_k fun k hk => ?_; simp -implicitDefEqProofs only [evr, id, seval, res_one, par_one, idn_one, idn_0, idn_1, idn_2, resRow, res_ro, rExtract_tup, par_eq, evn])
   refine ⟨by omega, ?_⟩
   (refine hk _ ?_; clear hk k; try show Sat _ _ _ _ _)
   refine Sat.ret ?_
   simp only [blockK, Tryz.results53, evr, id, seval, res_one, par_one, idn_one, idn_0, idn_1, idn_2, List.append_nil, Int.toNat_zero, Nat.sub_self, Int.reduceToNat, resRow, res_ro, rExtract_tup, par_eq]
   rw [findV_ord hord hin h1 hid hq, hxg, hx]
   rfl
  have hid : (ys.getD i default).idn ≠ d := by rw [hxg]; exact of_decide_eq_false h2
  refine Sat.skip ?_
  simp only [thenK, blockK, reduceIte]
  refine Sat.region_k fun k hk => ?_
  simp -implicitDefEqProofs only [evr, id, seval, res_one, par_one, idn_one, idn_0, idn_1, idn_2, resRow, res_ro, rExtract_tup, par_eq, e1, evn]
  refine hk _ ?_
  simp only [thenK, blockK]
  refine ⟨i + 1, ⟨by omega, fun q hq2 => ?_⟩, by omega, ?_⟩
  ·by_cases e : q < i
   ·exact hq q e
   ·obtain rfl : q = i := by omega
    exact hid
  try simp only [Res.cs]
  simp -implicitDefEqProofs only [evr, id, seval, res_one, par_one, idn_one, idn_0, idn_1, idn_2, resRow, res_ro, rExtract_tup, par_eq, evl, evn]
 have h1 : i = ys.length := by simp only [decide_eq_false_iff_not] at h; omega
 subst h1
 refine Sat.exit ?_
 simp only [thenK, blockK, reduceIte]
 (repeat refine Sat.seq ?_)
 (refine Sat.region_k fun k hk => ?_; simp -implicitDefEqProofs only [evr, id, seval, res_one, par_one, idn_one, idn_0, idn_1, idn_2, resRow, res_ro, rExtract_tup, par_eq, evn])
 (refine hk _ ?_; clear hk k; try show Sat _ _ _ _ _)
 refine Sat.ret ?_
 simp only [Tryz.results53, evr, id, seval, res_one, par_one, idn_one, idn_0, idn_1, idn_2, List.append_nil, Int.toNat_zero, Nat.sub_self, Int.reduceToNat, resRow, res_ro, rExtract_tup, par_eq]
 rw [findV_ordN hord hq]
 rfl
set_option maxRecDepth 100000 in
theorem refLimitedC (F : Frm) (ad : Option Addr) (cap : Nat) (xs : List Res) (hl : xs.length ≤ 512) (hin : ∀ r ∈ xs, RgR r) :
  Contract F Tryz.prog 46 [.sl ad xs.length cap 17 (resRd xs.toArray)] (fun r => r = .i .i64 (if xs.any (fun x => !validR x) = true then 1 else 0)) := by
 refine contract_of Tryz.func46 rfl (by kernel_rfl) ?_
 simp only [Tryz.ntmps46, argEnv]
 (repeat refine Sat.seq ?_)
 (refine Sat.region_k fun k hk => ?_; simp -implicitDefEqProofs only [evr, id, seval, res_one, par_one, idn_one, idn_0, idn_1, idn_2, resRow, res_ro, rExtract_tup, par_eq, evn]; refine hk _ ?_; clear hk k; try show Sat _ _ _ _ _)
 (repeat refine Sat.seq ?_)
 (refine Sat.region_k fun k hk => ?_; simp -implicitDefEqProofs only [evr, id, seval, res_one, par_one, idn_one, idn_0, idn_1, idn_2, resRow, res_ro, rExtract_tup, par_eq, evn]; refine hk _ ?_; clear hk k; try show Sat _ _ _ _ _)
 (repeat refine Sat.seq ?_)
 refine Sat.block ?_
 refine Sat.loop (ι := Nat) (fun i => ⟨20, [(3, .i .i64 i), (0, .sl ad xs.length cap 17 (resRd xs.toArray))], []⟩)
  (fun i => i ≤ xs.length ∧ ∀ q, q < i → validR (xs.getD q default) = true) (fun i => xs.length - i) 0 ⟨Nat.zero_le _, fun q hq => by omega⟩ (by simp -implicitDefEqProofs only [evr, id, seval, res_one, par_one, idn_one, idn_0, idn_1, idn_2, resRow, res_ro, rExtract_tup, par_eq, evl, evn]; try rfl) ?_
 rintro i ⟨hi, hq⟩
 (repeat refine Sat.seq ?_)
 (refine Sat.region_k fun k hk => ?_; simp -implicitDefEqProofs only [evr, id, seval, res_one, par_one, idn_one, idn_0, idn_1, idn_2, resRow, res_ro, rExtract_tup, par_eq, evn]; refine hk _ ?_; clear hk k; try show Sat _ _ _ _ _)
 (repeat refine Sat.seq ?_)
 refine Sat.cond_b rfl (fun h => ?_) (fun h => ?_)
 ·have h1 : i < xs.length := by simp only [decide_eq_true_eq] at h; omega
  have e1 : IntKind.i64.wrap ((i : Int) + 1) = ((i + 1 : Nat) : Int) := by rw [w64 (by omega)]; omega
  have hxg : xs.toArray[i]! = xs.getD i default := by simp [getElem!_def, List.getD, h1]
  refine Sat.skip ?_
  simp only [thenK]
  (repeat refine Sat.seq ?_)
  refine Sat.block ?_
  (repeat refine Sat.seq ?_)
  (refine Sat.region_k fun k hk => ?_; simp -implicitDefEqProofs only [evr, id, seval, res_one, par_one, idn_one, idn_0, idn_1, idn_2, resRow, res_ro, rExtract_tup, par_eq, evn])
  refine ⟨by omega, ?_⟩
  refine wcall_plain (validG F xs.toArray[i]!) rfl (by rintro _ rfl; exact ok_plain rfl) ?_
  rintro _ rfl
  rw [hxg]
  simp -implicitDefEqProofs only [evr, id, seval, res_one, par_one, idn_one, idn_0, idn_1, idn_2, resRow, res_ro, rExtract_tup, par_eq, evn]
  (refine hk _ ?_; clear hk k; try show Sat _ _ _ _ _)
  (repeat refine Sat.seq ?_)
  refine Sat.cond_b rfl (fun h2 => ?_) (fun h2 => ?_)
  ·(repeat refine Sat.seq ?_)
   (refine Sat.region_k fun k hk => ?_; simp -implicitDefEqProofs only [evr, id, seval, res_one, par_one, idn_one, idn_0, idn_1, idn_2, resRow, res_ro, rExtract_tup, par_eq, evn]; refine hk _ ?_; clear hk k; try show Sat _ _ _ _ _)
   refine Sat.ret ?_
   simp only [blockK, Tryz.results46, evr, id, seval, res_one, par_one, idn_one, idn_0, idn_1, idn_2, List.append_nil, Int.toNat_zero, Nat.sub_self, Int.reduceToNat, resRow, res_ro, rExtract_tup, par_eq]
   rw [if_pos (List.any_eq_true.2 ⟨xs.getD i default, getD_mem h1, h2⟩)]
  have hv : validR (xs.getD i default) = true := by simpa using h2
  refine Sat.skip ?_
  simp only [thenK, blockK, reduceIte]
  refine Sat.region_k fun k hk => ?_
  simp -implicitDefEqProofs only [evr, id, seval, res_one, par_one, idn_one, idn_0, idn_1, idn_2, resRow, res_ro, rExtract_tup, par_eq, e1, evn]
  refine hk _ ?_
  simp only [thenK, blockK]
  refine ⟨i + 1, ⟨by omega, fun q hq2 => ?_⟩, by omega, ?_⟩
  ·by_cases e : q < i
   ·exact hq q e
   ·obtain rfl : q = i := by omega
    exact hv
  simp -implicitDefEqProofs only [evr, id, seval, res_one, par_one, idn_one, idn_0, idn_1, idn_2, resRow, res_ro, rExtract_tup, par_eq, evl, evn]
 have h1 : i = xs.length := by simp only [decide_eq_false_iff_not] at h; omega
 subst h1
 have hall : xs.any (fun x => !validR x) = false := by
  rw [List.any_eq_false]
  intro x hx
  obtain ⟨q, hq2, rfl⟩ := List.getElem_of_mem hx
  have := hq q hq2
  rw [List.getD_eq_getElem?_getD, List.getElem?_eq_getElem hq2] at this
  simpa using this
 refine Sat.exit ?_
 simp only [thenK, blockK, reduceIte]
 (repeat refine Sat.seq ?_)
 (refine Sat.region_k fun k hk => ?_; simp -implicitDefEqProofs only [evr, id, seval, res_one, par_one, idn_one, idn_0, idn_1, idn_2, resRow, res_ro, rExtract_tup, par_eq, evn])
 refine wcall_new (orderG F ad cap xs (by omega) hin) rfl (by simp -implicitDefEqProofs only [evr, id, seval, res_one, par_one, idn_one, idn_0, idn_1, idn_2, resRow, res_ro, rExtract_tup, par_eq, evn]; try rfl) ?_
 rintro ya ty len yc sz rrd ⟨a1, c1, ys, hord, hyl, e⟩
 simp only [resRow, Own.row.injEq] at e
 obtain ⟨rfl, rfl, rfl, rfl, rfl, rfl⟩ := e
 simp -implicitDefEqProofs only [evr, id, seval, res_one, par_one, idn_one, idn_0, idn_1, idn_2, resRow, res_ro, rExtract_tup, par_eq, evn]
 (refine hk _ ?_; clear hk k; try show Sat _ _ _ _ _)
 refine Sat.cond_b rfl (fun h2 => ?_) (fun h2 => ?_)
 ·simp at h2; omega
 refine Sat.skip ?_
 simp only [thenK]
 (repeat refine Sat.seq ?_)
 (refine Sat.region_k fun k hk => ?_; simp -implicitDefEqProofs only [evr, id, seval, res_one, par_one, idn_one, idn_0, idn_1, idn_2, resRow, res_ro, rExtract_tup, par_eq, evn]; refine hk _ ?_; clear hk k; try show Sat _ _ _ _ _)
 refine Sat.ret ?_
 simp only [Tryz.results46, evr, id, seval, res_one, par_one, idn_one, idn_0, idn_1, idn_2, List.append_nil, Int.toNat_zero, Nat.sub_self, Int.reduceToNat, resRow, res_ro, rExtract_tup, par_eq]
 rw [hall]
 rfl
set_option maxHeartbeats 1000000 in
set_option maxRecDepth 100000 in
theorem refHoldsC (F : Frm) (ad : Option Addr) (cap : Nat) (xs : List Res) (e : Evd) (hl : xs.length ≤ 1000000000) (hin : ∀ r ∈ xs, RgR r) (he : e.ids.length ≤ 1000000000) :
  Contract F Tryz.prog 20 [.sl ad xs.length cap 17 (resRd xs.toArray), evAg e] (fun r => r = .b (holdsV xs e)) := by
 refine contract_of Tryz.func20 rfl (by kernel_rfl) ?_
 simp only [Tryz.ntmps20, argEnv, evAg, Evd.cs]
 (repeat refine Sat.seq ?_)
 (refine Sat.region_k fun k hk => ?_; simp -implicitDefEqProofs only [evr, id, seval, res_one, par_one, idn_one, idn_0, idn_1, idn_2, resRow, res_ro, rExtract_tup, par_eq, evn])
 intro b3
 (refine hk _ ?_; clear hk k; try show Sat _ _ _ _ _)
 (repeat refine Sat.seq ?_)
 refine Sat.joinK (ι := Bool) (fun q => ⟨60, [(17, .b q), (3, .op 0 b3 0), (4, .b false), (0, .sl ad xs.length cap 17 (resRd xs.toArray))], [.box b3 28 (Evd.cs e)]⟩) (fun q => q = !(validEv e && decide (e.kind = 1))) (fun hrest => ?_) ?_
 ·(refine Sat.region_k fun k hk => ?_; simp -implicitDefEqProofs only [evr, id, seval, res_one, par_one, idn_one, idn_0, idn_1, idn_2, resRow, res_ro, rExtract_tup, par_eq, evn])
  refine wcall_plain (refValidEvC F e he) rfl (by rintro _ rfl; exact ok_plain rfl) ?_
  rintro _ rfl
  simp -implicitDefEqProofs only [evr, id, seval, res_one, par_one, idn_one, idn_0, idn_1, idn_2, resRow, res_ro, rExtract_tup, par_eq, evn]
  refine ⟨fun g1 => ?_, fun g1 => ?_⟩
  ·refine hk _ ?_
   simp only [thenK]
   refine (hrest true (by simp only [Bool.not_eq_true'] at g1; rw [g1]; rfl)).le ?_
   simp only [Evd.cs]
   simp -implicitDefEqProofs only [evr, id, seval, res_one, par_one, idn_one, idn_0, idn_1, idn_2, resRow, res_ro, rExtract_tup, par_eq, evl, evn]
  ·refine hk _ ?_
   simp only [thenK]
   refine (hrest (e.kind != 1) (by
    simp only [Bool.not_eq_false'] at g1
    rw [g1, Bool.true_and]
    by_cases h5 : e.kind = 1 <;> simp [h5])).le ?_
   simp only [Evd.cs]
   simp -implicitDefEqProofs only [evr, id, seval, res_one, par_one, idn_one, idn_0, idn_1, idn_2, resRow, res_ro, rExtract_tup, par_eq, evl, evn]
 rintro q rfl
 simp only [Evd.cs]
 (repeat refine Sat.seq ?_)
 refine Sat.cond_b rfl (fun h => ?_) (fun h => ?_)
 ·(repeat refine Sat.seq ?_)
  (refine Sat.region_k fun k hk => ?_; simp -implicitDefEqProofs only [evr, id, seval, res_one, par_one, idn_one, idn_0, idn_1, idn_2, resRow, res_ro, rExtract_tup, par_eq, evn]; refine hk _ ?_; clear hk k; try show Sat _ _ _ _ _)
  refine Sat.ret ?_
  simp only [Tryz.results20, evr, id, seval, res_one, par_one, idn_one, idn_0, idn_1, idn_2, List.append_nil, Int.toNat_zero, Nat.sub_self, Int.reduceToNat, resRow, res_ro, rExtract_tup, par_eq]
  unfold holdsV
  simp only [Bool.not_eq_true'] at h
  rw [h]
  rfl
 simp only [Bool.not_eq_false'] at h
 refine Sat.skip ?_
 simp only [thenK]
 (repeat refine Sat.seq ?_)
 (refine Sat.region_k fun k hk => ?_; simp -implicitDefEqProofs only [evr, id, seval, res_one, par_one, idn_one, idn_0, idn_1, idn_2, resRow, res_ro, rExtract_tup, par_eq, evn]; refine hk _ ?_; clear hk k; try show Sat _ _ _ _ _)
 (repeat refine Sat.seq ?_)
 refine Sat.block ?_
 refine Sat.loop (ι := Nat) (fun i => ⟨60, [(5, .i .i64 i), (3, .op 0 b3 0), (0, .sl ad xs.length cap 17 (resRd xs.toArray))], [.box b3 28 (Evd.cs e)]⟩)
  (fun i => i ≤ e.ids.length ∧ ∀ d ∈ e.ids.take i, idShows xs e d = true) (fun i => e.ids.length - i) 0 ⟨Nat.zero_le _, fun d hd => by simp at hd⟩ (by (try simp only [Evd.cs]); simp -implicitDefEqProofs only [evr, id, seval, res_one, par_one, idn_one, idn_0, idn_1, idn_2, resRow, res_ro, rExtract_tup, par_eq, evl, evn]; try rfl) ?_
 rintro i ⟨hi, hq⟩
 simp only [Evd.cs]
 (repeat refine Sat.seq ?_)
 (refine Sat.region_k fun k hk => ?_; simp -implicitDefEqProofs only [evr, id, seval, res_one, par_one, idn_one, idn_0, idn_1, idn_2, resRow, res_ro, rExtract_tup, par_eq, evn]; refine hk _ ?_; clear hk k; try show Sat _ _ _ _ _)
 (repeat refine Sat.seq ?_)
 refine Sat.cond_b rfl (fun h2 => ?_) (fun h2 => ?_)
 ·have hlt : i < e.ids.length := by simp only [decide_eq_true_eq] at h2; omega
  have e1 : IntKind.i64.wrap ((i : Int) + 1) = ((i + 1 : Nat) : Int) := by rw [w64 (by omega)]; omega
  obtain ⟨d, hd⟩ : ∃ d, d = e.ids.toArray[i]! := ⟨_, rfl⟩
  have hdi : e.ids[i] = d := by rw [hd]; simp [getElem!_def, hlt]
  refine Sat.skip ?_
  simp only [thenK]
  (repeat refine Sat.seq ?_)
  refine Sat.block ?_
  (repeat refine Sat.seq ?_)
  have hbad : idShows xs e d = false → holdsV xs e = false := fun hb => by
   unfold holdsV
   rw [Bool.and_eq_false_iff]
   right
   rw [List.all_eq_false]
   exact ⟨d, by rw [← hdi]; exact List.getElem_mem _, by rw [hb]; decide⟩
  (refine Sat.region_k fun k hk => ?_; simp -implicitDefEqProofs only [evr, id, seval, res_one, par_one, idn_one, idn_0, idn_1, idn_2, resRow, res_ro, rExtract_tup, par_eq, evn])
  refine ⟨by omega, ?_⟩
  refine wcall_plain (findG F ad cap xs e.ids.toArray[i]! hl hin) rfl (by rintro _ rfl; exact findS_ok _) ?_
  rintro _ rfl
  rw [← hd]
  cases hf : findV xs d with
  | none =>
   have hio : idShows xs e d = false := by unfold idShows; rw [hf]
   simp only [findS, tupL, resAg, Res.cs, evr, id, seval, res_one, par_one, idn_one, idn_0, idn_1, idn_2, List.append_nil, Int.toNat_zero, Nat.sub_self, Int.reduceToNat, resRow, res_ro, rExtract_tup, par_eq]
   intro b7
   (refine hk _ ?_; clear hk k; try show Sat _ _ _ _ _)
   (repeat refine Sat.seq ?_)
   (refine Sat.region_k fun k hk => ?_; simp -implicitDefEqProofs only [evr, id, seval, res_one, par_one, idn_one, idn_0, idn_1, idn_2, resRow, res_ro, rExtract_tup, par_eq, evn])
   refine wcall_plain (refShowC F default) rfl (by rintro _ rfl; exact showS_ok _) ?_
   rintro _ rfl
   rw [show showR default = none by decide]
   simp only [showS, tupL, parAg, Par.cs, evr, id, seval, res_one, par_one, idn_one, idn_0, idn_1, idn_2, List.append_nil, Int.toNat_zero, Nat.sub_self, Int.reduceToNat, resRow, res_ro, rExtract_tup, par_eq]
   intro b9
   (refine hk _ ?_; clear hk k; try show Sat _ _ _ _ _)
   (repeat refine Sat.seq ?_)
   (refine Sat.region_k fun k hk => ?_; simp -implicitDefEqProofs only [evr, id, seval, res_one, par_one, idn_one, idn_0, idn_1, idn_2, resRow, res_ro, rExtract_tup, par_eq, evn]; refine hk _ ?_; clear hk k; try show Sat _ _ _ _ _)
   (repeat refine Sat.seq ?_)
   refine Sat.cond_tt rfl ?_
   (repeat refine Sat.seq ?_)
   (refine Sat.region_k fun k hk => ?_; simp -implicitDefEqProofs only [evr, id, seval, res_one, par_one, idn_one, idn_0, idn_1, idn_2, resRow, res_ro, rExtract_tup, par_eq, evn]; refine hk _ ?_; clear hk k; try show Sat _ _ _ _ _)
   refine Sat.ret ?_
   simp only [blockK, Tryz.results20, evr, id, seval, res_one, par_one, idn_one, idn_0, idn_1, idn_2, List.append_nil, Int.toNat_zero, Nat.sub_self, Int.reduceToNat, resRow, res_ro, rExtract_tup, par_eq]
   rw [hbad hio]
  | some r =>
   have hio : idShows xs e d = decide (showR r = some e.pr) := by unfold idShows; rw [hf]
   simp only [findS, tupL, resAg, Res.cs, evr, id, seval, res_one, par_one, idn_one, idn_0, idn_1, idn_2, List.append_nil, Int.toNat_zero, Nat.sub_self, Int.reduceToNat, resRow, res_ro, rExtract_tup, par_eq]
   intro b7
   (refine hk _ ?_; clear hk k; try show Sat _ _ _ _ _)
   (repeat refine Sat.seq ?_)
   (refine Sat.region_k fun k hk => ?_; simp -implicitDefEqProofs only [evr, id, seval, res_one, par_one, idn_one, idn_0, idn_1, idn_2, resRow, res_ro, rExtract_tup, par_eq, evn])
   refine wcall_plain (refShowC F r) rfl (by rintro _ rfl; exact showS_ok _) ?_
   rintro _ rfl
   cases hs : showR r with
   | none =>
    have hb : idShows xs e d = false := by rw [hio, hs]; rfl
    simp only [showS, tupL, parAg, Par.cs, evr, id, seval, res_one, par_one, idn_one, idn_0, idn_1, idn_2, List.append_nil, Int.toNat_zero, Nat.sub_self, Int.reduceToNat, resRow, res_ro, rExtract_tup, par_eq]
    intro b9
    (refine hk _ ?_; clear hk k; try show Sat _ _ _ _ _)
    (repeat refine Sat.seq ?_)
    (refine Sat.region_k fun k hk => ?_; simp -implicitDefEqProofs only [evr, id, seval, res_one, par_one, idn_one, idn_0, idn_1, idn_2, resRow, res_ro, rExtract_tup, par_eq, evn]; refine hk _ ?_; clear hk k; try show Sat _ _ _ _ _)
    (repeat refine Sat.seq ?_)
    refine Sat.cond_tt rfl ?_
    (repeat refine Sat.seq ?_)
    (refine Sat.region_k fun k hk => ?_; simp -implicitDefEqProofs only [evr, id, seval, res_one, par_one, idn_one, idn_0, idn_1, idn_2, resRow, res_ro, rExtract_tup, par_eq, evn]; refine hk _ ?_; clear hk k; try show Sat _ _ _ _ _)
    refine Sat.ret ?_
    simp only [blockK, Tryz.results20, evr, id, seval, res_one, par_one, idn_one, idn_0, idn_1, idn_2, List.append_nil, Int.toNat_zero, Nat.sub_self, Int.reduceToNat, resRow, res_ro, rExtract_tup, par_eq]
    rw [hbad hb]
   | some p =>
    have hb : idShows xs e d = decide (p = e.pr) := by rw [hio, hs]; simp
    simp only [showS, tupL, parAg, Par.cs, evr, id, seval, res_one, par_one, idn_one, idn_0, idn_1, idn_2, List.append_nil, Int.toNat_zero, Nat.sub_self, Int.reduceToNat, resRow, res_ro, rExtract_tup, par_eq]
    intro b9
    (refine hk _ ?_; clear hk k; try show Sat _ _ _ _ _)
    (repeat refine Sat.seq ?_)
    refine Sat.joinK (ι := Bool) (fun q => ⟨60, [(59, .b q), (5, .i .i64 i), (3, .op 0 b3 0), (0, .sl ad xs.length cap 17 (resRd xs.toArray))], [.box b3 28 (Evd.cs e)]⟩) (fun q => q = !idShows xs e d) (fun hrest => ?_) ?_
    ·(refine Sat.region_k fun k hk => ?_; simp -implicitDefEqProofs only [evr, id, seval, res_one, par_one, idn_one, idn_0, idn_1, idn_2, resRow, res_ro, rExtract_tup, par_eq, evn])
     refine ⟨fun g1 => ?_, fun g1 => ?_⟩
     ·refine hk _ ?_
      simp only [thenK]
      refine (hrest true (by
       rw [hb]
       symm
       rw [Bool.not_eq_true', decide_eq_false_iff_not]
       intro h9
       subst h9
       simp [Evd.pr] at g1)).le ?_
      simp only [Evd.cs]
      simp -implicitDefEqProofs only [evr, id, seval, res_one, par_one, idn_one, idn_0, idn_1, idn_2, resRow, res_ro, rExtract_tup, par_eq, evl, evn]
     ·refine hk _ ?_
      simp only [thenK]
      refine (hrest (p.b != e.b) (by
       have g2 : p.a = e.a := by simpa using g1
       rw [hb]
       by_cases h9 : p.b = e.b
       ·have : p = e.pr := by cases p; simp only at g2 h9; subst g2 h9; rfl
        rw [decide_eq_true this, h9]
        simp
       ·have : ¬ p = e.pr := fun h8 => h9 (by rw [h8]; rfl)
        rw [decide_eq_false this]
        simp [h9])).le ?_
      simp only [Evd.cs]
      simp -implicitDefEqProofs only [evr, id, seval, res_one, par_one, idn_one, idn_0, idn_1, idn_2, resRow, res_ro, rExtract_tup, par_eq, evl, evn]
    rintro q rfl
    simp only [Evd.cs]
    (repeat refine Sat.seq ?_)
    refine Sat.cond_b rfl (fun h4 => ?_) (fun h4 => ?_)
    ·have hb2 : idShows xs e d = false := by simpa using h4
     (repeat refine Sat.seq ?_)
     (refine Sat.region_k fun k hk => ?_; simp -implicitDefEqProofs only [evr, id, seval, res_one, par_one, idn_one, idn_0, idn_1, idn_2, resRow, res_ro, rExtract_tup, par_eq, evn]; refine hk _ ?_; clear hk k; try show Sat _ _ _ _ _)
     refine Sat.ret ?_
     simp only [blockK, Tryz.results20, evr, id, seval, res_one, par_one, idn_one, idn_0, idn_1, idn_2, List.append_nil, Int.toNat_zero, Nat.sub_self, Int.reduceToNat, resRow, res_ro, rExtract_tup, par_eq]
     rw [hbad hb2]
    have hb2 : idShows xs e d = true := by simpa using h4
    refine Sat.skip ?_
    simp only [thenK, blockK, reduceIte]
    refine Sat.region_k fun k hk => ?_
    simp -implicitDefEqProofs only [evr, id, seval, res_one, par_one, idn_one, idn_0, idn_1, idn_2, resRow, res_ro, rExtract_tup, par_eq, e1, evn]
    refine hk _ ?_
    simp only [thenK, blockK]
    refine ⟨i + 1, ⟨hlt, fun d2 hd2 => ?_⟩, by omega, ?_⟩
    ·rw [List.take_succ_eq_append_getElem hlt, List.mem_append, List.mem_singleton] at hd2
     rcases hd2 with hd2 | hd2
     ·exact hq d2 hd2
     ·rw [hd2, hdi]; exact hb2
    try simp only [Evd.cs]
    simp -implicitDefEqProofs only [evr, id, seval, res_one, par_one, idn_one, idn_0, idn_1, idn_2, resRow, res_ro, rExtract_tup, par_eq, evl, evn]
 have h1 : i = e.ids.length := by simp only [decide_eq_false_iff_not] at h2; omega
 subst h1
 rw [List.take_length] at hq
 refine Sat.exit ?_
 simp only [thenK, blockK, reduceIte]
 (repeat refine Sat.seq ?_)
 (refine Sat.region_k fun k hk => ?_; simp -implicitDefEqProofs only [evr, id, seval, res_one, par_one, idn_one, idn_0, idn_1, idn_2, resRow, res_ro, rExtract_tup, par_eq, evn]; refine hk _ ?_; clear hk k; try show Sat _ _ _ _ _)
 refine Sat.ret ?_
 simp only [Tryz.results20, evr, id, seval, res_one, par_one, idn_one, idn_0, idn_1, idn_2, List.append_nil, Int.toNat_zero, Nat.sub_self, Int.reduceToNat, resRow, res_ro, rExtract_tup, par_eq]
 unfold holdsV
 rw [h, List.all_eq_true.2 hq]
 rfl
end Go.Proofs.YtepbdjpcoleegaaGreat
