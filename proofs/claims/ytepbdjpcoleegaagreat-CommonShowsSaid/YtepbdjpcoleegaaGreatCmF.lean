import Derived.Test.YtepbdjpcoleegaaGreatCmE

/- Evidence, by the evaluator: common.ValidEvidence, common.Holds. -/
set_option linter.unusedSimpArgs false
set_option linter.unusedVariables false
namespace Go.Proofs.YtepbdjpcoleegaaGreat
open Go.Sort Eng
theorem par_eqs (a b a' b' : Int) : aggEq Tryz.prog 45 2 (fun j => [SV.i .u32 a, .i .u32 b].getD j default) 2 (fun j => [SV.i .u32 a', .i .u32 b'].getD j default) = some ([a == a', b == b'].all id) := by kernel_rfl
theorem par_eq (a b a' b' : Int) : aggEq Tryz.prog 45 2 (fun j => [SV.i .u32 a, .i .u32 b].getD j default) 2 (fun j => [SV.i .u32 a', .i .u32 b'].getD j default) = some (decide ((⟨a, b⟩ : Par) = ⟨a', b'⟩)) := by
 rw [par_eqs]
 congr 1
 apply Bool.eq_iff_iff.2
 simp
def evPre (e : Evd) : Bool := decide ((1 ≤ e.kind ∧ e.kind ≤ 3) ∧ e.a ≠ 0 ∧ e.a < e.b ∧ e.ids.length ≠ 0)
def idsAsc (l : List Idn) : Bool := decide (∀ i, i < l.length - 1 → idnLt (l.getD i default) (l.getD (i + 1) default) = true)
def validEv (e : Evd) : Bool := evPre e && idsAsc e.ids
set_option maxHeartbeats 1000000 in
set_option maxRecDepth 100000 in
theorem validEvC (F : Frm) (e : Evd) (he : e.ids.length ≤ 1000000000) : Contract F Tryz.prog 21 [evAg e] (fun r => r = .b (validEv e)) := by
 refine contract_of Tryz.func21 rfl (by kernel_rfl) ?_
 simp only [Tryz.ntmps21, argEnv, evAg, Evd.cs]
 (repeat refine Sat.seq ?_)
 (refine Sat.region_k fun k hk => ?_; simp -implicitDefEqProofs only [evr, id, seval, res_one, par_one, idn_one, idn_0, idn_1, idn_2, resRow, res_ro, rExtract_tup, par_eq, evn])
 intro b1
 (refine hk _ ?_; clear hk k; try show Sat _ _ _ _ _)
 (repeat refine Sat.seq ?_)
 refine Sat.atF (ι := Bool) (fun q => ⟨50, [(29, .b q), (1, .op 0 b1 0), (2, .ff)], [.box b1 28 (Evd.cs e)]⟩) (fun q => q = !evPre e) ?_ ?_
 ·(refine Sat.region_k fun k hk => ?_; simp -implicitDefEqProofs only [evr, id, seval, res_one, par_one, idn_one, idn_0, idn_1, idn_2, resRow, res_ro, rExtract_tup, par_eq, evn])
  refine ⟨fun h1 => ?_, fun h1 => ⟨fun h2 => ?_, fun h2 => ⟨fun h3 => ?_, fun h3 => ⟨fun h4 => ?_, fun h4 => ?_⟩⟩⟩⟩
  ·refine hk _ ?_
   simp only [thenK]
   refine ⟨true, by unfold evPre; symm; rw [Bool.not_eq_true', decide_eq_false_iff_not]; omega, ?_⟩
   simp only [Evd.cs]
   simp -implicitDefEqProofs only [evr, id, seval, res_one, par_one, idn_one, idn_0, idn_1, idn_2, resRow, res_ro, rExtract_tup, par_eq, evl, evn]
  ·refine hk _ ?_
   simp only [thenK]
   refine ⟨true, by unfold evPre; symm; rw [Bool.not_eq_true', decide_eq_false_iff_not]; omega, ?_⟩
   simp only [Evd.cs]
   simp -implicitDefEqProofs only [evr, id, seval, res_one, par_one, idn_one, idn_0, idn_1, idn_2, resRow, res_ro, rExtract_tup, par_eq, evl, evn]
  ·refine hk _ ?_
   simp only [thenK]
   refine ⟨true, by unfold evPre; symm; rw [Bool.not_eq_true', decide_eq_false_iff_not]; (rw [beq_iff_eq] at h3; exact fun hh => hh.2.1 h3), ?_⟩
   simp only [Evd.cs]
   simp -implicitDefEqProofs only [evr, id, seval, res_one, par_one, idn_one, idn_0, idn_1, idn_2, resRow, res_ro, rExtract_tup, par_eq, evl, evn]
  ·refine hk _ ?_
   simp only [thenK]
   refine ⟨true, by unfold evPre; symm; rw [Bool.not_eq_true', decide_eq_false_iff_not]; omega, ?_⟩
   simp only [Evd.cs]
   simp -implicitDefEqProofs only [evr, id, seval, res_one, par_one, idn_one, idn_0, idn_1, idn_2, resRow, res_ro, rExtract_tup, par_eq, evl, evn]
  ·refine hk _ ?_
   simp only [thenK]
   refine ⟨((e.ids.length : Int) == 0), ?_, ?_⟩
   rotate_left
   ·simp only [Evd.cs]
    simp -implicitDefEqProofs only [evr, id, seval, res_one, par_one, idn_one, idn_0, idn_1, idn_2, resRow, res_ro, rExtract_tup, par_eq, evl, evn]
   ·rw [beq_eq_false_iff_ne] at h3
    unfold evPre
    by_cases h5 : e.ids.length = 0
    ·simp [h5]
    ·have a1 : ((e.ids.length : Int) == 0) = false := by rw [beq_eq_false_iff_ne]; omega
     rw [a1, decide_eq_true ⟨⟨by omega, by omega⟩, h3, by omega, h5⟩]
     rfl
 rintro q rfl
 simp only [Evd.cs]
 (repeat refine Sat.seq ?_)
 refine Sat.cond_b rfl (fun h => ?_) (fun h => ?_)
 ·have hp : evPre e = false := by simpa using h
  (repeat refine Sat.seq ?_)
  (refine Sat.region_k fun k hk => ?_; simp -implicitDefEqProofs only [evr, id, seval, res_one, par_one, idn_one, idn_0, idn_1, idn_2, resRow, res_ro, rExtract_tup, par_eq, evn]; refine hk _ ?_; clear hk k; try show Sat _ _ _ _ _)
  refine Sat.ret ?_
  simp only [Tryz.results21, evr, id, seval, res_one, par_one, idn_one, idn_0, idn_1, idn_2, List.append_nil, Int.toNat_zero, Nat.sub_self, Int.reduceToNat, resRow, res_ro, rExtract_tup, par_eq]
  unfold validEv
  rw [hp]
  rfl
 have hp : evPre e = true := by simpa using h
 refine Sat.skip ?_
 simp only [thenK]
 have hlen : e.ids.length ≠ 0 := by
  unfold evPre at hp
  exact (of_decide_eq_true hp).2.2.2
 (repeat refine Sat.seq ?_)
 (refine Sat.region_k fun k hk => ?_; simp -implicitDefEqProofs only [evr, id, seval, res_one, par_one, idn_one, idn_0, idn_1, idn_2, resRow, res_ro, rExtract_tup, par_eq, evn]; refine hk _ ?_; clear hk k; try show Sat _ _ _ _ _)
 (repeat refine Sat.seq ?_)
 refine Sat.block ?_
 refine Sat.loop (ι := Nat) (fun i => ⟨50, [(3, .i .i64 i), (1, .op 0 b1 0), (2, .ff)], [.box b1 28 [.i .i64 e.kind, .i .u32 e.a, .i .u32 e.b, .sl e.ad e.ids.length e.cap 3 (idnRd e.ids.toArray)]]⟩)
  (fun i => 1 ≤ i ∧ i ≤ e.ids.length ∧ ∀ q, q + 1 < i → idnLt (e.ids.getD q default) (e.ids.getD (q + 1) default) = true) (fun i => e.ids.length - i) 1 ⟨Nat.le_refl _, by omega, fun q hq => by omega⟩ (by simp -implicitDefEqProofs only [evr, id, seval, res_one, par_one, idn_one, idn_0, idn_1, idn_2, resRow, res_ro, rExtract_tup, par_eq, evl, evn]; try rfl) ?_
 rintro i ⟨hi1, hi, hq⟩
 (repeat refine Sat.seq ?_)
 (refine Sat.region_k fun k hk => ?_; simp -implicitDefEqProofs only [evr, id, seval, res_one, par_one, idn_one, idn_0, idn_1, idn_2, resRow, res_ro, rExtract_tup, par_eq, evn]; refine hk _ ?_; clear hk k; try show Sat _ _ _ _ _)
 (repeat refine Sat.seq ?_)
 refine Sat.cond_b rfl (fun h2 => ?_) (fun h2 => ?_)
 ·have hlt : i < e.ids.length := by simp only [decide_eq_true_eq] at h2; omega
  have e1 : IntKind.i64.wrap ((i : Int) + 1) = ((i + 1 : Nat) : Int) := by rw [w64 (by omega)]; omega
  have e2 : IntKind.i64.wrap ((i : Int) - 1) = ((i - 1 : Nat) : Int) := by rw [w64 (by omega)]; omega
  refine Sat.skip ?_
  simp only [thenK]
  (repeat refine Sat.seq ?_)
  refine Sat.block ?_
  (repeat refine Sat.seq ?_)
  (refine Sat.region_rows [⟨0, 38, 2, 0⟩, ⟨1, 39, 137438953472, 1⟩, ⟨0, 40, 8, 0⟩, ⟨4, 41, 549755813888, 0⟩, ⟨10, 42, 1374389534720, 0⟩, ⟨16, 43, 2199023255552, 1⟩, ⟨0, 44, 2, 0⟩, ⟨64, 45, 8796093022208, 1⟩, ⟨0, 46, 8, 0⟩, ⟨384, 47, 52776558133248, 0⟩, ⟨512, 48, 70368744177664, 1⟩, ⟨1056, 49, 145135534866432, 2⟩, ⟨2048, 50, 281474976710656, 0⟩] [0, 2, 3, 6, 8, 1, 7, 4, 9, 5, 10] [(11, false), (12, false)] [] (by kernel_rfl) (by kernel_rfl) (fun _ _ h => h) fun k hk => ?_; simp only [List.map_cons, List.map_nil, List.getD_cons_zero, List.getD_cons_succ, btseq_cons, btseq_free, btseq_nil]; simp -implicitDefEqProofs only [evr, id, seval, res_one, par_one, idn_one, idn_0, idn_1, idn_2, resRow, res_ro, rExtract_tup, par_eq, evn])
  simp only [e2, Int.toNat_natCast]
  refine ⟨⟨by omega, by omega⟩, by omega, ?_⟩
  refine wcall_plain (compareIdC F e.ids.toArray[i - 1]! e.ids.toArray[i]!) rfl (by rintro _ rfl; exact ok_plain rfl) ?_
  rintro _ rfl
  simp -implicitDefEqProofs only [evr, id, seval, res_one, par_one, idn_one, idn_0, idn_1, idn_2, resRow, res_ro, rExtract_tup, par_eq, evn]
  (refine hk _ ?_; clear hk k; try show Sat _ _ _ _ _)
  have g1 : e.ids.toArray[i - 1]! = e.ids.getD (i - 1) default := by simp [getElem!_def, List.getD, show i - 1 < e.ids.length by omega]
  have g2 : e.ids.toArray[i]! = e.ids.getD i default := by simp [getElem!_def, List.getD, hlt]
  rw [g1, g2]
  (repeat refine Sat.seq ?_)
  refine Sat.cond_b rfl (fun h3 => ?_) (fun h3 => ?_)
  ·have hno : idnLt (e.ids.getD (i - 1) default) (e.ids.getD i default) = false := by
    unfold idnLt
    simp only [decide_eq_true_eq, ge_iff_le] at h3
    rw [decide_eq_false_iff_not]
    omega
   (repeat refine Sat.seq ?_)
   (refine Sat.region_k fun k hk => ?_; simp -implicitDefEqProofs only [evr, id, seval, res_one, par_one, idn_one, idn_0, idn_1, idn_2, resRow, res_ro, rExtract_tup, par_eq, evn]; refine hk _ ?_; clear hk k; try show Sat _ _ _ _ _)
   refine Sat.ret ?_
   simp only [blockK, Tryz.results21, evr, id, seval, res_one, par_one, idn_one, idn_0, idn_1, idn_2, List.append_nil, Int.toNat_zero, Nat.sub_self, Int.reduceToNat, resRow, res_ro, rExtract_tup, par_eq]
   have : idsAsc e.ids = false := by
    cases hA : idsAsc e.ids with
    | false => rfl
    | true =>
     unfold idsAsc at hA
     have := of_decide_eq_true hA (i - 1) (by omega)
     rw [show i - 1 + 1 = i by omega, hno] at this
     cases this
   unfold validEv
   rw [this, Bool.and_false]
  have hyes : idnLt (e.ids.getD (i - 1) default) (e.ids.getD i default) = true := by
   unfold idnLt
   simp only [decide_eq_false_iff_not, ge_iff_le] at h3
   rw [decide_eq_true_eq]
   omega
  refine Sat.skip ?_
  simp only [thenK, blockK]
  refine Sat.region_k fun k hk => ?_
  simp -implicitDefEqProofs only [evr, id, seval, res_one, par_one, idn_one, idn_0, idn_1, idn_2, resRow, res_ro, rExtract_tup, par_eq, e1, evn]
  refine hk _ ?_
  simp only [thenK, blockK]
  refine ⟨i + 1, ⟨by omega, by omega, fun q hq2 => ?_⟩, by omega, ?_⟩
  ·by_cases hqi : q + 1 < i
   ·exact hq q hqi
   ·obtain rfl : q = i - 1 := by omega
    rw [show i - 1 + 1 = i by omega]
    exact hyes
  ·simp -implicitDefEqProofs only [evr, id, seval, res_one, par_one, idn_one, idn_0, idn_1, idn_2, resRow, res_ro, rExtract_tup, par_eq, evl, evn]
 ·have hie : i = e.ids.length := by simp only [decide_eq_false_iff_not] at h2; omega
  refine Sat.exit ?_
  simp only [thenK, blockK, reduceIte]
  (repeat refine Sat.seq ?_)
  (refine Sat.region_k fun k hk => ?_; simp -implicitDefEqProofs only [evr, id, seval, res_one, par_one, idn_one, idn_0, idn_1, idn_2, resRow, res_ro, rExtract_tup, par_eq, evn]; refine hk _ ?_; clear hk k; try show Sat _ _ _ _ _)
  refine Sat.ret ?_
  simp only [Tryz.results21, evr, id, seval, res_one, par_one, idn_one, idn_0, idn_1, idn_2, List.append_nil, Int.toNat_zero, Nat.sub_self, Int.reduceToNat, resRow, res_ro, rExtract_tup, par_eq]
  have : idsAsc e.ids = true := by
   unfold idsAsc
   rw [decide_eq_true_eq]
   intro q hq2
   exact hq q (by omega)
  unfold validEv
  rw [hp, this]
  rfl
def idShows (xs : List Res) (e : Evd) (d : Idn) : Bool := match findV xs d with
 | some r => decide (showR r = some e.pr)
 | none => false
def holdsV (xs : List Res) (e : Evd) : Bool := (validEv e && decide (e.kind = 1)) && e.ids.all (idShows xs e)
set_option maxHeartbeats 1000000 in
set_option maxRecDepth 100000 in
theorem holdsC (F : Frm) (ad : Option Addr) (cap : Nat) (xs : List Res) (e : Evd) (hl : xs.length ≤ 1000000000) (he : e.ids.length ≤ 1000000000) :
  Contract F Tryz.prog 19 [.sl ad xs.length cap 17 (resRd xs.toArray), evAg e] (fun r => r = .b (holdsV xs e)) := by
 refine contract_of Tryz.func19 rfl (by kernel_rfl) ?_
 simp only [Tryz.ntmps19, argEnv, evAg, Evd.cs]
 (repeat refine Sat.seq ?_)
 (refine Sat.region_k fun k hk => ?_; simp -implicitDefEqProofs only [evr, id, seval, res_one, par_one, idn_one, idn_0, idn_1, idn_2, resRow, res_ro, rExtract_tup, par_eq, evn])
 intro b3
 (refine hk _ ?_; clear hk k; try show Sat _ _ _ _ _)
 (repeat refine Sat.seq ?_)
 refine Sat.joinK (ι := Bool) (fun q => ⟨51, [(18, .b q), (3, .op 0 b3 0), (4, .ff), (0, .sl ad xs.length cap 17 (resRd xs.toArray))], [.box b3 28 [.i .i64 e.kind, .i .u32 e.a, .i .u32 e.b, .sl e.ad e.ids.length e.cap 3 (idnRd e.ids.toArray)]]⟩) (fun q => q = !(validEv e && decide (e.kind = 1))) (fun hrest => ?_) ?_
 ·(refine Sat.region_k fun k hk => ?_; simp -implicitDefEqProofs only [evr, id, seval, res_one, par_one, idn_one, idn_0, idn_1, idn_2, resRow, res_ro, rExtract_tup, par_eq, evn])
  refine wcall_plain (validEvC F e he) rfl (by rintro _ rfl; exact ok_plain rfl) ?_
  rintro _ rfl
  simp -implicitDefEqProofs only [evr, id, seval, res_one, par_one, idn_one, idn_0, idn_1, idn_2, resRow, res_ro, rExtract_tup, par_eq, evn]
  refine ⟨fun h1 => ?_, fun h1 => ?_⟩
  ·refine hk _ ?_
   simp only [thenK]
   refine (hrest true (by simp at h1; rw [h1]; rfl)).le ?_
   simp -implicitDefEqProofs only [evr, id, seval, res_one, par_one, idn_one, idn_0, idn_1, idn_2, resRow, res_ro, rExtract_tup, par_eq, evl, evn]
  ·refine hk _ ?_
   simp only [thenK]
   refine (hrest (e.kind != 1) (by simp at h1; rw [h1, Bool.true_and]; rfl)).le ?_
   simp -implicitDefEqProofs only [evr, id, seval, res_one, par_one, idn_one, idn_0, idn_1, idn_2, resRow, res_ro, rExtract_tup, par_eq, evl, evn]
 rintro q rfl
 (repeat refine Sat.seq ?_)
 refine Sat.cond_b rfl (fun h => ?_) (fun h => ?_)
 ·(repeat refine Sat.seq ?_)
  (refine Sat.region_k fun k hk => ?_; simp -implicitDefEqProofs only [evr, id, seval, res_one, par_one, idn_one, idn_0, idn_1, idn_2, resRow, res_ro, rExtract_tup, par_eq, evn]; refine hk _ ?_; clear hk k; try show Sat _ _ _ _ _)
  refine Sat.ret ?_
  simp only [Tryz.results19, evr, id, seval, res_one, par_one, idn_one, idn_0, idn_1, idn_2, List.append_nil, Int.toNat_zero, Nat.sub_self, Int.reduceToNat, resRow, res_ro, rExtract_tup, par_eq]
  unfold holdsV
  simp only [Bool.not_eq_true'] at h
  rw [h]
  rfl
 simp only [Bool.not_eq_false'] at h
 refine Sat.skip ?_
 simp only [thenK]
 (repeat refine Sat.seq ?_)
 (refine Sat.region_k fun k hk => ?_; simp -implicitDefEqProofs only [evr, id, seval, res_one, par_one, idn_one, idn_0, idn_1, idn_2, resRow, res_ro, rExtract_tup, par_eq, evn]; refine hk _ ?_; clear hk k; try show Sat _ _ _ _ _)
 (repeat refine Sat.seq ?_)
 refine Sat.block ?_
 refine Sat.loop (ι := Nat) (fun i => ⟨51, [(22, .i .i64 i), (21, .i .i64 e.ids.length), (20, .sl e.ad e.ids.length e.cap 3 (idnRd e.ids.toArray)), (3, .op 0 b3 0), (4, .ff), (0, .sl ad xs.length cap 17 (resRd xs.toArray))], [.box b3 28 [.i .i64 e.kind, .i .u32 e.a, .i .u32 e.b, .sl e.ad e.ids.length e.cap 3 (idnRd e.ids.toArray)]]⟩)
  (fun i => i ≤ e.ids.length ∧ ∀ d ∈ e.ids.take i, idShows xs e d = true) (fun i => e.ids.length - i) 0 ⟨Nat.zero_le _, fun d hd => by simp at hd⟩ (by simp -implicitDefEqProofs only [evr, id, seval, res_one, par_one, idn_one, idn_0, idn_1, idn_2, resRow, res_ro, rExtract_tup, par_eq, evl, evn]; try rfl) ?_
 rintro i ⟨hi, hq⟩
 (repeat refine Sat.seq ?_)
 (refine Sat.region_k fun k hk => ?_; simp -implicitDefEqProofs only [evr, id, seval, res_one, par_one, idn_one, idn_0, idn_1, idn_2, resRow, res_ro, rExtract_tup, par_eq, evn]; refine hk _ ?_; clear hk k; try show Sat _ _ _ _ _)
 (repeat refine Sat.seq ?_)
 refine Sat.cond_b rfl (fun h2 => ?_) (fun h2 => ?_)
 ·have hlt : i < e.ids.length := by simp only [decide_eq_true_eq] at h2; omega
  have e1 : IntKind.i64.wrap ((i : Int) + 1) = ((i + 1 : Nat) : Int) := by rw [w64 (by omega)]; omega
  obtain ⟨d, hd⟩ : ∃ d, d = e.ids.toArray[i]! := ⟨_, rfl⟩
  have hdi : e.ids[i] = d := by rw [hd]; simp [getElem!_def, hlt]
  have hbad : idShows xs e d = false → holdsV xs e = false := fun hb => by
   unfold holdsV
   rw [Bool.and_eq_false_iff]
   right
   rw [List.all_eq_false]
   exact ⟨d, by rw [← hdi]; exact List.getElem_mem _, by rw [hb]; decide⟩
  refine Sat.skip ?_
  simp only [thenK]
  (repeat refine Sat.seq ?_)
  refine Sat.block ?_
  (repeat refine Sat.seq ?_)
  (refine Sat.region_k fun k hk => ?_; simp -implicitDefEqProofs only [evr, id, seval, res_one, par_one, idn_one, idn_0, idn_1, idn_2, resRow, res_ro, rExtract_tup, par_eq, evn])
  refine ⟨by omega, fun b6 => ?_⟩
  (refine hk _ ?_; clear hk k; try show Sat _ _ _ _ _)
  (repeat refine Sat.seq ?_)
  (refine Sat.region_k fun k hk => ?_; simp -implicitDefEqProofs only [evr, id, seval, res_one, par_one, idn_one, idn_0, idn_1, idn_2, resRow, res_ro, rExtract_tup, par_eq, evn])
  refine wcall_plain (findC F ad cap xs e.ids.toArray[i]! hl) rfl (by rintro _ rfl; exact findS_ok _) ?_
  rintro _ rfl
  rw [← hd]
  cases hf : findV xs d with
  | none =>
   have hio : idShows xs e d = false := by unfold idShows; rw [hf]
   simp only [findS, tupL, resAg, Res.cs, evr, id, seval, res_one, par_one, idn_one, idn_0, idn_1, idn_2, List.append_nil, Int.toNat_zero, Nat.sub_self, Int.reduceToNat, resRow, res_ro, rExtract_tup, par_eq]
   intro b7
   (refine hk _ ?_; clear hk k; try show Sat _ _ _ _ _)
   (repeat refine Sat.seq ?_)
   (refine Sat.region_k fun k hk => ?_; simp -implicitDefEqProofs only [evr, id, seval, res_one, par_one, idn_one, idn_0, idn_1, idn_2, resRow, res_ro, rExtract_tup, par_eq, evn]; refine hk _ ?_; clear hk k; try show Sat _ _ _ _ _)
   (repeat refine Sat.seq ?_)
   refine Sat.cond_b rfl (fun h3 => ?_) (fun h3 => absurd h3 (by decide))
   (repeat refine Sat.seq ?_)
   (refine Sat.region_k fun k hk => ?_; simp -implicitDefEqProofs only [evr, id, seval, res_one, par_one, idn_one, idn_0, idn_1, idn_2, resRow, res_ro, rExtract_tup, par_eq, evn]; refine hk _ ?_; clear hk k; try show Sat _ _ _ _ _)
   refine Sat.ret ?_
   simp only [blockK, Tryz.results19, evr, id, seval, res_one, par_one, idn_one, idn_0, idn_1, idn_2, List.append_nil, Int.toNat_zero, Nat.sub_self, Int.reduceToNat, resRow, res_ro, rExtract_tup, par_eq]
   rw [hbad hio]
  | some r =>
   have hio : idShows xs e d = decide (showR r = some e.pr) := by unfold idShows; rw [hf]
   simp only [findS, tupL, resAg, Res.cs, evr, id, seval, res_one, par_one, idn_one, idn_0, idn_1, idn_2, List.append_nil, Int.toNat_zero, Nat.sub_self, Int.reduceToNat, resRow, res_ro, rExtract_tup, par_eq]
   intro b7
   (refine hk _ ?_; clear hk k; try show Sat _ _ _ _ _)
   (repeat refine Sat.seq ?_)
   (refine Sat.region_k fun k hk => ?_; simp -implicitDefEqProofs only [evr, id, seval, res_one, par_one, idn_one, idn_0, idn_1, idn_2, resRow, res_ro, rExtract_tup, par_eq, evn]; refine hk _ ?_; clear hk k; try show Sat _ _ _ _ _)
   (repeat refine Sat.seq ?_)
   refine Sat.cond_b rfl (fun h3 => absurd h3 (by decide)) (fun h3 => ?_)
   refine Sat.skip ?_
   simp only [thenK]
   (repeat refine Sat.seq ?_)
   (refine Sat.region_k fun k hk => ?_; simp -implicitDefEqProofs only [evr, id, seval, res_one, par_one, idn_one, idn_0, idn_1, idn_2, resRow, res_ro, rExtract_tup, par_eq, evn])
   refine wcall_plain (showC F r) rfl (by rintro _ rfl; exact showS_ok _) ?_
   rintro _ rfl
   cases hs : showR r with
   | none =>
    have hb : idShows xs e d = false := by rw [hio, hs]; rfl
    simp only [showS, tupL, parAg, Par.cs, evr, id, seval, res_one, par_one, idn_one, idn_0, idn_1, idn_2, List.append_nil, Int.toNat_zero, Nat.sub_self, Int.reduceToNat, resRow, res_ro, rExtract_tup, par_eq]
    intro b9
    (refine hk _ ?_; clear hk k; try show Sat _ _ _ _ _)
    (repeat refine Sat.seq ?_)
    (refine Sat.region_k fun k hk => ?_; simp -implicitDefEqProofs only [evr, id, seval, res_one, par_one, idn_one, idn_0, idn_1, idn_2, resRow, res_ro, rExtract_tup, par_eq, evn]; refine hk _ ?_; clear hk k; try show Sat _ _ _ _ _)
    (repeat refine Sat.seq ?_)
    refine Sat.cond_tt rfl ?_
    (repeat refine Sat.seq ?_)
    (refine Sat.region_k fun k hk => ?_; simp -implicitDefEqProofs only [evr, id, seval, res_one, par_one, idn_one, idn_0, idn_1, idn_2, resRow, res_ro, rExtract_tup, par_eq, evn]; refine hk _ ?_; clear hk k; try show Sat _ _ _ _ _)
    refine Sat.ret ?_
    simp only [blockK, Tryz.results19, evr, id, seval, res_one, par_one, idn_one, idn_0, idn_1, idn_2, List.append_nil, Int.toNat_zero, Nat.sub_self, Int.reduceToNat, resRow, res_ro, rExtract_tup, par_eq]
    rw [hbad hb]
   | some p =>
    have hb : idShows xs e d = decide (p = e.pr) := by rw [hio, hs]; simp
    simp only [showS, tupL, parAg, Par.cs, evr, id, seval, res_one, par_one, idn_one, idn_0, idn_1, idn_2, List.append_nil, Int.toNat_zero, Nat.sub_self, Int.reduceToNat, resRow, res_ro, rExtract_tup, par_eq]
    intro b9
    (refine hk _ ?_; clear hk k; try show Sat _ _ _ _ _)
    (repeat refine Sat.seq ?_)
    (refine Sat.region_k fun k hk => ?_; simp -implicitDefEqProofs only [evr, id, seval, res_one, par_one, idn_one, idn_0, idn_1, idn_2, resRow, res_ro, rExtract_tup, par_eq, evn]; refine hk _ ?_; clear hk k; try show Sat _ _ _ _ _)
    (repeat refine Sat.seq ?_)
    refine Sat.cond_b rfl (fun h4 => ?_) (fun h4 => ?_)
    ·have hb2 : idShows xs e d = false := by
      rw [hb]
      simp only [Bool.not_eq_true', decide_eq_false_iff_not] at h4
      exact decide_eq_false h4
     (repeat refine Sat.seq ?_)
     (refine Sat.region_k fun k hk => ?_; simp -implicitDefEqProofs only [evr, id, seval, res_one, par_one, idn_one, idn_0, idn_1, idn_2, resRow, res_ro, rExtract_tup, par_eq, evn]; refine hk _ ?_; clear hk k; try show Sat _ _ _ _ _)
     refine Sat.ret ?_
     simp only [blockK, Tryz.results19, evr, id, seval, res_one, par_one, idn_one, idn_0, idn_1, idn_2, List.append_nil, Int.toNat_zero, Nat.sub_self, Int.reduceToNat, resRow, res_ro, rExtract_tup, par_eq]
     rw [hbad hb2]
    have hb2 : idShows xs e d = true := by
     rw [hb]
     simp only [Bool.not_eq_false', decide_eq_true_eq] at h4
     exact decide_eq_true h4
    refine Sat.skip ?_
    simp only [thenK, blockK]
    refine Sat.region_k fun k hk => ?_
    simp -implicitDefEqProofs only [evr, id, seval, res_one, par_one, idn_one, idn_0, idn_1, idn_2, resRow, res_ro, rExtract_tup, par_eq, e1, evn]
    refine hk _ ?_
    simp only [thenK, blockK]
    refine ⟨i + 1, ⟨by omega, fun q hq2 => ?_⟩, by omega, ?_⟩
    ·rw [List.take_succ_eq_append_getElem hlt, hdi] at hq2
     rcases List.mem_append.1 hq2 with h9 | h9
     ·exact hq q h9
     ·rw [List.mem_singleton] at h9; subst h9; exact hb2
    ·simp -implicitDefEqProofs only [evr, id, seval, res_one, par_one, idn_one, idn_0, idn_1, idn_2, resRow, res_ro, rExtract_tup, par_eq, evl, evn]
 ·have hie : i = e.ids.length := by simp only [decide_eq_false_iff_not] at h2; omega
  subst hie
  rw [List.take_length] at hq
  refine Sat.exit ?_
  simp only [thenK, blockK, reduceIte]
  (repeat refine Sat.seq ?_)
  (refine Sat.region_k fun k hk => ?_; simp -implicitDefEqProofs only [evr, id, seval, res_one, par_one, idn_one, idn_0, idn_1, idn_2, resRow, res_ro, rExtract_tup, par_eq, evn]; refine hk _ ?_; clear hk k; try show Sat _ _ _ _ _)
  refine Sat.ret ?_
  simp only [Tryz.results19, evr, id, seval, res_one, par_one, idn_one, idn_0, idn_1, idn_2, List.append_nil, Int.toNat_zero, Nat.sub_self, Int.reduceToNat, resRow, res_ro, rExtract_tup, par_eq]
  have : e.ids.all (idShows xs e) = true := List.all_eq_true.2 hq
  unfold holdsV
  rw [h, this]
  rfl
end Go.Proofs.YtepbdjpcoleegaaGreat
