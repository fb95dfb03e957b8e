import Derived.Test.YtepbdjpcoleegaaCmC
import Derived.Test.YtepbdjpcoleegaaPk3
import Derived.Test.YtepbdjpcoleegaaResOrd
import Derived.Test.YtepbdjpcoleegaaPoE
import Derived.Test.YtepbdjpcoleegaaEv
import Derived.Test.YtepbdjpcoleegaaDraw

/- Evidence, by the evaluator: common.Compare, ValidEvidence, paths.Find, common.Holds. -/
set_option linter.unusedSimpArgs false
set_option linter.unusedVariables false
namespace Go.Proofs.Ytepbdjpcoleegaa
open Go.Sort Eng
theorem idn_0 (d : Array Idn) (i : Nat) : idnRd d i 0 = .i .i64 d[i]!.van := rfl
theorem idn_1 (d : Array Idn) (i : Nat) : idnRd d i 1 = .i .i64 d[i]!.run := rfl
theorem idn_2 (d : Array Idn) (i : Nat) : idnRd d i 2 = .i .i64 d[i]!.num := rfl
def evAg (e : Evd) : SV := .agg 4 fun j => (Evd.cs e).getD j default
end Go.Proofs.Ytepbdjpcoleegaa


/- Evidence, by the evaluator: paths.Find, common.ValidEvidence, common.Holds. -/
namespace Go.Proofs.Ytepbdjpcoleegaa
open Go.Sort Eng
def findP (o : Option Res) (r : Res) (d : Idn) : Bool := decide (r.idn = d) && ((match o with | none => true | some b => decide (wCompare r b < 0)) && validR r)
def findStep (d : Idn) (o : Option Res) (r : Res) : Option Res := if findP o r d = true then some r else o
def findV (xs : List Res) (d : Idn) : Option Res := xs.foldl (findStep d) none
theorem findP_1 {o : Option Res} {r : Res} {d : Idn} (h : (⟨r.vantage, r.run, r.number⟩ : Idn) = ⟨d.van, d.run, d.num⟩) (ho : (!o.isSome) = true) : validR r = findP o r d := by
  have e : r.idn = d := h
  cases o with
  | none => unfold findP; rw [decide_eq_true e]; rfl
  | some b => cases ho
theorem findP_2 {o : Option Res} {r : Res} {d : Idn} (h : (⟨r.vantage, r.run, r.number⟩ : Idn) = ⟨d.van, d.run, d.num⟩) (ho : (!o.isSome) = false) (hc : wCompare r (o.getD default) < 0) : validR r = findP o r d := by
  have e : r.idn = d := h
  cases o with
  | none => cases ho
  | some b => unfold findP; rw [decide_eq_true e]; simp only [decide_eq_true (show wCompare r b < 0 from hc)]; rfl
theorem findP_3 {o : Option Res} {r : Res} {d : Idn} (ho : (!o.isSome) = false) (hc : ¬ wCompare r (o.getD default) < 0) : false = findP o r d := by
  cases o with
  | none => cases ho
  | some b => unfold findP; simp only [decide_eq_false (show ¬ wCompare r b < 0 from hc), Bool.false_and, Bool.and_false]
theorem findP_4 {o : Option Res} {r : Res} {d : Idn} (h : ¬ (⟨r.vantage, r.run, r.number⟩ : Idn) = ⟨d.van, d.run, d.num⟩) : false = findP o r d := by
  have e : ¬ r.idn = d := h
  unfold findP; rw [decide_eq_false e]; rfl
theorem findV_take (xs : List Res) (d : Idn) (i : Nat) (h : i < xs.length) : findV (xs.take (i + 1)) d = findStep d (findV (xs.take i) d) xs[i] := by
  unfold findV
  rw [List.take_succ_eq_append_getElem h, List.foldl_append]
  rfl
def findS : Option Res → SV
  | some r => tupL [resAg r, .b true]
  | none => tupL [resAg default, .b false]
theorem findS_ok (o : Option Res) (R : Nat → Prop) (w : World) : (findS o).ok R w := by
  cases o <;>
  · intro j hj
    have hj2 : j < 2 := hj
    rcases (show j = 0 ∨ j = 1 by omega) with rfl | rfl
    · exact ok_aggL (l := Res.cs _) rfl R w
    · trivial
theorem id_eqs (a b c a' b' c' : Int) : aggEq Try.prog 56 3 (fun j => [SV.i .i64 a, .i .i64 b, .i .i64 c].getD j default) 3 (fun j => [SV.i .i64 a', .i .i64 b', .i .i64 c'].getD j default) = some ([a == a', b == b', c == c'].all id) := by kernel_rfl
theorem id_eq (a b c a' b' c' : Int) : aggEq Try.prog 56 3 (fun j => [SV.i .i64 a, .i .i64 b, .i .i64 c].getD j default) 3 (fun j => [SV.i .i64 a', .i .i64 b', .i .i64 c'].getD j default) = some (decide ((⟨a, b, c⟩ : Idn) = ⟨a', b', c'⟩)) := by
  rw [id_eqs]
  congr 1
  apply Bool.eq_iff_iff.2
  simp
set_option maxHeartbeats 1000000 in
set_option maxRecDepth 100000 in
theorem findC (F : Frm) (ad : Option Addr) (cap : Nat) (xs : List Res) (d : Idn) (hl : xs.length ≤ 1000000000) :
    Contract F Try.prog 39 [.sl ad xs.length cap 17 (resRd xs.toArray), idnAg d] (fun r => r = findS (findV xs d)) := by
  refine contract_of Try.func39 rfl (by kernel_rfl) ?_
  simp only [Try.ntmps39, argEnv, idnAg, Idn.cs]
  (repeat refine Sat.seq ?_)
  (refine Sat.region_k fun k hk => ?_; simp -implicitDefEqProofs only [evr, id, seval, res_one, par_one, idn_one, idn_0, idn_1, idn_2, resRow, res_ro, rExtract_tup, id_eq, idAg, evn])
  intro b3 b4
  (refine hk _ ?_; clear hk k; try show Sat _ _ _ _ _)
  (repeat refine Sat.seq ?_)
  (refine Sat.region_k fun k hk => ?_; simp -implicitDefEqProofs only [evr, id, seval, res_one, par_one, idn_one, idn_0, idn_1, idn_2, resRow, res_ro, rExtract_tup, id_eq, idAg, evn])
  intro b6
  (refine hk _ ?_; clear hk k; try show Sat _ _ _ _ _)
  (repeat refine Sat.seq ?_)
  (refine Sat.region_k fun k hk => ?_; simp -implicitDefEqProofs only [evr, id, seval, res_one, par_one, idn_one, idn_0, idn_1, idn_2, resRow, res_ro, rExtract_tup, id_eq, idAg, evn]; refine hk _ ?_; clear hk k; try show Sat _ _ _ _ _)
  (repeat refine Sat.seq ?_)
  (refine Sat.region_k fun k hk => ?_; simp -implicitDefEqProofs only [evr, id, seval, res_one, par_one, idn_one, idn_0, idn_1, idn_2, resRow, res_ro, rExtract_tup, id_eq, idAg, evn]; refine hk _ ?_; clear hk k; try show Sat _ _ _ _ _)
  (repeat refine Sat.seq ?_)
  refine Sat.block ?_
  refine Sat.loop (ι := Nat × Option Res) (fun z => ⟨38, [(12, .i .i64 z.1), (11, .i .i64 xs.length), (10, .sl ad xs.length cap 17 (resRd xs.toArray)), (7, .b z.2.isSome), (6, .op 2 b6 0), (4, .op 1 b4 0), (3, .op 0 b3 0)],
      [.box b3 56 [.i .i64 d.van, .i .i64 d.run, .i .i64 d.num], .box b4 44 (Res.cs default), .box b6 44 (Res.cs (z.2.getD default))]⟩)
    (fun z => z.1 ≤ xs.length ∧ z.2 = findV (xs.take z.1) d) (fun z => xs.length - z.1) (0, none) ⟨Nat.zero_le _, rfl⟩ (by
      simp only [Option.getD_none, Option.isSome_none, Res.cs]
      simp -implicitDefEqProofs only [evr, id, seval, res_one, par_one, idn_one, idn_0, idn_1, idn_2, resRow, res_ro, rExtract_tup, id_eq, idAg, evl, evn]
      first | done | rfl | exact ⟨rfl, rfl⟩ | trace_state) ?_
  rintro ⟨i, o⟩ ⟨hi, ho⟩
  simp only [Res.cs] at hi ho ⊢
  (repeat refine Sat.seq ?_)
  (refine Sat.region_k fun k hk => ?_; simp -implicitDefEqProofs only [evr, id, seval, res_one, par_one, idn_one, idn_0, idn_1, idn_2, resRow, res_ro, rExtract_tup, id_eq, idAg, evn]; refine hk _ ?_; clear hk k; try show Sat _ _ _ _ _)
  (repeat refine Sat.seq ?_)
  refine Sat.cond_b rfl (fun h => ?_) (fun h => ?_)
  · have h1 : i < xs.length := by simp only [decide_eq_true_eq] at h; omega
    have e1 : IntKind.i64.wrap ((i : Int) + 1) = ((i + 1 : Nat) : Int) := by rw [w64 (by omega)]; omega
    have hst := findV_take xs d i h1
    rw [← ho] at hst
    refine Sat.skip ?_
    simp only [thenK]
    (repeat refine Sat.seq ?_)
    refine Sat.block ?_
    (repeat refine Sat.seq ?_)
    (refine Sat.region_k fun k hk => ?_; simp -implicitDefEqProofs only [evr, id, seval, res_one, par_one, idn_one, idn_0, idn_1, idn_2, resRow, res_ro, rExtract_tup, id_eq, idAg, evn])
    refine ⟨by omega, fun b9 => ?_⟩
    (refine hk _ ?_; clear hk k; try show Sat _ _ _ _ _)
    obtain ⟨r, hr⟩ : ∃ r, r = xs.toArray[i]! := ⟨_, rfl⟩
    have hrx : xs[i] = r := by rw [hr]; simp [getElem!_def, h1]
    rw [hrx] at hst
    (repeat refine Sat.seq ?_)
    refine Sat.joinK (ι := Bool) (fun q => ⟨38, [(33, .b q), (9, .op 3 b9 0), (12, .i .i64 i), (11, .i .i64 xs.length), (10, .sl ad xs.length cap 17 (resRd xs.toArray)), (7, .b o.isSome), (6, .op 2 b6 0), (4, .op 1 b4 0), (3, .op 0 b3 0)], [.box b3 56 [.i .i64 d.van, .i .i64 d.run, .i .i64 d.num], .box b4 44 (Res.cs default), .box b6 44 (Res.cs (o.getD default)), .box b9 44 [resRd xs.toArray i 0, resRd xs.toArray i 1, resRd xs.toArray i 2, resRd xs.toArray i 3, resRd xs.toArray i 4, resRd xs.toArray i 5, resRd xs.toArray i 6, resRd xs.toArray i 7, resRd xs.toArray i 8, resRd xs.toArray i 9, resRd xs.toArray i 10, resRd xs.toArray i 11, resRd xs.toArray i 12, resRd xs.toArray i 13, resRd xs.toArray i 14, resRd xs.toArray i 15, resRd xs.toArray i 16]]⟩) (fun q => q = findP o r d) (fun hrest => ?_) ?_
    · (refine Sat.region_tree (.keep [0, 2] [1] (.one 1 (.one 3 (.one 4 (.one 5 (.one 6 (.one 7 (.alt 8 (.one 9 (.one 10 (.one 11 (.one 12 (.one 13 (.one 14 (.one 15 (.one 16 (.one 17 .done))))))))) (.alt 9 (.one 8 (.one 10 (.one 11 (.one 12 (.one 13 (.one 14 (.one 15 (.one 16 (.one 17 .done))))))))) .none))))))))) (by kernel_rfl) (by kernel_rfl) (fun _ _ h => h) fun k hk => ?_; simp only [WOT, List.map_cons, List.map_nil, List.getD_cons_zero, List.getD_cons_succ]; simp -implicitDefEqProofs only [evr, id, seval, res_one, par_one, idn_one, idn_0, idn_1, idn_2, resRow, res_ro, rExtract_tup, id_eq, idAg, WOT, evn])
      refine wcall_plain (identC F xs.toArray[i]!) rfl (by rintro _ rfl; exact ok_aggL (l := [SV.i .i64 _, .i .i64 _, .i .i64 _]) rfl) ?_
      rintro _ rfl
      rw [← hr]
      simp -implicitDefEqProofs only [evr, id, seval, res_one, par_one, idn_one, idn_0, idn_1, idn_2, resRow, res_ro, rExtract_tup, id_eq, idAg, evn]
      repeat' (first
        | (with_reducible refine And.intro ?_ ?_)
        | (with_reducible intro _)
        | (refine wcall_plain (validC F xs.toArray[i]!) rfl (by rintro _ rfl; exact ok_plain rfl) ?_
           rintro _ rfl
           rw [← hr]
           simp -implicitDefEqProofs only [evr, id, seval, res_one, par_one, idn_one, idn_0, idn_1, idn_2, resRow, res_ro, rExtract_tup, id_eq, idAg, evn])
        | (refine wcall_plain (pcompareC F xs.toArray[i]! (o.getD default)) rfl (by rintro _ rfl; exact ok_plain rfl) ?_
           rintro _ rfl
           rw [← hr]
           simp -implicitDefEqProofs only [evr, id, seval, res_one, par_one, idn_one, idn_0, idn_1, idn_2, resRow, res_ro, rExtract_tup, id_eq, idAg, evn])
        | (refine hk _ ?_
           simp only [thenK]
           first
           | (refine (hrest _ (findP_1 (by assumption) (by assumption))).le ?_
              simp only [Res.cs]
              simp -implicitDefEqProofs only [evr, id, seval, res_one, par_one, idn_one, idn_0, idn_1, idn_2, resRow, res_ro, rExtract_tup, id_eq, idAg, evl, evn]
              done)
           | (refine (hrest _ (findP_2 (by assumption) (by assumption) (by assumption))).le ?_
              simp only [Res.cs]
              simp -implicitDefEqProofs only [evr, id, seval, res_one, par_one, idn_one, idn_0, idn_1, idn_2, resRow, res_ro, rExtract_tup, id_eq, idAg, evl, evn]
              done)
           | (refine (hrest _ (findP_3 (by assumption) (by assumption))).le ?_
              simp only [Res.cs]
              simp -implicitDefEqProofs only [evr, id, seval, res_one, par_one, idn_one, idn_0, idn_1, idn_2, resRow, res_ro, rExtract_tup, id_eq, idAg, evl, evn]
              done)
           | (refine (hrest _ (findP_4 (by assumption))).le ?_
              simp only [Res.cs]
              simp -implicitDefEqProofs only [evr, id, seval, res_one, par_one, idn_one, idn_0, idn_1, idn_2, resRow, res_ro, rExtract_tup, id_eq, idAg, evl, evn]
              done)))
    rintro q rfl
    simp only [Res.cs]
    refine Sat.atF (ι := Option Res) (fun z => ⟨38, [(12, .i .i64 i), (11, .i .i64 xs.length), (10, .sl ad xs.length cap 17 (resRd xs.toArray)), (7, .b z.isSome), (6, .op 2 b6 0), (4, .op 1 b4 0), (3, .op 0 b3 0)],
      [.box b3 56 [.i .i64 d.van, .i .i64 d.run, .i .i64 d.num], .box b4 44 (Res.cs default), .box b6 44 (Res.cs (z.getD default))]⟩) (fun z => z = findStep d o r) ?_ ?_
    · refine Sat.cond_b rfl (fun h2 => ?_) (fun h2 => ?_)
      · (refine Sat.region_k fun k hk => ?_; simp -implicitDefEqProofs only [evr, id, seval, res_one, par_one, idn_one, idn_0, idn_1, idn_2, resRow, res_ro, rExtract_tup, id_eq, idAg, evn]; refine hk _ ?_; clear hk k; try show Sat _ _ _ _ _)
        simp only [thenK]
        refine ⟨some r, by unfold findStep; rw [if_pos h2], ?_⟩
        simp only [Res.cs, Option.getD_some, Option.isSome_some]
        simp -implicitDefEqProofs only [evr, id, seval, res_one, par_one, idn_one, idn_0, idn_1, idn_2, resRow, res_ro, rExtract_tup, id_eq, idAg, evl, evn]
        rw [hr]
        rfl
      · refine Sat.skip ?_
        simp only [thenK]
        refine ⟨o, by unfold findStep; rw [if_neg (by rw [h2]; decide)], ?_⟩
        simp only [Res.cs]
        simp -implicitDefEqProofs only [evr, id, seval, res_one, par_one, idn_one, idn_0, idn_1, idn_2, resRow, res_ro, rExtract_tup, id_eq, idAg, evl, evn]
    rintro z hz
    simp only [thenK, blockK, Res.cs]
    refine Sat.region_k fun k hk => ?_
    simp -implicitDefEqProofs only [evr, id, seval, res_one, par_one, idn_one, idn_0, idn_1, idn_2, resRow, res_ro, rExtract_tup, id_eq, idAg, e1, evn]
    refine hk _ ?_
    simp only [thenK, blockK]
    refine ⟨(i + 1, z), ⟨h1, by rw [hz, ← hst]⟩, by simp only; omega, ?_⟩
    simp only [Res.cs]
    simp -implicitDefEqProofs only [evr, id, seval, res_one, par_one, idn_one, idn_0, idn_1, idn_2, resRow, res_ro, rExtract_tup, id_eq, idAg, evl, evn]
  · have h1 : i = xs.length := by simp only [decide_eq_false_iff_not] at h; omega
    subst h1
    rw [List.take_length] at ho
    refine Sat.exit ?_
    simp only [thenK, blockK, reduceIte]
    (repeat refine Sat.seq ?_)
    (refine Sat.region_k fun k hk => ?_; simp -implicitDefEqProofs only [evr, id, seval, res_one, par_one, idn_one, idn_0, idn_1, idn_2, resRow, res_ro, rExtract_tup, id_eq, idAg, evn]; refine hk _ ?_; clear hk k; try show Sat _ _ _ _ _)
    refine Sat.ret ?_
    simp only [Try.results39, evr, id, seval, res_one, par_one, idn_one, idn_0, idn_1, idn_2, List.append_nil, Int.toNat_zero, Nat.sub_self, Int.reduceToNat, resRow, res_ro, rExtract_tup, id_eq, idAg]
    rw [← ho]
    cases o <;> rfl
end Go.Proofs.Ytepbdjpcoleegaa


/- Evidence, by the evaluator: common.ValidEvidence, common.Holds. -/
namespace Go.Proofs.Ytepbdjpcoleegaa
open Go.Sort Eng
theorem par_eqs (a b a' b' : Int) : aggEq Try.prog 52 2 (fun j => [SV.i .u32 a, .i .u32 b].getD j default) 2 (fun j => [SV.i .u32 a', .i .u32 b'].getD j default) = some ([a == a', b == b'].all id) := by kernel_rfl
theorem par_eq (a b a' b' : Int) : aggEq Try.prog 52 2 (fun j => [SV.i .u32 a, .i .u32 b].getD j default) 2 (fun j => [SV.i .u32 a', .i .u32 b'].getD j default) = some (decide ((⟨a, b⟩ : Par) = ⟨a', b'⟩)) := by
 rw [par_eqs]
 congr 1
 apply Bool.eq_iff_iff.2
 simp
def evPre (e : Evd) : Bool := decide ((1 ≤ e.kind ∧ e.kind ≤ 3) ∧ e.a ≠ 0 ∧ e.a < e.b ∧ e.ids.length ≠ 0)
def idsAsc (l : List Idn) : Bool := decide (∀ i, i < l.length - 1 → idnLt (l.getD i default) (l.getD (i + 1) default) = true)
def validEv (e : Evd) : Bool := evPre e && idsAsc e.ids
set_option maxHeartbeats 1000000 in
set_option maxRecDepth 100000 in
theorem validEvC (F : Frm) (e : Evd) (he : e.ids.length ≤ 1000000000) : Contract F Try.prog 17 [evAg e] (fun r => r = .b (validEv e)) := by
 refine contract_of Try.func17 rfl (by kernel_rfl) ?_
 simp only [Try.ntmps17, argEnv, evAg, Evd.cs]
 (repeat refine Sat.seq ?_)
 (refine Sat.region_k fun k hk => ?_; simp -implicitDefEqProofs only [evr, id, seval, res_one, par_one, idn_one, idn_0, idn_1, idn_2, resRow, res_ro, rExtract_tup, par_eq, evn])
 intro b1
 (refine hk _ ?_; clear hk k; try show Sat _ _ _ _ _)
 (repeat refine Sat.seq ?_)
 refine Sat.atF (ι := Bool) (fun q => ⟨50, [(29, .b q), (1, .op 0 b1 0), (2, .ff)], [.box b1 37 (Evd.cs e)]⟩) (fun q => q = !evPre e) ?_ ?_
 ·(refine Sat.region_k fun k hk => ?_; simp -implicitDefEqProofs only [evr, id, seval, res_one, par_one, idn_one, idn_0, idn_1, idn_2, resRow, res_ro, rExtract_tup, par_eq, evn])
  refine ⟨fun h1 => ?_, fun h1 => ⟨fun h2 => ?_, fun h2 => ⟨fun h3 => ?_, fun h3 => ⟨fun h4 => ?_, fun h4 => ?_⟩⟩⟩⟩
  ·refine hk _ ?_
   simp only [thenK]
   refine ⟨true, by unfold evPre; symm; rw [Bool.not_eq_true', decide_eq_false_iff_not]; omega, ?_⟩
   simp only [Evd.cs]
   simp -implicitDefEqProofs only [evr, id, seval, res_one, par_one, idn_one, idn_0, idn_1, idn_2, resRow, res_ro, rExtract_tup, par_eq, evl, evn]
  ·refine hk _ ?_
   simp only [thenK]
   refine ⟨true, by unfold evPre; symm; rw [Bool.not_eq_true', decide_eq_false_iff_not]; omega, ?_⟩
   simp only [Evd.cs]
   simp -implicitDefEqProofs only [evr, id, seval, res_one, par_one, idn_one, idn_0, idn_1, idn_2, resRow, res_ro, rExtract_tup, par_eq, evl, evn]
  ·refine hk _ ?_
   simp only [thenK]
   refine ⟨true, by unfold evPre; symm; rw [Bool.not_eq_true', decide_eq_false_iff_not]; (rw [beq_iff_eq] at h3; exact fun hh => hh.2.1 h3), ?_⟩
   simp only [Evd.cs]
   simp -implicitDefEqProofs only [evr, id, seval, res_one, par_one, idn_one, idn_0, idn_1, idn_2, resRow, res_ro, rExtract_tup, par_eq, evl, evn]
  ·refine hk _ ?_
   simp only [thenK]
   refine ⟨true, by unfold evPre; symm; rw [Bool.not_eq_true', decide_eq_false_iff_not]; omega, ?_⟩
   simp only [Evd.cs]
   simp -implicitDefEqProofs only [evr, id, seval, res_one, par_one, idn_one, idn_0, idn_1, idn_2, resRow, res_ro, rExtract_tup, par_eq, evl, evn]
  ·refine hk _ ?_
   simp only [thenK]
   refine ⟨((e.ids.length : Int) == 0), ?_, ?_⟩
   rotate_left
   ·simp only [Evd.cs]
    simp -implicitDefEqProofs only [evr, id, seval, res_one, par_one, idn_one, idn_0, idn_1, idn_2, resRow, res_ro, rExtract_tup, par_eq, evl, evn]
   ·rw [beq_eq_false_iff_ne] at h3
    unfold evPre
    by_cases h5 : e.ids.length = 0
    ·simp [h5]
    ·have a1 : ((e.ids.length : Int) == 0) = false := by rw [beq_eq_false_iff_ne]; omega
     rw [a1, decide_eq_true ⟨⟨by omega, by omega⟩, h3, by omega, h5⟩]
     rfl
 rintro q rfl
 simp only [Evd.cs]
 (repeat refine Sat.seq ?_)
 refine Sat.cond_b rfl (fun h => ?_) (fun h => ?_)
 ·have hp : evPre e = false := by simpa using h
  (repeat refine Sat.seq ?_)
  (refine Sat.region_k fun k hk => ?_; simp -implicitDefEqProofs only [evr, id, seval, res_one, par_one, idn_one, idn_0, idn_1, idn_2, resRow, res_ro, rExtract_tup, par_eq, evn]; refine hk _ ?_; clear hk k; try show Sat _ _ _ _ _)
  refine Sat.ret ?_
  simp only [Try.results17, evr, id, seval, res_one, par_one, idn_one, idn_0, idn_1, idn_2, List.append_nil, Int.toNat_zero, Nat.sub_self, Int.reduceToNat, resRow, res_ro, rExtract_tup, par_eq]
  unfold validEv
  rw [hp]
  rfl
 have hp : evPre e = true := by simpa using h
 refine Sat.skip ?_
 simp only [thenK]
 have hlen : e.ids.length ≠ 0 := by
  unfold evPre at hp
  exact (of_decide_eq_true hp).2.2.2
 (repeat refine Sat.seq ?_)
 (refine Sat.region_k fun k hk => ?_; simp -implicitDefEqProofs only [evr, id, seval, res_one, par_one, idn_one, idn_0, idn_1, idn_2, resRow, res_ro, rExtract_tup, par_eq, evn]; refine hk _ ?_; clear hk k; try show Sat _ _ _ _ _)
 (repeat refine Sat.seq ?_)
 refine Sat.block ?_
 refine Sat.loop (ι := Nat) (fun i => ⟨50, [(3, .i .i64 i), (1, .op 0 b1 0), (2, .ff)], [.box b1 37 [.i .i64 e.kind, .i .u32 e.a, .i .u32 e.b, .sl e.ad e.ids.length e.cap 3 (idnRd e.ids.toArray)]]⟩)
  (fun i => 1 ≤ i ∧ i ≤ e.ids.length ∧ ∀ q, q + 1 < i → idnLt (e.ids.getD q default) (e.ids.getD (q + 1) default) = true) (fun i => e.ids.length - i) 1 ⟨Nat.le_refl _, by omega, fun q hq => by omega⟩ (by simp -implicitDefEqProofs only [evr, id, seval, res_one, par_one, idn_one, idn_0, idn_1, idn_2, resRow, res_ro, rExtract_tup, par_eq, evl, evn]; try rfl) ?_
 rintro i ⟨hi1, hi, hq⟩
 (repeat refine Sat.seq ?_)
 (refine Sat.region_k fun k hk => ?_; simp -implicitDefEqProofs only [evr, id, seval, res_one, par_one, idn_one, idn_0, idn_1, idn_2, resRow, res_ro, rExtract_tup, par_eq, evn]; refine hk _ ?_; clear hk k; try show Sat _ _ _ _ _)
 (repeat refine Sat.seq ?_)
 refine Sat.cond_b rfl (fun h2 => ?_) (fun h2 => ?_)
 ·have hlt : i < e.ids.length := by simp only [decide_eq_true_eq] at h2; omega
  have e1 : IntKind.i64.wrap ((i : Int) + 1) = ((i + 1 : Nat) : Int) := by rw [w64 (by omega)]; omega
  have e2 : IntKind.i64.wrap ((i : Int) - 1) = ((i - 1 : Nat) : Int) := by rw [w64 (by omega)]; omega
  refine Sat.skip ?_
  simp only [thenK]
  (repeat refine Sat.seq ?_)
  refine Sat.block ?_
  (repeat refine Sat.seq ?_)
  (refine Sat.region_rows [⟨0, 38, 2, 0⟩, ⟨1, 39, 137438953472, 1⟩, ⟨0, 40, 8, 0⟩, ⟨4, 41, 549755813888, 0⟩, ⟨10, 42, 1374389534720, 0⟩, ⟨16, 43, 2199023255552, 1⟩, ⟨0, 44, 2, 0⟩, ⟨64, 45, 8796093022208, 1⟩, ⟨0, 46, 8, 0⟩, ⟨384, 47, 52776558133248, 0⟩, ⟨512, 48, 70368744177664, 1⟩, ⟨1056, 49, 145135534866432, 2⟩, ⟨2048, 50, 281474976710656, 0⟩] [0, 2, 3, 6, 8, 1, 7, 4, 9, 5, 10] [(11, false), (12, false)] [] (by kernel_rfl) (by kernel_rfl) (fun _ _ h => h) fun k hk => ?_; simp only [List.map_cons, List.map_nil, List.getD_cons_zero, List.getD_cons_succ, btseq_cons, btseq_free, btseq_nil]; simp -implicitDefEqProofs only [evr, id, seval, res_one, par_one, idn_one, idn_0, idn_1, idn_2, resRow, res_ro, rExtract_tup, par_eq, evn])
  simp only [e2, Int.toNat_natCast]
  refine ⟨⟨by omega, by omega⟩, by omega, ?_⟩
  refine wcall_plain (compareIdC F e.ids.toArray[i - 1]! e.ids.toArray[i]!) rfl (by rintro _ rfl; exact ok_plain rfl) ?_
  rintro _ rfl
  simp -implicitDefEqProofs only [evr, id, seval, res_one, par_one, idn_one, idn_0, idn_1, idn_2, resRow, res_ro, rExtract_tup, par_eq, evn]
  (refine hk _ ?_; clear hk k; try show Sat _ _ _ _ _)
  have g1 : e.ids.toArray[i - 1]! = e.ids.getD (i - 1) default := by simp [getElem!_def, List.getD, show i - 1 < e.ids.length by omega]
  have g2 : e.ids.toArray[i]! = e.ids.getD i default := by simp [getElem!_def, List.getD, hlt]
  rw [g1, g2]
  (repeat refine Sat.seq ?_)
  refine Sat.cond_b rfl (fun h3 => ?_) (fun h3 => ?_)
  ·have hno : idnLt (e.ids.getD (i - 1) default) (e.ids.getD i default) = false := by
    unfold idnLt
    simp only [decide_eq_true_eq, ge_iff_le] at h3
    rw [decide_eq_false_iff_not]
    omega
   (repeat refine Sat.seq ?_)
   (refine Sat.region_k fun k hk => ?_; simp -implicitDefEqProofs only [evr, id, seval, res_one, par_one, idn_one, idn_0, idn_1, idn_2, resRow, res_ro, rExtract_tup, par_eq, evn]; refine hk _ ?_; clear hk k; try show Sat _ _ _ _ _)
   refine Sat.ret ?_
   simp only [blockK, Try.results17, evr, id, seval, res_one, par_one, idn_one, idn_0, idn_1, idn_2, List.append_nil, Int.toNat_zero, Nat.sub_self, Int.reduceToNat, resRow, res_ro, rExtract_tup, par_eq]
   have : idsAsc e.ids = false := by
    cases hA : idsAsc e.ids with
    | false => rfl
    | true =>
     unfold idsAsc at hA
     have := of_decide_eq_true hA (i - 1) (by omega)
     rw [show i - 1 + 1 = i by omega, hno] at this
     cases this
   unfold validEv
   rw [this, Bool.and_false]
  have hyes : idnLt (e.ids.getD (i - 1) default) (e.ids.getD i default) = true := by
   unfold idnLt
   simp only [decide_eq_false_iff_not, ge_iff_le] at h3
   rw [decide_eq_true_eq]
   omega
  refine Sat.skip ?_
  simp only [thenK, blockK]
  refine Sat.region_k fun k hk => ?_
  simp -implicitDefEqProofs only [evr, id, seval, res_one, par_one, idn_one, idn_0, idn_1, idn_2, resRow, res_ro, rExtract_tup, par_eq, e1, evn]
  refine hk _ ?_
  simp only [thenK, blockK]
  refine ⟨i + 1, ⟨by omega, by omega, fun q hq2 => ?_⟩, by omega, ?_⟩
  ·by_cases hqi : q + 1 < i
   ·exact hq q hqi
   ·obtain rfl : q = i - 1 := by omega
    rw [show i - 1 + 1 = i by omega]
    exact hyes
  ·simp -implicitDefEqProofs only [evr, id, seval, res_one, par_one, idn_one, idn_0, idn_1, idn_2, resRow, res_ro, rExtract_tup, par_eq, evl, evn]
 ·have hie : i = e.ids.length := by simp only [decide_eq_false_iff_not] at h2; omega
  refine Sat.exit ?_
  simp only [thenK, blockK, reduceIte]
  (repeat refine Sat.seq ?_)
  (refine Sat.region_k fun k hk => ?_; simp -implicitDefEqProofs only [evr, id, seval, res_one, par_one, idn_one, idn_0, idn_1, idn_2, resRow, res_ro, rExtract_tup, par_eq, evn]; refine hk _ ?_; clear hk k; try show Sat _ _ _ _ _)
  refine Sat.ret ?_
  simp only [Try.results17, evr, id, seval, res_one, par_one, idn_one, idn_0, idn_1, idn_2, List.append_nil, Int.toNat_zero, Nat.sub_self, Int.reduceToNat, resRow, res_ro, rExtract_tup, par_eq]
  have : idsAsc e.ids = true := by
   unfold idsAsc
   rw [decide_eq_true_eq]
   intro q hq2
   exact hq q (by omega)
  unfold validEv
  rw [hp, this]
  rfl
def idShows (xs : List Res) (e : Evd) (d : Idn) : Bool := match findV xs d with
 | some r => decide (showR r = some e.pr)
 | none => false
def holdsV (xs : List Res) (e : Evd) : Bool := (validEv e && decide (e.kind = 1)) && e.ids.all (idShows xs e)
set_option maxHeartbeats 1000000 in
set_option maxRecDepth 100000 in
theorem holdsC (F : Frm) (ad : Option Addr) (cap : Nat) (xs : List Res) (e : Evd) (hl : xs.length ≤ 1000000000) (he : e.ids.length ≤ 1000000000) :
  Contract F Try.prog 12 [.sl ad xs.length cap 17 (resRd xs.toArray), evAg e] (fun r => r = .b (holdsV xs e)) := by
 refine contract_of Try.func12 rfl (by kernel_rfl) ?_
 simp only [Try.ntmps12, argEnv, evAg, Evd.cs]
 (repeat refine Sat.seq ?_)
 (refine Sat.region_k fun k hk => ?_; simp -implicitDefEqProofs only [evr, id, seval, res_one, par_one, idn_one, idn_0, idn_1, idn_2, resRow, res_ro, rExtract_tup, par_eq, evn])
 intro b3
 (refine hk _ ?_; clear hk k; try show Sat _ _ _ _ _)
 (repeat refine Sat.seq ?_)
 refine Sat.joinK (ι := Bool) (fun q => ⟨51, [(18, .b q), (3, .op 0 b3 0), (4, .ff), (0, .sl ad xs.length cap 17 (resRd xs.toArray))], [.box b3 37 [.i .i64 e.kind, .i .u32 e.a, .i .u32 e.b, .sl e.ad e.ids.length e.cap 3 (idnRd e.ids.toArray)]]⟩) (fun q => q = !(validEv e && decide (e.kind = 1))) (fun hrest => ?_) ?_
 ·(refine Sat.region_k fun k hk => ?_; simp -implicitDefEqProofs only [evr, id, seval, res_one, par_one, idn_one, idn_0, idn_1, idn_2, resRow, res_ro, rExtract_tup, par_eq, evn])
  refine wcall_plain (validEvC F e he) rfl (by rintro _ rfl; exact ok_plain rfl) ?_
  rintro _ rfl
  simp -implicitDefEqProofs only [evr, id, seval, res_one, par_one, idn_one, idn_0, idn_1, idn_2, resRow, res_ro, rExtract_tup, par_eq, evn]
  refine ⟨fun h1 => ?_, fun h1 => ?_⟩
  ·refine hk _ ?_
   simp only [thenK]
   refine (hrest true (by simp at h1; rw [h1]; rfl)).le ?_
   simp -implicitDefEqProofs only [evr, id, seval, res_one, par_one, idn_one, idn_0, idn_1, idn_2, resRow, res_ro, rExtract_tup, par_eq, evl, evn]
  ·refine hk _ ?_
   simp only [thenK]
   refine (hrest (e.kind != 1) (by simp at h1; rw [h1, Bool.true_and]; rfl)).le ?_
   simp -implicitDefEqProofs only [evr, id, seval, res_one, par_one, idn_one, idn_0, idn_1, idn_2, resRow, res_ro, rExtract_tup, par_eq, evl, evn]
 rintro q rfl
 (repeat refine Sat.seq ?_)
 refine Sat.cond_b rfl (fun h => ?_) (fun h => ?_)
 ·(repeat refine Sat.seq ?_)
  (refine Sat.region_k fun k hk => ?_; simp -implicitDefEqProofs only [evr, id, seval, res_one, par_one, idn_one, idn_0, idn_1, idn_2, resRow, res_ro, rExtract_tup, par_eq, evn]; refine hk _ ?_; clear hk k; try show Sat _ _ _ _ _)
  refine Sat.ret ?_
  simp only [Try.results12, evr, id, seval, res_one, par_one, idn_one, idn_0, idn_1, idn_2, List.append_nil, Int.toNat_zero, Nat.sub_self, Int.reduceToNat, resRow, res_ro, rExtract_tup, par_eq]
  unfold holdsV
  simp only [Bool.not_eq_true'] at h
  rw [h]
  rfl
 simp only [Bool.not_eq_false'] at h
 refine Sat.skip ?_
 simp only [thenK]
 (repeat refine Sat.seq ?_)
 (refine Sat.region_k fun k hk => ?_; simp -implicitDefEqProofs only [evr, id, seval, res_one, par_one, idn_one, idn_0, idn_1, idn_2, resRow, res_ro, rExtract_tup, par_eq, evn]; refine hk _ ?_; clear hk k; try show Sat _ _ _ _ _)
 (repeat refine Sat.seq ?_)
 refine Sat.block ?_
 refine Sat.loop (ι := Nat) (fun i => ⟨51, [(22, .i .i64 i), (21, .i .i64 e.ids.length), (20, .sl e.ad e.ids.length e.cap 3 (idnRd e.ids.toArray)), (3, .op 0 b3 0), (4, .ff), (0, .sl ad xs.length cap 17 (resRd xs.toArray))], [.box b3 37 [.i .i64 e.kind, .i .u32 e.a, .i .u32 e.b, .sl e.ad e.ids.length e.cap 3 (idnRd e.ids.toArray)]]⟩)
  (fun i => i ≤ e.ids.length ∧ ∀ d ∈ e.ids.take i, idShows xs e d = true) (fun i => e.ids.length - i) 0 ⟨Nat.zero_le _, fun d hd => by simp at hd⟩ (by simp -implicitDefEqProofs only [evr, id, seval, res_one, par_one, idn_one, idn_0, idn_1, idn_2, resRow, res_ro, rExtract_tup, par_eq, evl, evn]; try rfl) ?_
 rintro i ⟨hi, hq⟩
 (repeat refine Sat.seq ?_)
 (refine Sat.region_k fun k hk => ?_; simp -implicitDefEqProofs only [evr, id, seval, res_one, par_one, idn_one, idn_0, idn_1, idn_2, resRow, res_ro, rExtract_tup, par_eq, evn]; refine hk _ ?_; clear hk k; try show Sat _ _ _ _ _)
 (repeat refine Sat.seq ?_)
 refine Sat.cond_b rfl (fun h2 => ?_) (fun h2 => ?_)
 ·have hlt : i < e.ids.length := by simp only [decide_eq_true_eq] at h2; omega
  have e1 : IntKind.i64.wrap ((i : Int) + 1) = ((i + 1 : Nat) : Int) := by rw [w64 (by omega)]; omega
  obtain ⟨d, hd⟩ : ∃ d, d = e.ids.toArray[i]! := ⟨_, rfl⟩
  have hdi : e.ids[i] = d := by rw [hd]; simp [getElem!_def, hlt]
  have hbad : idShows xs e d = false → holdsV xs e = false := fun hb => by
   unfold holdsV
   rw [Bool.and_eq_false_iff]
   right
   rw [List.all_eq_false]
   exact ⟨d, by rw [← hdi]; exact List.getElem_mem _, by rw [hb]; decide⟩
  refine Sat.skip ?_
  simp only [thenK]
  (repeat refine Sat.seq ?_)
  refine Sat.block ?_
  (repeat refine Sat.seq ?_)
  (refine Sat.region_k fun k hk => ?_; simp -implicitDefEqProofs only [evr, id, seval, res_one, par_one, idn_one, idn_0, idn_1, idn_2, resRow, res_ro, rExtract_tup, par_eq, evn])
  refine ⟨by omega, fun b6 => ?_⟩
  (refine hk _ ?_; clear hk k; try show Sat _ _ _ _ _)
  (repeat refine Sat.seq ?_)
  (refine Sat.region_k fun k hk => ?_; simp -implicitDefEqProofs only [evr, id, seval, res_one, par_one, idn_one, idn_0, idn_1, idn_2, resRow, res_ro, rExtract_tup, par_eq, evn])
  refine wcall_plain (findC F ad cap xs e.ids.toArray[i]! hl) rfl (by rintro _ rfl; exact findS_ok _) ?_
  rintro _ rfl
  rw [← hd]
  cases hf : findV xs d with
  | none =>
   have hio : idShows xs e d = false := by unfold idShows; rw [hf]
   simp only [findS, tupL, resAg, Res.cs, evr, id, seval, res_one, par_one, idn_one, idn_0, idn_1, idn_2, List.append_nil, Int.toNat_zero, Nat.sub_self, Int.reduceToNat, resRow, res_ro, rExtract_tup, par_eq]
   intro b7
   (refine hk _ ?_; clear hk k; try show Sat _ _ _ _ _)
   (repeat refine Sat.seq ?_)
   (refine Sat.region_k fun k hk => ?_; simp -implicitDefEqProofs only [evr, id, seval, res_one, par_one, idn_one, idn_0, idn_1, idn_2, resRow, res_ro, rExtract_tup, par_eq, evn]; refine hk _ ?_; clear hk k; try show Sat _ _ _ _ _)
   (repeat refine Sat.seq ?_)
   refine Sat.cond_b rfl (fun h3 => ?_) (fun h3 => absurd h3 (by decide))
   (repeat refine Sat.seq ?_)
   (refine Sat.region_k fun k hk => ?_; simp -implicitDefEqProofs only [evr, id, seval, res_one, par_one, idn_one, idn_0, idn_1, idn_2, resRow, res_ro, rExtract_tup, par_eq, evn]; refine hk _ ?_; clear hk k; try show Sat _ _ _ _ _)
   refine Sat.ret ?_
   simp only [blockK, Try.results12, evr, id, seval, res_one, par_one, idn_one, idn_0, idn_1, idn_2, List.append_nil, Int.toNat_zero, Nat.sub_self, Int.reduceToNat, resRow, res_ro, rExtract_tup, par_eq]
   rw [hbad hio]
  | some r =>
   have hio : idShows xs e d = decide (showR r = some e.pr) := by unfold idShows; rw [hf]
   simp only [findS, tupL, resAg, Res.cs, evr, id, seval, res_one, par_one, idn_one, idn_0, idn_1, idn_2, List.append_nil, Int.toNat_zero, Nat.sub_self, Int.reduceToNat, resRow, res_ro, rExtract_tup, par_eq]
   intro b7
   (refine hk _ ?_; clear hk k; try show Sat _ _ _ _ _)
   (repeat refine Sat.seq ?_)
   (refine Sat.region_k fun k hk => ?_; simp -implicitDefEqProofs only [evr, id, seval, res_one, par_one, idn_one, idn_0, idn_1, idn_2, resRow, res_ro, rExtract_tup, par_eq, evn]; refine hk _ ?_; clear hk k; try show Sat _ _ _ _ _)
   (repeat refine Sat.seq ?_)
   refine Sat.cond_b rfl (fun h3 => absurd h3 (by decide)) (fun h3 => ?_)
   refine Sat.skip ?_
   simp only [thenK]
   (repeat refine Sat.seq ?_)
   (refine Sat.region_k fun k hk => ?_; simp -implicitDefEqProofs only [evr, id, seval, res_one, par_one, idn_one, idn_0, idn_1, idn_2, resRow, res_ro, rExtract_tup, par_eq, evn])
   refine wcall_plain (showC F r) rfl (by rintro _ rfl; exact showS_ok _) ?_
   rintro _ rfl
   cases hs : showR r with
   | none =>
    have hb : idShows xs e d = false := by rw [hio, hs]; rfl
    simp only [showS, tupL, parAg, Par.cs, evr, id, seval, res_one, par_one, idn_one, idn_0, idn_1, idn_2, List.append_nil, Int.toNat_zero, Nat.sub_self, Int.reduceToNat, resRow, res_ro, rExtract_tup, par_eq]
    intro b9
    (refine hk _ ?_; clear hk k; try show Sat _ _ _ _ _)
    (repeat refine Sat.seq ?_)
    (refine Sat.region_k fun k hk => ?_; simp -implicitDefEqProofs only [evr, id, seval, res_one, par_one, idn_one, idn_0, idn_1, idn_2, resRow, res_ro, rExtract_tup, par_eq, evn]; refine hk _ ?_; clear hk k; try show Sat _ _ _ _ _)
    (repeat refine Sat.seq ?_)
    refine Sat.cond_tt rfl ?_
    (repeat refine Sat.seq ?_)
    (refine Sat.region_k fun k hk => ?_; simp -implicitDefEqProofs only [evr, id, seval, res_one, par_one, idn_one, idn_0, idn_1, idn_2, resRow, res_ro, rExtract_tup, par_eq, evn]; refine hk _ ?_; clear hk k; try show Sat _ _ _ _ _)
    refine Sat.ret ?_
    simp only [blockK, Try.results12, evr, id, seval, res_one, par_one, idn_one, idn_0, idn_1, idn_2, List.append_nil, Int.toNat_zero, Nat.sub_self, Int.reduceToNat, resRow, res_ro, rExtract_tup, par_eq]
    rw [hbad hb]
   | some p =>
    have hb : idShows xs e d = decide (p = e.pr) := by rw [hio, hs]; simp
    simp only [showS, tupL, parAg, Par.cs, evr, id, seval, res_one, par_one, idn_one, idn_0, idn_1, idn_2, List.append_nil, Int.toNat_zero, Nat.sub_self, Int.reduceToNat, resRow, res_ro, rExtract_tup, par_eq]
    intro b9
    (refine hk _ ?_; clear hk k; try show Sat _ _ _ _ _)
    (repeat refine Sat.seq ?_)
    (refine Sat.region_k fun k hk => ?_; simp -implicitDefEqProofs only [evr, id, seval, res_one, par_one, idn_one, idn_0, idn_1, idn_2, resRow, res_ro, rExtract_tup, par_eq, evn]; refine hk _ ?_; clear hk k; try show Sat _ _ _ _ _)
    (repeat refine Sat.seq ?_)
    refine Sat.cond_b rfl (fun h4 => ?_) (fun h4 => ?_)
    ·have hb2 : idShows xs e d = false := by
      rw [hb]
      simp only [Bool.not_eq_true', decide_eq_false_iff_not] at h4
      exact decide_eq_false h4
     (repeat refine Sat.seq ?_)
     (refine Sat.region_k fun k hk => ?_; simp -implicitDefEqProofs only [evr, id, seval, res_one, par_one, idn_one, idn_0, idn_1, idn_2, resRow, res_ro, rExtract_tup, par_eq, evn]; refine hk _ ?_; clear hk k; try show Sat _ _ _ _ _)
     refine Sat.ret ?_
     simp only [blockK, Try.results12, evr, id, seval, res_one, par_one, idn_one, idn_0, idn_1, idn_2, List.append_nil, Int.toNat_zero, Nat.sub_self, Int.reduceToNat, resRow, res_ro, rExtract_tup, par_eq]
     rw [hbad hb2]
    have hb2 : idShows xs e d = true := by
     rw [hb]
     simp only [Bool.not_eq_false', decide_eq_true_eq] at h4
     exact decide_eq_true h4
    refine Sat.skip ?_
    simp only [thenK, blockK]
    refine Sat.region_k fun k hk => ?_
    simp -implicitDefEqProofs only [evr, id, seval, res_one, par_one, idn_one, idn_0, idn_1, idn_2, resRow, res_ro, rExtract_tup, par_eq, e1, evn]
    refine hk _ ?_
    simp only [thenK, blockK]
    refine ⟨i + 1, ⟨by omega, fun q hq2 => ?_⟩, by omega, ?_⟩
    ·rw [List.take_succ_eq_append_getElem hlt, hdi] at hq2
     rcases List.mem_append.1 hq2 with h9 | h9
     ·exact hq q h9
     ·rw [List.mem_singleton] at h9; subst h9; exact hb2
    ·simp -implicitDefEqProofs only [evr, id, seval, res_one, par_one, idn_one, idn_0, idn_1, idn_2, resRow, res_ro, rExtract_tup, par_eq, evl, evn]
 ·have hie : i = e.ids.length := by simp only [decide_eq_false_iff_not] at h2; omega
  subst hie
  rw [List.take_length] at hq
  refine Sat.exit ?_
  simp only [thenK, blockK, reduceIte]
  (repeat refine Sat.seq ?_)
  (refine Sat.region_k fun k hk => ?_; simp -implicitDefEqProofs only [evr, id, seval, res_one, par_one, idn_one, idn_0, idn_1, idn_2, resRow, res_ro, rExtract_tup, par_eq, evn]; refine hk _ ?_; clear hk k; try show Sat _ _ _ _ _)
  refine Sat.ret ?_
  simp only [Try.results12, evr, id, seval, res_one, par_one, idn_one, idn_0, idn_1, idn_2, List.append_nil, Int.toNat_zero, Nat.sub_self, Int.reduceToNat, resRow, res_ro, rExtract_tup, par_eq]
  have : e.ids.all (idShows xs e) = true := List.all_eq_true.2 hq
  unfold holdsV
  rw [h, this]
  rfl
end Go.Proofs.Ytepbdjpcoleegaa


/- The example of the chapter, by the evaluator: awake of law 28. -/
namespace Go.Proofs.Ytepbdjpcoleegaa
open Go.Sort Eng
namespace Eng
theorem simA_mem : ∀ {l l' : List SV}, simA l l' → ∀ s' ∈ l', ∃ s ∈ l, sim s s'
  | [], [], _, s', h => by cases h
  | [], _ :: _, h, _, _ => h.elim
  | _ :: _, [], h, _, _ => h.elim
  | s :: l, t :: l', h, s', hs => by
    rcases List.mem_cons.1 hs with rfl | hs
    · exact ⟨s, by simp, h.1⟩
    · obtain ⟨x, hx, h2⟩ := simA_mem h.2 s' hs
      exact ⟨x, by simp [hx], h2⟩
theorem Sat.rebox {P : Program} {F : Frm} {n : Nat} {env : List (Nat × SV)} {own : List Own} {c : Code} {K : Exit → St → Prop} (id : Nat) {blk ty : Nat} {cs : List SV} (cs' : List SV) (hid : own[id]? = some (.box blk ty cs)) (hs : simA cs cs')
    (h : Sat P F c ⟨n, env, own.set id (.box blk ty cs')⟩ K) : Sat P F c ⟨n, env, own⟩ K := by
  rintro R0 w0 a w ⟨ob, R, hr⟩
  obtain ⟨b1, b2, b3, b4⟩ := hr.own id _ hid
  have hset := hr.setOwn (o' := .box blk ty cs') (g := blk) hid rfl (fun b hb => by simpa [Own.blk] using hb.symm) (w' := w) rfl rfl rfl (Nat.le_refl _) (fun _ _ _ => rfl)
    ⟨b1, b2, by rw [← simA_den hs]; exact b3, fun x hx => by
      obtain ⟨y, hy, hxy⟩ := simA_mem hs x hx
      have := b4 y hy
      exact ⟨by rw [← hxy.1]; exact this.1, hxy.2 R w this.2⟩⟩
  exact h R0 w0 a w ⟨ob, R, hset⟩
end Eng
theorem ev_0 (es : List Evd) (i : Nat) : evRd es i 0 = .i .i64 (es.getD i default).kind := rfl
theorem ev_1 (es : List Evd) (i : Nat) : evRd es i 1 = .i .u32 (es.getD i default).a := rfl
theorem ev_2 (es : List Evd) (i : Nat) : evRd es i 2 = .i .u32 (es.getD i default).b := rfl
theorem ev_3 (es : List Evd) (i : Nat) : evRd es i 3 = .sl (es.getD i default).ad (es.getD i default).ids.length (es.getD i default).cap 3 (idnRd (es.getD i default).ids.toArray) := rfl
theorem c1I : ((1 : Nat) : Int) = 1 := rfl
theorem sim_tt : sim .tt (.b true) := ⟨rfl, fun _ _ _ => trivial⟩
def aw8 : Res := ⟨0, 0, 0, 0, 9, 17, 0, 3, true, false, 5, 5, 3, 0, 0, 0, 0⟩
theorem aw8_show : showR aw8 = some ⟨5, 9⟩ := by decide
theorem aw8_pairs {es : List Evd} (h : PairsOf [aw8] es) : ∃ ad cap, es = [⟨1, 5, 9, [⟨0, 0, 0⟩], ad, cap⟩] := by
  have key : ∀ p d, (∃ e ∈ es, e.pr = p ∧ d ∈ e.ids) ↔ p = ⟨5, 9⟩ ∧ d = ⟨0, 0, 0⟩ := fun p d => (h.mem p d).trans (by
    constructor
    · rintro ⟨r, hr, h1, h2⟩
      rw [List.mem_singleton] at hr
      subst hr
      rw [aw8_show] at h1
      exact ⟨(Option.some.inj h1).symm, h2.symm⟩
    · rintro ⟨rfl, rfl⟩
      exact ⟨aw8, by simp, aw8_show, rfl⟩)
  have hall : ∀ e ∈ es, e.pr = ⟨5, 9⟩ ∧ e.ids = [⟨0, 0, 0⟩] := fun e he => by
    obtain ⟨_, hp, hne, _⟩ := h.each e he
    have hd : ∀ d ∈ e.ids, e.pr = ⟨5, 9⟩ ∧ d = ⟨0, 0, 0⟩ := fun d hd => (key e.pr d).1 ⟨e, he, rfl, hd⟩
    match hi : e.ids, hne with
    | [x], _ => rw [hi] at hd; obtain ⟨h1, h2⟩ := hd x (by simp); exact ⟨h1, by rw [h2]⟩
    | x :: y :: l, _ =>
      rw [hi] at hd hp
      have h1 := (hd x (by simp)).2
      have h2 := (hd y (by simp)).2
      have := (List.pairwise_cons.1 hp).1 y (by simp)
      rw [h1, h2, idnLt_irrefl] at this
      cases this
  obtain ⟨e0, he0, _, _⟩ := (key ⟨5, 9⟩ ⟨0, 0, 0⟩).2 ⟨rfl, rfl⟩
  match es, h, hall, he0 with
  | [e], h, hall, _ =>
    obtain ⟨h1, h2⟩ := hall e (by simp)
    have h3 := (h.each e (by simp)).1
    obtain ⟨k, a, b, ids, ad, cap⟩ := e
    simp only [Evd.pr, Par.mk.injEq] at h1 h2 h3
    obtain ⟨rfl, rfl⟩ := h1
    subst h2 h3
    exact ⟨ad, cap, rfl⟩
  | x :: y :: l, h, hall, _ =>
    have h1 := (hall x (by simp)).1
    have h2 := (hall y (by simp)).1
    have := (List.pairwise_cons.1 h.asc).1 y (by simp)
    rw [h1, h2, parLt_irrefl] at this
    cases this
theorem pairs2 (F : Frm) (bs : Nat) (ead : Option Addr) (ecap : Nat) : Contract F Try.prog 12 [.sl (some ⟨bs, 0, none⟩) 1 1 17 (resRd [aw8].toArray), evAg ⟨1, 5, 9, [⟨0, 0, 0⟩], ead, ecap⟩] (fun r => r = .b (holdsV [aw8] ⟨1, 5, 9, [⟨0, 0, 0⟩], ead, ecap⟩)) :=
  holdsC F (some ⟨bs, 0, none⟩) 1 [aw8] ⟨1, 5, 9, [⟨0, 0, 0⟩], ead, ecap⟩ (by decide) (show 1 ≤ 1000000000 by decide)
theorem holdsN (F : Frm) (ead : Option Addr) (ecap : Nat) : Contract F Try.prog 12 [.sl none 0 0 0 fun _ _ => .v undef, evAg ⟨1, 5, 9, [⟨0, 0, 0⟩], ead, ecap⟩] (fun r => r = .b (holdsV [] ⟨1, 5, 9, [⟨0, 0, 0⟩], ead, ecap⟩)) :=
  Contract.of_sim (holdsC F none 0 [] ⟨1, 5, 9, [⟨0, 0, 0⟩], ead, ecap⟩ (by decide) (show 1 ≤ 1000000000 by decide)) ⟨⟨rfl, fun R w _ => ⟨Nat.le_refl _, Nat.zero_le _, .inl rfl⟩⟩, sim_refl _, trivial⟩
set_option maxHeartbeats 1000000 in
set_option maxRecDepth 100000 in
theorem awakeC (F : Frm) : Contract F Try.prog 7 [] (fun r => r = .b true) := by
  refine contract_of Try.func7 rfl (by kernel_rfl) ?_
  simp only [Try.ntmps7, argEnv]
  (repeat refine Sat.seq ?_)
  (refine Sat.region_k fun k hk => ?_; simp -implicitDefEqProofs only [evr, id, seval, res_one, par_one, idn_one, idn_0, idn_1, idn_2, resRow, res_ro, rExtract_tup, par_eq, ev_0, ev_1, ev_2, ev_3, c1I, evn]; refine hk _ ?_; clear hk k; try show Sat _ _ _ _ _)
  (repeat refine Sat.seq ?_)
  (refine Sat.region_k fun k hk => ?_; simp -implicitDefEqProofs only [evr, id, seval, res_one, par_one, idn_one, idn_0, idn_1, idn_2, resRow, res_ro, rExtract_tup, par_eq, ev_0, ev_1, ev_2, ev_3, c1I, evn])
  intro b1
  (refine hk _ ?_; clear hk k; try show Sat _ _ _ _ _)
  refine Sat.rebox 0 (Res.cs aw8) rfl ⟨sim_refl _, sim_refl _, sim_refl _, sim_refl _, sim_refl _, sim_refl _, sim_refl _, sim_refl _, sim_tt, sim_refl _, sim_refl _, sim_refl _, sim_refl _, sim_refl _, sim_refl _, sim_refl _, sim_refl _, trivial⟩ ?_
  simp only [Res.cs, aw8, List.set_cons_zero]
  have hrow : rdEq 1 17 (rdL (Res.cs aw8) 17) (resRd [aw8].toArray) := by
    intro i j hi hj
    obtain rfl : i = 0 := by omega
    unfold rdL resRd
    rw [Nat.zero_mul, Nat.zero_add]
    rfl
  have hin : ∀ r ∈ [aw8], RgR r := by unfold RgR; decide
  (repeat refine Sat.seq ?_)
  (refine Sat.region_k fun k hk => ?_; simp -implicitDefEqProofs only [evr, id, seval, res_one, par_one, idn_one, idn_0, idn_1, idn_2, resRow, res_ro, rExtract_tup, par_eq, ev_0, ev_1, ev_2, ev_3, c1I, evn])
  intro bs
  refine wcall_slice (Contract.of_sim (args := [.sl (some ⟨bs, 0, none⟩) 1 1 17 (rdL (Res.cs aw8) 17)]) (pairsC F (some ⟨bs, 0, none⟩) 1 [aw8] (by decide) hin) ⟨sim_sl hrow, trivial⟩) rfl (by simp only [Res.cs, aw8, evr, id, seval, res_one, par_one, idn_one, idn_0, idn_1, idn_2, List.append_nil, Int.toNat_zero, Nat.sub_self, Int.reduceToNat, resRow, res_ro, rExtract_tup, par_eq, ev_0, ev_1, ev_2, ev_3, c1I]; try rfl) ?_
  rintro r (⟨hbad, _⟩ | ⟨_, a, c, es, hes, rfl⟩)
  · exact absurd hbad (by decide)
  obtain ⟨ead, ecap, rfl⟩ := aw8_pairs hes
  simp -implicitDefEqProofs only [evr, id, seval, res_one, par_one, idn_one, idn_0, idn_1, idn_2, resRow, res_ro, rExtract_tup, par_eq, ev_0, ev_1, ev_2, ev_3, c1I, evn]
  (refine hk _ ?_; clear hk k; try show Sat _ _ _ _ _)
  (repeat refine Sat.seq ?_)
  (refine Sat.region_k fun k hk => ?_; simp -implicitDefEqProofs only [evr, id, seval, res_one, par_one, idn_one, idn_0, idn_1, idn_2, resRow, res_ro, rExtract_tup, par_eq, ev_0, ev_1, ev_2, ev_3, c1I, evn])
  refine wcall_plain (showC F aw8) (by simp only [resAg, Res.cs, aw8, evr, id, seval, res_one, par_one, idn_one, idn_0, idn_1, idn_2, List.append_nil, Int.toNat_zero, Nat.sub_self, Int.reduceToNat, resRow, res_ro, rExtract_tup, par_eq, ev_0, ev_1, ev_2, ev_3, c1I]; try rfl) (by rintro _ rfl; exact showS_ok _) ?_
  rintro _ rfl
  rw [aw8_show]
  simp only [showS, tupL, parAg, Par.cs, evr, id, seval, res_one, par_one, idn_one, idn_0, idn_1, idn_2, List.append_nil, Int.toNat_zero, Nat.sub_self, Int.reduceToNat, resRow, res_ro, rExtract_tup, par_eq, ev_0, ev_1, ev_2, ev_3, c1I]
  intro b4
  (refine hk _ ?_; clear hk k; try show Sat _ _ _ _ _)
  have hv : validEv ⟨1, 5, 9, [⟨0, 0, 0⟩], ead, ecap⟩ = true := by rfl
  have hh : holdsV [aw8] ⟨1, 5, 9, [⟨0, 0, 0⟩], ead, ecap⟩ = true := by rfl
  have hn : holdsV [] ⟨1, 5, 9, [⟨0, 0, 0⟩], ead, ecap⟩ = false := by rfl
  (repeat refine Sat.seq ?_)
  (refine Sat.region_tree (.keep [0, 1, 2, 3, 4, 5, 6, 7, 8, 9, 10, 11, 12, 13, 14, 15, 16, 17, 18, 19, 20, 21, 22, 23, 24, 25, 26, 27, 28, 29, 30, 31] [] (.one 32 (.one 33 (.one 34 (.one 35 (.one 36 (.one 37 (.free 39 (.one 38 (.one 40 (.one 41 (.one 42 (.free 45 (.free 46 (.alt 43 (.alt 44 (.one 47 (.one 48 (.one 49 (.one 50 (.one 51 (.one 52 (.one 53 (.one 54 (.one 55 (.one 56 (.one 57 .done))))))))))) (.alt 47 (.one 44 (.one 48 (.one 49 (.one 50 (.one 51 (.one 52 (.one 53 (.one 54 (.one 55 (.one 56 (.one 57 .done))))))))))) .none)) (.alt 47 (.one 43 (.one 44 (.one 48 (.one 49 (.one 50 (.one 51 (.one 52 (.one 53 (.one 54 (.one 55 (.one 56 (.one 57 .done)))))))))))) .none)))))))))))))))) (by kernel_rfl) (by kernel_rfl) (fun _ _ h => h) fun k hk => ?_; simp only [WOT, List.map_cons, List.map_nil, List.getD_cons_zero, List.getD_cons_succ]; simp -implicitDefEqProofs only [evr, id, seval, res_one, par_one, idn_one, idn_0, idn_1, idn_2, resRow, res_ro, rExtract_tup, par_eq, ev_0, ev_1, ev_2, ev_3, c1I, WOT, evn])
  repeat' (first
    | (with_reducible refine And.intro ?_ ?_)
    | omega
    | decide
    | (refine wcall_plain (validEvC F ⟨1, 5, 9, [⟨0, 0, 0⟩], ead, ecap⟩ (show 1 ≤ 1000000000 by decide)) rfl (by rintro _ rfl; exact ok_plain rfl) ?_
       rintro _ rfl
       rw [hv]
       simp -implicitDefEqProofs only [evr, id, seval, res_one, par_one, idn_one, idn_0, idn_1, idn_2, resRow, res_ro, rExtract_tup, par_eq, ev_0, ev_1, ev_2, ev_3, c1I, evn])
    | (refine wcall_slice (Contract.of_sim (args := [.sl (some ⟨bs2, 0, none⟩) 1 1 17 (rdL (Res.cs aw8) 17), evAg ⟨1, 5, 9, [⟨0, 0, 0⟩], ead, ecap⟩]) (pairs2 F bs2 ead ecap) ⟨sim_sl hrow, sim_refl _, trivial⟩) rfl (by simp only [evAg, Evd.cs, Res.cs, aw8, evr, id, seval, res_one, par_one, idn_one, idn_0, idn_1, idn_2, List.append_nil, Int.toNat_zero, Nat.sub_self, Int.reduceToNat, resRow, res_ro, rExtract_tup, par_eq, ev_0, ev_1, ev_2, ev_3, c1I]; rfl) ?_
       rintro _ rfl
       rw [hh]
       simp -implicitDefEqProofs only [evr, id, seval, res_one, par_one, idn_one, idn_0, idn_1, idn_2, resRow, res_ro, rExtract_tup, par_eq, ev_0, ev_1, ev_2, ev_3, c1I, evn])
    | (refine wcall_plain (holdsN F ead ecap) rfl (by rintro _ rfl; exact ok_plain rfl) ?_
       rintro _ rfl
       rw [hn]
       simp -implicitDefEqProofs only [evr, id, seval, res_one, par_one, idn_one, idn_0, idn_1, idn_2, resRow, res_ro, rExtract_tup, par_eq, ev_0, ev_1, ev_2, ev_3, c1I, evn])
    | (with_reducible intro bs2)
    | (refine hk _ ?_
       simp only [thenK]
       refine Sat.ret ?_
       simp only [Try.results7, evr, id, seval, res_one, par_one, idn_one, idn_0, idn_1, idn_2, List.append_nil, Int.toNat_zero, Nat.sub_self, Int.reduceToNat, resRow, res_ro, rExtract_tup, par_eq, ev_0, ev_1, ev_2, ev_3, c1I]
       done))
end Go.Proofs.Ytepbdjpcoleegaa


/- What pairs hold (no program in sight). -/
namespace Go.Proofs.Ytepbdjpcoleegaa
open Eng
def Evd.cut (e : Evd) (n : Nat) : Evd := ⟨e.kind, e.a, e.b, e.ids.take n, e.ad, e.cap⟩
end Go.Proofs.Ytepbdjpcoleegaa


/- Plain laws of pairs: they depend on the set of results alone, and each result that shows a pair is named once. -/
namespace Go.Proofs.Ytepbdjpcoleegaa
open Go.Sort Eng
def Evd.say (e : Evd) : Int × Par × List Idn := (e.kind, e.pr, e.ids)
theorem PairsOf.prs {xs : List Res} {es : List Evd} (h : PairsOf xs es) (p : Par) : p ∈ es.map Evd.pr ↔ ∃ r ∈ xs, showR r = some p := by
 constructor
 ·intro hp
  obtain ⟨e, he, rfl⟩ := List.mem_map.1 hp
  have hne := (h.each e he).2.2.1
  match hi : e.ids, hne with
  | d :: l, _ =>
   obtain ⟨r, hr, h1, _⟩ := (h.mem e.pr d).1 ⟨e, he, rfl, by rw [hi]; simp⟩
   exact ⟨r, hr, h1⟩
 ·rintro ⟨r, hr, h1⟩
  obtain ⟨e, he, h2, _⟩ := (h.mem p r.idn).2 ⟨r, hr, h1, rfl⟩
  exact List.mem_map.2 ⟨e, he, h2⟩
theorem PairsOf.one {xs : List Res} {es : List Evd} (h : PairsOf xs es) {e f : Evd} (he : e ∈ es) (hf : f ∈ es) (hp : e.pr = f.pr) : e = f := by
 have key : ∀ {l : List Evd}, (l.Pairwise fun x y => parLt x.pr y.pr = true) → ∀ e ∈ l, ∀ f ∈ l, e.pr = f.pr → e = f := by
  intro l
  induction l with
  | nil => intro _ e he; cases he
  | cons x l ih =>
   intro hl e he f hf hp
   obtain ⟨l1, l2⟩ := List.pairwise_cons.1 hl
   rcases List.mem_cons.1 he with g1 | g1 <;> rcases List.mem_cons.1 hf with g2 | g2
   ·rw [g1, g2]
   ·have := l1 f g2; rw [← g1, hp, parLt_irrefl] at this; cases this
   ·have := l1 e g1; rw [← g2, hp, parLt_irrefl] at this; cases this
   ·exact ih l2 e g1 f g2 hp
 exact key h.asc e he f hf hp
end Go.Proofs.Ytepbdjpcoleegaa


/- Traces: their fields, their order (no program in sight). -/
namespace Go.Proofs.Ytepbdjpcoleegaa
open Eng
structure Tre where
 van : Int
 dst : Int
 pro : Int
 deriving DecidableEq
instance : Inhabited Tre := ⟨⟨0, 0, 0⟩⟩
def Tre.cs (s : Tre) : List SV := [.i .i64 s.van, .i .u32 s.dst, .i .i64 s.pro]
def Tre.keys (s : Tre) : List Int := [s.van, s.dst, s.pro]
end Go.Proofs.Ytepbdjpcoleegaa


/- Inserting into a row by append, copy and store (readers alone); the reference's order of results (no program in sight). -/
namespace Go.Proofs.Ytepbdjpcoleegaa
open Eng
end Go.Proofs.Ytepbdjpcoleegaa


/- The reference of paths, by the evaluator: Valid, TraceOf, Identity, less, Compare. -/
namespace Go.Proofs.Ytepbdjpcoleegaa
open Go.Sort Eng
set_option maxRecDepth 100000 in
theorem validG (F : Frm) (x : Res) : Contract F Try.prog 78 [resAg x] (fun r => r = .b (validR x)) := by
 refine contract_of Try.func78 rfl (by kernel_rfl) ?_
 simp only [Try.ntmps78, argEnv, resAg, Res.cs]
 (repeat refine Sat.seq ?_)
 (refine Sat.region_k fun k hk => ?_; simp -implicitDefEqProofs only [evr, id, reduceCtorEq, reduceIte, Nat.reduceMul, Nat.reduceAdd, Nat.reduceLT, Nat.reduceLeDiff, Nat.reduceEqDiff, Int.reduceLT, Int.reduceBEq, Int.reduceBNe, Nat.reduceBEq, res_one, Int.reduceToNat, evn])
 intro blk1
 (refine hk _ ?_; clear hk k; try show Sat _ _ _ _ _)
 (repeat refine Sat.seq ?_)
 refine Sat.at ⟨22, [(2, .b (validR x))], []⟩ ?_ ?_
 ·(refine Sat.region_k fun k hk => ?_; simp -implicitDefEqProofs only [evr, id, reduceCtorEq, reduceIte, Nat.reduceMul, Nat.reduceAdd, Nat.reduceLT, Nat.reduceLeDiff, Nat.reduceEqDiff, Int.reduceLT, Int.reduceBEq, Int.reduceBNe, Nat.reduceBEq, res_one, Int.reduceToNat, evn])
  refine wcall_plain (checkG F x) rfl (by rintro _ rfl; exact ok_plain rfl) ?_
  rintro r rfl
  simp -implicitDefEqProofs only [evr, id, reduceCtorEq, reduceIte, Nat.reduceMul, Nat.reduceAdd, Nat.reduceLT, Nat.reduceLeDiff, Nat.reduceEqDiff, Int.reduceLT, Int.reduceBEq, Int.reduceBNe, Nat.reduceBEq, res_one, Int.reduceToNat, evn]
  refine ⟨fun h1 => ⟨fun h2 => ⟨fun h3 => hk _ ?_, fun h3 => hk _ ?_⟩, fun h2 => hk _ ?_⟩, fun h1 => hk _ ?_⟩
  ·have e : validR x = true := by simp only [validR, h1, h2, h3]; rfl
   simp only [thenK, e]
   simp -implicitDefEqProofs only [evr, id, reduceCtorEq, reduceIte, Nat.reduceMul, Nat.reduceAdd, Nat.reduceLT, Nat.reduceLeDiff, Nat.reduceEqDiff, Int.reduceLT, Int.reduceBEq, Int.reduceBNe, Nat.reduceBEq, res_one, Int.reduceToNat, evl, evn]
  ·have e : validR x = (x.from_ != 0) := by simp only [validR, h1, h2, h3]; rfl
   simp only [thenK, e]
   simp -implicitDefEqProofs only [evr, id, reduceCtorEq, reduceIte, Nat.reduceMul, Nat.reduceAdd, Nat.reduceLT, Nat.reduceLeDiff, Nat.reduceEqDiff, Int.reduceLT, Int.reduceBEq, Int.reduceBNe, Nat.reduceBEq, res_one, Int.reduceToNat, evl, evn]
  ·have e : validR x = false := by simp only [validR, h1, h2]; rfl
   simp only [thenK, e]
   simp -implicitDefEqProofs only [evr, id, reduceCtorEq, reduceIte, Nat.reduceMul, Nat.reduceAdd, Nat.reduceLT, Nat.reduceLeDiff, Nat.reduceEqDiff, Int.reduceLT, Int.reduceBEq, Int.reduceBNe, Nat.reduceBEq, res_one, Int.reduceToNat, evl, evn]
  ·have e : validR x = false := by simp only [validR, h1]; rfl
   simp only [thenK, e]
   simp -implicitDefEqProofs only [evr, id, reduceCtorEq, reduceIte, Nat.reduceMul, Nat.reduceAdd, Nat.reduceLT, Nat.reduceLeDiff, Nat.reduceEqDiff, Int.reduceLT, Int.reduceBEq, Int.reduceBNe, Nat.reduceBEq, res_one, Int.reduceToNat, evl, evn]
 simp only [thenK, blockK]
 refine Sat.ret ?_
 simp only [Try.results78, evr, id, reduceCtorEq, reduceIte, Nat.reduceMul, Nat.reduceAdd, Nat.reduceLT, Nat.reduceLeDiff, Nat.reduceEqDiff, Int.reduceLT, Int.reduceBEq, Int.reduceBNe, Nat.reduceBEq, res_one, List.append_nil, Int.toNat_zero, Nat.sub_self, Int.reduceToNat]
end Go.Proofs.Ytepbdjpcoleegaa


/- Choices, for the evaluator: Next as a contract, Roll as what makes them. -/
namespace Go.Proofs.Ytepbdjpcoleegaa
open Go.RowKit Eng
def Frm.codes (cb : Nat) : Frm := ⟨fun b => b = cb, fun b => b = cb, Codes cb, fun _ h => h, fun w b h e => by subst e; exact h.lt, fun w w' B h hB hw => h.kept fun k hk => hw k (Nat.lt_of_le_of_lt hk (hB cb rfl))⟩
def ptr (cb : Nat) : SV := .v (.pointer (some ⟨cb, 0, none⟩))
theorem enters_of {P : Program} {f : FuncId} {fn : Func} {c : Code} (hf : P.funcs[f]? = some fn) (hb : fn.body = some c) (hname : (fn.name == "runtime.NumGoroutine") = false) : ∀ vs w, (callFunc f vs).run P w = .ok (.enter f vs) w := by
 intro vs w
 have hn : ¬ fn.name = "runtime.NumGoroutine" := by simpa using hname
 simp [callFunc, hf, hn, hb]
theorem nextC (cb : Nat) (n : Int) (h1 : -9223372036854775808 ≤ n) (h2 : n ≤ 9223372036854775807) : Contract (Frm.codes cb) Try.prog 10 [ptr cb, .i .i64 n] (fun r => ∃ x : Int, r = .i .i64 x ∧ 0 ≤ x ∧ (x < n ∨ x = 0)) := by
 refine ⟨enters_of Try.func10 rfl (by kernel_rfl), fun R w hinv _ hR => ?_⟩
 refine (next_calls cb n w hinv h1 h2).mono ?_
 rintro e w' ⟨r, rfl, hr0, hr1, hc, hg⟩
 exact ⟨.i .i64 r, rfl, ⟨r, rfl, hr0, hr1⟩, trivial, ⟨hg.os, hg.tape, hg.output, hg.size, fun b hb hm => hg.block b hb (fun e => hm (show b = cb by simpa using e))⟩, hc⟩
def isBytes (s : SV) : Prop := ∃ a len cap rd, s = .sl a len cap 1 rd ∧ ∀ i, i < len → ∃ x : Int, 0 ≤ x ∧ x < 256 ∧ rd i 0 = .i .u8 x
theorem new_made (a : Option Addr) (len cap : Nat) (w : World) (most : Nat) (h1 : len ≤ cap) (h2 : cap ≤ maxLen) (hm : most ≤ 65536) :
  Calls Try.prog 24 #[.slice a len cap, .int .i64 (most : Int)] w fun e w' => e = .returned (.pointer (some ⟨w.heap.size, 0, none⟩)) ∧ ∃ n, n ≤ len ∧ w' = w.alloc (.cells #[.slice a n cap, .int .i64 0] 74) := by
 unfold maxLen at h2
 by_cases hl : (most : Nat) < len
 ·go_enter Try.func24, Try.ntmps24
  go_wp2
  go_ret
  exact ⟨rfl, most, by omega, rfl⟩
 ·go_enter Try.func24, Try.ntmps24
  go_wp2
  go_ret
  exact ⟨rfl, len, by omega, rfl⟩
theorem roll_made (a : Option Addr) (len cap : Nat) (w : World) (h1 : len ≤ cap) (h2 : cap ≤ maxLen) :
  Calls Try.prog 8 #[.slice a len cap] w fun e w' => e = .returned (.pointer (some ⟨w.heap.size, 0, none⟩)) ∧ ∃ n, n ≤ len ∧ w' = w.alloc (.cells #[.slice a n cap, .int .i64 0] 74) := by
 have hc := fun w => new_made a len cap w 400 h1 h2 (by omega)
 have HC := Lib.hid hc
 clear hc h1 h2
 go_enter Try.func8, Try.ntmps8
 go_wp2_with fail
 refine (HC.out _).mono ?_
 rintro e w' ⟨rfl, n, hn, rfl⟩
 go_wp2
 go_ret
 exact ⟨rfl, n, hn, rfl⟩
theorem rollC (s : SV) (hs : isBytes s) : Makes Try.prog 8 [s] (fun cb w => Codes cb w) := by
 obtain ⟨a, len, cap, rd, rfl, hb⟩ := hs
 refine ⟨enters_of Try.func8 rfl (by kernel_rfl), fun R w hargs hR => ?_⟩
 obtain ⟨h1, h2, h3⟩ := hargs _ (List.mem_singleton.2 rfl)
 refine (roll_made a len cap w h1 h2).mono ?_
 rintro e w' ⟨rfl, n, hn, rfl⟩
 refine ⟨rfl, by simp, ⟨rfl, rfl, rfl, by simp, fun b hb _ => heap_alloc_old w _ hb⟩, fun w'' hw'' => ?_⟩
 refine ⟨a, n, cap, 0, (hw'' _ (.inr rfl)).trans (heap_alloc_new w _), by omega, Nat.zero_le _, ?_⟩
 rcases h3 with h3 | ⟨blk, off, rfl, hr, hc⟩
 ·exact .inl (by omega)
 ·have hlt := hR blk hr
  refine .inr ⟨blk, off, rfl, hlt, fun i hi => ?_⟩
  obtain ⟨x, hx0, hx1, hx⟩ := hb i (by omega)
  have h := (hc i 0 (by omega) (by omega)).1
  rw [hx, Nat.mul_one] at h
  exact ⟨x, hx0, hx1, by rw [World.cell?_of_block (w := w) (a := ⟨blk, off + i, none⟩) ((hw'' blk (.inl hr)).trans (heap_alloc_old w _ hlt))]; exact h⟩
end Go.Proofs.Ytepbdjpcoleegaa


/- Choices: Pick, Bool, Address, by the evaluator. -/
namespace Go.Proofs.Ytepbdjpcoleegaa
open Eng
end Go.Proofs.Ytepbdjpcoleegaa
