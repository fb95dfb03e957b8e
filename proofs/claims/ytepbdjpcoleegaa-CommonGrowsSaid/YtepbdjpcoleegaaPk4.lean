import Derived.Test.YtepbdjpcoleegaaCmC
import Derived.Test.YtepbdjpcoleegaaPk3
import Derived.Test.YtepbdjpcoleegaaEv
import Derived.Test.YtepbdjpcoleegaaDraw
import Derived.Test.YtepbdjpcoleegaaPk2
import Derived.Test.YtepbdjpcoleegaaEpiM
import Derived.Test.YtepbdjpcoleegaaPoE

/- Evidence, by the evaluator: common.Compare, ValidEvidence, paths.Find, common.Holds. -/
set_option linter.unusedSimpArgs false
set_option linter.unusedVariables false
namespace Go.Proofs.Ytepbdjpcoleegaa
open Go.Sort Eng
theorem idn_0 (d : Array Idn) (i : Nat) : idnRd d i 0 = .i .i64 d[i]!.van := rfl
theorem idn_1 (d : Array Idn) (i : Nat) : idnRd d i 1 = .i .i64 d[i]!.run := rfl
theorem idn_2 (d : Array Idn) (i : Nat) : idnRd d i 2 = .i .i64 d[i]!.num := rfl
def evAg (e : Evd) : SV := .agg 4 fun j => (Evd.cs e).getD j default
end Go.Proofs.Ytepbdjpcoleegaa


/- Evidence, by the evaluator: paths.Find, common.ValidEvidence, common.Holds. -/
namespace Go.Proofs.Ytepbdjpcoleegaa
open Go.Sort Eng
def findP (o : Option Res) (r : Res) (d : Idn) : Bool := decide (r.idn = d) && ((match o with | none => true | some b => decide (wCompare r b < 0)) && validR r)
def findStep (d : Idn) (o : Option Res) (r : Res) : Option Res := if findP o r d = true then some r else o
def findV (xs : List Res) (d : Idn) : Option Res := xs.foldl (findStep d) none
theorem findP_1 {o : Option Res} {r : Res} {d : Idn} (h : (⟨r.vantage, r.run, r.number⟩ : Idn) = ⟨d.van, d.run, d.num⟩) (ho : (!o.isSome) = true) : validR r = findP o r d := by
  have e : r.idn = d := h
  cases o with
  | none => unfold findP; rw [decide_eq_true e]; rfl
  | some b => cases ho
theorem findP_2 {o : Option Res} {r : Res} {d : Idn} (h : (⟨r.vantage, r.run, r.number⟩ : Idn) = ⟨d.van, d.run, d.num⟩) (ho : (!o.isSome) = false) (hc : wCompare r (o.getD default) < 0) : validR r = findP o r d := by
  have e : r.idn = d := h
  cases o with
  | none => cases ho
  | some b => unfold findP; rw [decide_eq_true e]; simp only [decide_eq_true (show wCompare r b < 0 from hc)]; rfl
theorem findP_3 {o : Option Res} {r : Res} {d : Idn} (ho : (!o.isSome) = false) (hc : ¬ wCompare r (o.getD default) < 0) : false = findP o r d := by
  cases o with
  | none => cases ho
  | some b => unfold findP; simp only [decide_eq_false (show ¬ wCompare r b < 0 from hc), Bool.false_and, Bool.and_false]
theorem findP_4 {o : Option Res} {r : Res} {d : Idn} (h : ¬ (⟨r.vantage, r.run, r.number⟩ : Idn) = ⟨d.van, d.run, d.num⟩) : false = findP o r d := by
  have e : ¬ r.idn = d := h
  unfold findP; rw [decide_eq_false e]; rfl
theorem findV_take (xs : List Res) (d : Idn) (i : Nat) (h : i < xs.length) : findV (xs.take (i + 1)) d = findStep d (findV (xs.take i) d) xs[i] := by
  unfold findV
  rw [List.take_succ_eq_append_getElem h, List.foldl_append]
  rfl
theorem findV_some {d : Idn} : ∀ {xs : List Res} {o : Option Res} {r : Res}, xs.foldl (findStep d) o = some r → (r ∈ xs ∧ validR r = true ∧ r.idn = d) ∨ o = some r
  | [], o, r, h => .inr h
  | x :: xs, o, r, h => by
    rcases findV_some (xs := xs) h with ⟨h1, h2⟩ | h1
    · exact .inl ⟨by simp [h1], h2⟩
    · unfold findStep at h1
      split at h1
      · rename_i hp
        cases h1
        simp only [findP, Bool.and_eq_true, decide_eq_true_eq] at hp
        exact .inl ⟨by simp, hp.2.2, hp.1⟩
      · exact .inr h1
theorem findV_none {d : Idn} : ∀ {xs : List Res} {o : Option Res}, xs.foldl (findStep d) o = none → o = none ∧ ∀ r ∈ xs, validR r = true → r.idn ≠ d
  | [], o, h => ⟨h, fun r hr => by cases hr⟩
  | x :: xs, o, h => by
    obtain ⟨h1, h2⟩ := findV_none (xs := xs) h
    unfold findStep at h1
    split at h1
    · cases h1
    · rename_i hp
      subst h1
      refine ⟨rfl, fun r hr hv he => ?_⟩
      rcases List.mem_cons.1 hr with rfl | hr
      · exact hp (by simp [findP, he, hv])
      · exact h2 r hr hv he
def findS : Option Res → SV
  | some r => tupL [resAg r, .b true]
  | none => tupL [resAg default, .b false]
theorem findS_ok (o : Option Res) (R : Nat → Prop) (w : World) : (findS o).ok R w := by
  cases o <;>
  · intro j hj
    have hj2 : j < 2 := hj
    rcases (show j = 0 ∨ j = 1 by omega) with rfl | rfl
    · exact ok_aggL (l := Res.cs _) rfl R w
    · trivial
theorem id_eqs (a b c a' b' c' : Int) : aggEq Try.prog 56 3 (fun j => [SV.i .i64 a, .i .i64 b, .i .i64 c].getD j default) 3 (fun j => [SV.i .i64 a', .i .i64 b', .i .i64 c'].getD j default) = some ([a == a', b == b', c == c'].all id) := by kernel_rfl
theorem id_eq (a b c a' b' c' : Int) : aggEq Try.prog 56 3 (fun j => [SV.i .i64 a, .i .i64 b, .i .i64 c].getD j default) 3 (fun j => [SV.i .i64 a', .i .i64 b', .i .i64 c'].getD j default) = some (decide ((⟨a, b, c⟩ : Idn) = ⟨a', b', c'⟩)) := by
  rw [id_eqs]
  congr 1
  apply Bool.eq_iff_iff.2
  simp
set_option maxHeartbeats 1000000 in
set_option maxRecDepth 100000 in
theorem findC (F : Frm) (ad : Option Addr) (cap : Nat) (xs : List Res) (d : Idn) (hl : xs.length ≤ 1000000000) :
    Contract F Try.prog 39 [.sl ad xs.length cap 17 (resRd xs.toArray), idnAg d] (fun r => r = findS (findV xs d)) := by
  refine contract_of Try.func39 rfl (by kernel_rfl) ?_
  simp only [Try.ntmps39, argEnv, idnAg, Idn.cs]
  (repeat refine Sat.seq ?_)
  (refine Sat.region_k fun k hk => ?_; simp -implicitDefEqProofs only [evr, id, seval, res_one, par_one, idn_one, idn_0, idn_1, idn_2, resRow, res_ro, rExtract_tup, id_eq, idAg, evn])
  intro b3 b4
  (refine hk _ ?_; clear hk k; try show Sat _ _ _ _ _)
  (repeat refine Sat.seq ?_)
  (refine Sat.region_k fun k hk => ?_; simp -implicitDefEqProofs only [evr, id, seval, res_one, par_one, idn_one, idn_0, idn_1, idn_2, resRow, res_ro, rExtract_tup, id_eq, idAg, evn])
  intro b6
  (refine hk _ ?_; clear hk k; try show Sat _ _ _ _ _)
  (repeat refine Sat.seq ?_)
  (refine Sat.region_k fun k hk => ?_; simp -implicitDefEqProofs only [evr, id, seval, res_one, par_one, idn_one, idn_0, idn_1, idn_2, resRow, res_ro, rExtract_tup, id_eq, idAg, evn]; refine hk _ ?_; clear hk k; try show Sat _ _ _ _ _)
  (repeat refine Sat.seq ?_)
  (refine Sat.region_k fun k hk => ?_; simp -implicitDefEqProofs only [evr, id, seval, res_one, par_one, idn_one, idn_0, idn_1, idn_2, resRow, res_ro, rExtract_tup, id_eq, idAg, evn]; refine hk _ ?_; clear hk k; try show Sat _ _ _ _ _)
  (repeat refine Sat.seq ?_)
  refine Sat.block ?_
  refine Sat.loop (ι := Nat × Option Res) (fun z => ⟨38, [(12, .i .i64 z.1), (11, .i .i64 xs.length), (10, .sl ad xs.length cap 17 (resRd xs.toArray)), (7, .b z.2.isSome), (6, .op 2 b6 0), (4, .op 1 b4 0), (3, .op 0 b3 0)],
      [.box b3 56 [.i .i64 d.van, .i .i64 d.run, .i .i64 d.num], .box b4 44 (Res.cs default), .box b6 44 (Res.cs (z.2.getD default))]⟩)
    (fun z => z.1 ≤ xs.length ∧ z.2 = findV (xs.take z.1) d) (fun z => xs.length - z.1) (0, none) ⟨Nat.zero_le _, rfl⟩ (by
      simp only [Option.getD_none, Option.isSome_none, Res.cs]
      simp -implicitDefEqProofs only [evr, id, seval, res_one, par_one, idn_one, idn_0, idn_1, idn_2, resRow, res_ro, rExtract_tup, id_eq, idAg, evl, evn]
      first | done | rfl | exact ⟨rfl, rfl⟩ | trace_state) ?_
  rintro ⟨i, o⟩ ⟨hi, ho⟩
  simp only [Res.cs] at hi ho ⊢
  (repeat refine Sat.seq ?_)
  (refine Sat.region_k fun k hk => ?_; simp -implicitDefEqProofs only [evr, id, seval, res_one, par_one, idn_one, idn_0, idn_1, idn_2, resRow, res_ro, rExtract_tup, id_eq, idAg, evn]; refine hk _ ?_; clear hk k; try show Sat _ _ _ _ _)
  (repeat refine Sat.seq ?_)
  refine Sat.cond_b rfl (fun h => ?_) (fun h => ?_)
  · have h1 : i < xs.length := by simp only [decide_eq_true_eq] at h; omega
    have e1 : IntKind.i64.wrap ((i : Int) + 1) = ((i + 1 : Nat) : Int) := by rw [w64 (by omega)]; omega
    have hst := findV_take xs d i h1
    rw [← ho] at hst
    refine Sat.skip ?_
    simp only [thenK]
    (repeat refine Sat.seq ?_)
    refine Sat.block ?_
    (repeat refine Sat.seq ?_)
    (refine Sat.region_k fun k hk => ?_; simp -implicitDefEqProofs only [evr, id, seval, res_one, par_one, idn_one, idn_0, idn_1, idn_2, resRow, res_ro, rExtract_tup, id_eq, idAg, evn])
    refine ⟨by omega, fun b9 => ?_⟩
    (refine hk _ ?_; clear hk k; try show Sat _ _ _ _ _)
    obtain ⟨r, hr⟩ : ∃ r, r = xs.toArray[i]! := ⟨_, rfl⟩
    have hrx : xs[i] = r := by rw [hr]; simp [getElem!_def, h1]
    rw [hrx] at hst
    (repeat refine Sat.seq ?_)
    refine Sat.joinK (ι := Bool) (fun q => ⟨38, [(33, .b q), (9, .op 3 b9 0), (12, .i .i64 i), (11, .i .i64 xs.length), (10, .sl ad xs.length cap 17 (resRd xs.toArray)), (7, .b o.isSome), (6, .op 2 b6 0), (4, .op 1 b4 0), (3, .op 0 b3 0)], [.box b3 56 [.i .i64 d.van, .i .i64 d.run, .i .i64 d.num], .box b4 44 (Res.cs default), .box b6 44 (Res.cs (o.getD default)), .box b9 44 [resRd xs.toArray i 0, resRd xs.toArray i 1, resRd xs.toArray i 2, resRd xs.toArray i 3, resRd xs.toArray i 4, resRd xs.toArray i 5, resRd xs.toArray i 6, resRd xs.toArray i 7, resRd xs.toArray i 8, resRd xs.toArray i 9, resRd xs.toArray i 10, resRd xs.toArray i 11, resRd xs.toArray i 12, resRd xs.toArray i 13, resRd xs.toArray i 14, resRd xs.toArray i 15, resRd xs.toArray i 16]]⟩) (fun q => q = findP o r d) (fun hrest => ?_) ?_
    · (refine Sat.region_tree (.keep [0, 2] [1] (.one 1 (.one 3 (.one 4 (.one 5 (.one 6 (.one 7 (.alt 8 (.one 9 (.one 10 (.one 11 (.one 12 (.one 13 (.one 14 (.one 15 (.one 16 (.one 17 .done))))))))) (.alt 9 (.one 8 (.one 10 (.one 11 (.one 12 (.one 13 (.one 14 (.one 15 (.one 16 (.one 17 .done))))))))) .none))))))))) (by kernel_rfl) (by kernel_rfl) (fun _ _ h => h) fun k hk => ?_; simp only [WOT, List.map_cons, List.map_nil, List.getD_cons_zero, List.getD_cons_succ]; simp -implicitDefEqProofs only [evr, id, seval, res_one, par_one, idn_one, idn_0, idn_1, idn_2, resRow, res_ro, rExtract_tup, id_eq, idAg, WOT, evn])
      refine wcall_plain (identC F xs.toArray[i]!) rfl (by rintro _ rfl; exact ok_aggL (l := [SV.i .i64 _, .i .i64 _, .i .i64 _]) rfl) ?_
      rintro _ rfl
      rw [← hr]
      simp -implicitDefEqProofs only [evr, id, seval, res_one, par_one, idn_one, idn_0, idn_1, idn_2, resRow, res_ro, rExtract_tup, id_eq, idAg, evn]
      repeat' (first
        | (with_reducible refine And.intro ?_ ?_)
        | (with_reducible intro _)
        | (refine wcall_plain (validC F xs.toArray[i]!) rfl (by rintro _ rfl; exact ok_plain rfl) ?_
           rintro _ rfl
           rw [← hr]
           simp -implicitDefEqProofs only [evr, id, seval, res_one, par_one, idn_one, idn_0, idn_1, idn_2, resRow, res_ro, rExtract_tup, id_eq, idAg, evn])
        | (refine wcall_plain (pcompareC F xs.toArray[i]! (o.getD default)) rfl (by rintro _ rfl; exact ok_plain rfl) ?_
           rintro _ rfl
           rw [← hr]
           simp -implicitDefEqProofs only [evr, id, seval, res_one, par_one, idn_one, idn_0, idn_1, idn_2, resRow, res_ro, rExtract_tup, id_eq, idAg, evn])
        | (refine hk _ ?_
           simp only [thenK]
           first
           | (refine (hrest _ (findP_1 (by assumption) (by assumption))).le ?_
              simp only [Res.cs]
              simp -implicitDefEqProofs only [evr, id, seval, res_one, par_one, idn_one, idn_0, idn_1, idn_2, resRow, res_ro, rExtract_tup, id_eq, idAg, evl, evn]
              done)
           | (refine (hrest _ (findP_2 (by assumption) (by assumption) (by assumption))).le ?_
              simp only [Res.cs]
              simp -implicitDefEqProofs only [evr, id, seval, res_one, par_one, idn_one, idn_0, idn_1, idn_2, resRow, res_ro, rExtract_tup, id_eq, idAg, evl, evn]
              done)
           | (refine (hrest _ (findP_3 (by assumption) (by assumption))).le ?_
              simp only [Res.cs]
              simp -implicitDefEqProofs only [evr, id, seval, res_one, par_one, idn_one, idn_0, idn_1, idn_2, resRow, res_ro, rExtract_tup, id_eq, idAg, evl, evn]
              done)
           | (refine (hrest _ (findP_4 (by assumption))).le ?_
              simp only [Res.cs]
              simp -implicitDefEqProofs only [evr, id, seval, res_one, par_one, idn_one, idn_0, idn_1, idn_2, resRow, res_ro, rExtract_tup, id_eq, idAg, evl, evn]
              done)))
    rintro q rfl
    simp only [Res.cs]
    refine Sat.atF (ι := Option Res) (fun z => ⟨38, [(12, .i .i64 i), (11, .i .i64 xs.length), (10, .sl ad xs.length cap 17 (resRd xs.toArray)), (7, .b z.isSome), (6, .op 2 b6 0), (4, .op 1 b4 0), (3, .op 0 b3 0)],
      [.box b3 56 [.i .i64 d.van, .i .i64 d.run, .i .i64 d.num], .box b4 44 (Res.cs default), .box b6 44 (Res.cs (z.getD default))]⟩) (fun z => z = findStep d o r) ?_ ?_
    · refine Sat.cond_b rfl (fun h2 => ?_) (fun h2 => ?_)
      · (refine Sat.region_k fun k hk => ?_; simp -implicitDefEqProofs only [evr, id, seval, res_one, par_one, idn_one, idn_0, idn_1, idn_2, resRow, res_ro, rExtract_tup, id_eq, idAg, evn]; refine hk _ ?_; clear hk k; try show Sat _ _ _ _ _)
        simp only [thenK]
        refine ⟨some r, by unfold findStep; rw [if_pos h2], ?_⟩
        simp only [Res.cs, Option.getD_some, Option.isSome_some]
        simp -implicitDefEqProofs only [evr, id, seval, res_one, par_one, idn_one, idn_0, idn_1, idn_2, resRow, res_ro, rExtract_tup, id_eq, idAg, evl, evn]
        rw [hr]
        rfl
      · refine Sat.skip ?_
        simp only [thenK]
        refine ⟨o, by unfold findStep; rw [if_neg (by rw [h2]; decide)], ?_⟩
        simp only [Res.cs]
        simp -implicitDefEqProofs only [evr, id, seval, res_one, par_one, idn_one, idn_0, idn_1, idn_2, resRow, res_ro, rExtract_tup, id_eq, idAg, evl, evn]
    rintro z hz
    simp only [thenK, blockK, Res.cs]
    refine Sat.region_k fun k hk => ?_
    simp -implicitDefEqProofs only [evr, id, seval, res_one, par_one, idn_one, idn_0, idn_1, idn_2, resRow, res_ro, rExtract_tup, id_eq, idAg, e1, evn]
    refine hk _ ?_
    simp only [thenK, blockK]
    refine ⟨(i + 1, z), ⟨h1, by rw [hz, ← hst]⟩, by simp only; omega, ?_⟩
    simp only [Res.cs]
    simp -implicitDefEqProofs only [evr, id, seval, res_one, par_one, idn_one, idn_0, idn_1, idn_2, resRow, res_ro, rExtract_tup, id_eq, idAg, evl, evn]
  · have h1 : i = xs.length := by simp only [decide_eq_false_iff_not] at h; omega
    subst h1
    rw [List.take_length] at ho
    refine Sat.exit ?_
    simp only [thenK, blockK, reduceIte]
    (repeat refine Sat.seq ?_)
    (refine Sat.region_k fun k hk => ?_; simp -implicitDefEqProofs only [evr, id, seval, res_one, par_one, idn_one, idn_0, idn_1, idn_2, resRow, res_ro, rExtract_tup, id_eq, idAg, evn]; refine hk _ ?_; clear hk k; try show Sat _ _ _ _ _)
    refine Sat.ret ?_
    simp only [Try.results39, evr, id, seval, res_one, par_one, idn_one, idn_0, idn_1, idn_2, List.append_nil, Int.toNat_zero, Nat.sub_self, Int.reduceToNat, resRow, res_ro, rExtract_tup, id_eq, idAg]
    rw [← ho]
    cases o <;> rfl
end Go.Proofs.Ytepbdjpcoleegaa


/- Evidence, by the evaluator: common.ValidEvidence, common.Holds. -/
namespace Go.Proofs.Ytepbdjpcoleegaa
open Go.Sort Eng
theorem par_eqs (a b a' b' : Int) : aggEq Try.prog 52 2 (fun j => [SV.i .u32 a, .i .u32 b].getD j default) 2 (fun j => [SV.i .u32 a', .i .u32 b'].getD j default) = some ([a == a', b == b'].all id) := by kernel_rfl
theorem par_eq (a b a' b' : Int) : aggEq Try.prog 52 2 (fun j => [SV.i .u32 a, .i .u32 b].getD j default) 2 (fun j => [SV.i .u32 a', .i .u32 b'].getD j default) = some (decide ((⟨a, b⟩ : Par) = ⟨a', b'⟩)) := by
 rw [par_eqs]
 congr 1
 apply Bool.eq_iff_iff.2
 simp
def evPre (e : Evd) : Bool := decide ((1 ≤ e.kind ∧ e.kind ≤ 3) ∧ e.a ≠ 0 ∧ e.a < e.b ∧ e.ids.length ≠ 0)
def idsAsc (l : List Idn) : Bool := decide (∀ i, i < l.length - 1 → idnLt (l.getD i default) (l.getD (i + 1) default) = true)
def validEv (e : Evd) : Bool := evPre e && idsAsc e.ids
theorem idsAsc_iff {l : List Idn} : idsAsc l = true ↔ l.Pairwise fun x y => idnLt x y = true := by
 unfold idsAsc
 rw [decide_eq_true_eq]
 constructor
 ·intro h
  induction l with
  | nil => exact .nil
  | cons x l ih =>
   have h2 : ∀ i, i < l.length - 1 → idnLt (l.getD i default) (l.getD (i + 1) default) = true := fun i hi => h (i + 1) (by simp only [List.length_cons]; omega)
   refine List.pairwise_cons.2 ⟨?_, ih h2⟩
   have ihp := ih h2
   cases l with
   | nil => intro y hy; cases hy
   | cons z l =>
    have h0 : idnLt x z = true := h 0 (by simp)
    intro y hy
    rcases List.mem_cons.1 hy with rfl | hy
    ·exact h0
    ·exact idnLt_trans _ _ _ h0 ((List.pairwise_cons.1 ihp).1 y hy)
 ·intro h i hi
  replace hi : i + 1 < l.length := by omega
  have := List.pairwise_iff_getElem.1 h i (i + 1) (by omega) hi (by omega)
  rwa [List.getD_eq_getElem?_getD, List.getElem?_eq_getElem (show i < l.length by omega), List.getD_eq_getElem?_getD, List.getElem?_eq_getElem hi]
set_option maxHeartbeats 1000000 in
set_option maxRecDepth 100000 in
theorem validEvC (F : Frm) (e : Evd) (he : e.ids.length ≤ 1000000000) : Contract F Try.prog 17 [evAg e] (fun r => r = .b (validEv e)) := by
 refine contract_of Try.func17 rfl (by kernel_rfl) ?_
 simp only [Try.ntmps17, argEnv, evAg, Evd.cs]
 (repeat refine Sat.seq ?_)
 (refine Sat.region_k fun k hk => ?_; simp -implicitDefEqProofs only [evr, id, seval, res_one, par_one, idn_one, idn_0, idn_1, idn_2, resRow, res_ro, rExtract_tup, par_eq, evn])
 intro b1
 (refine hk _ ?_; clear hk k; try show Sat _ _ _ _ _)
 (repeat refine Sat.seq ?_)
 refine Sat.atF (ι := Bool) (fun q => ⟨50, [(29, .b q), (1, .op 0 b1 0), (2, .ff)], [.box b1 37 (Evd.cs e)]⟩) (fun q => q = !evPre e) ?_ ?_
 ·(refine Sat.region_k fun k hk => ?_; simp -implicitDefEqProofs only [evr, id, seval, res_one, par_one, idn_one, idn_0, idn_1, idn_2, resRow, res_ro, rExtract_tup, par_eq, evn])
  refine ⟨fun h1 => ?_, fun h1 => ⟨fun h2 => ?_, fun h2 => ⟨fun h3 => ?_, fun h3 => ⟨fun h4 => ?_, fun h4 => ?_⟩⟩⟩⟩
  ·refine hk _ ?_
   simp only [thenK]
   refine ⟨true, by unfold evPre; symm; rw [Bool.not_eq_true', decide_eq_false_iff_not]; omega, ?_⟩
   simp only [Evd.cs]
   simp -implicitDefEqProofs only [evr, id, seval, res_one, par_one, idn_one, idn_0, idn_1, idn_2, resRow, res_ro, rExtract_tup, par_eq, evl, evn]
  ·refine hk _ ?_
   simp only [thenK]
   refine ⟨true, by unfold evPre; symm; rw [Bool.not_eq_true', decide_eq_false_iff_not]; omega, ?_⟩
   simp only [Evd.cs]
   simp -implicitDefEqProofs only [evr, id, seval, res_one, par_one, idn_one, idn_0, idn_1, idn_2, resRow, res_ro, rExtract_tup, par_eq, evl, evn]
  ·refine hk _ ?_
   simp only [thenK]
   refine ⟨true, by unfold evPre; symm; rw [Bool.not_eq_true', decide_eq_false_iff_not]; (rw [beq_iff_eq] at h3; exact fun hh => hh.2.1 h3), ?_⟩
   simp only [Evd.cs]
   simp -implicitDefEqProofs only [evr, id, seval, res_one, par_one, idn_one, idn_0, idn_1, idn_2, resRow, res_ro, rExtract_tup, par_eq, evl, evn]
  ·refine hk _ ?_
   simp only [thenK]
   refine ⟨true, by unfold evPre; symm; rw [Bool.not_eq_true', decide_eq_false_iff_not]; omega, ?_⟩
   simp only [Evd.cs]
   simp -implicitDefEqProofs only [evr, id, seval, res_one, par_one, idn_one, idn_0, idn_1, idn_2, resRow, res_ro, rExtract_tup, par_eq, evl, evn]
  ·refine hk _ ?_
   simp only [thenK]
   refine ⟨((e.ids.length : Int) == 0), ?_, ?_⟩
   rotate_left
   ·simp only [Evd.cs]
    simp -implicitDefEqProofs only [evr, id, seval, res_one, par_one, idn_one, idn_0, idn_1, idn_2, resRow, res_ro, rExtract_tup, par_eq, evl, evn]
   ·rw [beq_eq_false_iff_ne] at h3
    unfold evPre
    by_cases h5 : e.ids.length = 0
    ·simp [h5]
    ·have a1 : ((e.ids.length : Int) == 0) = false := by rw [beq_eq_false_iff_ne]; omega
     rw [a1, decide_eq_true ⟨⟨by omega, by omega⟩, h3, by omega, h5⟩]
     rfl
 rintro q rfl
 simp only [Evd.cs]
 (repeat refine Sat.seq ?_)
 refine Sat.cond_b rfl (fun h => ?_) (fun h => ?_)
 ·have hp : evPre e = false := by simpa using h
  (repeat refine Sat.seq ?_)
  (refine Sat.region_k fun k hk => ?_; simp -implicitDefEqProofs only [evr, id, seval, res_one, par_one, idn_one, idn_0, idn_1, idn_2, resRow, res_ro, rExtract_tup, par_eq, evn]; refine hk _ ?_; clear hk k; try show Sat _ _ _ _ _)
  refine Sat.ret ?_
  simp only [Try.results17, evr, id, seval, res_one, par_one, idn_one, idn_0, idn_1, idn_2, List.append_nil, Int.toNat_zero, Nat.sub_self, Int.reduceToNat, resRow, res_ro, rExtract_tup, par_eq]
  unfold validEv
  rw [hp]
  rfl
 have hp : evPre e = true := by simpa using h
 refine Sat.skip ?_
 simp only [thenK]
 have hlen : e.ids.length ≠ 0 := by
  unfold evPre at hp
  exact (of_decide_eq_true hp).2.2.2
 (repeat refine Sat.seq ?_)
 (refine Sat.region_k fun k hk => ?_; simp -implicitDefEqProofs only [evr, id, seval, res_one, par_one, idn_one, idn_0, idn_1, idn_2, resRow, res_ro, rExtract_tup, par_eq, evn]; refine hk _ ?_; clear hk k; try show Sat _ _ _ _ _)
 (repeat refine Sat.seq ?_)
 refine Sat.block ?_
 refine Sat.loop (ι := Nat) (fun i => ⟨50, [(3, .i .i64 i), (1, .op 0 b1 0), (2, .ff)], [.box b1 37 [.i .i64 e.kind, .i .u32 e.a, .i .u32 e.b, .sl e.ad e.ids.length e.cap 3 (idnRd e.ids.toArray)]]⟩)
  (fun i => 1 ≤ i ∧ i ≤ e.ids.length ∧ ∀ q, q + 1 < i → idnLt (e.ids.getD q default) (e.ids.getD (q + 1) default) = true) (fun i => e.ids.length - i) 1 ⟨Nat.le_refl _, by omega, fun q hq => by omega⟩ (by simp -implicitDefEqProofs only [evr, id, seval, res_one, par_one, idn_one, idn_0, idn_1, idn_2, resRow, res_ro, rExtract_tup, par_eq, evl, evn]; try rfl) ?_
 rintro i ⟨hi1, hi, hq⟩
 (repeat refine Sat.seq ?_)
 (refine Sat.region_k fun k hk => ?_; simp -implicitDefEqProofs only [evr, id, seval, res_one, par_one, idn_one, idn_0, idn_1, idn_2, resRow, res_ro, rExtract_tup, par_eq, evn]; refine hk _ ?_; clear hk k; try show Sat _ _ _ _ _)
 (repeat refine Sat.seq ?_)
 refine Sat.cond_b rfl (fun h2 => ?_) (fun h2 => ?_)
 ·have hlt : i < e.ids.length := by simp only [decide_eq_true_eq] at h2; omega
  have e1 : IntKind.i64.wrap ((i : Int) + 1) = ((i + 1 : Nat) : Int) := by rw [w64 (by omega)]; omega
  have e2 : IntKind.i64.wrap ((i : Int) - 1) = ((i - 1 : Nat) : Int) := by rw [w64 (by omega)]; omega
  refine Sat.skip ?_
  simp only [thenK]
  (repeat refine Sat.seq ?_)
  refine Sat.block ?_
  (repeat refine Sat.seq ?_)
  (refine Sat.region_rows [⟨0, 38, 2, 0⟩, ⟨1, 39, 137438953472, 1⟩, ⟨0, 40, 8, 0⟩, ⟨4, 41, 549755813888, 0⟩, ⟨10, 42, 1374389534720, 0⟩, ⟨16, 43, 2199023255552, 1⟩, ⟨0, 44, 2, 0⟩, ⟨64, 45, 8796093022208, 1⟩, ⟨0, 46, 8, 0⟩, ⟨384, 47, 52776558133248, 0⟩, ⟨512, 48, 70368744177664, 1⟩, ⟨1056, 49, 145135534866432, 2⟩, ⟨2048, 50, 281474976710656, 0⟩] [0, 2, 3, 6, 8, 1, 7, 4, 9, 5, 10] [(11, false), (12, false)] [] (by kernel_rfl) (by kernel_rfl) (fun _ _ h => h) fun k hk => ?_; simp only [List.map_cons, List.map_nil, List.getD_cons_zero, List.getD_cons_succ, btseq_cons, btseq_free, btseq_nil]; simp -implicitDefEqProofs only [evr, id, seval, res_one, par_one, idn_one, idn_0, idn_1, idn_2, resRow, res_ro, rExtract_tup, par_eq, evn])
  simp only [e2, Int.toNat_natCast]
  refine ⟨⟨by omega, by omega⟩, by omega, ?_⟩
  refine wcall_plain (compareIdC F e.ids.toArray[i - 1]! e.ids.toArray[i]!) rfl (by rintro _ rfl; exact ok_plain rfl) ?_
  rintro _ rfl
  simp -implicitDefEqProofs only [evr, id, seval, res_one, par_one, idn_one, idn_0, idn_1, idn_2, resRow, res_ro, rExtract_tup, par_eq, evn]
  (refine hk _ ?_; clear hk k; try show Sat _ _ _ _ _)
  have g1 : e.ids.toArray[i - 1]! = e.ids.getD (i - 1) default := by simp [getElem!_def, List.getD, show i - 1 < e.ids.length by omega]
  have g2 : e.ids.toArray[i]! = e.ids.getD i default := by simp [getElem!_def, List.getD, hlt]
  rw [g1, g2]
  (repeat refine Sat.seq ?_)
  refine Sat.cond_b rfl (fun h3 => ?_) (fun h3 => ?_)
  ·have hno : idnLt (e.ids.getD (i - 1) default) (e.ids.getD i default) = false := by
    unfold idnLt
    simp only [decide_eq_true_eq, ge_iff_le] at h3
    rw [decide_eq_false_iff_not]
    omega
   (repeat refine Sat.seq ?_)
   (refine Sat.region_k fun k hk => ?_; simp -implicitDefEqProofs only [evr, id, seval, res_one, par_one, idn_one, idn_0, idn_1, idn_2, resRow, res_ro, rExtract_tup, par_eq, evn]; refine hk _ ?_; clear hk k; try show Sat _ _ _ _ _)
   refine Sat.ret ?_
   simp only [blockK, Try.results17, evr, id, seval, res_one, par_one, idn_one, idn_0, idn_1, idn_2, List.append_nil, Int.toNat_zero, Nat.sub_self, Int.reduceToNat, resRow, res_ro, rExtract_tup, par_eq]
   have : idsAsc e.ids = false := by
    cases hA : idsAsc e.ids with
    | false => rfl
    | true =>
     unfold idsAsc at hA
     have := of_decide_eq_true hA (i - 1) (by omega)
     rw [show i - 1 + 1 = i by omega, hno] at this
     cases this
   unfold validEv
   rw [this, Bool.and_false]
  have hyes : idnLt (e.ids.getD (i - 1) default) (e.ids.getD i default) = true := by
   unfold idnLt
   simp only [decide_eq_false_iff_not, ge_iff_le] at h3
   rw [decide_eq_true_eq]
   omega
  refine Sat.skip ?_
  simp only [thenK, blockK]
  refine Sat.region_k fun k hk => ?_
  simp -implicitDefEqProofs only [evr, id, seval, res_one, par_one, idn_one, idn_0, idn_1, idn_2, resRow, res_ro, rExtract_tup, par_eq, e1, evn]
  refine hk _ ?_
  simp only [thenK, blockK]
  refine ⟨i + 1, ⟨by omega, by omega, fun q hq2 => ?_⟩, by omega, ?_⟩
  ·by_cases hqi : q + 1 < i
   ·exact hq q hqi
   ·obtain rfl : q = i - 1 := by omega
    rw [show i - 1 + 1 = i by omega]
    exact hyes
  ·simp -implicitDefEqProofs only [evr, id, seval, res_one, par_one, idn_one, idn_0, idn_1, idn_2, resRow, res_ro, rExtract_tup, par_eq, evl, evn]
 ·have hie : i = e.ids.length := by simp only [decide_eq_false_iff_not] at h2; omega
  refine Sat.exit ?_
  simp only [thenK, blockK, reduceIte]
  (repeat refine Sat.seq ?_)
  (refine Sat.region_k fun k hk => ?_; simp -implicitDefEqProofs only [evr, id, seval, res_one, par_one, idn_one, idn_0, idn_1, idn_2, resRow, res_ro, rExtract_tup, par_eq, evn]; refine hk _ ?_; clear hk k; try show Sat _ _ _ _ _)
  refine Sat.ret ?_
  simp only [Try.results17, evr, id, seval, res_one, par_one, idn_one, idn_0, idn_1, idn_2, List.append_nil, Int.toNat_zero, Nat.sub_self, Int.reduceToNat, resRow, res_ro, rExtract_tup, par_eq]
  have : idsAsc e.ids = true := by
   unfold idsAsc
   rw [decide_eq_true_eq]
   intro q hq2
   exact hq q (by omega)
  unfold validEv
  rw [hp, this]
  rfl
def idShows (xs : List Res) (e : Evd) (d : Idn) : Bool := match findV xs d with
 | some r => decide (showR r = some e.pr)
 | none => false
def holdsV (xs : List Res) (e : Evd) : Bool := (validEv e && decide (e.kind = 1)) && e.ids.all (idShows xs e)
set_option maxHeartbeats 1000000 in
set_option maxRecDepth 100000 in
theorem holdsC (F : Frm) (ad : Option Addr) (cap : Nat) (xs : List Res) (e : Evd) (hl : xs.length ≤ 1000000000) (he : e.ids.length ≤ 1000000000) :
  Contract F Try.prog 12 [.sl ad xs.length cap 17 (resRd xs.toArray), evAg e] (fun r => r = .b (holdsV xs e)) := by
 refine contract_of Try.func12 rfl (by kernel_rfl) ?_
 simp only [Try.ntmps12, argEnv, evAg, Evd.cs]
 (repeat refine Sat.seq ?_)
 (refine Sat.region_k fun k hk => ?_; simp -implicitDefEqProofs only [evr, id, seval, res_one, par_one, idn_one, idn_0, idn_1, idn_2, resRow, res_ro, rExtract_tup, par_eq, evn])
 intro b3
 (refine hk _ ?_; clear hk k; try show Sat _ _ _ _ _)
 (repeat refine Sat.seq ?_)
 refine Sat.joinK (ι := Bool) (fun q => ⟨51, [(18, .b q), (3, .op 0 b3 0), (4, .ff), (0, .sl ad xs.length cap 17 (resRd xs.toArray))], [.box b3 37 [.i .i64 e.kind, .i .u32 e.a, .i .u32 e.b, .sl e.ad e.ids.length e.cap 3 (idnRd e.ids.toArray)]]⟩) (fun q => q = !(validEv e && decide (e.kind = 1))) (fun hrest => ?_) ?_
 ·(refine Sat.region_k fun k hk => ?_; simp -implicitDefEqProofs only [evr, id, seval, res_one, par_one, idn_one, idn_0, idn_1, idn_2, resRow, res_ro, rExtract_tup, par_eq, evn])
  refine wcall_plain (validEvC F e he) rfl (by rintro _ rfl; exact ok_plain rfl) ?_
  rintro _ rfl
  simp -implicitDefEqProofs only [evr, id, seval, res_one, par_one, idn_one, idn_0, idn_1, idn_2, resRow, res_ro, rExtract_tup, par_eq, evn]
  refine ⟨fun h1 => ?_, fun h1 => ?_⟩
  ·refine hk _ ?_
   simp only [thenK]
   refine (hrest true (by simp at h1; rw [h1]; rfl)).le ?_
   simp -implicitDefEqProofs only [evr, id, seval, res_one, par_one, idn_one, idn_0, idn_1, idn_2, resRow, res_ro, rExtract_tup, par_eq, evl, evn]
  ·refine hk _ ?_
   simp only [thenK]
   refine (hrest (e.kind != 1) (by simp at h1; rw [h1, Bool.true_and]; rfl)).le ?_
   simp -implicitDefEqProofs only [evr, id, seval, res_one, par_one, idn_one, idn_0, idn_1, idn_2, resRow, res_ro, rExtract_tup, par_eq, evl, evn]
 rintro q rfl
 (repeat refine Sat.seq ?_)
 refine Sat.cond_b rfl (fun h => ?_) (fun h => ?_)
 ·(repeat refine Sat.seq ?_)
  (refine Sat.region_k fun k hk => ?_; simp -implicitDefEqProofs only [evr, id, seval, res_one, par_one, idn_one, idn_0, idn_1, idn_2, resRow, res_ro, rExtract_tup, par_eq, evn]; refine hk _ ?_; clear hk k; try show Sat _ _ _ _ _)
  refine Sat.ret ?_
  simp only [Try.results12, evr, id, seval, res_one, par_one, idn_one, idn_0, idn_1, idn_2, List.append_nil, Int.toNat_zero, Nat.sub_self, Int.reduceToNat, resRow, res_ro, rExtract_tup, par_eq]
  unfold holdsV
  simp only [Bool.not_eq_true'] at h
  rw [h]
  rfl
 simp only [Bool.not_eq_false'] at h
 refine Sat.skip ?_
 simp only [thenK]
 (repeat refine Sat.seq ?_)
 (refine Sat.region_k fun k hk => ?_; simp -implicitDefEqProofs only [evr, id, seval, res_one, par_one, idn_one, idn_0, idn_1, idn_2, resRow, res_ro, rExtract_tup, par_eq, evn]; refine hk _ ?_; clear hk k; try show Sat _ _ _ _ _)
 (repeat refine Sat.seq ?_)
 refine Sat.block ?_
 refine Sat.loop (ι := Nat) (fun i => ⟨51, [(22, .i .i64 i), (21, .i .i64 e.ids.length), (20, .sl e.ad e.ids.length e.cap 3 (idnRd e.ids.toArray)), (3, .op 0 b3 0), (4, .ff), (0, .sl ad xs.length cap 17 (resRd xs.toArray))], [.box b3 37 [.i .i64 e.kind, .i .u32 e.a, .i .u32 e.b, .sl e.ad e.ids.length e.cap 3 (idnRd e.ids.toArray)]]⟩)
  (fun i => i ≤ e.ids.length ∧ ∀ d ∈ e.ids.take i, idShows xs e d = true) (fun i => e.ids.length - i) 0 ⟨Nat.zero_le _, fun d hd => by simp at hd⟩ (by simp -implicitDefEqProofs only [evr, id, seval, res_one, par_one, idn_one, idn_0, idn_1, idn_2, resRow, res_ro, rExtract_tup, par_eq, evl, evn]; try rfl) ?_
 rintro i ⟨hi, hq⟩
 (repeat refine Sat.seq ?_)
 (refine Sat.region_k fun k hk => ?_; simp -implicitDefEqProofs only [evr, id, seval, res_one, par_one, idn_one, idn_0, idn_1, idn_2, resRow, res_ro, rExtract_tup, par_eq, evn]; refine hk _ ?_; clear hk k; try show Sat _ _ _ _ _)
 (repeat refine Sat.seq ?_)
 refine Sat.cond_b rfl (fun h2 => ?_) (fun h2 => ?_)
 ·have hlt : i < e.ids.length := by simp only [decide_eq_true_eq] at h2; omega
  have e1 : IntKind.i64.wrap ((i : Int) + 1) = ((i + 1 : Nat) : Int) := by rw [w64 (by omega)]; omega
  obtain ⟨d, hd⟩ : ∃ d, d = e.ids.toArray[i]! := ⟨_, rfl⟩
  have hdi : e.ids[i] = d := by rw [hd]; simp [getElem!_def, hlt]
  have hbad : idShows xs e d = false → holdsV xs e = false := fun hb => by
   unfold holdsV
   rw [Bool.and_eq_false_iff]
   right
   rw [List.all_eq_false]
   exact ⟨d, by rw [← hdi]; exact List.getElem_mem _, by rw [hb]; decide⟩
  refine Sat.skip ?_
  simp only [thenK]
  (repeat refine Sat.seq ?_)
  refine Sat.block ?_
  (repeat refine Sat.seq ?_)
  (refine Sat.region_k fun k hk => ?_; simp -implicitDefEqProofs only [evr, id, seval, res_one, par_one, idn_one, idn_0, idn_1, idn_2, resRow, res_ro, rExtract_tup, par_eq, evn])
  refine ⟨by omega, fun b6 => ?_⟩
  (refine hk _ ?_; clear hk k; try show Sat _ _ _ _ _)
  (repeat refine Sat.seq ?_)
  (refine Sat.region_k fun k hk => ?_; simp -implicitDefEqProofs only [evr, id, seval, res_one, par_one, idn_one, idn_0, idn_1, idn_2, resRow, res_ro, rExtract_tup, par_eq, evn])
  refine wcall_plain (findC F ad cap xs e.ids.toArray[i]! hl) rfl (by rintro _ rfl; exact findS_ok _) ?_
  rintro _ rfl
  rw [← hd]
  cases hf : findV xs d with
  | none =>
   have hio : idShows xs e d = false := by unfold idShows; rw [hf]
   simp only [findS, tupL, resAg, Res.cs, evr, id, seval, res_one, par_one, idn_one, idn_0, idn_1, idn_2, List.append_nil, Int.toNat_zero, Nat.sub_self, Int.reduceToNat, resRow, res_ro, rExtract_tup, par_eq]
   intro b7
   (refine hk _ ?_; clear hk k; try show Sat _ _ _ _ _)
   (repeat refine Sat.seq ?_)
   (refine Sat.region_k fun k hk => ?_; simp -implicitDefEqProofs only [evr, id, seval, res_one, par_one, idn_one, idn_0, idn_1, idn_2, resRow, res_ro, rExtract_tup, par_eq, evn]; refine hk _ ?_; clear hk k; try show Sat _ _ _ _ _)
   (repeat refine Sat.seq ?_)
   refine Sat.cond_b rfl (fun h3 => ?_) (fun h3 => absurd h3 (by decide))
   (repeat refine Sat.seq ?_)
   (refine Sat.region_k fun k hk => ?_; simp -implicitDefEqProofs only [evr, id, seval, res_one, par_one, idn_one, idn_0, idn_1, idn_2, resRow, res_ro, rExtract_tup, par_eq, evn]; refine hk _ ?_; clear hk k; try show Sat _ _ _ _ _)
   refine Sat.ret ?_
   simp only [blockK, Try.results12, evr, id, seval, res_one, par_one, idn_one, idn_0, idn_1, idn_2, List.append_nil, Int.toNat_zero, Nat.sub_self, Int.reduceToNat, resRow, res_ro, rExtract_tup, par_eq]
   rw [hbad hio]
  | some r =>
   have hio : idShows xs e d = decide (showR r = some e.pr) := by unfold idShows; rw [hf]
   simp only [findS, tupL, resAg, Res.cs, evr, id, seval, res_one, par_one, idn_one, idn_0, idn_1, idn_2, List.append_nil, Int.toNat_zero, Nat.sub_self, Int.reduceToNat, resRow, res_ro, rExtract_tup, par_eq]
   intro b7
   (refine hk _ ?_; clear hk k; try show Sat _ _ _ _ _)
   (repeat refine Sat.seq ?_)
   (refine Sat.region_k fun k hk => ?_; simp -implicitDefEqProofs only [evr, id, seval, res_one, par_one, idn_one, idn_0, idn_1, idn_2, resRow, res_ro, rExtract_tup, par_eq, evn]; refine hk _ ?_; clear hk k; try show Sat _ _ _ _ _)
   (repeat refine Sat.seq ?_)
   refine Sat.cond_b rfl (fun h3 => absurd h3 (by decide)) (fun h3 => ?_)
   refine Sat.skip ?_
   simp only [thenK]
   (repeat refine Sat.seq ?_)
   (refine Sat.region_k fun k hk => ?_; simp -implicitDefEqProofs only [evr, id, seval, res_one, par_one, idn_one, idn_0, idn_1, idn_2, resRow, res_ro, rExtract_tup, par_eq, evn])
   refine wcall_plain (showC F r) rfl (by rintro _ rfl; exact showS_ok _) ?_
   rintro _ rfl
   cases hs : showR r with
   | none =>
    have hb : idShows xs e d = false := by rw [hio, hs]; rfl
    simp only [showS, tupL, parAg, Par.cs, evr, id, seval, res_one, par_one, idn_one, idn_0, idn_1, idn_2, List.append_nil, Int.toNat_zero, Nat.sub_self, Int.reduceToNat, resRow, res_ro, rExtract_tup, par_eq]
    intro b9
    (refine hk _ ?_; clear hk k; try show Sat _ _ _ _ _)
    (repeat refine Sat.seq ?_)
    (refine Sat.region_k fun k hk => ?_; simp -implicitDefEqProofs only [evr, id, seval, res_one, par_one, idn_one, idn_0, idn_1, idn_2, resRow, res_ro, rExtract_tup, par_eq, evn]; refine hk _ ?_; clear hk k; try show Sat _ _ _ _ _)
    (repeat refine Sat.seq ?_)
    refine Sat.cond_tt rfl ?_
    (repeat refine Sat.seq ?_)
    (refine Sat.region_k fun k hk => ?_; simp -implicitDefEqProofs only [evr, id, seval, res_one, par_one, idn_one, idn_0, idn_1, idn_2, resRow, res_ro, rExtract_tup, par_eq, evn]; refine hk _ ?_; clear hk k; try show Sat _ _ _ _ _)
    refine Sat.ret ?_
    simp only [blockK, Try.results12, evr, id, seval, res_one, par_one, idn_one, idn_0, idn_1, idn_2, List.append_nil, Int.toNat_zero, Nat.sub_self, Int.reduceToNat, resRow, res_ro, rExtract_tup, par_eq]
    rw [hbad hb]
   | some p =>
    have hb : idShows xs e d = decide (p = e.pr) := by rw [hio, hs]; simp
    simp only [showS, tupL, parAg, Par.cs, evr, id, seval, res_one, par_one, idn_one, idn_0, idn_1, idn_2, List.append_nil, Int.toNat_zero, Nat.sub_self, Int.reduceToNat, resRow, res_ro, rExtract_tup, par_eq]
    intro b9
    (refine hk _ ?_; clear hk k; try show Sat _ _ _ _ _)
    (repeat refine Sat.seq ?_)
    (refine Sat.region_k fun k hk => ?_; simp -implicitDefEqProofs only [evr, id, seval, res_one, par_one, idn_one, idn_0, idn_1, idn_2, resRow, res_ro, rExtract_tup, par_eq, evn]; refine hk _ ?_; clear hk k; try show Sat _ _ _ _ _)
    (repeat refine Sat.seq ?_)
    refine Sat.cond_b rfl (fun h4 => ?_) (fun h4 => ?_)
    ·have hb2 : idShows xs e d = false := by
      rw [hb]
      simp only [Bool.not_eq_true', decide_eq_false_iff_not] at h4
      exact decide_eq_false h4
     (repeat refine Sat.seq ?_)
     (refine Sat.region_k fun k hk => ?_; simp -implicitDefEqProofs only [evr, id, seval, res_one, par_one, idn_one, idn_0, idn_1, idn_2, resRow, res_ro, rExtract_tup, par_eq, evn]; refine hk _ ?_; clear hk k; try show Sat _ _ _ _ _)
     refine Sat.ret ?_
     simp only [blockK, Try.results12, evr, id, seval, res_one, par_one, idn_one, idn_0, idn_1, idn_2, List.append_nil, Int.toNat_zero, Nat.sub_self, Int.reduceToNat, resRow, res_ro, rExtract_tup, par_eq]
     rw [hbad hb2]
    have hb2 : idShows xs e d = true := by
     rw [hb]
     simp only [Bool.not_eq_false', decide_eq_true_eq] at h4
     exact decide_eq_true h4
    refine Sat.skip ?_
    simp only [thenK, blockK]
    refine Sat.region_k fun k hk => ?_
    simp -implicitDefEqProofs only [evr, id, seval, res_one, par_one, idn_one, idn_0, idn_1, idn_2, resRow, res_ro, rExtract_tup, par_eq, e1, evn]
    refine hk _ ?_
    simp only [thenK, blockK]
    refine ⟨i + 1, ⟨by omega, fun q hq2 => ?_⟩, by omega, ?_⟩
    ·rw [List.take_succ_eq_append_getElem hlt, hdi] at hq2
     rcases List.mem_append.1 hq2 with h9 | h9
     ·exact hq q h9
     ·rw [List.mem_singleton] at h9; subst h9; exact hb2
    ·simp -implicitDefEqProofs only [evr, id, seval, res_one, par_one, idn_one, idn_0, idn_1, idn_2, resRow, res_ro, rExtract_tup, par_eq, evl, evn]
 ·have hie : i = e.ids.length := by simp only [decide_eq_false_iff_not] at h2; omega
  subst hie
  rw [List.take_length] at hq
  refine Sat.exit ?_
  simp only [thenK, blockK, reduceIte]
  (repeat refine Sat.seq ?_)
  (refine Sat.region_k fun k hk => ?_; simp -implicitDefEqProofs only [evr, id, seval, res_one, par_one, idn_one, idn_0, idn_1, idn_2, resRow, res_ro, rExtract_tup, par_eq, evn]; refine hk _ ?_; clear hk k; try show Sat _ _ _ _ _)
  refine Sat.ret ?_
  simp only [Try.results12, evr, id, seval, res_one, par_one, idn_one, idn_0, idn_1, idn_2, List.append_nil, Int.toNat_zero, Nat.sub_self, Int.reduceToNat, resRow, res_ro, rExtract_tup, par_eq]
  have : e.ids.all (idShows xs e) = true := List.all_eq_true.2 hq
  unfold holdsV
  rw [h, this]
  rfl
end Go.Proofs.Ytepbdjpcoleegaa


/- The example of the chapter, by the evaluator: awake of law 28. -/
namespace Go.Proofs.Ytepbdjpcoleegaa
open Go.Sort Eng
namespace Eng
theorem simA_mem : ∀ {l l' : List SV}, simA l l' → ∀ s' ∈ l', ∃ s ∈ l, sim s s'
  | [], [], _, s', h => by cases h
  | [], _ :: _, h, _, _ => h.elim
  | _ :: _, [], h, _, _ => h.elim
  | s :: l, t :: l', h, s', hs => by
    rcases List.mem_cons.1 hs with rfl | hs
    · exact ⟨s, by simp, h.1⟩
    · obtain ⟨x, hx, h2⟩ := simA_mem h.2 s' hs
      exact ⟨x, by simp [hx], h2⟩
theorem Sat.rebox {P : Program} {F : Frm} {n : Nat} {env : List (Nat × SV)} {own : List Own} {c : Code} {K : Exit → St → Prop} (id : Nat) {blk ty : Nat} {cs : List SV} (cs' : List SV) (hid : own[id]? = some (.box blk ty cs)) (hs : simA cs cs')
    (h : Sat P F c ⟨n, env, own.set id (.box blk ty cs')⟩ K) : Sat P F c ⟨n, env, own⟩ K := by
  rintro R0 w0 a w ⟨ob, R, hr⟩
  obtain ⟨b1, b2, b3, b4⟩ := hr.own id _ hid
  have hset := hr.setOwn (o' := .box blk ty cs') (g := blk) hid rfl (fun b hb => by simpa [Own.blk] using hb.symm) (w' := w) rfl rfl rfl (Nat.le_refl _) (fun _ _ _ => rfl)
    ⟨b1, b2, by rw [← simA_den hs]; exact b3, fun x hx => by
      obtain ⟨y, hy, hxy⟩ := simA_mem hs x hx
      have := b4 y hy
      exact ⟨by rw [← hxy.1]; exact this.1, hxy.2 R w this.2⟩⟩
  exact h R0 w0 a w ⟨ob, R, hset⟩
end Eng
theorem ev_0 (es : List Evd) (i : Nat) : evRd es i 0 = .i .i64 (es.getD i default).kind := rfl
theorem ev_1 (es : List Evd) (i : Nat) : evRd es i 1 = .i .u32 (es.getD i default).a := rfl
theorem ev_2 (es : List Evd) (i : Nat) : evRd es i 2 = .i .u32 (es.getD i default).b := rfl
theorem ev_3 (es : List Evd) (i : Nat) : evRd es i 3 = .sl (es.getD i default).ad (es.getD i default).ids.length (es.getD i default).cap 3 (idnRd (es.getD i default).ids.toArray) := rfl
theorem c1I : ((1 : Nat) : Int) = 1 := rfl
theorem sim_tt : sim .tt (.b true) := ⟨rfl, fun _ _ _ => trivial⟩
def aw8 : Res := ⟨0, 0, 0, 0, 9, 17, 0, 3, true, false, 5, 5, 3, 0, 0, 0, 0⟩
theorem aw8_show : showR aw8 = some ⟨5, 9⟩ := by decide
theorem aw8_pairs {es : List Evd} (h : PairsOf [aw8] es) : ∃ ad cap, es = [⟨1, 5, 9, [⟨0, 0, 0⟩], ad, cap⟩] := by
  have key : ∀ p d, (∃ e ∈ es, e.pr = p ∧ d ∈ e.ids) ↔ p = ⟨5, 9⟩ ∧ d = ⟨0, 0, 0⟩ := fun p d => (h.mem p d).trans (by
    constructor
    · rintro ⟨r, hr, h1, h2⟩
      rw [List.mem_singleton] at hr
      subst hr
      rw [aw8_show] at h1
      exact ⟨(Option.some.inj h1).symm, h2.symm⟩
    · rintro ⟨rfl, rfl⟩
      exact ⟨aw8, by simp, aw8_show, rfl⟩)
  have hall : ∀ e ∈ es, e.pr = ⟨5, 9⟩ ∧ e.ids = [⟨0, 0, 0⟩] := fun e he => by
    obtain ⟨_, hp, hne, _⟩ := h.each e he
    have hd : ∀ d ∈ e.ids, e.pr = ⟨5, 9⟩ ∧ d = ⟨0, 0, 0⟩ := fun d hd => (key e.pr d).1 ⟨e, he, rfl, hd⟩
    match hi : e.ids, hne with
    | [x], _ => rw [hi] at hd; obtain ⟨h1, h2⟩ := hd x (by simp); exact ⟨h1, by rw [h2]⟩
    | x :: y :: l, _ =>
      rw [hi] at hd hp
      have h1 := (hd x (by simp)).2
      have h2 := (hd y (by simp)).2
      have := (List.pairwise_cons.1 hp).1 y (by simp)
      rw [h1, h2, idnLt_irrefl] at this
      cases this
  obtain ⟨e0, he0, _, _⟩ := (key ⟨5, 9⟩ ⟨0, 0, 0⟩).2 ⟨rfl, rfl⟩
  match es, h, hall, he0 with
  | [e], h, hall, _ =>
    obtain ⟨h1, h2⟩ := hall e (by simp)
    have h3 := (h.each e (by simp)).1
    obtain ⟨k, a, b, ids, ad, cap⟩ := e
    simp only [Evd.pr, Par.mk.injEq] at h1 h2 h3
    obtain ⟨rfl, rfl⟩ := h1
    subst h2 h3
    exact ⟨ad, cap, rfl⟩
  | x :: y :: l, h, hall, _ =>
    have h1 := (hall x (by simp)).1
    have h2 := (hall y (by simp)).1
    have := (List.pairwise_cons.1 h.asc).1 y (by simp)
    rw [h1, h2, parLt_irrefl] at this
    cases this
theorem pairs2 (F : Frm) (bs : Nat) (ead : Option Addr) (ecap : Nat) : Contract F Try.prog 12 [.sl (some ⟨bs, 0, none⟩) 1 1 17 (resRd [aw8].toArray), evAg ⟨1, 5, 9, [⟨0, 0, 0⟩], ead, ecap⟩] (fun r => r = .b (holdsV [aw8] ⟨1, 5, 9, [⟨0, 0, 0⟩], ead, ecap⟩)) :=
  holdsC F (some ⟨bs, 0, none⟩) 1 [aw8] ⟨1, 5, 9, [⟨0, 0, 0⟩], ead, ecap⟩ (by decide) (show 1 ≤ 1000000000 by decide)
theorem holdsN (F : Frm) (ead : Option Addr) (ecap : Nat) : Contract F Try.prog 12 [.sl none 0 0 0 fun _ _ => .v undef, evAg ⟨1, 5, 9, [⟨0, 0, 0⟩], ead, ecap⟩] (fun r => r = .b (holdsV [] ⟨1, 5, 9, [⟨0, 0, 0⟩], ead, ecap⟩)) :=
  Contract.of_sim (holdsC F none 0 [] ⟨1, 5, 9, [⟨0, 0, 0⟩], ead, ecap⟩ (by decide) (show 1 ≤ 1000000000 by decide)) ⟨⟨rfl, fun R w _ => ⟨Nat.le_refl _, Nat.zero_le _, .inl rfl⟩⟩, sim_refl _, trivial⟩
set_option maxHeartbeats 1000000 in
set_option maxRecDepth 100000 in
theorem awakeC (F : Frm) : Contract F Try.prog 7 [] (fun r => r = .b true) := by
  refine contract_of Try.func7 rfl (by kernel_rfl) ?_
  simp only [Try.ntmps7, argEnv]
  (repeat refine Sat.seq ?_)
  (refine Sat.region_k fun k hk => ?_; simp -implicitDefEqProofs only [evr, id, seval, res_one, par_one, idn_one, idn_0, idn_1, idn_2, resRow, res_ro, rExtract_tup, par_eq, ev_0, ev_1, ev_2, ev_3, c1I, evn]; refine hk _ ?_; clear hk k; try show Sat _ _ _ _ _)
  (repeat refine Sat.seq ?_)
  (refine Sat.region_k fun k hk => ?_; simp -implicitDefEqProofs only [evr, id, seval, res_one, par_one, idn_one, idn_0, idn_1, idn_2, resRow, res_ro, rExtract_tup, par_eq, ev_0, ev_1, ev_2, ev_3, c1I, evn])
  intro b1
  (refine hk _ ?_; clear hk k; try show Sat _ _ _ _ _)
  refine Sat.rebox 0 (Res.cs aw8) rfl ⟨sim_refl _, sim_refl _, sim_refl _, sim_refl _, sim_refl _, sim_refl _, sim_refl _, sim_refl _, sim_tt, sim_refl _, sim_refl _, sim_refl _, sim_refl _, sim_refl _, sim_refl _, sim_refl _, sim_refl _, trivial⟩ ?_
  simp only [Res.cs, aw8, List.set_cons_zero]
  have hrow : rdEq 1 17 (rdL (Res.cs aw8) 17) (resRd [aw8].toArray) := by
    intro i j hi hj
    obtain rfl : i = 0 := by omega
    unfold rdL resRd
    rw [Nat.zero_mul, Nat.zero_add]
    rfl
  have hin : ∀ r ∈ [aw8], RgR r := by unfold RgR; decide
  (repeat refine Sat.seq ?_)
  (refine Sat.region_k fun k hk => ?_; simp -implicitDefEqProofs only [evr, id, seval, res_one, par_one, idn_one, idn_0, idn_1, idn_2, resRow, res_ro, rExtract_tup, par_eq, ev_0, ev_1, ev_2, ev_3, c1I, evn])
  intro bs
  refine wcall_slice (Contract.of_sim (args := [.sl (some ⟨bs, 0, none⟩) 1 1 17 (rdL (Res.cs aw8) 17)]) (pairsC F (some ⟨bs, 0, none⟩) 1 [aw8] (by decide) hin) ⟨sim_sl hrow, trivial⟩) rfl (by simp only [Res.cs, aw8, evr, id, seval, res_one, par_one, idn_one, idn_0, idn_1, idn_2, List.append_nil, Int.toNat_zero, Nat.sub_self, Int.reduceToNat, resRow, res_ro, rExtract_tup, par_eq, ev_0, ev_1, ev_2, ev_3, c1I]; try rfl) ?_
  rintro r (⟨hbad, _⟩ | ⟨_, a, c, es, hes, rfl⟩)
  · exact absurd hbad (by decide)
  obtain ⟨ead, ecap, rfl⟩ := aw8_pairs hes
  simp -implicitDefEqProofs only [evr, id, seval, res_one, par_one, idn_one, idn_0, idn_1, idn_2, resRow, res_ro, rExtract_tup, par_eq, ev_0, ev_1, ev_2, ev_3, c1I, evn]
  (refine hk _ ?_; clear hk k; try show Sat _ _ _ _ _)
  (repeat refine Sat.seq ?_)
  (refine Sat.region_k fun k hk => ?_; simp -implicitDefEqProofs only [evr, id, seval, res_one, par_one, idn_one, idn_0, idn_1, idn_2, resRow, res_ro, rExtract_tup, par_eq, ev_0, ev_1, ev_2, ev_3, c1I, evn])
  refine wcall_plain (showC F aw8) (by simp only [resAg, Res.cs, aw8, evr, id, seval, res_one, par_one, idn_one, idn_0, idn_1, idn_2, List.append_nil, Int.toNat_zero, Nat.sub_self, Int.reduceToNat, resRow, res_ro, rExtract_tup, par_eq, ev_0, ev_1, ev_2, ev_3, c1I]; try rfl) (by rintro _ rfl; exact showS_ok _) ?_
  rintro _ rfl
  rw [aw8_show]
  simp only [showS, tupL, parAg, Par.cs, evr, id, seval, res_one, par_one, idn_one, idn_0, idn_1, idn_2, List.append_nil, Int.toNat_zero, Nat.sub_self, Int.reduceToNat, resRow, res_ro, rExtract_tup, par_eq, ev_0, ev_1, ev_2, ev_3, c1I]
  intro b4
  (refine hk _ ?_; clear hk k; try show Sat _ _ _ _ _)
  have hv : validEv ⟨1, 5, 9, [⟨0, 0, 0⟩], ead, ecap⟩ = true := by rfl
  have hh : holdsV [aw8] ⟨1, 5, 9, [⟨0, 0, 0⟩], ead, ecap⟩ = true := by rfl
  have hn : holdsV [] ⟨1, 5, 9, [⟨0, 0, 0⟩], ead, ecap⟩ = false := by rfl
  (repeat refine Sat.seq ?_)
  (refine Sat.region_tree (.keep [0, 1, 2, 3, 4, 5, 6, 7, 8, 9, 10, 11, 12, 13, 14, 15, 16, 17, 18, 19, 20, 21, 22, 23, 24, 25, 26, 27, 28, 29, 30, 31] [] (.one 32 (.one 33 (.one 34 (.one 35 (.one 36 (.one 37 (.free 39 (.one 38 (.one 40 (.one 41 (.one 42 (.free 45 (.free 46 (.alt 43 (.alt 44 (.one 47 (.one 48 (.one 49 (.one 50 (.one 51 (.one 52 (.one 53 (.one 54 (.one 55 (.one 56 (.one 57 .done))))))))))) (.alt 47 (.one 44 (.one 48 (.one 49 (.one 50 (.one 51 (.one 52 (.one 53 (.one 54 (.one 55 (.one 56 (.one 57 .done))))))))))) .none)) (.alt 47 (.one 43 (.one 44 (.one 48 (.one 49 (.one 50 (.one 51 (.one 52 (.one 53 (.one 54 (.one 55 (.one 56 (.one 57 .done)))))))))))) .none)))))))))))))))) (by kernel_rfl) (by kernel_rfl) (fun _ _ h => h) fun k hk => ?_; simp only [WOT, List.map_cons, List.map_nil, List.getD_cons_zero, List.getD_cons_succ]; simp -implicitDefEqProofs only [evr, id, seval, res_one, par_one, idn_one, idn_0, idn_1, idn_2, resRow, res_ro, rExtract_tup, par_eq, ev_0, ev_1, ev_2, ev_3, c1I, WOT, evn])
  repeat' (first
    | (with_reducible refine And.intro ?_ ?_)
    | omega
    | decide
    | (refine wcall_plain (validEvC F ⟨1, 5, 9, [⟨0, 0, 0⟩], ead, ecap⟩ (show 1 ≤ 1000000000 by decide)) rfl (by rintro _ rfl; exact ok_plain rfl) ?_
       rintro _ rfl
       rw [hv]
       simp -implicitDefEqProofs only [evr, id, seval, res_one, par_one, idn_one, idn_0, idn_1, idn_2, resRow, res_ro, rExtract_tup, par_eq, ev_0, ev_1, ev_2, ev_3, c1I, evn])
    | (refine wcall_slice (Contract.of_sim (args := [.sl (some ⟨bs2, 0, none⟩) 1 1 17 (rdL (Res.cs aw8) 17), evAg ⟨1, 5, 9, [⟨0, 0, 0⟩], ead, ecap⟩]) (pairs2 F bs2 ead ecap) ⟨sim_sl hrow, sim_refl _, trivial⟩) rfl (by simp only [evAg, Evd.cs, Res.cs, aw8, evr, id, seval, res_one, par_one, idn_one, idn_0, idn_1, idn_2, List.append_nil, Int.toNat_zero, Nat.sub_self, Int.reduceToNat, resRow, res_ro, rExtract_tup, par_eq, ev_0, ev_1, ev_2, ev_3, c1I]; rfl) ?_
       rintro _ rfl
       rw [hh]
       simp -implicitDefEqProofs only [evr, id, seval, res_one, par_one, idn_one, idn_0, idn_1, idn_2, resRow, res_ro, rExtract_tup, par_eq, ev_0, ev_1, ev_2, ev_3, c1I, evn])
    | (refine wcall_plain (holdsN F ead ecap) rfl (by rintro _ rfl; exact ok_plain rfl) ?_
       rintro _ rfl
       rw [hn]
       simp -implicitDefEqProofs only [evr, id, seval, res_one, par_one, idn_one, idn_0, idn_1, idn_2, resRow, res_ro, rExtract_tup, par_eq, ev_0, ev_1, ev_2, ev_3, c1I, evn])
    | (with_reducible intro bs2)
    | (refine hk _ ?_
       simp only [thenK]
       refine Sat.ret ?_
       simp only [Try.results7, evr, id, seval, res_one, par_one, idn_one, idn_0, idn_1, idn_2, List.append_nil, Int.toNat_zero, Nat.sub_self, Int.reduceToNat, resRow, res_ro, rExtract_tup, par_eq, ev_0, ev_1, ev_2, ev_3, c1I]
       done))
end Go.Proofs.Ytepbdjpcoleegaa


/- What pairs hold (no program in sight). -/
namespace Go.Proofs.Ytepbdjpcoleegaa
open Eng
def OneEach (xs : List Res) : Prop := ∀ r ∈ xs, ∀ s ∈ xs, r.idn = s.idn → r = s
theorem showR_pr {r : Res} {p : Par} (h : showR r = some p) : p.a ≠ 0 ∧ p.a < p.b := by
 have hv := showR_valid h
 unfold showR at h
 split at h
 ·rename_i hc
  cases h
  simp only [validR, Bool.and_eq_true, Bool.or_eq_true, Bool.not_eq_true', bne_iff_ne, ne_eq] at hv
  have h1 := hv.2.1
  have h2 : r.from_ ≠ 0 := by
   rcases hv.2.2 with h | h
   ·rw [hc.1] at h; cases h
   ·exact h
  have h3 := hc.2.2.1
  show min r.dst r.from_ ≠ 0 ∧ min r.dst r.from_ < max r.dst r.from_
  omega
 ·cases h
theorem findV_one {xs : List Res} (hu : OneEach xs) {r : Res} (hr : r ∈ xs) (hv : validR r = true) : findV xs r.idn = some r := by
 cases hf : findV xs r.idn with
 | none => exact absurd rfl ((findV_none hf).2 r hr hv)
 | some s =>
  rcases findV_some hf with ⟨h1, _, h3⟩ | h
  ·rw [hu s h1 r hr h3]
  ·cases h
theorem ev_shows {xs zs : List Res} {es : List Evd} (hu : OneEach xs) (hz : ∀ r ∈ zs, r ∈ xs) (h : PairsOf zs es) {e : Evd} (he : e ∈ es) {d : Idn} (hd : d ∈ e.ids) (f : Evd) (hf : f.pr = e.pr) : idShows xs f d = true := by
 obtain ⟨r, hr, h1, h2⟩ := (h.mem e.pr d).1 ⟨e, he, rfl, hd⟩
 have := findV_one hu (hz r hr) (showR_valid h1)
 unfold idShows
 rw [← h2, this]
 simp only
 rw [h1, hf]
 exact decide_eq_true rfl
theorem ev_pre {zs : List Res} {es : List Evd} (h : PairsOf zs es) {e : Evd} (he : e ∈ es) : (1 ≤ e.kind ∧ e.kind ≤ 3) ∧ e.a ≠ 0 ∧ e.a < e.b ∧ e.kind = 1 := by
 obtain ⟨h1, _, h3, _⟩ := h.each e he
 obtain ⟨d, hd⟩ := List.exists_mem_of_ne_nil _ h3
 obtain ⟨r, hr, h4, _⟩ := (h.mem e.pr d).1 ⟨e, he, rfl, hd⟩
 obtain ⟨g1, g2⟩ := showR_pr h4
 exact ⟨by omega, g1, g2, h1⟩
def Evd.cut (e : Evd) (n : Nat) : Evd := ⟨e.kind, e.a, e.b, e.ids.take n, e.ad, e.cap⟩
theorem cut_holds {xs zs : List Res} {es : List Evd} (hu : OneEach xs) (hz : ∀ r ∈ zs, r ∈ xs) (h : PairsOf zs es) {e : Evd} (he : e ∈ es) (n : Nat) : holdsV xs (e.cut n) = decide (0 < n) := by
 obtain ⟨h1, h2, h3, _⟩ := h.each e he
 obtain ⟨g1, g2, g3, g4⟩ := ev_pre h he
 by_cases hn : 0 < n
 ·rw [decide_eq_true hn]
  unfold holdsV validEv
  have a1 : evPre (e.cut n) = true := by
   unfold evPre
   refine decide_eq_true ⟨g1, g2, g3, ?_⟩
   show (e.ids.take n).length ≠ 0
   rw [List.length_take]
   have : e.ids.length ≠ 0 := fun h9 => h3 (List.length_eq_zero_iff.1 h9)
   omega
  have a2 : idsAsc (e.cut n).ids = true := idsAsc_iff.2 (h2.sublist (List.take_sublist n e.ids))
  have a3 : (e.cut n).ids.all (idShows xs (e.cut n)) = true := List.all_eq_true.2 fun d hd => ev_shows hu hz h he (List.mem_of_mem_take hd) _ rfl
  have a4 : decide ((e.cut n).kind = 1) = true := decide_eq_true g4
  rw [a1, a2, a3, a4]
  rfl
 ·have : n = 0 := by omega
  subst this
  have a1 : evPre (e.cut 0) = false := by
   unfold evPre
   exact decide_eq_false fun h9 => h9.2.2.2 (by show (e.ids.take 0).length = 0; simp)
  unfold holdsV validEv
  rw [a1]
  simp
theorem cut_all (e : Evd) : e.cut e.ids.length = e := by unfold Evd.cut; rw [List.take_length]
theorem pairs_holds {xs zs : List Res} {es : List Evd} (hu : OneEach xs) (hz : ∀ r ∈ zs, r ∈ xs) (h : PairsOf zs es) {e : Evd} (he : e ∈ es) : holdsV xs e = true := by
 have := cut_holds hu hz h he e.ids.length
 rw [cut_all] at this
 rw [this]
 have h3 := (h.each e he).2.2.1
 exact decide_eq_true (by
  rcases Nat.eq_zero_or_pos e.ids.length with h9 | h9
  ·exact absurd (List.length_eq_zero_iff.1 h9) h3
  ·exact h9)
end Go.Proofs.Ytepbdjpcoleegaa


/- Choices, for the evaluator: Next as a contract, Roll as what makes them. -/
namespace Go.Proofs.Ytepbdjpcoleegaa
open Go.RowKit Eng
def Frm.codes (cb : Nat) : Frm := ⟨fun b => b = cb, fun b => b = cb, Codes cb, fun _ h => h, fun w b h e => by subst e; exact h.lt, fun w w' B h hB hw => h.kept fun k hk => hw k (Nat.lt_of_le_of_lt hk (hB cb rfl))⟩
def ptr (cb : Nat) : SV := .v (.pointer (some ⟨cb, 0, none⟩))
theorem enters_of {P : Program} {f : FuncId} {fn : Func} {c : Code} (hf : P.funcs[f]? = some fn) (hb : fn.body = some c) (hname : (fn.name == "runtime.NumGoroutine") = false) : ∀ vs w, (callFunc f vs).run P w = .ok (.enter f vs) w := by
 intro vs w
 have hn : ¬ fn.name = "runtime.NumGoroutine" := by simpa using hname
 simp [callFunc, hf, hn, hb]
theorem nextC (cb : Nat) (n : Int) (h1 : -9223372036854775808 ≤ n) (h2 : n ≤ 9223372036854775807) : Contract (Frm.codes cb) Try.prog 10 [ptr cb, .i .i64 n] (fun r => ∃ x : Int, r = .i .i64 x ∧ 0 ≤ x ∧ (x < n ∨ x = 0)) := by
 refine ⟨enters_of Try.func10 rfl (by kernel_rfl), fun R w hinv _ hR => ?_⟩
 refine (next_calls cb n w hinv h1 h2).mono ?_
 rintro e w' ⟨r, rfl, hr0, hr1, hc, hg⟩
 exact ⟨.i .i64 r, rfl, ⟨r, rfl, hr0, hr1⟩, trivial, ⟨hg.os, hg.tape, hg.output, hg.size, fun b hb hm => hg.block b hb (fun e => hm (show b = cb by simpa using e))⟩, hc⟩
def isBytes (s : SV) : Prop := ∃ a len cap rd, s = .sl a len cap 1 rd ∧ ∀ i, i < len → ∃ x : Int, 0 ≤ x ∧ x < 256 ∧ rd i 0 = .i .u8 x
theorem new_made (a : Option Addr) (len cap : Nat) (w : World) (most : Nat) (h1 : len ≤ cap) (h2 : cap ≤ maxLen) (hm : most ≤ 65536) :
  Calls Try.prog 24 #[.slice a len cap, .int .i64 (most : Int)] w fun e w' => e = .returned (.pointer (some ⟨w.heap.size, 0, none⟩)) ∧ ∃ n, n ≤ len ∧ w' = w.alloc (.cells #[.slice a n cap, .int .i64 0] 74) := by
 unfold maxLen at h2
 by_cases hl : (most : Nat) < len
 ·go_enter Try.func24, Try.ntmps24
  go_wp2
  go_ret
  exact ⟨rfl, most, by omega, rfl⟩
 ·go_enter Try.func24, Try.ntmps24
  go_wp2
  go_ret
  exact ⟨rfl, len, by omega, rfl⟩
theorem roll_made (a : Option Addr) (len cap : Nat) (w : World) (h1 : len ≤ cap) (h2 : cap ≤ maxLen) :
  Calls Try.prog 8 #[.slice a len cap] w fun e w' => e = .returned (.pointer (some ⟨w.heap.size, 0, none⟩)) ∧ ∃ n, n ≤ len ∧ w' = w.alloc (.cells #[.slice a n cap, .int .i64 0] 74) := by
 have hc := fun w => new_made a len cap w 400 h1 h2 (by omega)
 have HC := Lib.hid hc
 clear hc h1 h2
 go_enter Try.func8, Try.ntmps8
 go_wp2_with fail
 refine (HC.out _).mono ?_
 rintro e w' ⟨rfl, n, hn, rfl⟩
 go_wp2
 go_ret
 exact ⟨rfl, n, hn, rfl⟩
theorem rollC (s : SV) (hs : isBytes s) : Makes Try.prog 8 [s] (fun cb w => Codes cb w) := by
 obtain ⟨a, len, cap, rd, rfl, hb⟩ := hs
 refine ⟨enters_of Try.func8 rfl (by kernel_rfl), fun R w hargs hR => ?_⟩
 obtain ⟨h1, h2, h3⟩ := hargs _ (List.mem_singleton.2 rfl)
 refine (roll_made a len cap w h1 h2).mono ?_
 rintro e w' ⟨rfl, n, hn, rfl⟩
 refine ⟨rfl, by simp, ⟨rfl, rfl, rfl, by simp, fun b hb _ => heap_alloc_old w _ hb⟩, fun w'' hw'' => ?_⟩
 refine ⟨a, n, cap, 0, (hw'' _ (.inr rfl)).trans (heap_alloc_new w _), by omega, Nat.zero_le _, ?_⟩
 rcases h3 with h3 | ⟨blk, off, rfl, hr, hc⟩
 ·exact .inl (by omega)
 ·have hlt := hR blk hr
  refine .inr ⟨blk, off, rfl, hlt, fun i hi => ?_⟩
  obtain ⟨x, hx0, hx1, hx⟩ := hb i (by omega)
  have h := (hc i 0 (by omega) (by omega)).1
  rw [hx, Nat.mul_one] at h
  exact ⟨x, hx0, hx1, by rw [World.cell?_of_block (w := w) (a := ⟨blk, off + i, none⟩) ((hw'' blk (.inl hr)).trans (heap_alloc_old w _ hlt))]; exact h⟩
end Go.Proofs.Ytepbdjpcoleegaa


/- Choices: Pick, Bool, Address, by the evaluator. -/
namespace Go.Proofs.Ytepbdjpcoleegaa
open Eng
set_option maxRecDepth 100000 in
theorem pickC (cb : Nat) (a : Option Addr) (len cap : Nat) (rd : Nat → Nat → SV) (Q : Int → Prop) (h0 : 0 < len) (h1 : len ≤ 1000) (hq : ∀ i, i < len → ∃ x : Int, rd i 0 = .i .i64 x ∧ Q x) :
  Contract (Frm.codes cb) Try.prog 26 [ptr cb, .sl a len cap 1 rd] (fun r => ∃ x : Int, r = .i .i64 x ∧ Q x) := by
 refine contract_of Try.func26 rfl (by kernel_rfl) ?_
 simp only [Try.ntmps26, argEnv, ptr]
 (repeat refine Sat.seq ?_)
 (refine Sat.region_k fun k hk => ?_; simp -implicitDefEqProofs only [evr, id, seval, ptr]; refine hk _ ?_; clear hk k; try show Sat _ _ _ _ _)
 (repeat refine Sat.seq ?_)
 (refine Sat.region_k fun k hk => ?_; simp -implicitDefEqProofs only [evr, id, seval, ptr])
 refine wcall_plain (nextC cb len (by omega) (by omega)) rfl (by rintro _ ⟨x, rfl, _⟩; exact ok_plain rfl) ?_
 rintro r ⟨x, rfl, hx0, hx1⟩
 obtain ⟨i, rfl⟩ := Int.eq_ofNat_of_zero_le hx0
 have hi : i < len := by omega
 obtain ⟨y, hy, hQ⟩ := hq i hi
 simp -implicitDefEqProofs only [evr, id, seval, ptr, hy]
 refine ⟨by omega, ?_⟩
 (refine hk _ ?_; clear hk k; try show Sat _ _ _ _ _)
 refine Sat.ret ?_
 simp only [Try.results26, evr, id, seval, ptr]
 exact ⟨y, rfl, hQ⟩
theorem pickI (cb blk : Nat) (xs : List Int) (Q : Int → Prop) (h0 : 0 < xs.length) (h1 : xs.length ≤ 1000) (hQ : ∀ x ∈ xs, Q x) :
  Contract (Frm.codes cb) Try.prog 26 [ptr cb, .sl (some ⟨blk, 0, none⟩) xs.length xs.length 1 (rdL (xs.map (SV.i .i64)) 1)] (fun r => ∃ x : Int, r = .i .i64 x ∧ Q x) :=
 pickC cb _ _ _ _ Q h0 h1 fun i hi => ⟨xs.getD i 0, by simp [rdL, List.getD, hi], hQ _ (getD_mem hi)⟩
theorem plain_pick {Q : Int → Prop} (r : SV) (h : ∃ x : Int, r = .i .i64 x ∧ Q x) : ∀ R w, r.ok R w := by
 obtain ⟨x, rfl, _⟩ := h; exact ok_plain rfl
theorem plain_bool (r : SV) (h : ∃ b : Bool, r = .b b) : ∀ R w, r.ok R w := by
 obtain ⟨x, rfl⟩ := h; exact ok_plain rfl
set_option maxRecDepth 100000 in
theorem boolC (cb : Nat) (n : Int) (h1 : 1 ≤ n) (h2 : n ≤ 1000000) : Contract (Frm.codes cb) Try.prog 22 [ptr cb, .i .i64 n] (fun r => ∃ b : Bool, r = .b b) := by
 refine contract_of Try.func22 rfl (by kernel_rfl) ?_
 simp only [Try.ntmps22, argEnv, ptr]
 (repeat refine Sat.seq ?_)
 (refine Sat.region_k fun k hk => ?_; simp -implicitDefEqProofs only [evr, id, seval, ptr]; refine hk _ ?_; clear hk k; try show Sat _ _ _ _ _)
 (repeat refine Sat.seq ?_)
 (refine Sat.region_k fun k hk => ?_; simp -implicitDefEqProofs only [evr, id, seval, ptr])
 refine wcall_plain (nextC cb n (by omega) (by omega)) rfl (by rintro _ ⟨x, rfl, _⟩; exact ok_plain rfl) ?_
 rintro r ⟨x, rfl, hx0, hx1⟩
 simp -implicitDefEqProofs only [evr, id, seval, ptr]
 (refine hk _ ?_; clear hk k; try show Sat _ _ _ _ _)
 refine Sat.ret ?_
 simp only [Try.results22, evr, id, seval, ptr]
 exact ⟨_, rfl⟩
end Go.Proofs.Ytepbdjpcoleegaa


/- Addresses and paths that are drawn (of: Oracles, by the evaluator: dice.Address within its type, dice.Oracle. ) -/
namespace Go.Proofs.Ytepbdjpcoleegaa
open Eng
def InA (x : Int) : Prop := 0 ≤ x ∧ x < 4294967296
structure PthP where
 a : Option Addr
 cap : Nat
 p : List Int
instance : Inhabited PthP := ⟨⟨none, 0, []⟩⟩
def adRd (p : List Int) : Nat → Nat → SV := fun i _ => .i .u32 (p.getD i 0)
def PthP.sv (q : PthP) : SV := .sl q.a q.p.length q.cap 1 (adRd q.p)
def psRd (l : List PthP) : Nat → Nat → SV := fun i _ => (l.getD i default).sv
def PsOk (m : Nat) (l : List PthP) : Prop := ∀ q ∈ l, q.p.length ≤ m ∧ ∀ x ∈ q.p, InA x
theorem ad_app {p : List Int} {x : Int} : rdEq (p.length + 1) 1 (rdCat p.length (adRd p) (rdL [.i .u32 x] 1)) (adRd (p ++ [x])) := by
 refine rdEq_snoc (fun i j hi hj => ?_) (fun j hj => ?_)
 ·unfold adRd
  simp [List.getD, List.getElem?_append, hi]
 ·obtain rfl : j = 0 := by omega
  unfold adRd
  simp [List.getD]
theorem ps_app {l : List PthP} {q : PthP} {s : SV} (h : s = q.sv) : rdEq (l.length + 1) 1 (rdCat l.length (psRd l) (rdL [s] 1)) (psRd (l ++ [q])) := by
 subst h
 refine rdEq_snoc (fun i j hi hj => ?_) (fun j hj => ?_)
 ·unfold psRd
  simp [List.getD, List.getElem?_append, hi]
 ·obtain rfl : j = 0 := by omega
  unfold psRd
  simp [List.getD]
theorem wrapA (x : Int) : InA (IntKind.u32.wrap x) := by
 have h : IntKind.u32.wrap x = x % 4294967296 := rfl
 unfold InA
 rw [h]
 omega
set_option maxRecDepth 100000 in
theorem addrC (cb : Nat) : Contract (Frm.codes cb) Try.prog 45 [ptr cb] (fun r => ∃ x : Int, InA x ∧ r = .i .u32 x) := by
 refine contract_of Try.func45 rfl (by kernel_rfl) ?_
 simp only [Try.ntmps45, argEnv, ptr]
 (repeat refine Sat.seq ?_)
 (refine Sat.region_k fun k hk => ?_; simp -implicitDefEqProofs only [evr, id, seval, ptr, PthP.sv, evn]; refine hk _ ?_; clear hk k; try show Sat _ _ _ _ _)
 (repeat refine Sat.seq ?_)
 (refine Sat.region_k fun k hk => ?_; simp -implicitDefEqProofs only [evr, id, seval, ptr, PthP.sv, evn])
 intro blk
 refine wcall_plain (pickI cb blk [1, 2, 5, 6, 9, 10, 12, 13] (fun _ => True) (by decide) (by decide) (by simp)) (by simp -implicitDefEqProofs only [evr, id, seval, ptr, PthP.sv, evn]) plain_pick ?_
 rintro r ⟨x, rfl, _⟩
 simp -implicitDefEqProofs only [evr, id, seval, ptr, PthP.sv, evn]
 (refine hk _ ?_; clear hk k; try show Sat _ _ _ _ _)
 refine Sat.ret ?_
 simp only [Try.results45, evr, id, seval, ptr, List.append_nil, Int.toNat_zero, Nat.sub_self, Int.reduceToNat, PthP.sv]
 exact ⟨_, wrapA _, rfl⟩
theorem plain_addrC (r : SV) (h : ∃ x : Int, InA x ∧ r = .i .u32 x) : ∀ R w, r.ok R w := by
 obtain ⟨x, _, rfl⟩ := h; exact ok_plain rfl
end Go.Proofs.Ytepbdjpcoleegaa


/- Scenes, by the evaluator: dice.Proto, dice.Trace, dice.scene. -/
namespace Go.Proofs.Ytepbdjpcoleegaa
open Eng
set_option maxRecDepth 100000 in
theorem protoC (cb : Nat) : Contract (Frm.codes cb) Try.prog 61 [ptr cb] (fun r => ∃ x : Int, (x = 17 ∨ x = 1 ∨ x = 6) ∧ r = .i .i64 x) := by
 refine contract_of Try.func61 rfl (by kernel_rfl) ?_
 simp only [Try.ntmps61, argEnv, ptr]
 (repeat refine Sat.seq ?_)
 (refine Sat.region_k fun k hk => ?_; simp -implicitDefEqProofs only [evr, id, seval, ptr, evn]; refine hk _ ?_; clear hk k; try show Sat _ _ _ _ _)
 (repeat refine Sat.seq ?_)
 (refine Sat.region_k fun k hk => ?_; simp -implicitDefEqProofs only [evr, id, seval, ptr, evn])
 intro blk
 refine wcall_plain (pickI cb blk [17, 1, 6] (fun x => x = 17 ∨ x = 1 ∨ x = 6) (by decide) (by decide) (by simp)) (by simp -implicitDefEqProofs only [evr, id, seval, ptr, evn]) plain_pick ?_
 rintro r ⟨x, rfl, hx⟩
 simp -implicitDefEqProofs only [evr, id, seval, ptr, evn]
 (refine hk _ ?_; clear hk k; try show Sat _ _ _ _ _)
 refine Sat.ret ?_
 simp only [Try.results61, evr, id, reduceCtorEq, reduceIte, Nat.reduceMul, Nat.reduceAdd, Nat.reduceLT, Nat.reduceLeDiff, Nat.reduceEqDiff, Int.reduceLT, Int.reduceBEq, Int.reduceBNe, Nat.reduceBEq, ptr, List.append_nil, Int.toNat_zero, Nat.sub_self, Int.reduceToNat]
 exact ⟨_, hx, rfl⟩
def trS (v d p : Int) : SV := .agg 3 fun j => [SV.i .i64 v, .i .u32 d, .i .i64 p].getD j default
theorem trS_ok (v d p : Int) (R : Nat → Prop) (w : World) : (trS v d p).ok R w := by
 intro j hj
 rcases (show j = 0 ∨ j = 1 ∨ j = 2 by omega) with rfl | rfl | rfl <;> trivial
set_option maxRecDepth 100000 in
theorem traceC (cb : Nat) : Contract (Frm.codes cb) Try.prog 46 [ptr cb] (fun r => ∃ v d p : Int, (0 ≤ v ∧ v ≤ 1) ∧ (InA d ∧ d ≠ 0) ∧ (p = 17 ∨ p = 1 ∨ p = 6) ∧ r = trS v d p) := by
 refine contract_of Try.func46 rfl (by kernel_rfl) ?_
 simp only [Try.ntmps46, argEnv, ptr]
 (repeat refine Sat.seq ?_)
 (refine Sat.region_k fun k hk => ?_; simp -implicitDefEqProofs only [evr, id, seval, ptr, evn])
 intro blk
 (refine hk _ ?_; clear hk k; try show Sat _ _ _ _ _)
 (repeat refine Sat.seq ?_)
 (refine Sat.region_k fun k hk => ?_; simp -implicitDefEqProofs only [evr, id, seval, ptr, evn])
 refine wcall_plain (nextC cb 2 (by omega) (by omega)) rfl (by rintro _ ⟨x, rfl, _⟩; exact ok_plain rfl) ?_
 rintro r ⟨v, rfl, hv0, hv1⟩
 simp -implicitDefEqProofs only [evr, id, seval, ptr, evn]
 refine wcall_plain (nextC cb 3 (by omega) (by omega)) rfl (by rintro _ ⟨x, rfl, _⟩; exact ok_plain rfl) ?_
 rintro r ⟨d, rfl, hd0, hd1⟩
 simp -implicitDefEqProofs only [evr, id, seval, ptr, evn]
 refine wcall_plain (protoC cb) rfl (by rintro _ ⟨x, _, rfl⟩; exact ok_plain rfl) ?_
 rintro r ⟨p, hp, rfl⟩
 simp -implicitDefEqProofs only [evr, id, seval, ptr, evn]
 (refine hk _ ?_; clear hk k; try show Sat _ _ _ _ _)
 refine Sat.ret ?_
 simp only [Try.results46, evr, id, reduceCtorEq, reduceIte, Nat.reduceMul, Nat.reduceAdd, Nat.reduceLT, Nat.reduceLeDiff, Nat.reduceEqDiff, Int.reduceLT, Int.reduceBEq, Int.reduceBNe, Nat.reduceBEq, ptr, List.append_nil, Int.toNat_zero, Nat.sub_self, Int.reduceToNat]
 refine ⟨v, _, p, by omega, ⟨wrapA _, ?_⟩, hp, rfl⟩
 have ewd : IntKind.i64.wrap (167774464 + d) = 167774464 + d := w64 (by omega)
 rw [ewd, IntKind.wrap_u32]
 omega
structure Net where
 v : Int
 d : Int
 pr : Int
 a : Option Addr
 cap : Nat
 l : List PthP
 last : Int
instance : Inhabited Net := ⟨⟨0, 0, 0, none, 0, [], 0⟩⟩
def Net.cs (n : Net) : List SV := [.i .i64 n.v, .i .u32 n.d, .i .i64 n.pr, .sl n.a n.l.length n.cap 1 (psRd n.l), .i .u32 n.last]
structure NetOk (n : Net) : Prop where
 v : 0 ≤ n.v ∧ n.v ≤ 1
 d : InA n.d
 last : InA n.last
 some : 1 ≤ n.l.length ∧ n.l.length ≤ 3
 ps : PsOk 3 n.l
 d0 : n.d ≠ 0
 pr : n.pr = 17 ∨ n.pr = 1 ∨ n.pr = 6
set_option maxRecDepth 100000 in
theorem sceneC (cb : Nat) : Contract (Frm.codes cb) Try.prog 25 [ptr cb] (fun r => ∃ (n : Net) (f : Nat → SV), NetOk n ∧ r = .agg 5 f ∧ ∀ j, j < 5 → f j = n.cs.getD j default) := by
 refine contract_of Try.func25 rfl (by kernel_rfl) ?_
 simp only [Try.ntmps25, argEnv, ptr]
 (repeat refine Sat.seq ?_)
 (refine Sat.region_k fun k hk => ?_; simp -implicitDefEqProofs only [evr, id, seval, ptr, evn])
 intro b2
 (refine hk _ ?_; clear hk k; try show Sat _ _ _ _ _)
 (repeat refine Sat.seq ?_)
 (refine Sat.region_k fun k hk => ?_; simp -implicitDefEqProofs only [evr, id, seval, ptr, evn])
 refine wcall_plain (traceC cb) rfl (by rintro _ ⟨v, d, p, _, _, _, rfl⟩; exact trS_ok _ _ _) ?_
 rintro r ⟨v, d, p, hv, ⟨hd, hdn⟩, hpr, rfl⟩
 simp only [trS, evr, id, reduceCtorEq, reduceIte, Nat.reduceMul, Nat.reduceAdd, Nat.reduceLT, Nat.reduceLeDiff, Nat.reduceEqDiff, Int.reduceLT, Int.reduceBEq, Int.reduceBNe, Nat.reduceBEq, ptr, List.append_nil, Int.toNat_zero, Nat.sub_self, Int.reduceToNat]
 intro b3
 (refine hk _ ?_; clear hk k; try show Sat _ _ _ _ _)
 (repeat refine Sat.seq ?_)
 (refine Sat.region_k fun k hk => ?_; simp -implicitDefEqProofs only [evr, id, seval, ptr, evn])
 (refine hk _ ?_; clear hk k; try show Sat _ _ _ _ _)
 (repeat refine Sat.seq ?_)
 (refine Sat.region_k fun k hk => ?_; simp -implicitDefEqProofs only [evr, id, seval, ptr, evn])
 refine wcall_plain (boolC cb 4 (by decide) (by decide)) rfl plain_bool ?_
 rintro r ⟨q, rfl⟩
 simp -implicitDefEqProofs only [evr, id, seval, ptr, evn]
 (refine hk _ ?_; clear hk k; try show Sat _ _ _ _ _)
 (repeat refine Sat.seq ?_)
 refine Sat.atF (ι := Int) (fun u => ⟨74, [(3, .op 1 b3 0), (2, .op 0 b2 0), (0, .v (.pointer (some ⟨cb, 0, none⟩)))], [Own.box b2 67 [.i .i64 0, .i .u32 0, .i .i64 0, .sl none 0 0 0 fun _ _ => .v undef, .i .u32 0], .box b3 67 [.i .i64 v, .i .u32 d, .i .i64 p, .sl none 0 0 0 fun _ _ => .v undef, .i .u32 u]]⟩) InA ?_ ?_
 ·refine Sat.cond_b rfl (fun h => ?_) (fun h => ?_)
  ·(refine Sat.region_k fun k hk => ?_; simp -implicitDefEqProofs only [evr, id, seval, ptr, evn])
   refine wcall_plain (addrC cb) rfl plain_addrC ?_
   rintro r ⟨u, hu, rfl⟩
   simp -implicitDefEqProofs only [evr, id, seval, ptr, evn]
   refine hk _ ?_
   simp only [thenK]
   refine ⟨u, hu, ?_⟩
   simp -implicitDefEqProofs only [evr, id, seval, ptr, evl, evn]
  ·refine Sat.skip ?_
   simp only [thenK]
   refine ⟨d, hd, ?_⟩
   simp -implicitDefEqProofs only [evr, id, seval, ptr, evl, evn]
 intro u hu
 simp only [thenK]
 (repeat refine Sat.seq ?_)
 (refine Sat.region_k fun k hk => ?_; simp -implicitDefEqProofs only [evr, id, seval, ptr, evn])
 refine wcall_plain (nextC cb 3 (by omega) (by omega)) rfl (by rintro _ ⟨x, rfl, _⟩; exact ok_plain rfl) ?_
 rintro r ⟨x, rfl, hx0, hx1⟩
 obtain ⟨lg, hlg⟩ : ∃ lg : Nat, (lg : Int) = 1 + x := ⟨(1 + x).toNat, by omega⟩
 have hlg3 : lg ≤ 3 := by omega
 have e1 : IntKind.i64.wrap (1 + x) = (lg : Int) := by rw [w64 (by omega), hlg]
 simp -implicitDefEqProofs only [evr, id, seval, ptr, e1, evn]
 (refine hk _ ?_; clear hk k; try show Sat _ _ _ _ _)
 (repeat refine Sat.seq ?_)
 (refine Sat.region_k fun k hk => ?_; simp -implicitDefEqProofs only [evr, id, seval, ptr, evn]; refine hk _ ?_; clear hk k; try show Sat _ _ _ _ _)
 refine Sat.adoptBox 1 3 71 1 (psRd []) rfl rfl ?_
 simp -implicitDefEqProofs only [evr, id, seval, ptr, evn]
 (repeat refine Sat.seq ?_)
 refine Sat.block ?_
 refine Sat.loop (ι := Nat × Option Addr × Nat × List PthP) (fun z => ⟨74, [(5, .i .i64 z.1), (4, .i .i64 lg), (3, .op 1 b3 0), (2, .op 0 b2 0), (0, .v (.pointer (some ⟨cb, 0, none⟩)))], [Own.box b2 67 [.i .i64 0, .i .u32 0, .i .i64 0, .sl none 0 0 0 fun _ _ => .v undef, .i .u32 0], .box b3 67 [.i .i64 v, .i .u32 d, .i .i64 p, .os 2 z.2.1 z.2.2.2.length z.2.2.1, .i .u32 u], .row z.2.1 71 z.2.2.2.length z.2.2.1 1 (psRd z.2.2.2)]⟩)
  (fun z => z.2.2.2.length = z.1 ∧ z.1 ≤ 3 ∧ PsOk 3 z.2.2.2) (fun z => 3 - z.1) (0, none, 0, []) ⟨rfl, by simp, fun q h => by cases h⟩ (by simp -implicitDefEqProofs only [evr, id, seval, ptr, evl, evn]; first | rfl | trace_state) ?_
 rintro ⟨f, a, c, l⟩ ⟨hfl, hf3, hl⟩
 simp only at hfl hf3 hl ⊢
 (repeat refine Sat.seq ?_)
 (refine Sat.region_k fun k hk => ?_; simp -implicitDefEqProofs only [evr, id, seval, ptr, evn])
 refine wcall_plain (nextC cb 3 (by omega) (by omega)) rfl (by rintro _ ⟨x, rfl, _⟩; exact ok_plain rfl) ?_
 rintro r ⟨x2, rfl, hy0, hy1⟩
 have e2 : IntKind.i64.wrap (1 + x2) = 1 + x2 := w64 (by omega)
 simp -implicitDefEqProofs only [evr, id, seval, ptr, e2, evn]
 (refine hk _ ?_; clear hk k; try show Sat _ _ _ _ _)
 (repeat refine Sat.seq ?_)
 refine Sat.cond_b rfl (fun h => ?_) (fun h => ?_)
 ·have h1 : f < 3 := by simp only [decide_eq_true_eq] at h; omega
  have e3 : IntKind.i64.wrap ((f : Int) + 1) = ((f + 1 : Nat) : Int) := by rw [w64 (by omega)]; omega
  refine Sat.skip ?_
  simp only [thenK]
  (repeat refine Sat.seq ?_)
  refine Sat.block ?_
  (repeat refine Sat.seq ?_)
  (refine Sat.region_k fun k hk => ?_; simp -implicitDefEqProofs only [evr, id, seval, ptr, evn]; refine hk _ ?_; clear hk k; try show Sat _ _ _ _ _)
  (repeat refine Sat.seq ?_)
  (refine Sat.region_k fun k hk => ?_; simp -implicitDefEqProofs only [evr, id, seval, ptr, evn]; refine hk _ ?_; clear hk k; try show Sat _ _ _ _ _)
  refine Sat.adopt 6 34 1 (adRd []) rfl ?_
  (repeat refine Sat.seq ?_)
  refine Sat.block ?_
  refine Sat.loop (ι := Nat × Option Addr × Nat × List Int) (fun z => ⟨74, [(7, .i .i64 z.1), (6, .os 3 z.2.1 z.2.2.2.length z.2.2.1), (5, .i .i64 f), (4, .i .i64 lg), (3, .op 1 b3 0), (2, .op 0 b2 0), (0, .v (.pointer (some ⟨cb, 0, none⟩)))], [Own.box b2 67 [.i .i64 0, .i .u32 0, .i .i64 0, .sl none 0 0 0 fun _ _ => .v undef, .i .u32 0], .box b3 67 [.i .i64 v, .i .u32 d, .i .i64 p, .os 2 a l.length c, .i .u32 u], .row a 71 l.length c 1 (psRd l), .row z.2.1 34 z.2.2.2.length z.2.2.1 1 (adRd z.2.2.2)]⟩)
   (fun z => z.2.2.2.length = z.1 ∧ z.1 ≤ lg ∧ ∀ x ∈ z.2.2.2, InA x) (fun z => lg - z.1) (0, none, 0, []) ⟨rfl, by simp, fun q h => by cases h⟩ (by simp -implicitDefEqProofs only [evr, id, seval, ptr, evl, evn]; first | rfl | trace_state) ?_
  rintro ⟨i, pa, pc, pl⟩ ⟨hpl, hi3, hpi⟩
  simp only at hpl hi3 hpi ⊢
  (repeat refine Sat.seq ?_)
  (refine Sat.region_k fun k hk => ?_; simp -implicitDefEqProofs only [evr, id, seval, ptr, evn]; refine hk _ ?_; clear hk k; try show Sat _ _ _ _ _)
  (repeat refine Sat.seq ?_)
  refine Sat.cond_b rfl (fun h => ?_) (fun h => ?_)
  ·have h2 : i < lg := by simp only [decide_eq_true_eq] at h; omega
   have e4 : IntKind.i64.wrap ((i : Int) + 1) = ((i + 1 : Nat) : Int) := by rw [w64 (by omega)]; omega
   refine Sat.skip ?_
   simp only [thenK]
   (repeat refine Sat.seq ?_)
   refine Sat.block ?_
   (repeat refine Sat.seq ?_)
   (refine Sat.region_k fun k hk => ?_; simp -implicitDefEqProofs only [evr, id, seval, ptr, evn])
   refine wcall_plain (addrC cb) rfl plain_addrC ?_
   rintro r ⟨y, hy, rfl⟩
   simp -implicitDefEqProofs only [evr, id, seval, ptr, evn]
   (refine hk _ ?_; clear hk k; try show Sat _ _ _ _ _)
   (repeat refine Sat.seq ?_)
   (refine Sat.region_k fun k hk => ?_; simp -implicitDefEqProofs only [evr, id, seval, ptr, evn])
   refine wcall_plain (boolC cb 6 (by decide) (by decide)) rfl plain_bool ?_
   rintro r ⟨q6, rfl⟩
   simp -implicitDefEqProofs only [evr, id, seval, ptr, evn]
   (refine hk _ ?_; clear hk k; try show Sat _ _ _ _ _)
   (repeat refine Sat.seq ?_)
   refine Sat.atF (ι := Int) (fun w => ⟨74, [(8, .i .u32 w), (7, .i .i64 i), (6, .os 3 pa pl.length pc), (5, .i .i64 f), (4, .i .i64 lg), (3, .op 1 b3 0), (2, .op 0 b2 0), (0, .v (.pointer (some ⟨cb, 0, none⟩)))], [Own.box b2 67 [.i .i64 0, .i .u32 0, .i .i64 0, .sl none 0 0 0 fun _ _ => .v undef, .i .u32 0], .box b3 67 [.i .i64 v, .i .u32 d, .i .i64 p, .os 2 a l.length c, .i .u32 u], .row a 71 l.length c 1 (psRd l), .row pa 34 pl.length pc 1 (adRd pl)]⟩) InA ?_ ?_
   ·refine Sat.cond_b rfl (fun h => ?_) (fun h => ?_)
    ·(refine Sat.region_k fun k hk => ?_; simp -implicitDefEqProofs only [evr, id, seval, ptr, evn])
     refine hk _ ?_
     simp only [thenK]
     refine ⟨0, ⟨by omega, by omega⟩, ?_⟩
     simp -implicitDefEqProofs only [evr, id, seval, ptr, evl, evn]
    ·refine Sat.skip ?_
     simp only [thenK]
     refine ⟨y, hy, ?_⟩
     simp -implicitDefEqProofs only [evr, id, seval, ptr, evl, evn]
   intro w hw
   simp only [thenK]
   (repeat refine Sat.seq ?_)
   obtain ⟨q, hq⟩ : ∃ q, q = l.getD 0 default := ⟨_, rfl⟩
   have hqs : psRd l 0 0 = .sl q.a q.p.length q.cap 1 (adRd q.p) := by rw [hq]; rfl
   refine Sat.atF (ι := Bool) (fun b => ⟨74, [(55, .b b), (8, .i .u32 w), (7, .i .i64 i), (6, .os 3 pa pl.length pc), (5, .i .i64 f), (4, .i .i64 lg), (3, .op 1 b3 0), (2, .op 0 b2 0), (0, .v (.pointer (some ⟨cb, 0, none⟩)))], [Own.box b2 67 [.i .i64 0, .i .u32 0, .i .i64 0, .sl none 0 0 0 fun _ _ => .v undef, .i .u32 0], .box b3 67 [.i .i64 v, .i .u32 d, .i .i64 p, .os 2 a l.length c, .i .u32 u], .row a 71 l.length c 1 (psRd l), .row pa 34 pl.length pc 1 (adRd pl)]⟩) (fun b => b = true → 0 < f ∧ i < q.p.length) ?_ ?_
   ·(refine Sat.region_k fun k hk => ?_; simp -implicitDefEqProofs only [evr, id, reduceCtorEq, reduceIte, Nat.reduceMul, Nat.reduceAdd, Nat.reduceLT, Nat.reduceLeDiff, Nat.reduceEqDiff, Int.reduceLT, Int.reduceBEq, Int.reduceBNe, Nat.reduceBEq, ptr, Int.reduceToNat, evn])
    simp -implicitDefEqProofs only [evr, id, reduceCtorEq, reduceIte, Nat.reduceMul, Nat.reduceAdd, Nat.reduceLT, Nat.reduceLeDiff, Nat.reduceEqDiff, Int.reduceLT, Int.reduceBEq, Int.reduceBNe, Nat.reduceBEq, ptr, Int.reduceToNat, hqs, evn]
    refine ⟨fun g1 => ⟨⟨by omega, by omega⟩, by omega, fun g2 => ?_, fun g2 => hk _ ?_⟩, fun g1 => hk _ ?_⟩
    ·refine wcall_plain (boolC cb 3 (by decide) (by decide)) rfl plain_bool ?_
     rintro r ⟨q7, rfl⟩
     simp -implicitDefEqProofs only [evr, id, seval, ptr, evn]
     refine hk _ ?_
     simp only [thenK]
     refine ⟨!q7, fun _ => ⟨by omega, by omega⟩, ?_⟩
     simp -implicitDefEqProofs only [evr, id, seval, ptr, evl, evn]
    ·simp only [thenK]
     refine ⟨false, fun h => (by cases h), ?_⟩
     simp -implicitDefEqProofs only [evr, id, seval, ptr, evl, evn]
    ·simp only [thenK]
     refine ⟨false, fun h => (by cases h), ?_⟩
     simp -implicitDefEqProofs only [evr, id, seval, ptr, evl, evn]
   intro b hb
   simp only [thenK]
   (repeat refine Sat.seq ?_)
   refine Sat.atF (ι := Int) (fun w2 => ⟨74, [(8, .i .u32 w2), (7, .i .i64 i), (6, .os 3 pa pl.length pc), (5, .i .i64 f), (4, .i .i64 lg), (3, .op 1 b3 0), (2, .op 0 b2 0), (0, .v (.pointer (some ⟨cb, 0, none⟩)))], [Own.box b2 67 [.i .i64 0, .i .u32 0, .i .i64 0, .sl none 0 0 0 fun _ _ => .v undef, .i .u32 0], .box b3 67 [.i .i64 v, .i .u32 d, .i .i64 p, .os 2 a l.length c, .i .u32 u], .row a 71 l.length c 1 (psRd l), .row pa 34 pl.length pc 1 (adRd pl)]⟩) InA ?_ ?_
   ·refine Sat.cond_b rfl (fun h => ?_) (fun h => ?_)
    ·obtain ⟨g1, g2⟩ := hb h
     (refine Sat.region_k fun k hk => ?_; simp -implicitDefEqProofs only [evr, id, reduceCtorEq, reduceIte, Nat.reduceMul, Nat.reduceAdd, Nat.reduceLT, Nat.reduceLeDiff, Nat.reduceEqDiff, Int.reduceLT, Int.reduceBEq, Int.reduceBNe, Nat.reduceBEq, ptr, Int.reduceToNat, evn])
     simp -implicitDefEqProofs only [evr, id, reduceCtorEq, reduceIte, Nat.reduceMul, Nat.reduceAdd, Nat.reduceLT, Nat.reduceLeDiff, Nat.reduceEqDiff, Int.reduceLT, Int.reduceBEq, Int.reduceBNe, Nat.reduceBEq, ptr, Int.reduceToNat, hqs, evn]
     refine ⟨⟨by omega, by omega⟩, by omega, by omega, ?_⟩
     refine hk _ ?_
     simp only [thenK]
     refine ⟨q.p.getD i 0, ?_, ?_⟩
     ·exact (hl q (by rw [hq]; exact getD_mem (by omega))).2 _ (getD_mem g2)
     ·simp -implicitDefEqProofs only [evr, id, seval, ptr, evl, evn]
      rfl
    ·refine Sat.skip ?_
     simp only [thenK]
     refine ⟨w, hw, ?_⟩
     simp -implicitDefEqProofs only [evr, id, seval, ptr, evl, evn]
   intro w2 hw2
   simp only [thenK, blockK]
   (repeat refine Sat.seq ?_)
   (refine Sat.region_k fun k hk => ?_; simp -implicitDefEqProofs only [evr, id, seval, ptr, evn])
   intro b9
   refine ⟨⟨by unfold maxLen; omega, by omega⟩, fun a2 cap2 => ?_⟩
   (refine hk _ ?_; clear hk k; try show Sat _ _ _ _ _)
   refine Sat.region_k fun k hk => ?_
   simp -implicitDefEqProofs only [evr, id, seval, ptr, e4, evn]
   refine hk _ ?_
   simp only [thenK, blockK]
   refine ⟨(i + 1, a2, cap2, pl ++ [w2]), ⟨by simp; omega, by simp only; omega, fun x hx => ?_⟩, by simp only; omega, ?_⟩
   ·rcases List.mem_append.1 hx with h | h
    ·exact hpi x h
    ·simp only [List.mem_singleton] at h; subst h; exact hw2
   ·simp only [List.length_append, List.length_singleton]
    simp -implicitDefEqProofs only [evr, id, seval, ptr, evl, evn]
    exact ad_app
  ·refine Sat.exit ?_
   simp only [thenK, blockK, reduceIte]
   refine Sat.settle2 6 rfl rfl ?_
   simp -implicitDefEqProofs only [evr, id, seval, ptr, evn]
   (refine Sat.region_k fun k hk => ?_; simp -implicitDefEqProofs only [evr, id, seval, ptr, evn])
   intro b9
   refine ⟨⟨by unfold maxLen; omega, by omega⟩, fun a2 cap2 => ?_⟩
   (refine hk _ ?_; clear hk k; try show Sat _ _ _ _ _)
   refine Sat.region_k fun k hk => ?_
   simp -implicitDefEqProofs only [evr, id, seval, ptr, e3, evn]
   refine hk _ ?_
   simp only [thenK, blockK]
   refine ⟨(f + 1, a2, cap2, l ++ [⟨pa, pc, pl⟩]), ⟨by simp; omega, by simp only; omega, fun x hx => ?_⟩, by simp only; omega, ?_⟩
   ·rcases List.mem_append.1 hx with h | h
    ·exact hl x h
    ·simp only [List.mem_singleton] at h; subst h; exact ⟨by simp only; omega, hpi⟩
   ·simp only [List.length_append, List.length_singleton]
    simp -implicitDefEqProofs only [evr, id, seval, ptr, evl, evn]
    exact ps_app rfl
 ·refine Sat.exit ?_
  simp only [thenK, blockK, reduceIte]
  have hf0 : 0 < f := by
   simp only [decide_eq_false_iff_not] at h
   omega
  (repeat refine Sat.seq ?_)
  (refine Sat.region_k fun k hk => ?_; simp -implicitDefEqProofs only [evr, id, seval, ptr, evn])
  (refine hk _ ?_; clear hk k; try show Sat _ _ _ _ _)
  refine Sat.ret ?_
  simp only [Try.results25, evr, id, reduceCtorEq, reduceIte, Nat.reduceMul, Nat.reduceAdd, Nat.reduceLT, Nat.reduceLeDiff, Nat.reduceEqDiff, Int.reduceLT, Int.reduceBEq, Int.reduceBNe, Nat.reduceBEq, ptr, List.append_nil, Int.toNat_zero, Nat.sub_self, Int.reduceToNat]
  refine ⟨⟨v, d, p, a, c, l, u⟩, _, ⟨hv, hd, hu, ⟨by simp only; omega, by simp only; omega⟩, hl, hdn, hpr⟩, rfl, fun j hj => ?_⟩
  rcases (show j = 0 ∨ j = 1 ∨ j = 2 ∨ j = 3 ∨ j = 4 by omega) with rfl | rfl | rfl | rfl | rfl <;> simp -implicitDefEqProofs only [evr, id, seval, ptr, Net.cs, evn]
end Go.Proofs.Ytepbdjpcoleegaa


/- Results, by the evaluator: dice.Results (of paths that may change, or not): each has a number of its own at its vantage. -/
namespace Go.Proofs.Ytepbdjpcoleegaa
open Go.Sort Eng
def netRd (ns : List Net) : Nat → Nat → SV := fun i j => (Net.cs (ns.getD i default)).getD j default
theorem net_one (ns : List Net) (i j : Nat) (h : j < 5) : oneS (netRd ns i j) = true := by
 rcases (show j = 0 ∨ j = 1 ∨ j = 2 ∨ j = 3 ∨ j = 4 by omega) with rfl | rfl | rfl | rfl | rfl <;> rfl
theorem net_one1 {n : Net} {cs : List SV} (h : cs = n.cs) : rdEq 1 5 (rdL cs 5) (netRd [n]) := by
 subst h
 intro i j hi hj
 obtain rfl : i = 0 := by omega
 unfold rdL netRd
 simp
theorem net_two {n m : Net} : rdEq 2 5 (rdCat 1 (rdL n.cs 5) (rdL m.cs 5)) (netRd [n, m]) := by
 intro i j hi hj
 rcases (show i = 0 ∨ i = 1 by omega) with rfl | rfl <;> simp [rdCat, rdL, netRd]
def Net.with (n m : Net) : Net := ⟨n.v, n.d, n.pr, m.a, m.cap, m.l, n.last⟩
theorem NetOk.with {n m : Net} (h : NetOk n) (g : NetOk m) : NetOk (n.with m) := ⟨h.v, h.d, h.last, g.some, g.ps, h.d0, h.pr⟩
theorem net_set {ns : List Net} {i N : Nat} {m : Net} (hi : i < ns.length) : rdEq N 5 (rdSet (netRd ns) i 3 [.sl m.a m.l.length m.cap 1 (psRd m.l)]) (netRd (ns.set i ((ns.getD i default).with m))) := by
 intro p j hp hj
 unfold rdSet netRd
 by_cases e : p = i
 ·subst e
  have hg : (ns.set p ((ns.getD p default).with m)).getD p default = (ns.getD p default).with m := by simp [List.getD, hi]
  rw [hg]
  rcases (show j = 0 ∨ j = 1 ∨ j = 2 ∨ j = 3 ∨ j = 4 by omega) with rfl | rfl | rfl | rfl | rfl <;> simp [Net.cs, Net.with]
 ·have hg : (ns.set i ((ns.getD i default).with m)).getD p default = ns.getD p default := by simp [List.getD, Ne.symm e]
  rw [hg, if_neg (fun h => e h.1)]
theorem res_appS {ys : List Res} {x : Res} {cs : List SV} (h : simA cs (Res.cs x)) : ∀ i j, i < ys.length + 1 → j < 17 → sim (rdCat ys.length (resRd ys.toArray) (rdL cs 17) i j) (resRd (ys ++ [x]).toArray i j) := by
 intro i j hi hj
 unfold rdCat
 by_cases e : i < ys.length
 ·rw [if_pos e]
  have : resRd ys.toArray i j = resRd (ys ++ [x]).toArray i j := by unfold resRd; simp [getElem!_def, List.getElem?_append, e]
  rw [this]
  exact sim_refl _
 ·obtain rfl : i = ys.length := by omega
  rw [if_neg e]
  have e1 : resRd (ys ++ [x]).toArray ys.length j = (Res.cs x).getD j default := by unfold resRd; simp [getElem!_def]
  have e2 : rdL cs 17 (ys.length - ys.length) j = cs.getD j default := by unfold rdL; simp
  rw [e1, e2]
  exact simA_getD h j
structure RltI (xs : List Res) (n0 n1 : Nat) : Prop where
 inr : ∀ r ∈ xs, RgR r
 num : ∀ r ∈ xs, (r.vantage = 0 ∧ r.number < n0) ∨ (r.vantage = 1 ∧ r.number < n1)
 own : ∀ r ∈ xs, ∀ s ∈ xs, r.vantage = s.vantage → r.number = s.number → r = s
 val : ∀ r ∈ xs, validR r = true
 nd : xs.Pairwise fun r s => ¬ (r.vantage = s.vantage ∧ r.number = s.number)
theorem RltI.nil : RltI [] 0 0 := ⟨fun r h => (by cases h), fun r h => (by cases h), fun r h => (by cases h), fun r h => (by cases h), .nil⟩
theorem RltI.snoc0 {xs : List Res} {n0 n1 : Nat} {r : Res} (h : RltI xs n0 n1) (hr : RgR r) (hval : validR r = true) (hv : r.vantage = 0) (hn : r.number = n0) : RltI (xs ++ [r]) (n0 + 1) n1 := by
 refine ⟨fun s hs => ?_, fun s hs => ?_, fun s hs t ht e1 e2 => ?_, fun s hs => ?_, ?_⟩
 ·rcases List.mem_append.1 hs with hs | hs
  ·exact h.inr s hs
  ·rw [List.mem_singleton.1 hs]; exact hr
 ·rcases List.mem_append.1 hs with hs | hs
  ·rcases h.num s hs with ⟨a, b⟩ | ⟨a, b⟩
   ·exact .inl ⟨a, by omega⟩
   ·exact .inr ⟨a, b⟩
  ·rw [List.mem_singleton.1 hs]; exact .inl ⟨hv, by omega⟩
 ·rcases List.mem_append.1 hs with hs | hs <;> rcases List.mem_append.1 ht with ht | ht
  ·exact h.own s hs t ht e1 e2
  ·rw [List.mem_singleton.1 ht] at e1 e2
   rcases h.num s hs with ⟨a, b⟩ | ⟨a, b⟩ <;> omega
  ·rw [List.mem_singleton.1 hs] at e1 e2
   rcases h.num t ht with ⟨a, b⟩ | ⟨a, b⟩ <;> omega
  ·rw [List.mem_singleton.1 hs, List.mem_singleton.1 ht]
 ·rcases List.mem_append.1 hs with hs | hs
  ·exact h.val s hs
  ·rw [List.mem_singleton.1 hs]; exact hval
 ·refine List.pairwise_append.2 ⟨h.nd, List.pairwise_singleton _ _, fun s hs t ht e => ?_⟩
  rw [List.mem_singleton.1 ht] at e
  rcases h.num s hs with ⟨a, b⟩ | ⟨a, b⟩ <;> omega
theorem RltI.snoc1 {xs : List Res} {n0 n1 : Nat} {r : Res} (h : RltI xs n0 n1) (hr : RgR r) (hval : validR r = true) (hv : r.vantage = 1) (hn : r.number = n1) : RltI (xs ++ [r]) n0 (n1 + 1) := by
 refine ⟨fun s hs => ?_, fun s hs => ?_, fun s hs t ht e1 e2 => ?_, fun s hs => ?_, ?_⟩
 ·rcases List.mem_append.1 hs with hs | hs
  ·exact h.inr s hs
  ·rw [List.mem_singleton.1 hs]; exact hr
 ·rcases List.mem_append.1 hs with hs | hs
  ·rcases h.num s hs with ⟨a, b⟩ | ⟨a, b⟩
   ·exact .inl ⟨a, b⟩
   ·exact .inr ⟨a, by omega⟩
  ·rw [List.mem_singleton.1 hs]; exact .inr ⟨hv, by omega⟩
 ·rcases List.mem_append.1 hs with hs | hs <;> rcases List.mem_append.1 ht with ht | ht
  ·exact h.own s hs t ht e1 e2
  ·rw [List.mem_singleton.1 ht] at e1 e2
   rcases h.num s hs with ⟨a, b⟩ | ⟨a, b⟩ <;> omega
  ·rw [List.mem_singleton.1 hs] at e1 e2
   rcases h.num t ht with ⟨a, b⟩ | ⟨a, b⟩ <;> omega
  ·rw [List.mem_singleton.1 hs, List.mem_singleton.1 ht]
 ·rcases List.mem_append.1 hs with hs | hs
  ·exact h.val s hs
  ·rw [List.mem_singleton.1 hs]; exact hval
 ·refine List.pairwise_append.2 ⟨h.nd, List.pairwise_singleton _ _, fun s hs t ht e => ?_⟩
  rw [List.mem_singleton.1 ht] at e
  rcases h.num s hs with ⟨a, b⟩ | ⟨a, b⟩ <;> omega
theorem w64_inA {x : Int} (h : InA x) : w64i x = x := w64 ⟨by have := h.1; omega, by have := h.2; omega⟩
def AnsOk (b8 b9 : Bool) (fr kind left id quo : Int) : Prop :=
 (b8 = true ∧ fr ≠ 0 ∧ (1 ≤ kind ∧ kind ≤ 5) ∧ left = 60 ∧ (0 ≤ id ∧ id ≤ 65535) ∧ quo = 1) ∨ (b8 = false ∧ b9 = false ∧ fr = 0 ∧ kind = 0 ∧ left = 0 ∧ id = 0 ∧ quo = 0)
theorem rlt_valid {v num at' d pr fl ttl back fr kind left id quo : Int} {b8 b9 : Bool} (hv : 0 ≤ v ∧ v ≤ 1) (hn : 0 ≤ num ∧ num < 1000) (ha : 0 ≤ at' ∧ at' ≤ back ∧ back ≤ 1000000) (hd : d ≠ 0) (hp : pr = 17 ∨ pr = 1 ∨ pr = 6) (hf : 0 ≤ fl ∧ fl ≤ 3) (ht : 1 ≤ ttl ∧ ttl ≤ 4) (h : AnsOk b8 b9 fr kind left id quo) :
  validR ⟨v, 0, num, at', d, pr, fl, ttl, b8, b9, back, fr, kind, 0, left, id, quo⟩ = true := by
 have h1 : badRange ⟨v, 0, num, at', d, pr, fl, ttl, b8, b9, back, fr, kind, 0, left, id, quo⟩ = false := by
  unfold badRange idOk
  simp
  omega
 have h2 : badProto ⟨v, 0, num, at', d, pr, fl, ttl, b8, b9, back, fr, kind, 0, left, id, quo⟩ = false := by
  unfold badProto
  simp
  omega
 unfold validR chk
 rw [h1, h2]
 rcases h with ⟨rfl, hf, hk, rfl, hi, rfl⟩ | ⟨rfl, rfl, rfl, rfl, rfl, rfl, rfl⟩
 ·have h3 : badState ⟨v, 0, num, at', d, pr, fl, ttl, true, b9, back, fr, kind, 0, 60, id, 1⟩ = false := rfl
  have h4 : badAnswer ⟨v, 0, num, at', d, pr, fl, ttl, true, b9, back, fr, kind, 0, 60, id, 1⟩ = false := by
   unfold badAnswer octOk
   simp
   omega
  rw [h3, h4]
  simp [hd, hf]
 ·have h3 : badState ⟨v, 0, num, at', d, pr, fl, ttl, false, false, back, 0, 0, 0, 0, 0, 0⟩ = false := rfl
  have h4 : badAnswer ⟨v, 0, num, at', d, pr, fl, ttl, false, false, back, 0, 0, 0, 0, 0, 0⟩ = false := rfl
  rw [h3, h4]
  simp [hd]
structure RlP where
 k : Nat
 at_ : Int
 id : Int
 na : Option Addr
 nc : Nat
 ns : List Net
 ra : Option Addr
 rc : Nat
 xs : List Res
 n0 : Nat
 n1 : Nat
def numCs (n0 n1 : Nat) : List SV := [.i .i64 n0, .i .i64 n1, .i .i64 0, .i .i64 0, .i .i64 0, .i .i64 0, .i .i64 0, .i .i64 0, .i .i64 0, .i .i64 0, .i .i64 0, .i .i64 0, .i .i64 0, .i .i64 0, .i .i64 0, .i .i64 0]
def rlEnv (st : Bool) (cb most : Nat) (k : Nat) (at' id : Int) (bn : Nat) (ra : Option Addr) (rc rn : Nat) (na : Option Addr) (nc nn : Nat) : List (Nat × SV) :=
 [(12, .i .i64 k), (11, .op 1 bn 0), (10, .i .i64 id), (9, .i .i64 at'), (8, .os 2 ra rn rc), (7, .os 0 na nn nc), (0, .v (.pointer (some ⟨cb, 0, none⟩))), (1, .i .i64 most), (2, .b st)]
def rlOwn (bn : Nat) (na : Option Addr) (nc : Nat) (ns : List Net) (ra : Option Addr) (rc : Nat) (xs : List Res) (n0 n1 : Nat) (more : List Eng.Own) : List Eng.Own :=
 .row na 67 ns.length nc 5 (netRd ns) :: .box bn 70 (numCs n0 n1) :: .row ra 44 xs.length rc 17 (resRd xs.toArray) :: more
def RlOk (most m : Nat) (z : RlP) : Prop := z.xs.length + z.k ≤ most ∧ z.ns.length = m ∧ (∀ n ∈ z.ns, NetOk n) ∧ RltI z.xs z.n0 z.n1 ∧ z.n0 ≤ z.xs.length ∧ z.n1 ≤ z.xs.length ∧ (0 ≤ z.at_ ∧ z.at_ ≤ 50 + 70 * z.xs.length) ∧ (0 ≤ z.id ∧ z.id ≤ 70000 + 5 * z.xs.length)
def rlCs (v num at' d pr fl ttl : Int) (s8 s9 : SV) (back fr kind left id quoted : Int) : List SV := [.i .i64 v, .i .i64 0, .i .i64 num, .i .i64 at', .i .u32 d, .i .i64 pr, .i .i64 fl, .i .i64 ttl, s8, s9, .i .i64 back, .i .u32 fr, .i .i64 kind, .i .i64 0, .i .i64 left, .i .i64 id, .i .i64 quoted]
def rlBox (b14 b17 : Nat) (n : Net) (cs : List SV) : List Eng.Own := [.box b14 67 [.i .i64 n.v, .i .u32 n.d, .i .i64 n.pr, .sl n.a n.l.length n.cap 1 (psRd n.l), .i .u32 n.last], .box b17 44 cs]
set_option maxRecDepth 100000 in
set_option maxHeartbeats 4000000 in
theorem resultsC (st : Bool) (cb : Nat) (most : Nat) (hm : most ≤ 1000) :
  ContractN (Frm.codes cb) Try.prog 9 [ptr cb, .i .i64 most, .b st] (fun o => ∃ (a : Option Addr) (cap : Nat) (xs : List Res) (n0 n1 : Nat), RltI xs n0 n1 ∧ xs.length ≤ most ∧ o = resRow a xs.length cap xs.toArray) := by
 refine contractN_of Try.func9 rfl (by kernel_rfl) ?_
 simp only [Try.ntmps9, argEnv, ptr]
 (repeat refine Sat.seq ?_)
 (refine Sat.region_k fun k hk => ?_; simp -implicitDefEqProofs only [evr, id, seval, ptr, res_one, resRow, net_one, rlEnv, rlOwn, numCs, rlCs, rlBox, evn]; refine hk _ ?_; clear hk k; try show Sat _ _ _ _ _)
 (repeat refine Sat.seq ?_)
 (refine Sat.region_k fun k hk => ?_; simp -implicitDefEqProofs only [evr, id, seval, ptr, res_one, resRow, net_one, rlEnv, rlOwn, numCs, rlCs, rlBox, evn])
 refine wcall_slice (sceneC cb) rfl rfl ?_
 rintro r ⟨n, f, hn, rfl, hf⟩
 have f0 : f 0 = .i .i64 n.v := hf 0 (by omega)
 have f1 : f 1 = .i .u32 n.d := hf 1 (by omega)
 have f2 : f 2 = .i .i64 n.pr := hf 2 (by omega)
 have f3 : f 3 = .sl n.a n.l.length n.cap 1 (psRd n.l) := hf 3 (by omega)
 have f4 : f 4 = .i .u32 n.last := hf 4 (by omega)
 simp -implicitDefEqProofs only [evr, id, seval, ptr, res_one, resRow, net_one, rlEnv, rlOwn, numCs, rlCs, rlBox, f0, f1, f2, f3, f4, evn]
 intro b7
 (refine hk _ ?_; clear hk k; try show Sat _ _ _ _ _)
 (repeat refine Sat.seq ?_)
 (refine Sat.region_k fun k hk => ?_; simp -implicitDefEqProofs only [evr, id, seval, ptr, res_one, resRow, net_one, rlEnv, rlOwn, numCs, rlCs, rlBox, evn])
 refine wcall_plain (boolC cb 3 (by decide) (by decide)) rfl plain_bool ?_
 rintro r ⟨q, rfl⟩
 simp -implicitDefEqProofs only [evr, id, seval, ptr, res_one, resRow, net_one, rlEnv, rlOwn, numCs, rlCs, rlBox, evn]
 (refine hk _ ?_; clear hk k; try show Sat _ _ _ _ _)
 (repeat refine Sat.seq ?_)
 refine Sat.atF (ι := Option Addr × Nat × List Net) (fun z => ⟨175, [(7, .os 0 z.1 z.2.2.length z.2.1), (0, .v (.pointer (some ⟨cb, 0, none⟩))), (1, .i .i64 most), (2, .b st)], [.row z.1 67 z.2.2.length z.2.1 5 (netRd z.2.2)]⟩) (fun z => (1 ≤ z.2.2.length ∧ z.2.2.length ≤ 2) ∧ ∀ m ∈ z.2.2, NetOk m) ?_ ?_
 ·refine Sat.cond_b rfl (fun h => ?_) (fun h => ?_)
  ·(refine Sat.region_k fun k hk => ?_; simp -implicitDefEqProofs only [evr, id, seval, ptr, res_one, resRow, net_one, rlEnv, rlOwn, numCs, rlCs, rlBox, evn])
   refine wcall_slice (sceneC cb) rfl rfl ?_
   rintro r ⟨n2, g, hn2, rfl, hg⟩
   have g0 : g 0 = .i .i64 n2.v := hg 0 (by omega)
   have g1 : g 1 = .i .u32 n2.d := hg 1 (by omega)
   have g2 : g 2 = .i .i64 n2.pr := hg 2 (by omega)
   have g3 : g 3 = .sl n2.a n2.l.length n2.cap 1 (psRd n2.l) := hg 3 (by omega)
   have g4 : g 4 = .i .u32 n2.last := hg 4 (by omega)
   simp -implicitDefEqProofs only [evr, id, seval, ptr, res_one, resRow, net_one, rlEnv, rlOwn, numCs, rlCs, rlBox, g0, g1, g2, g3, g4, evn]
   intro b8
   refine ⟨by unfold maxLen; omega, fun a2 cap2 => hk _ ?_⟩
   simp only [thenK]
   refine ⟨(a2, cap2, [n, n2]), ⟨⟨by simp, by simp⟩, fun m hm => ?_⟩, ?_⟩
   ·rcases List.mem_cons.1 hm with rfl | hm
    ·exact hn
    ·rw [List.mem_singleton.1 hm]; exact hn2
   ·simp -implicitDefEqProofs only [evr, id, seval, ptr, res_one, resRow, net_one, rlEnv, rlOwn, numCs, rlCs, rlBox, evl, evn]
    exact net_two
  ·refine Sat.skip ?_
   simp only [thenK]
   refine ⟨(some ⟨b7, 0, none⟩, 1, [n]), ⟨⟨by simp, by simp⟩, fun m hm => by rw [List.mem_singleton.1 hm]; exact hn⟩, ?_⟩
   simp -implicitDefEqProofs only [evr, id, seval, ptr, res_one, resRow, net_one, rlEnv, rlOwn, numCs, rlCs, rlBox, evl, evn]
   exact net_one1 rfl
 rintro ⟨na, nc, ns⟩ ⟨hns, hnok⟩
 simp only [thenK] at hns hnok ⊢
 (repeat refine Sat.seq ?_)
 (refine Sat.region_k fun k hk => ?_; simp -implicitDefEqProofs only [evr, id, seval, ptr, res_one, resRow, net_one, rlEnv, rlOwn, numCs, rlCs, rlBox, evn]; refine hk _ ?_; clear hk k; try show Sat _ _ _ _ _)
 (repeat refine Sat.seq ?_)
 (refine Sat.region_k fun k hk => ?_; simp -implicitDefEqProofs only [evr, id, seval, ptr, res_one, resRow, net_one, rlEnv, rlOwn, numCs, rlCs, rlBox, evn])
 refine wcall_plain (nextC cb 50 (by omega) (by omega)) rfl (by rintro _ ⟨x, rfl, _⟩; exact ok_plain rfl) ?_
 rintro r ⟨at0, rfl, ha0, ha1⟩
 simp -implicitDefEqProofs only [evr, id, seval, ptr, res_one, resRow, net_one, rlEnv, rlOwn, numCs, rlCs, rlBox, evn]
 refine wcall_plain (nextC cb 700 (by omega) (by omega)) rfl (by rintro _ ⟨x, rfl, _⟩; exact ok_plain rfl) ?_
 rintro r ⟨id0, rfl, hb0, hb1⟩
 simp -implicitDefEqProofs only [evr, id, seval, ptr, res_one, resRow, net_one, rlEnv, rlOwn, numCs, rlCs, rlBox, evn]
 have ew0 : IntKind.i64.wrap (100 * id0) = 100 * id0 := w64 (by omega)
 obtain ⟨id1, hid1, hid2, hid3⟩ : ∃ y, IntKind.i64.wrap (100 * id0) = y ∧ 0 ≤ y ∧ y ≤ 70000 := ⟨_, rfl, by rw [ew0]; omega, by rw [ew0]; omega⟩
 simp only [hid1]
 clear ew0 hid1
 (refine hk _ ?_; clear hk k; try show Sat _ _ _ _ _)
 (repeat refine Sat.seq ?_)
 (refine Sat.region_k fun k hk => ?_; simp -implicitDefEqProofs only [evr, id, seval, ptr, res_one, resRow, net_one, rlEnv, rlOwn, numCs, rlCs, rlBox, evn])
 intro bn
 (refine hk _ ?_; clear hk k; try show Sat _ _ _ _ _)
 (repeat refine Sat.seq ?_)
 have e1 : IntKind.i64.wrap ((most : Int) + 1) = (most : Int) + 1 := w64 (by omega)
 (refine Sat.region_k fun k hk => ?_; simp -implicitDefEqProofs only [evr, id, seval, ptr, res_one, resRow, net_one, rlEnv, rlOwn, numCs, rlCs, rlBox, evn])
 refine wcall_plain (nextC cb ((most : Int) + 1) (by omega) (by omega)) (by simp -implicitDefEqProofs only [evr, id, seval, ptr, res_one, resRow, net_one, rlEnv, rlOwn, numCs, rlCs, rlBox, e1, evn]) (by rintro _ ⟨x, rfl, _⟩; exact ok_plain rfl) ?_
 rintro r ⟨x, rfl, hx0, hx1⟩
 obtain ⟨k0, rfl⟩ := Int.eq_ofNat_of_zero_le hx0
 simp -implicitDefEqProofs only [evr, id, seval, ptr, res_one, resRow, net_one, rlEnv, rlOwn, numCs, rlCs, rlBox, evn]
 (refine hk _ ?_; clear hk k; try show Sat _ _ _ _ _)
 refine Sat.adopt 8 44 17 (resRd #[]) rfl ?_
 simp -implicitDefEqProofs only [evr, id, seval, ptr, res_one, resRow, net_one, rlEnv, rlOwn, numCs, rlCs, rlBox, evn]
 refine Sat.block ?_
 refine Sat.loop (ι := RlP) (fun z => ⟨175, rlEnv st cb most z.k z.at_ z.id bn z.ra z.rc z.xs.length z.na z.nc z.ns.length, rlOwn bn z.na z.nc z.ns z.ra z.rc z.xs z.n0 z.n1 []⟩)
  (RlOk most ns.length) (fun z => z.k) ⟨k0, at0, id1, na, nc, ns, none, 0, [], 0, 0⟩ ⟨by simp only [List.length_nil]; omega, rfl, hnok, RltI.nil, Nat.le_refl _, Nat.le_refl _, ⟨by simp only; omega, by simp only; omega⟩, ⟨by simp only; omega, by simp only; omega⟩⟩ (by simp -implicitDefEqProofs only [evr, id, seval, ptr, res_one, resRow, net_one, rlEnv, rlOwn, numCs, rlCs, rlBox, evl, evn]; first | rfl | trace_state) ?_
 have hm0 : ∃ m, m = ns.length := ⟨_, rfl⟩
 obtain ⟨m, hm0⟩ := hm0
 rw [← hm0] at hns ⊢
 clear hm0 hnok ns na nc
 rintro ⟨k1, at1, id2, na, nc, ns, ra, rc, xs, n0, n1⟩ ⟨hxk, hnl, hnok, hI, hn0, hn1, ⟨hat0, hat1⟩, ⟨hid0, hid1⟩⟩
 simp only [rlEnv, rlOwn, numCs] at hxk hnl hnok hI hn0 hn1 hat0 hat1 hid0 hid1 ⊢
 (repeat refine Sat.seq ?_)
 (refine Sat.region_k fun k hk => ?_; simp -implicitDefEqProofs only [evr, id, seval, ptr, res_one, resRow, net_one, rlEnv, rlOwn, numCs, rlCs, rlBox, evn]; refine hk _ ?_; clear hk k; try show Sat _ _ _ _ _)
 (repeat refine Sat.seq ?_)
 refine Sat.cond_b rfl (fun h => ?_) (fun h => ?_)
 ·have h0 : 0 < k1 := by simp only [decide_eq_true_eq] at h; omega
  have e2 : IntKind.i64.wrap ((k1 : Int) - 1) = ((k1 - 1 : Nat) : Int) := by rw [w64 (by omega)]; omega
  refine Sat.skip ?_
  simp only [thenK]
  (repeat refine Sat.seq ?_)
  refine Sat.block ?_
  (repeat refine Sat.seq ?_)
  (refine Sat.region_k fun k hk => ?_; simp -implicitDefEqProofs only [evr, id, seval, ptr, res_one, resRow, net_one, rlEnv, rlOwn, numCs, rlCs, rlBox, evn])
  refine wcall_plain (nextC cb ns.length (by omega) (by omega)) (by simp -implicitDefEqProofs only [evr, id, seval, ptr, res_one, resRow, net_one, rlEnv, rlOwn, numCs, rlCs, rlBox, evn]) (by rintro _ ⟨x, rfl, _⟩; exact ok_plain rfl) ?_
  rintro r ⟨x, rfl, hi0, hi1⟩
  obtain ⟨i, rfl⟩ := Int.eq_ofNat_of_zero_le hi0
  have hi : i < ns.length := by omega
  simp -implicitDefEqProofs only [evr, id, seval, ptr, res_one, resRow, net_one, rlEnv, rlOwn, numCs, rlCs, rlBox, evn]
  (refine hk _ ?_; clear hk k; try show Sat _ _ _ _ _)
  (repeat refine Sat.seq ?_)
  refine Sat.joinK (ι := Bool) (fun q => ⟨175, (51, .b q) :: (13, .i .i64 i) :: rlEnv st cb most k1 at1 id2 bn ra rc xs.length na nc ns.length, rlOwn bn na nc ns ra rc xs n0 n1 []⟩) (fun _ => True) (fun hrest => ?_) ?_
  ·(refine Sat.region_k fun k hk => ?_; simp -implicitDefEqProofs only [evr, id, seval, ptr, res_one, resRow, net_one, rlEnv, rlOwn, numCs, rlCs, rlBox, evn])
   refine ⟨fun hs => ?_, fun hs => ?_⟩
   ·refine wcall_plain (boolC cb 12 (by decide) (by decide)) rfl plain_bool ?_
    rintro r ⟨q2, rfl⟩
    simp -implicitDefEqProofs only [evr, id, seval, ptr, res_one, resRow, net_one, rlEnv, rlOwn, numCs, rlCs, rlBox, evn]
    refine hk _ ?_
    simp only [thenK]
    refine (hrest q2 trivial).le ?_
    simp only [rlEnv, rlOwn, numCs]
    simp -implicitDefEqProofs only [evr, id, seval, ptr, res_one, resRow, net_one, rlEnv, rlOwn, numCs, rlCs, rlBox, evl, evn]
   ·refine hk _ ?_
    simp only [thenK]
    refine (hrest false trivial).le ?_
    simp only [rlEnv, rlOwn, numCs]
    simp -implicitDefEqProofs only [evr, id, seval, ptr, res_one, resRow, net_one, rlEnv, rlOwn, numCs, rlCs, rlBox, evl, evn]
  rintro q2 -
  simp only [rlEnv, rlOwn, numCs]
  (repeat refine Sat.seq ?_)
  refine Sat.atF (ι := List Net) (fun z => ⟨175, (13, .i .i64 i) :: rlEnv st cb most k1 at1 id2 bn ra rc xs.length na nc ns.length, rlOwn bn na nc z ra rc xs n0 n1 []⟩) (fun z => z.length = ns.length ∧ ∀ n ∈ z, NetOk n) ?_ ?_
  ·refine Sat.cond_b rfl (fun h => ?_) (fun h => ?_)
   ·(refine Sat.region_k fun k hk => ?_; simp -implicitDefEqProofs only [evr, id, seval, ptr, res_one, resRow, net_one, rlEnv, rlOwn, numCs, rlCs, rlBox, evn])
    refine wcall_slice (sceneC cb) rfl rfl ?_
    rintro r ⟨n2, g, hn2, rfl, hg⟩
    have g3 : g 3 = .sl n2.a n2.l.length n2.cap 1 (psRd n2.l) := hg 3 (by omega)
    simp -implicitDefEqProofs only [evr, id, seval, ptr, res_one, resRow, net_one, rlEnv, rlOwn, numCs, rlCs, rlBox, g3, evn]
    refine ⟨by omega, by omega, hk _ ?_⟩
    simp only [thenK]
    refine ⟨ns.set i ((ns.getD i default).with n2), ⟨by simp, fun n hn => ?_⟩, ?_⟩
    ·rcases List.mem_or_eq_of_mem_set hn with h | h
     ·exact hnok n h
     ·subst h; exact (hnok _ (getD_mem hi)).with hn2
    ·simp only [rlOwn, List.length_set]
     simp -implicitDefEqProofs only [evr, id, seval, ptr, res_one, resRow, net_one, rlEnv, rlOwn, numCs, rlCs, rlBox, evl, evn]
     exact net_set hi
   ·refine Sat.skip ?_
    simp only [thenK]
    refine ⟨ns, ⟨rfl, hnok⟩, ?_⟩
    simp -implicitDefEqProofs only [evr, id, seval, ptr, res_one, resRow, net_one, rlEnv, rlOwn, numCs, rlCs, rlBox, evl, evn]
  intro zs
  rintro ⟨hzl, hzok⟩
  simp only [thenK, rlEnv, rlOwn, numCs]
  rw [← hzl] at hnl hi ⊢
  obtain ⟨n, hn⟩ : ∃ n, n = zs.getD i default := ⟨_, rfl⟩
  have hnk : NetOk n := by rw [hn]; exact hzok _ (getD_mem hi)
  have p0 : netRd zs i 0 = .i .i64 n.v := by rw [hn]; rfl
  have p1 : netRd zs i 1 = .i .u32 n.d := by rw [hn]; rfl
  have p2 : netRd zs i 2 = .i .i64 n.pr := by rw [hn]; rfl
  have p3 : netRd zs i 3 = .sl n.a n.l.length n.cap 1 (psRd n.l) := by rw [hn]; rfl
  have p4 : netRd zs i 4 = .i .u32 n.last := by rw [hn]; rfl
  have hnl1 := hnk.some
  (repeat refine Sat.seq ?_)
  (refine Sat.region_k fun k hk => ?_; simp -implicitDefEqProofs only [evr, id, seval, ptr, res_one, resRow, net_one, rlEnv, rlOwn, numCs, rlCs, rlBox, evn])
  simp only [p0, p1, p2, p3, p4, evr, id, reduceCtorEq, reduceIte, Nat.reduceMul, Nat.reduceAdd, Nat.reduceLT, Nat.reduceLeDiff, Nat.reduceEqDiff, Int.reduceLT, Int.reduceBEq, Int.reduceBNe, Nat.reduceBEq, ptr, res_one, List.append_nil, Int.toNat_zero, Nat.sub_self, Int.reduceToNat, resRow, net_one, rlEnv, rlOwn, numCs, rlCs, rlBox]
  refine ⟨by omega, by omega, ?_⟩
  intro b14
  (refine hk _ ?_; clear hk k; try show Sat _ _ _ _ _)
  (repeat refine Sat.seq ?_)
  (refine Sat.region_k fun k hk => ?_; simp -implicitDefEqProofs only [evr, id, seval, ptr, res_one, resRow, net_one, rlEnv, rlOwn, numCs, rlCs, rlBox, evn])
  refine wcall_plain (nextC cb n.l.length (by omega) (by omega)) (by simp -implicitDefEqProofs only [evr, id, seval, ptr, res_one, resRow, net_one, rlEnv, rlOwn, numCs, rlCs, rlBox, evn]) (by rintro _ ⟨x, rfl, _⟩; exact ok_plain rfl) ?_
  rintro r ⟨x, rfl, hf0, hf1⟩
  obtain ⟨fl, rfl⟩ := Int.eq_ofNat_of_zero_le hf0
  have hfl : fl < n.l.length := by omega
  simp -implicitDefEqProofs only [evr, id, seval, ptr, res_one, resRow, net_one, rlEnv, rlOwn, numCs, rlCs, rlBox, evn]
  (refine hk _ ?_; clear hk k; try show Sat _ _ _ _ _)
  obtain ⟨pq, hpq⟩ : ∃ pq, pq = n.l.getD fl default := ⟨_, rfl⟩
  have hps : psRd n.l fl 0 = .sl pq.a pq.p.length pq.cap 1 (adRd pq.p) := by rw [hpq]; rfl
  have hpok := hnk.ps pq (by rw [hpq]; exact getD_mem hfl)
  have hpl3 := hpok.1
  (repeat refine Sat.seq ?_)
  (refine Sat.region_k fun k hk => ?_; simp -implicitDefEqProofs only [evr, id, seval, ptr, res_one, resRow, net_one, rlEnv, rlOwn, numCs, rlCs, rlBox, evn])
  simp only [hps, evr, id, reduceCtorEq, reduceIte, Nat.reduceMul, Nat.reduceAdd, Nat.reduceLT, Nat.reduceLeDiff, Nat.reduceEqDiff, Int.reduceLT, Int.reduceBEq, Int.reduceBNe, Nat.reduceBEq, ptr, res_one, List.append_nil, Int.toNat_zero, Nat.sub_self, Int.reduceToNat, resRow, net_one, rlEnv, rlOwn, numCs, rlCs, rlBox]
  refine ⟨by omega, ?_⟩
  (refine hk _ ?_; clear hk k; try show Sat _ _ _ _ _)
  (repeat refine Sat.seq ?_)
  (refine Sat.region_k fun k hk => ?_; simp -implicitDefEqProofs only [evr, id, seval, ptr, res_one, resRow, net_one, rlEnv, rlOwn, numCs, rlCs, rlBox, evn])
  refine wcall_plain (nextC cb 40 (by omega) (by omega)) rfl (by rintro _ ⟨x, rfl, _⟩; exact ok_plain rfl) ?_
  rintro r ⟨x40, rfl, hc0, hc1⟩
  simp -implicitDefEqProofs only [evr, id, seval, ptr, res_one, resRow, net_one, rlEnv, rlOwn, numCs, rlCs, rlBox, evn]
  have ew1 : IntKind.i64.wrap (1 + x40) = 1 + x40 := w64 (by omega)
  have ew2 : IntKind.i64.wrap (at1 + (1 + x40)) = at1 + (1 + x40) := w64 (by omega)
  obtain ⟨at2, hat2, hat3, hat4⟩ : ∃ y, IntKind.i64.wrap (at1 + IntKind.i64.wrap (1 + x40)) = y ∧ at1 ≤ y ∧ y ≤ at1 + 40 := ⟨_, rfl, by rw [ew1, ew2]; omega, by rw [ew1, ew2]; omega⟩
  simp only [hat2]
  clear ew1 ew2 hat2
  (refine hk _ ?_; clear hk k; try show Sat _ _ _ _ _)
  (repeat refine Sat.seq ?_)
  refine Sat.atF (ι := Int × Int × Nat) (fun z => ⟨175, (17, .op 4 z.2.2 0) :: (16, .sl pq.a pq.p.length pq.cap 1 (adRd pq.p)) :: (15, .i .i64 fl) :: (14, .op 3 b14 0) :: rlEnv st cb most k1 at2 id2 bn ra rc xs.length na nc zs.length, rlOwn bn na nc zs ra rc xs n0 n1 (rlBox b14 z.2.2 n (rlCs n.v z.1 at2 n.d n.pr fl z.2.1 (.b false) (.b false) 0 0 0 0 0 0))⟩)
   (fun z => (1 ≤ z.2.1 ∧ z.2.1 ≤ pq.p.length + 1) ∧ ((n.v = 0 ∧ z.1 = n0) ∨ (n.v = 1 ∧ z.1 = n1))) ?_ ?_
  ·have e5 : IntKind.i64.wrap ((pq.p.length : Int) + 1) = (pq.p.length : Int) + 1 := w64 (by omega)
   rcases (show n.v = 0 ∨ n.v = 1 by have := hnk.v; omega) with hv | hv
   ·simp only [hv]
    (refine Sat.region_tree (.keep [0, 1, 3, 4, 8, 9, 10, 12, 13, 15, 16, 17, 18, 19, 2, 5, 11, 14, 6, 7] [20, 21, 22, 23] (.alt 20 (.free 21 (.free 22 (.one 23 (.one 24 .done)))) (.alt 23 (.one 20 (.one 21 (.one 22 (.one 24 .done)))) .none))) (by kernel_rfl) (by kernel_rfl) (fun _ _ h => h) fun k hk => ?_; simp only [WOT, List.map_cons, List.map_nil, List.getD_cons_zero, List.getD_cons_succ]; simp -implicitDefEqProofs only [evr, id, reduceCtorEq, reduceIte, Nat.reduceMul, Nat.reduceAdd, Nat.reduceLT, Nat.reduceLeDiff, Nat.reduceEqDiff, Int.reduceLT, Int.reduceBEq, Int.reduceBNe, Nat.reduceBEq, ptr, res_one, Int.reduceToNat, resRow, net_one, rlEnv, rlOwn, numCs, rlCs, rlBox, WOT, evn])
    simp -implicitDefEqProofs only [evr, id, reduceCtorEq, reduceIte, Nat.reduceMul, Nat.reduceAdd, Nat.reduceLT, Nat.reduceLeDiff, Nat.reduceEqDiff, Int.reduceLT, Int.reduceBEq, Int.reduceBNe, Nat.reduceBEq, ptr, res_one, Int.reduceToNat, resRow, net_one, rlEnv, rlOwn, numCs, rlCs, rlBox, e5, evn]
    refine ⟨by omega, ?_, ?_⟩
    ·skip
     refine wcall_plain (nextC cb ((pq.p.length : Int) + 1) (by omega) (by omega)) rfl (by rintro _ ⟨x, rfl, _⟩; exact ok_plain rfl) ?_
     rintro r ⟨x3, rfl, g0, g1⟩
     have e6 : IntKind.i64.wrap (1 + x3) = 1 + x3 := w64 (by omega)
     simp -implicitDefEqProofs only [evr, id, seval, ptr, res_one, resRow, net_one, rlEnv, rlOwn, numCs, rlCs, rlBox, e6, evn]
     intro b17
     refine hk _ ?_
     simp only [thenK]
     refine ⟨(n0, 1 + x3, b17), ⟨⟨by simp only; omega, by simp only; omega⟩, .inl ⟨trivial, rfl⟩⟩, ?_⟩
     simp -implicitDefEqProofs only [evr, id, seval, ptr, res_one, resRow, net_one, rlEnv, rlOwn, numCs, rlCs, rlBox, evl, evn]
     rw [hv]
    ·intro b17
     refine wcall_plain (nextC cb ((pq.p.length : Int) + 1) (by omega) (by omega)) rfl (by rintro _ ⟨x, rfl, _⟩; exact ok_plain rfl) ?_
     rintro r ⟨x3, rfl, g0, g1⟩
     have e6 : IntKind.i64.wrap (1 + x3) = 1 + x3 := w64 (by omega)
     simp -implicitDefEqProofs only [evr, id, seval, ptr, res_one, resRow, net_one, rlEnv, rlOwn, numCs, rlCs, rlBox, e6, evn]
     refine hk _ ?_
     simp only [thenK]
     refine ⟨(n0, 1 + x3, b17), ⟨⟨by simp only; omega, by simp only; omega⟩, .inl ⟨trivial, rfl⟩⟩, ?_⟩
     simp -implicitDefEqProofs only [evr, id, seval, ptr, res_one, resRow, net_one, rlEnv, rlOwn, numCs, rlCs, rlBox, evl, evn]
     rw [hv]
   ·simp only [hv]
    (refine Sat.region_tree (.keep [0, 1, 3, 4, 8, 9, 10, 12, 13, 15, 16, 17, 18, 19, 2, 5, 11, 14, 6, 7] [20, 21, 22, 23] (.alt 20 (.free 21 (.free 22 (.one 23 (.one 24 .done)))) (.alt 23 (.one 20 (.one 21 (.one 22 (.one 24 .done)))) .none))) (by kernel_rfl) (by kernel_rfl) (fun _ _ h => h) fun k hk => ?_; simp only [WOT, List.map_cons, List.map_nil, List.getD_cons_zero, List.getD_cons_succ]; simp -implicitDefEqProofs only [evr, id, reduceCtorEq, reduceIte, Nat.reduceMul, Nat.reduceAdd, Nat.reduceLT, Nat.reduceLeDiff, Nat.reduceEqDiff, Int.reduceLT, Int.reduceBEq, Int.reduceBNe, Nat.reduceBEq, ptr, res_one, Int.reduceToNat, resRow, net_one, rlEnv, rlOwn, numCs, rlCs, rlBox, WOT, evn])
    simp -implicitDefEqProofs only [evr, id, reduceCtorEq, reduceIte, Nat.reduceMul, Nat.reduceAdd, Nat.reduceLT, Nat.reduceLeDiff, Nat.reduceEqDiff, Int.reduceLT, Int.reduceBEq, Int.reduceBNe, Nat.reduceBEq, ptr, res_one, Int.reduceToNat, resRow, net_one, rlEnv, rlOwn, numCs, rlCs, rlBox, e5, evn]
    refine ⟨by omega, ?_, ?_⟩
    ·skip
     refine wcall_plain (nextC cb ((pq.p.length : Int) + 1) (by omega) (by omega)) rfl (by rintro _ ⟨x, rfl, _⟩; exact ok_plain rfl) ?_
     rintro r ⟨x3, rfl, g0, g1⟩
     have e6 : IntKind.i64.wrap (1 + x3) = 1 + x3 := w64 (by omega)
     simp -implicitDefEqProofs only [evr, id, seval, ptr, res_one, resRow, net_one, rlEnv, rlOwn, numCs, rlCs, rlBox, e6, evn]
     intro b17
     refine hk _ ?_
     simp only [thenK]
     refine ⟨(n1, 1 + x3, b17), ⟨⟨by simp only; omega, by simp only; omega⟩, .inr ⟨trivial, rfl⟩⟩, ?_⟩
     simp -implicitDefEqProofs only [evr, id, seval, ptr, res_one, resRow, net_one, rlEnv, rlOwn, numCs, rlCs, rlBox, evl, evn]
     rw [hv]
    ·intro b17
     refine wcall_plain (nextC cb ((pq.p.length : Int) + 1) (by omega) (by omega)) rfl (by rintro _ ⟨x, rfl, _⟩; exact ok_plain rfl) ?_
     rintro r ⟨x3, rfl, g0, g1⟩
     have e6 : IntKind.i64.wrap (1 + x3) = 1 + x3 := w64 (by omega)
     simp -implicitDefEqProofs only [evr, id, seval, ptr, res_one, resRow, net_one, rlEnv, rlOwn, numCs, rlCs, rlBox, e6, evn]
     refine hk _ ?_
     simp only [thenK]
     refine ⟨(n1, 1 + x3, b17), ⟨⟨by simp only; omega, by simp only; omega⟩, .inr ⟨trivial, rfl⟩⟩, ?_⟩
     simp -implicitDefEqProofs only [evr, id, seval, ptr, res_one, resRow, net_one, rlEnv, rlOwn, numCs, rlCs, rlBox, evl, evn]
     rw [hv]
  rintro ⟨num, ttl, b17⟩ ⟨httl, hnum⟩
  simp only [thenK, rlEnv, rlOwn, numCs, rlCs, rlBox] at httl hnum ⊢
  (repeat refine Sat.seq ?_)
  refine Sat.atF (ι := Nat × Nat) (fun z => ⟨175, (17, .op 4 b17 0) :: (16, .sl pq.a pq.p.length pq.cap 1 (adRd pq.p)) :: (15, .i .i64 fl) :: (14, .op 3 b14 0) :: rlEnv st cb most k1 at2 id2 bn ra rc xs.length na nc zs.length, rlOwn bn na nc zs ra rc xs z.1 z.2 (rlBox b14 b17 n (rlCs n.v num at2 n.d n.pr fl ttl (.b false) (.b false) 0 0 0 0 0 0))⟩)
   (fun z => (n.v = 0 ∧ num = n0 ∧ z.1 = n0 + 1 ∧ z.2 = n1) ∨ (n.v = 1 ∧ num = n1 ∧ z.1 = n0 ∧ z.2 = n1 + 1)) ?_ ?_
  ·have e7 : IntKind.i64.wrap ((n0 : Int) + 1) = ((n0 + 1 : Nat) : Int) := by rw [w64 (by omega)]; omega
   have e8 : IntKind.i64.wrap ((n1 : Int) + 1) = ((n1 + 1 : Nat) : Int) := by rw [w64 (by omega)]; omega
   rcases hnum with ⟨hv, hnm⟩ | ⟨hv, hnm⟩
   ·simp only [hv]
    (refine Sat.region_k fun k hk => ?_; simp -implicitDefEqProofs only [evr, id, reduceCtorEq, reduceIte, Nat.reduceMul, Nat.reduceAdd, Nat.reduceLT, Nat.reduceLeDiff, Nat.reduceEqDiff, Int.reduceLT, Int.reduceBEq, Int.reduceBNe, Nat.reduceBEq, ptr, res_one, Int.reduceToNat, resRow, net_one, rlEnv, rlOwn, numCs, rlCs, rlBox, evn])
    simp only [e7]
    refine ⟨by omega, by omega, hk _ ?_⟩
    simp only [thenK]
    refine ⟨(n0 + 1, n1), .inl ⟨trivial, hnm, rfl, rfl⟩, ?_⟩
    simp -implicitDefEqProofs only [evr, id, seval, ptr, res_one, resRow, net_one, rlEnv, rlOwn, numCs, rlCs, rlBox, evl, evn]
    simp only [hv]
   ·simp only [hv]
    (refine Sat.region_k fun k hk => ?_; simp -implicitDefEqProofs only [evr, id, reduceCtorEq, reduceIte, Nat.reduceMul, Nat.reduceAdd, Nat.reduceLT, Nat.reduceLeDiff, Nat.reduceEqDiff, Int.reduceLT, Int.reduceBEq, Int.reduceBNe, Nat.reduceBEq, ptr, res_one, Int.reduceToNat, resRow, net_one, rlEnv, rlOwn, numCs, rlCs, rlBox, evn])
    simp only [e8]
    refine ⟨by omega, by omega, hk _ ?_⟩
    simp only [thenK]
    refine ⟨(n0, n1 + 1), .inr ⟨trivial, hnm, rfl, rfl⟩, ?_⟩
    simp -implicitDefEqProofs only [evr, id, seval, ptr, res_one, resRow, net_one, rlEnv, rlOwn, numCs, rlCs, rlBox, evl, evn]
    simp only [hv]
  rintro ⟨m0, m1⟩ hnew
  simp only [thenK, rlEnv, rlOwn, numCs, rlCs, rlBox] at hnew ⊢
  (repeat refine Sat.seq ?_)
  refine Sat.atF (ι := Int) (fun z => ⟨175, (17, .op 4 b17 0) :: (16, .sl pq.a pq.p.length pq.cap 1 (adRd pq.p)) :: (15, .i .i64 fl) :: (14, .op 3 b14 0) :: rlEnv st cb most k1 at2 id2 bn ra rc xs.length na nc zs.length, rlOwn bn na nc zs ra rc xs m0 m1 (rlBox b14 b17 n (rlCs n.v num at2 n.d n.pr fl ttl (.b false) (.b false) z 0 0 0 0 0))⟩) (fun z => at2 ≤ z ∧ z ≤ at2 + 23) ?_ ?_
  ·(refine Sat.region_tree (.keep [0, 2, 6, 1, 3, 4, 5] [7] (.one 7 (.one 8 (.one 9 (.one 10 .done))))) (by kernel_rfl) (by kernel_rfl) (fun _ _ h => h) fun k hk => ?_; simp only [WOT, List.map_cons, List.map_nil, List.getD_cons_zero, List.getD_cons_succ]; simp -implicitDefEqProofs only [evr, id, seval, ptr, res_one, resRow, net_one, rlEnv, rlOwn, numCs, rlCs, rlBox, WOT, evn])
   refine wcall_plain (nextC cb 4 (by omega) (by omega)) rfl (by rintro _ ⟨x, rfl, _⟩; exact ok_plain rfl) ?_
   rintro r ⟨x4, rfl, hd0, hd1⟩
   have ew3 : IntKind.i64.wrap (5 * ttl) = 5 * ttl := w64 (by omega)
   have ew4 : IntKind.i64.wrap (at2 + 5 * ttl) = at2 + 5 * ttl := w64 (by omega)
   have ew5 : IntKind.i64.wrap (at2 + 5 * ttl + x4) = at2 + 5 * ttl + x4 := w64 (by omega)
   simp -implicitDefEqProofs only [evr, id, seval, ptr, res_one, resRow, net_one, rlEnv, rlOwn, numCs, rlCs, rlBox, evn]
   refine hk _ ?_
   simp only [thenK]
   refine ⟨IntKind.i64.wrap (IntKind.i64.wrap (at2 + IntKind.i64.wrap (5 * ttl)) + x4), ⟨by rw [ew3, ew4, ew5]; omega, by rw [ew3, ew4, ew5]; omega⟩, ?_⟩
   simp -implicitDefEqProofs only [evr, id, seval, ptr, res_one, resRow, net_one, rlEnv, rlOwn, numCs, rlCs, rlBox, evl, evn]
  rintro back ⟨hbk0, hbk1⟩
  simp only [thenK, rlEnv, rlOwn, numCs, rlCs, rlBox]
  (repeat refine Sat.seq ?_)
  (refine Sat.region_k fun k hk => ?_; simp -implicitDefEqProofs only [evr, id, seval, ptr, res_one, resRow, net_one, rlEnv, rlOwn, numCs, rlCs, rlBox, evn])
  refine wcall_plain (nextC cb 5 (by omega) (by omega)) rfl (by rintro _ ⟨x, rfl, _⟩; exact ok_plain rfl) ?_
  rintro r ⟨x5, rfl, hq0, hq1⟩
  simp -implicitDefEqProofs only [evr, id, seval, ptr, res_one, resRow, net_one, rlEnv, rlOwn, numCs, rlCs, rlBox, evn]
  have ew6 : IntKind.i64.wrap (1 + x5) = 1 + x5 := w64 (by omega)
  have ew7 : IntKind.i64.wrap (id2 + (1 + x5)) = id2 + (1 + x5) := w64 (by omega)
  obtain ⟨id3, hid5, hid6, hid7⟩ : ∃ y, IntKind.i64.wrap (id2 + IntKind.i64.wrap (1 + x5)) = y ∧ 0 ≤ y ∧ y ≤ id2 + 5 := ⟨_, rfl, by rw [ew6, ew7]; omega, by rw [ew6, ew7]; omega⟩
  simp only [hid5]
  clear ew6 ew7 hid5
  (refine hk _ ?_; clear hk k; try show Sat _ _ _ _ _)
  (repeat refine Sat.seq ?_)
  (refine Sat.region_k fun k hk => ?_; simp -implicitDefEqProofs only [evr, id, seval, ptr, res_one, resRow, net_one, rlEnv, rlOwn, numCs, rlCs, rlBox, evn]; refine hk _ ?_; clear hk k; try show Sat _ _ _ _ _)
  (repeat refine Sat.seq ?_)
  (refine Sat.region_k fun k hk => ?_; simp -implicitDefEqProofs only [evr, id, seval, ptr, res_one, resRow, net_one, rlEnv, rlOwn, numCs, rlCs, rlBox, evn]; refine hk _ ?_; clear hk k; try show Sat _ _ _ _ _)
  (repeat refine Sat.seq ?_)
  refine Sat.atF (ι := Int) (fun z => ⟨175, (18, .i .u32 z) :: (17, .op 4 b17 0) :: (16, .sl pq.a pq.p.length pq.cap 1 (adRd pq.p)) :: (15, .i .i64 fl) :: (14, .op 3 b14 0) :: rlEnv st cb most k1 at2 id3 bn ra rc xs.length na nc zs.length, rlOwn bn na nc zs ra rc xs m0 m1 (rlBox b14 b17 n (rlCs n.v num at2 n.d n.pr fl ttl (.b false) (.b false) back 0 0 0 0 0))⟩) InA ?_ ?_
  ·refine Sat.cond_b rfl (fun h => ?_) (fun h => ?_)
   ·have h3 : ttl ≤ pq.p.length := by simpa using h
    have e9 : IntKind.i64.wrap (ttl - 1) = ttl - 1 := w64 (by omega)
    (refine Sat.region_k fun k hk => ?_; simp -implicitDefEqProofs only [evr, id, seval, ptr, res_one, resRow, net_one, rlEnv, rlOwn, numCs, rlCs, rlBox, evn])
    simp only [e9]
    refine ⟨by omega, hk _ ?_⟩
    simp only [thenK]
    refine ⟨pq.p.getD (ttl - 1).toNat 0, hpok.2 _ (getD_mem (by omega)), ?_⟩
    simp -implicitDefEqProofs only [evr, id, seval, ptr, res_one, resRow, net_one, rlEnv, rlOwn, numCs, rlCs, rlBox, evl, evn]
    rfl
   ·refine Sat.skip ?_
    simp only [thenK]
    refine ⟨n.last, hnk.last, ?_⟩
    simp -implicitDefEqProofs only [evr, id, seval, ptr, res_one, resRow, net_one, rlEnv, rlOwn, numCs, rlCs, rlBox, evl, evn]
  intro fr hfr
  simp only [thenK, rlEnv, rlOwn, numCs, rlCs, rlBox]
  (repeat refine Sat.seq ?_)
  refine Sat.atF (ι := Bool) (fun z => ⟨175, (142, .b z) :: (18, .i .u32 fr) :: (17, .op 4 b17 0) :: (16, .sl pq.a pq.p.length pq.cap 1 (adRd pq.p)) :: (15, .i .i64 fl) :: (14, .op 3 b14 0) :: rlEnv st cb most k1 at2 id3 bn ra rc xs.length na nc zs.length, rlOwn bn na nc zs ra rc xs m0 m1 (rlBox b14 b17 n (rlCs n.v num at2 n.d n.pr fl ttl (.b false) (.b false) back 0 0 0 0 0))⟩) (fun z => z = true → fr ≠ 0) ?_ ?_
  ·(refine Sat.region_k fun k hk => ?_; simp -implicitDefEqProofs only [evr, id, seval, ptr, res_one, resRow, net_one, rlEnv, rlOwn, numCs, rlCs, rlBox, evn])
   refine ⟨fun g1 => ?_, fun g1 => hk _ ?_⟩
   ·refine wcall_plain (boolC cb 5 (by decide) (by decide)) rfl plain_bool ?_
    rintro r ⟨q5, rfl⟩
    simp -implicitDefEqProofs only [evr, id, seval, ptr, res_one, resRow, net_one, rlEnv, rlOwn, numCs, rlCs, rlBox, evn]
    refine hk _ ?_
    simp only [thenK]
    refine ⟨!q5, fun _ => (by simpa using g1), ?_⟩
    simp -implicitDefEqProofs only [evr, id, seval, ptr, res_one, resRow, net_one, rlEnv, rlOwn, numCs, rlCs, rlBox, evl, evn]
   ·simp only [thenK]
    refine ⟨false, fun h9 => (by cases h9), ?_⟩
    simp -implicitDefEqProofs only [evr, id, seval, ptr, res_one, resRow, net_one, rlEnv, rlOwn, numCs, rlCs, rlBox, evl, evn]
  intro ba hba
  simp only [thenK, rlEnv, rlOwn, numCs, rlCs, rlBox]
  (repeat refine Sat.seq ?_)
  refine Sat.atF (ι := SV × SV × Int × Int × Int × Int × Int) (fun z => ⟨175, (17, .op 4 b17 0) :: (16, .sl pq.a pq.p.length pq.cap 1 (adRd pq.p)) :: (15, .i .i64 fl) :: (14, .op 3 b14 0) :: rlEnv st cb most k1 at2 id3 bn ra rc xs.length na nc zs.length, rlOwn bn na nc zs ra rc xs m0 m1 (rlBox b14 b17 n (rlCs n.v num at2 n.d n.pr fl ttl (z.1) (z.2.1) back z.2.2.1 z.2.2.2.1 z.2.2.2.2.1 z.2.2.2.2.2.1 z.2.2.2.2.2.2))⟩) (fun z => ∃ b8 b9, sim z.1 (.b b8) ∧ sim z.2.1 (.b b9) ∧ oneS z.1 = true ∧ oneS z.2.1 = true ∧ InA z.2.2.1 ∧ AnsOk b8 b9 z.2.2.1 z.2.2.2.1 z.2.2.2.2.1 z.2.2.2.2.2.1 z.2.2.2.2.2.2) ?_ ?_
  ·refine Sat.cond_b rfl (fun h => ?_) (fun h => ?_)
   ·have hba1 : ba = true := h
    (repeat refine Sat.seq ?_)
    (refine Sat.region_k fun k hk => ?_; simp -implicitDefEqProofs only [evr, id, seval, ptr, res_one, resRow, net_one, rlEnv, rlOwn, numCs, rlCs, rlBox, evn])
    refine wcall_plain (boolC cb 30 (by decide) (by decide)) rfl plain_bool ?_
    rintro r ⟨q30, rfl⟩
    simp -implicitDefEqProofs only [evr, id, seval, ptr, res_one, resRow, net_one, rlEnv, rlOwn, numCs, rlCs, rlBox, evn]
    (refine hk _ ?_; clear hk k; try show Sat _ _ _ _ _)
    (repeat refine Sat.seq ?_)
    (refine Sat.region_k fun k hk => ?_; simp -implicitDefEqProofs only [evr, id, reduceCtorEq, reduceIte, Nat.reduceMul, Nat.reduceAdd, Nat.reduceLT, Nat.reduceLeDiff, Nat.reduceEqDiff, Int.reduceLT, Int.reduceBEq, Int.reduceBNe, Nat.reduceBEq, ptr, res_one, Int.reduceToNat, resRow, net_one, rlEnv, rlOwn, numCs, rlCs, rlBox, evn])
    obtain ⟨id4, hid8, hid9, hid10⟩ : ∃ y, id3.tmod 65536 = y ∧ 0 ≤ y ∧ y ≤ 65535 := ⟨_, rfl, Int.tmod_nonneg _ hid6, Int.le_of_lt_add_one (Int.tmod_lt_of_pos _ (by decide))⟩
    simp only [hid8]
    clear hid8
    refine ⟨by decide, ?_⟩
    (refine hk _ ?_; clear hk k; try show Sat _ _ _ _ _)
    (repeat refine Sat.seq ?_)
    (refine Sat.region_k fun k hk => ?_; simp -implicitDefEqProofs only [evr, id, seval, ptr, res_one, resRow, net_one, rlEnv, rlOwn, numCs, rlCs, rlBox, evn]; refine hk _ ?_; clear hk k; try show Sat _ _ _ _ _)
    (repeat refine Sat.seq ?_)
    refine Sat.atF (ι := Int) (fun z => ⟨175, (17, .op 4 b17 0) :: (16, .sl pq.a pq.p.length pq.cap 1 (adRd pq.p)) :: (15, .i .i64 fl) :: (14, .op 3 b14 0) :: rlEnv st cb most k1 at2 id3 bn ra rc xs.length na nc zs.length, rlOwn bn na nc zs ra rc xs m0 m1 (rlBox b14 b17 n (rlCs n.v num at2 n.d n.pr fl ttl (.tt) (.b q30) back fr z 60 id4 1))⟩) (fun z => 1 ≤ z ∧ z ≤ 5) ?_ ?_
    ·refine Sat.cond_b rfl (fun h => ?_) (fun h => ?_)
     ·(refine Sat.region_k fun k hk => ?_; simp -implicitDefEqProofs only [evr, id, seval, ptr, res_one, resRow, net_one, rlEnv, rlOwn, numCs, rlCs, rlBox, evn])
      intro bp
      refine wcall_plain (pickI cb bp [3, 3, 2] (fun x => 1 ≤ x ∧ x ≤ 5) (by decide) (by decide) (by decide)) (by simp -implicitDefEqProofs only [evr, id, seval, ptr, res_one, resRow, net_one, rlEnv, rlOwn, numCs, rlCs, rlBox, evn]) plain_pick ?_
      rintro r ⟨x, rfl, hxp⟩
      simp -implicitDefEqProofs only [evr, id, seval, ptr, res_one, resRow, net_one, rlEnv, rlOwn, numCs, rlCs, rlBox, evn]
      refine hk _ ?_
      simp only [thenK]
      refine ⟨x, hxp, ?_⟩
      simp -implicitDefEqProofs only [evr, id, seval, ptr, res_one, resRow, net_one, rlEnv, rlOwn, numCs, rlCs, rlBox, evl, evn]
     ·refine Sat.skip ?_
      simp only [thenK]
      refine ⟨1, ⟨by decide, by decide⟩, ?_⟩
      simp -implicitDefEqProofs only [evr, id, seval, ptr, res_one, resRow, net_one, rlEnv, rlOwn, numCs, rlCs, rlBox, evl, evn]
    rintro kind hkd
    simp only [thenK, rlEnv, rlOwn, numCs, rlCs, rlBox]
    (repeat refine Sat.seq ?_)
    (refine Sat.region_k fun k hk => ?_; simp -implicitDefEqProofs only [evr, id, seval, ptr, res_one, resRow, net_one, rlEnv, rlOwn, numCs, rlCs, rlBox, evn])
    refine wcall_plain (boolC cb 5 (by decide) (by decide)) rfl plain_bool ?_
    rintro r ⟨q6, rfl⟩
    simp -implicitDefEqProofs only [evr, id, seval, ptr, res_one, resRow, net_one, rlEnv, rlOwn, numCs, rlCs, rlBox, evn]
    (refine hk _ ?_; clear hk k; try show Sat _ _ _ _ _)
    refine Sat.cond_b rfl (fun h => ?_) (fun h => ?_)
    ·(refine Sat.region_k fun k hk => ?_; simp -implicitDefEqProofs only [evr, id, seval, ptr, res_one, resRow, net_one, rlEnv, rlOwn, numCs, rlCs, rlBox, evn])
     refine wcall_plain (nextC cb 65536 (by omega) (by omega)) rfl (by rintro _ ⟨x, rfl, _⟩; exact ok_plain rfl) ?_
     rintro r ⟨x6, rfl, hg0, hg1⟩
     simp -implicitDefEqProofs only [evr, id, seval, ptr, res_one, resRow, net_one, rlEnv, rlOwn, numCs, rlCs, rlBox, evn]
     refine hk _ ?_
     simp only [thenK]
     refine ⟨(.tt, .b q30, fr, kind, 60, x6, 1), ⟨true, q30, sim_tt, sim_refl _, rfl, rfl, hfr, .inl ⟨rfl, hba hba1, hkd, rfl, ⟨hg0, by show x6 ≤ 65535; omega⟩, rfl⟩⟩, ?_⟩
     simp -implicitDefEqProofs only [evr, id, seval, ptr, res_one, resRow, net_one, rlEnv, rlOwn, numCs, rlCs, rlBox, evl, evn]
    ·refine Sat.skip ?_
     simp only [thenK]
     refine ⟨(.tt, .b q30, fr, kind, 60, id4, 1), ⟨true, q30, sim_tt, sim_refl _, rfl, rfl, hfr, .inl ⟨rfl, hba hba1, hkd, rfl, ⟨hid9, hid10⟩, rfl⟩⟩, ?_⟩
     simp -implicitDefEqProofs only [evr, id, seval, ptr, res_one, resRow, net_one, rlEnv, rlOwn, numCs, rlCs, rlBox, evl, evn]
   ·refine Sat.skip ?_
    simp only [thenK]
    refine ⟨(.b false, .b false, 0, 0, 0, 0, 0), ⟨false, false, sim_refl _, sim_refl _, rfl, rfl, ⟨by decide, by decide⟩, .inr ⟨rfl, rfl, rfl, rfl, rfl, rfl, rfl⟩⟩, ?_⟩
    simp -implicitDefEqProofs only [evr, id, seval, ptr, res_one, resRow, net_one, rlEnv, rlOwn, numCs, rlCs, rlBox, evl, evn]
  rintro ⟨s8, s9, fr2, kind, left, idv, quo⟩ ⟨b8, b9, hs8, hs9, ho8, ho9, hfr2, hans⟩
  simp only [thenK, rlEnv, rlOwn, numCs, rlCs, rlBox] at hs8 hs9 ho8 ho9 hfr2 hans ⊢
  (repeat refine Sat.seq ?_)
  (refine Sat.region_k fun k hk => ?_; simp -implicitDefEqProofs only [evr, id, seval, ptr, res_one, resRow, net_one, rlEnv, rlOwn, numCs, rlCs, rlBox, evn]; refine hk _ ?_; clear hk k; try show Sat _ _ _ _ _)
  (repeat refine Sat.seq ?_)
  (refine Sat.region_k fun k hk => ?_; simp -implicitDefEqProofs only [evr, id, seval, ptr, res_one, resRow, net_one, rlEnv, rlOwn, numCs, rlCs, rlBox, evn])
  simp -implicitDefEqProofs only [evr, id, seval, ptr, res_one, resRow, net_one, rlEnv, rlOwn, numCs, rlCs, rlBox, ho8, ho9, evn]
  intro b18
  refine ⟨⟨by unfold maxLen; omega, by omega⟩, fun a2 cap2 => ?_⟩
  (refine hk _ ?_; clear hk k; try show Sat _ _ _ _ _)
  obtain ⟨r, hr⟩ : ∃ r : Res, r = ⟨n.v, 0, num, at2, n.d, n.pr, fl, ttl, b8, b9, back, fr2, kind, 0, left, idv, quo⟩ := ⟨_, rfl⟩
  refine Sat.reread 2 (resRd (xs ++ [r]).toArray) rfl ?_ ?_
  ·refine res_appS ?_
   subst hr
   simp only [Res.cs, simA]
   refine ⟨?_, ?_, ?_, ?_, ?_, ?_, ?_, ?_, ?_, ?_, ?_, ?_, ?_, ?_, ?_, ?_, ?_, trivial⟩ <;> first | exact sim_refl _ | exact hs8 | exact hs9
  simp -implicitDefEqProofs only [evr, id, seval, ptr, res_one, resRow, net_one, rlEnv, rlOwn, numCs, rlCs, rlBox, evn]
  refine Sat.region_k fun k hk => ?_
  simp -implicitDefEqProofs only [evr, id, seval, ptr, res_one, resRow, net_one, rlEnv, rlOwn, numCs, rlCs, rlBox, e2, evn]
  refine hk _ ?_
  simp only [thenK, blockK]
  have hrg : RgR r := by subst hr; exact ⟨w64_inA hnk.d, w64_inA hfr2⟩
  have hnum0 : 0 ≤ num ∧ num < 1000 := by rcases hnew with ⟨g1, g2, g3, g4⟩ | ⟨g1, g2, g3, g4⟩ <;> omega
  have hnv := hnk.v
  have hval : validR r = true := by
   subst hr
   exact rlt_valid hnk.v hnum0 ⟨by omega, by omega, by omega⟩ hnk.d0 hnk.pr ⟨by omega, by omega⟩ ⟨by omega, by omega⟩ hans
  have hI2 : RltI (xs ++ [r]) m0 m1 := by
   rcases hnew with ⟨g1, g2, g3, g4⟩ | ⟨g1, g2, g3, g4⟩
   ·rw [g3, g4]; exact hI.snoc0 hrg hval (by subst hr; exact g1) (by subst hr; exact g2)
   ·rw [g3, g4]; exact hI.snoc1 hrg hval (by subst hr; exact g1) (by subst hr; exact g2)
  refine ⟨⟨k1 - 1, back, id3, na, nc, zs, a2, cap2, xs ++ [r], m0, m1⟩, ⟨by simp; omega, hnl, hzok, hI2, by simp; omega, by simp; omega, ⟨by simp only; omega, by simp only [List.length_append, List.length_singleton]; omega⟩, ⟨by simp only; omega, by simp only [List.length_append, List.length_singleton]; omega⟩⟩, by simp only; omega, ?_⟩
  simp only [List.length_append, List.length_singleton]
  simp -implicitDefEqProofs only [evr, id, seval, ptr, res_one, resRow, net_one, rlEnv, rlOwn, numCs, rlCs, rlBox, evl, evn]
 ·have h0 : k1 = 0 := by simp only [decide_eq_false_iff_not] at h; omega
  refine Sat.exit ?_
  simp only [thenK, blockK, reduceIte]
  (repeat refine Sat.seq ?_)
  (refine Sat.region_k fun k hk => ?_; simp -implicitDefEqProofs only [evr, id, seval, ptr, res_one, resRow, net_one, rlEnv, rlOwn, numCs, rlCs, rlBox, evn]; refine hk _ ?_; clear hk k; try show Sat _ _ _ _ _)
  refine Sat.ret ?_
  simp only [Try.results9, evr, id, reduceCtorEq, reduceIte, Nat.reduceMul, Nat.reduceAdd, Nat.reduceLT, Nat.reduceLeDiff, Nat.reduceEqDiff, Int.reduceLT, Int.reduceBEq, Int.reduceBNe, Nat.reduceBEq, ptr, res_one, List.append_nil, Int.toNat_zero, Nat.sub_self, Int.reduceToNat, resRow, net_one, rlEnv, rlOwn, numCs, rlCs, rlBox, retN, retNK, newRow]
  exact ⟨⟨rfl, rfl, rfl⟩, ra, rc, xs, n0, n1, hI, by omega, rfl⟩
end Go.Proofs.Ytepbdjpcoleegaa
