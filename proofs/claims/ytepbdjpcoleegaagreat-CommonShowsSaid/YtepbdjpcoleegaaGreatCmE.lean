import Derived.Test.YtepbdjpcoleegaaGreatCmD

/- Evidence, by the evaluator: paths.Find, common.ValidEvidence, common.Holds. -/
set_option linter.unusedSimpArgs false
set_option linter.unusedVariables false
namespace Go.Proofs.YtepbdjpcoleegaaGreat
open Go.Sort Eng
def findP (o : Option Res) (r : Res) (d : Idn) : Bool := decide (r.idn = d) && ((match o with | none => true | some b => decide (wCompare r b < 0)) && validR r)
def findStep (d : Idn) (o : Option Res) (r : Res) : Option Res := if findP o r d = true then some r else o
def findV (xs : List Res) (d : Idn) : Option Res := xs.foldl (findStep d) none
theorem findP_1 {o : Option Res} {r : Res} {d : Idn} (h : (⟨r.vantage, r.run, r.number⟩ : Idn) = ⟨d.van, d.run, d.num⟩) (ho : (!o.isSome) = true) : validR r = findP o r d := by
  have e : r.idn = d := h
  cases o with
  | none => unfold findP; rw [decide_eq_true e]; rfl
  | some b => cases ho
theorem findP_2 {o : Option Res} {r : Res} {d : Idn} (h : (⟨r.vantage, r.run, r.number⟩ : Idn) = ⟨d.van, d.run, d.num⟩) (ho : (!o.isSome) = false) (hc : wCompare r (o.getD default) < 0) : validR r = findP o r d := by
  have e : r.idn = d := h
  cases o with
  | none => cases ho
  | some b => unfold findP; rw [decide_eq_true e]; simp only [decide_eq_true (show wCompare r b < 0 from hc)]; rfl
theorem findP_3 {o : Option Res} {r : Res} {d : Idn} (ho : (!o.isSome) = false) (hc : ¬ wCompare r (o.getD default) < 0) : false = findP o r d := by
  cases o with
  | none => cases ho
  | some b => unfold findP; simp only [decide_eq_false (show ¬ wCompare r b < 0 from hc), Bool.false_and, Bool.and_false]
theorem findP_4 {o : Option Res} {r : Res} {d : Idn} (h : ¬ (⟨r.vantage, r.run, r.number⟩ : Idn) = ⟨d.van, d.run, d.num⟩) : false = findP o r d := by
  have e : ¬ r.idn = d := h
  unfold findP; rw [decide_eq_false e]; rfl
theorem findV_take (xs : List Res) (d : Idn) (i : Nat) (h : i < xs.length) : findV (xs.take (i + 1)) d = findStep d (findV (xs.take i) d) xs[i] := by
  unfold findV
  rw [List.take_succ_eq_append_getElem h, List.foldl_append]
  rfl
theorem findV_some {d : Idn} : ∀ {xs : List Res} {o : Option Res} {r : Res}, xs.foldl (findStep d) o = some r → (r ∈ xs ∧ validR r = true ∧ r.idn = d) ∨ o = some r
  | [], o, r, h => .inr h
  | x :: xs, o, r, h => by
    rcases findV_some (xs := xs) h with ⟨h1, h2⟩ | h1
    · exact .inl ⟨by simp [h1], h2⟩
    · unfold findStep at h1
      split at h1
      · rename_i hp
        cases h1
        simp only [findP, Bool.and_eq_true, decide_eq_true_eq] at hp
        exact .inl ⟨by simp, hp.2.2, hp.1⟩
      · exact .inr h1
theorem findV_none {d : Idn} : ∀ {xs : List Res} {o : Option Res}, xs.foldl (findStep d) o = none → o = none ∧ ∀ r ∈ xs, validR r = true → r.idn ≠ d
  | [], o, h => ⟨h, fun r hr => by cases hr⟩
  | x :: xs, o, h => by
    obtain ⟨h1, h2⟩ := findV_none (xs := xs) h
    unfold findStep at h1
    split at h1
    · cases h1
    · rename_i hp
      subst h1
      refine ⟨rfl, fun r hr hv he => ?_⟩
      rcases List.mem_cons.1 hr with rfl | hr
      · exact hp (by simp [findP, he, hv])
      · exact h2 r hr hv he
def findS : Option Res → SV
  | some r => tupL [resAg r, .b true]
  | none => tupL [resAg default, .b false]
theorem findS_ok (o : Option Res) (R : Nat → Prop) (w : World) : (findS o).ok R w := by
  cases o <;>
  · intro j hj
    have hj2 : j < 2 := hj
    rcases (show j = 0 ∨ j = 1 by omega) with rfl | rfl
    · exact ok_aggL (l := Res.cs _) rfl R w
    · trivial
theorem id_eqs (a b c a' b' c' : Int) : aggEq Tryz.prog 30 3 (fun j => [SV.i .i64 a, .i .i64 b, .i .i64 c].getD j default) 3 (fun j => [SV.i .i64 a', .i .i64 b', .i .i64 c'].getD j default) = some ([a == a', b == b', c == c'].all id) := by kernel_rfl
theorem id_eq (a b c a' b' c' : Int) : aggEq Tryz.prog 30 3 (fun j => [SV.i .i64 a, .i .i64 b, .i .i64 c].getD j default) 3 (fun j => [SV.i .i64 a', .i .i64 b', .i .i64 c'].getD j default) = some (decide ((⟨a, b, c⟩ : Idn) = ⟨a', b', c'⟩)) := by
  rw [id_eqs]
  congr 1
  apply Bool.eq_iff_iff.2
  simp
set_option maxHeartbeats 1000000 in
set_option maxRecDepth 100000 in
theorem findC (F : Frm) (ad : Option Addr) (cap : Nat) (xs : List Res) (d : Idn) (hl : xs.length ≤ 1000000000) :
    Contract F Tryz.prog 52 [.sl ad xs.length cap 17 (resRd xs.toArray), idnAg d] (fun r => r = findS (findV xs d)) := by
  refine contract_of Tryz.func52 rfl (by kernel_rfl) ?_
  simp only [Tryz.ntmps52, argEnv, idnAg, Idn.cs]
  (repeat refine Sat.seq ?_)
  (refine Sat.region_k fun k hk => ?_; simp -implicitDefEqProofs only [evr, id, seval, res_one, par_one, idn_one, idn_0, idn_1, idn_2, resRow, res_ro, rExtract_tup, id_eq, idAg, evn])
  intro b3 b4
  (refine hk _ ?_; clear hk k; try show Sat _ _ _ _ _)
  (repeat refine Sat.seq ?_)
  (refine Sat.region_k fun k hk => ?_; simp -implicitDefEqProofs only [evr, id, seval, res_one, par_one, idn_one, idn_0, idn_1, idn_2, resRow, res_ro, rExtract_tup, id_eq, idAg, evn])
  intro b6
  (refine hk _ ?_; clear hk k; try show Sat _ _ _ _ _)
  (repeat refine Sat.seq ?_)
  (refine Sat.region_k fun k hk => ?_; simp -implicitDefEqProofs only [evr, id, seval, res_one, par_one, idn_one, idn_0, idn_1, idn_2, resRow, res_ro, rExtract_tup, id_eq, idAg, evn]; refine hk _ ?_; clear hk k; try show Sat _ _ _ _ _)
  (repeat refine Sat.seq ?_)
  (refine Sat.region_k fun k hk => ?_; simp -implicitDefEqProofs only [evr, id, seval, res_one, par_one, idn_one, idn_0, idn_1, idn_2, resRow, res_ro, rExtract_tup, id_eq, idAg, evn]; refine hk _ ?_; clear hk k; try show Sat _ _ _ _ _)
  (repeat refine Sat.seq ?_)
  refine Sat.block ?_
  refine Sat.loop (ι := Nat × Option Res) (fun z => ⟨38, [(12, .i .i64 z.1), (11, .i .i64 xs.length), (10, .sl ad xs.length cap 17 (resRd xs.toArray)), (7, .b z.2.isSome), (6, .op 2 b6 0), (4, .op 1 b4 0), (3, .op 0 b3 0)],
      [.box b3 30 [.i .i64 d.van, .i .i64 d.run, .i .i64 d.num], .box b4 51 (Res.cs default), .box b6 51 (Res.cs (z.2.getD default))]⟩)
    (fun z => z.1 ≤ xs.length ∧ z.2 = findV (xs.take z.1) d) (fun z => xs.length - z.1) (0, none) ⟨Nat.zero_le _, rfl⟩ (by
      simp only [Option.getD_none, Option.isSome_none, Res.cs]
      simp -implicitDefEqProofs only [evr, id, seval, res_one, par_one, idn_one, idn_0, idn_1, idn_2, resRow, res_ro, rExtract_tup, id_eq, idAg, evl, evn]
      first | done | rfl | exact ⟨rfl, rfl⟩ | trace_state) ?_
  rintro ⟨i, o⟩ ⟨hi, ho⟩
  simp only [Res.cs] at hi ho ⊢
  (repeat refine Sat.seq ?_)
  (refine Sat.region_k fun k hk => ?_; simp -implicitDefEqProofs only [evr, id, seval, res_one, par_one, idn_one, idn_0, idn_1, idn_2, resRow, res_ro, rExtract_tup, id_eq, idAg, evn]; refine hk _ ?_; clear hk k; try show Sat _ _ _ _ _)
  (repeat refine Sat.seq ?_)
  refine Sat.cond_b rfl (fun h => ?_) (fun h => ?_)
  · have h1 : i < xs.length := by simp only [decide_eq_true_eq] at h; omega
    have e1 : IntKind.i64.wrap ((i : Int) + 1) = ((i + 1 : Nat) : Int) := by rw [w64 (by omega)]; omega
    have hst := findV_take xs d i h1
    rw [← ho] at hst
    refine Sat.skip ?_
    simp only [thenK]
    (repeat refine Sat.seq ?_)
    refine Sat.block ?_
    (repeat refine Sat.seq ?_)
    (refine Sat.region_k fun k hk => ?_; simp -implicitDefEqProofs only [evr, id, seval, res_one, par_one, idn_one, idn_0, idn_1, idn_2, resRow, res_ro, rExtract_tup, id_eq, idAg, evn])
    refine ⟨by omega, fun b9 => ?_⟩
    (refine hk _ ?_; clear hk k; try show Sat _ _ _ _ _)
    obtain ⟨r, hr⟩ : ∃ r, r = xs.toArray[i]! := ⟨_, rfl⟩
    have hrx : xs[i] = r := by rw [hr]; simp [getElem!_def, h1]
    rw [hrx] at hst
    (repeat refine Sat.seq ?_)
    refine Sat.joinK (ι := Bool) (fun q => ⟨38, [(33, .b q), (9, .op 3 b9 0), (12, .i .i64 i), (11, .i .i64 xs.length), (10, .sl ad xs.length cap 17 (resRd xs.toArray)), (7, .b o.isSome), (6, .op 2 b6 0), (4, .op 1 b4 0), (3, .op 0 b3 0)], [.box b3 30 [.i .i64 d.van, .i .i64 d.run, .i .i64 d.num], .box b4 51 (Res.cs default), .box b6 51 (Res.cs (o.getD default)), .box b9 51 [resRd xs.toArray i 0, resRd xs.toArray i 1, resRd xs.toArray i 2, resRd xs.toArray i 3, resRd xs.toArray i 4, resRd xs.toArray i 5, resRd xs.toArray i 6, resRd xs.toArray i 7, resRd xs.toArray i 8, resRd xs.toArray i 9, resRd xs.toArray i 10, resRd xs.toArray i 11, resRd xs.toArray i 12, resRd xs.toArray i 13, resRd xs.toArray i 14, resRd xs.toArray i 15, resRd xs.toArray i 16]]⟩) (fun q => q = findP o r d) (fun hrest => ?_) ?_
    · (refine Sat.region_tree (.keep [0, 2] [1] (.one 1 (.one 3 (.one 4 (.one 5 (.one 6 (.one 7 (.alt 8 (.one 9 (.one 10 (.one 11 (.one 12 (.one 13 (.one 14 (.one 15 (.one 16 (.one 17 .done))))))))) (.alt 9 (.one 8 (.one 10 (.one 11 (.one 12 (.one 13 (.one 14 (.one 15 (.one 16 (.one 17 .done))))))))) .none))))))))) (by kernel_rfl) (by kernel_rfl) (fun _ _ h => h) fun k hk => ?_; simp only [WOT, List.map_cons, List.map_nil, List.getD_cons_zero, List.getD_cons_succ]; simp -implicitDefEqProofs only [evr, id, seval, res_one, par_one, idn_one, idn_0, idn_1, idn_2, resRow, res_ro, rExtract_tup, id_eq, idAg, WOT, evn])
      refine wcall_plain (identC F xs.toArray[i]!) rfl (by rintro _ rfl; exact ok_aggL (l := [SV.i .i64 _, .i .i64 _, .i .i64 _]) rfl) ?_
      rintro _ rfl
      rw [← hr]
      simp -implicitDefEqProofs only [evr, id, seval, res_one, par_one, idn_one, idn_0, idn_1, idn_2, resRow, res_ro, rExtract_tup, id_eq, idAg, evn]
      repeat' (first
        | (with_reducible refine And.intro ?_ ?_)
        | (with_reducible intro _)
        | (refine wcall_plain (validC F xs.toArray[i]!) rfl (by rintro _ rfl; exact ok_plain rfl) ?_
           rintro _ rfl
           rw [← hr]
           simp -implicitDefEqProofs only [evr, id, seval, res_one, par_one, idn_one, idn_0, idn_1, idn_2, resRow, res_ro, rExtract_tup, id_eq, idAg, evn])
        | (refine wcall_plain (pcompareC F xs.toArray[i]! (o.getD default)) rfl (by rintro _ rfl; exact ok_plain rfl) ?_
           rintro _ rfl
           rw [← hr]
           simp -implicitDefEqProofs only [evr, id, seval, res_one, par_one, idn_one, idn_0, idn_1, idn_2, resRow, res_ro, rExtract_tup, id_eq, idAg, evn])
        | (refine hk _ ?_
           simp only [thenK]
           first
           | (refine (hrest _ (findP_1 (by assumption) (by assumption))).le ?_
              simp only [Res.cs]
              simp -implicitDefEqProofs only [evr, id, seval, res_one, par_one, idn_one, idn_0, idn_1, idn_2, resRow, res_ro, rExtract_tup, id_eq, idAg, evl, evn]
              done)
           | (refine (hrest _ (findP_2 (by assumption) (by assumption) (by assumption))).le ?_
              simp only [Res.cs]
              simp -implicitDefEqProofs only [evr, id, seval, res_one, par_one, idn_one, idn_0, idn_1, idn_2, resRow, res_ro, rExtract_tup, id_eq, idAg, evl, evn]
              done)
           | (refine (hrest _ (findP_3 (by assumption) (by assumption))).le ?_
              simp only [Res.cs]
              simp -implicitDefEqProofs only [evr, id, seval, res_one, par_one, idn_one, idn_0, idn_1, idn_2, resRow, res_ro, rExtract_tup, id_eq, idAg, evl, evn]
              done)
           | (refine (hrest _ (findP_4 (by assumption))).le ?_
              simp only [Res.cs]
              simp -implicitDefEqProofs only [evr, id, seval, res_one, par_one, idn_one, idn_0, idn_1, idn_2, resRow, res_ro, rExtract_tup, id_eq, idAg, evl, evn]
              done)))
    rintro q rfl
    simp only [Res.cs]
    refine Sat.atF (ι := Option Res) (fun z => ⟨38, [(12, .i .i64 i), (11, .i .i64 xs.length), (10, .sl ad xs.length cap 17 (resRd xs.toArray)), (7, .b z.isSome), (6, .op 2 b6 0), (4, .op 1 b4 0), (3, .op 0 b3 0)],
      [.box b3 30 [.i .i64 d.van, .i .i64 d.run, .i .i64 d.num], .box b4 51 (Res.cs default), .box b6 51 (Res.cs (z.getD default))]⟩) (fun z => z = findStep d o r) ?_ ?_
    · refine Sat.cond_b rfl (fun h2 => ?_) (fun h2 => ?_)
      · (refine Sat.region_k fun k hk => ?_; simp -implicitDefEqProofs only [evr, id, seval, res_one, par_one, idn_one, idn_0, idn_1, idn_2, resRow, res_ro, rExtract_tup, id_eq, idAg, evn]; refine hk _ ?_; clear hk k; try show Sat _ _ _ _ _)
        simp only [thenK]
        refine ⟨some r, by unfold findStep; rw [if_pos h2], ?_⟩
        simp only [Res.cs, Option.getD_some, Option.isSome_some]
        simp -implicitDefEqProofs only [evr, id, seval, res_one, par_one, idn_one, idn_0, idn_1, idn_2, resRow, res_ro, rExtract_tup, id_eq, idAg, evl, evn]
        rw [hr]
        rfl
      · refine Sat.skip ?_
        simp only [thenK]
        refine ⟨o, by unfold findStep; rw [if_neg (by rw [h2]; decide)], ?_⟩
        simp only [Res.cs]
        simp -implicitDefEqProofs only [evr, id, seval, res_one, par_one, idn_one, idn_0, idn_1, idn_2, resRow, res_ro, rExtract_tup, id_eq, idAg, evl, evn]
    rintro z hz
    simp only [thenK, blockK, Res.cs]
    refine Sat.region_k fun k hk => ?_
    simp -implicitDefEqProofs only [evr, id, seval, res_one, par_one, idn_one, idn_0, idn_1, idn_2, resRow, res_ro, rExtract_tup, id_eq, idAg, e1, evn]
    refine hk _ ?_
    simp only [thenK, blockK]
    refine ⟨(i + 1, z), ⟨h1, by rw [hz, ← hst]⟩, by simp only; omega, ?_⟩
    simp only [Res.cs]
    simp -implicitDefEqProofs only [evr, id, seval, res_one, par_one, idn_one, idn_0, idn_1, idn_2, resRow, res_ro, rExtract_tup, id_eq, idAg, evl, evn]
  · have h1 : i = xs.length := by simp only [decide_eq_false_iff_not] at h; omega
    subst h1
    rw [List.take_length] at ho
    refine Sat.exit ?_
    simp only [thenK, blockK, reduceIte]
    (repeat refine Sat.seq ?_)
    (refine Sat.region_k fun k hk => ?_; simp -implicitDefEqProofs only [evr, id, seval, res_one, par_one, idn_one, idn_0, idn_1, idn_2, resRow, res_ro, rExtract_tup, id_eq, idAg, evn]; refine hk _ ?_; clear hk k; try show Sat _ _ _ _ _)
    refine Sat.ret ?_
    simp only [Tryz.results52, evr, id, seval, res_one, par_one, idn_one, idn_0, idn_1, idn_2, List.append_nil, Int.toNat_zero, Nat.sub_self, Int.reduceToNat, resRow, res_ro, rExtract_tup, id_eq, idAg]
    rw [← ho]
    cases o <;> rfl
end Go.Proofs.YtepbdjpcoleegaaGreat
