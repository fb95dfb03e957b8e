import Derived.Test.YtfeiiadligkamaaGreatCmC
import Derived.Sort.AssemblyPlain
import Derived.Test.YtfeiiadligkamaaGreatExM
import Derived.Test.YtfeiiadligkamaaGreatExcMath

/- Evidence, by the evaluator: common.Compare, ValidEvidence, paths.Find, common.Holds. -/
set_option linter.unusedSimpArgs false
set_option linter.unusedVariables false
namespace Go.Proofs.YtfeiiadligkamaaGreat
open Go.Sort Eng
theorem idn_0 (d : Array Idn) (i : Nat) : idnRd d i 0 = .i .i64 d[i]!.van := rfl
theorem idn_1 (d : Array Idn) (i : Nat) : idnRd d i 1 = .i .i64 d[i]!.run := rfl
theorem idn_2 (d : Array Idn) (i : Nat) : idnRd d i 2 = .i .i64 d[i]!.num := rfl
def cmpIds : List Idn → List Idn → Int
 | [], [] => 0
 | [], _ :: _ => -1
 | _ :: _, [] => 1
 | x :: xs, y :: ys => if idnCmpI x y ≠ 0 then idnCmpI x y else cmpIds xs ys
theorem cmpIds_step {xs ys : List Idn} {i : Nat} (h1 : i < xs.length) (h2 : i < ys.length) : cmpIds (xs.drop i) (ys.drop i) = if idnCmpI xs[i] ys[i] ≠ 0 then idnCmpI xs[i] ys[i] else cmpIds (xs.drop (i + 1)) (ys.drop (i + 1)) := by
 rw [List.drop_eq_getElem_cons h1, List.drop_eq_getElem_cons h2, cmpIds]
theorem idnGet {xs : List Idn} {i : Nat} (h : i < xs.length) : xs.toArray[i]! = xs[i] := by simp [getElem!_def, h]
set_option maxRecDepth 100000 in
theorem cmpFuncC (F : Frm) (a b : Option Addr) (cap cap2 : Nat) (xs ys : List Idn) (cc : Nat → SV) (hx : xs.length ≤ 1000000000) (hy : ys.length ≤ 1000000000) :
  Contract F Tryz.prog 103 [.sl a xs.length cap 3 (idnRd xs.toArray), .sl b ys.length cap2 3 (idnRd ys.toArray), .fn 48 0 cc] (fun r => r = .i .i64 (cmpIds xs ys)) := by
 refine contract_of Tryz.func103 rfl (by kernel_rfl) ?_
 simp only [Tryz.ntmps103, argEnv]
 (repeat refine Sat.seq ?_)
 (refine Sat.region_k fun k hk => ?_; simp -implicitDefEqProofs only [evr, id, seval, res_one, par_one, idn_one, idn_0, idn_1, idn_2, resRow, res_ro, rExtract_tup, evn]; refine hk _ ?_; clear hk k; try show Sat _ _ _ _ _)
 (repeat refine Sat.seq ?_)
 (refine Sat.region_k fun k hk => ?_; simp -implicitDefEqProofs only [evr, id, seval, res_one, par_one, idn_one, idn_0, idn_1, idn_2, resRow, res_ro, rExtract_tup, evn]; refine hk _ ?_; clear hk k; try show Sat _ _ _ _ _)
 (repeat refine Sat.seq ?_)
 refine Sat.block ?_
 refine Sat.loop (ι := Nat) (fun i => ⟨39, [(13, .i .i64 i), (12, .i .i64 xs.length), (11, .sl a xs.length cap 3 (idnRd xs.toArray)), (0, .sl a xs.length cap 3 (idnRd xs.toArray)), (1, .sl b ys.length cap2 3 (idnRd ys.toArray)), (2, .fn 48 0 cc)], []⟩)
  (fun i => i ≤ xs.length ∧ i ≤ ys.length ∧ cmpIds (xs.drop i) (ys.drop i) = cmpIds xs ys) (fun i => xs.length - i) 0 ⟨Nat.zero_le _, Nat.zero_le _, rfl⟩ (by simp -implicitDefEqProofs only [evr, id, seval, res_one, par_one, idn_one, idn_0, idn_1, idn_2, resRow, res_ro, rExtract_tup, evl, evn]; try rfl) ?_
 rintro i ⟨hi, hi2, hc⟩
 (repeat refine Sat.seq ?_)
 (refine Sat.region_k fun k hk => ?_; simp -implicitDefEqProofs only [evr, id, seval, res_one, par_one, idn_one, idn_0, idn_1, idn_2, resRow, res_ro, rExtract_tup, evn]; refine hk _ ?_; clear hk k; try show Sat _ _ _ _ _)
 (repeat refine Sat.seq ?_)
 refine Sat.cond_b rfl (fun h => ?_) (fun h => ?_)
 ·have h1 : i < xs.length := by simp only [decide_eq_true_eq] at h; omega
  have e1 : IntKind.i64.wrap ((i : Int) + 1) = ((i + 1 : Nat) : Int) := by rw [w64 (by omega)]; omega
  refine Sat.skip ?_
  simp only [thenK]
  (repeat refine Sat.seq ?_)
  refine Sat.block ?_
  (repeat refine Sat.seq ?_)
  (refine Sat.region_k fun k hk => ?_; simp -implicitDefEqProofs only [evr, id, seval, res_one, par_one, idn_one, idn_0, idn_1, idn_2, resRow, res_ro, rExtract_tup, evn])
  refine ⟨by omega, fun b8 => ?_⟩
  (refine hk _ ?_; clear hk k; try show Sat _ _ _ _ _)
  (repeat refine Sat.seq ?_)
  (refine Sat.region_k fun k hk => ?_; simp -implicitDefEqProofs only [evr, id, seval, res_one, par_one, idn_one, idn_0, idn_1, idn_2, resRow, res_ro, rExtract_tup, evn]; refine hk _ ?_; clear hk k; try show Sat _ _ _ _ _)
  (repeat refine Sat.seq ?_)
  refine Sat.cond_b rfl (fun h2 => ?_) (fun h2 => ?_)
  ·have hle : ys.length ≤ i := by simp only [decide_eq_true_eq] at h2; omega
   (repeat refine Sat.seq ?_)
   (refine Sat.region_k fun k hk => ?_; simp -implicitDefEqProofs only [evr, id, seval, res_one, par_one, idn_one, idn_0, idn_1, idn_2, resRow, res_ro, rExtract_tup, evn]; refine hk _ ?_; clear hk k; try show Sat _ _ _ _ _)
   refine Sat.ret ?_
   simp only [blockK, Tryz.results103, evr, id, seval, res_one, par_one, idn_one, idn_0, idn_1, idn_2, List.append_nil, Int.toNat_zero, Nat.sub_self, Int.reduceToNat, resRow, res_ro, rExtract_tup]
   rw [← hc, List.drop_eq_getElem_cons h1, List.drop_eq_nil_of_le hle, cmpIds]
  have h3 : i < ys.length := by simp only [decide_eq_false_iff_not] at h2; omega
  have hst := cmpIds_step h1 h3
  rw [hc] at hst
  refine Sat.skip ?_
  simp only [thenK]
  (repeat refine Sat.seq ?_)
  (refine Sat.region_k fun k hk => ?_; simp -implicitDefEqProofs only [evr, id, seval, res_one, par_one, idn_one, idn_0, idn_1, idn_2, resRow, res_ro, rExtract_tup, evn])
  refine ⟨by omega, fun b9 => ?_⟩
  (refine hk _ ?_; clear hk k; try show Sat _ _ _ _ _)
  (repeat refine Sat.seq ?_)
  (refine Sat.region_k fun k hk => ?_; simp -implicitDefEqProofs only [evr, id, seval, res_one, par_one, idn_one, idn_0, idn_1, idn_2, resRow, res_ro, rExtract_tup, evn])
  refine wcall_plain (compareIdC F xs.toArray[i]! ys.toArray[i]!) rfl (by rintro _ rfl; exact ok_plain rfl) ?_
  rintro _ rfl
  rw [idnGet h1, idnGet h3]
  simp -implicitDefEqProofs only [evr, id, seval, res_one, par_one, idn_one, idn_0, idn_1, idn_2, resRow, res_ro, rExtract_tup, evn]
  (refine hk _ ?_; clear hk k; try show Sat _ _ _ _ _)
  (repeat refine Sat.seq ?_)
  (refine Sat.region_k fun k hk => ?_; simp -implicitDefEqProofs only [evr, id, seval, res_one, par_one, idn_one, idn_0, idn_1, idn_2, resRow, res_ro, rExtract_tup, evn]; refine hk _ ?_; clear hk k; try show Sat _ _ _ _ _)
  (repeat refine Sat.seq ?_)
  refine Sat.cond_b rfl (fun h4 => ?_) (fun h4 => ?_)
  ·have hne : idnCmpI xs[i] ys[i] ≠ 0 := by simpa using h4
   rw [if_pos hne] at hst
   (repeat refine Sat.seq ?_)
   (refine Sat.region_k fun k hk => ?_; simp -implicitDefEqProofs only [evr, id, seval, res_one, par_one, idn_one, idn_0, idn_1, idn_2, resRow, res_ro, rExtract_tup, evn]; refine hk _ ?_; clear hk k; try show Sat _ _ _ _ _)
   refine Sat.ret ?_
   simp only [blockK, Tryz.results103, evr, id, seval, res_one, par_one, idn_one, idn_0, idn_1, idn_2, List.append_nil, Int.toNat_zero, Nat.sub_self, Int.reduceToNat, resRow, res_ro, rExtract_tup]
   rw [hst]
  have hz : idnCmpI xs[i] ys[i] = 0 := by simpa using h4
  rw [if_neg (by simpa using hz)] at hst
  refine Sat.skip ?_
  simp only [thenK, blockK]
  refine Sat.region_k fun k hk => ?_
  simp -implicitDefEqProofs only [evr, id, seval, res_one, par_one, idn_one, idn_0, idn_1, idn_2, resRow, res_ro, rExtract_tup, e1, evn]
  refine hk _ ?_
  simp only [thenK, blockK]
  refine ⟨i + 1, ⟨h1, h3, hst.symm⟩, by omega, ?_⟩
  simp -implicitDefEqProofs only [evr, id, seval, res_one, par_one, idn_one, idn_0, idn_1, idn_2, resRow, res_ro, rExtract_tup, evl, evn]
 have h1 : i = xs.length := by simp only [decide_eq_false_iff_not] at h; omega
 subst h1
 rw [List.drop_length] at hc
 refine Sat.exit ?_
 simp only [thenK, blockK, reduceIte]
 (repeat refine Sat.seq ?_)
 (refine Sat.region_k fun k hk => ?_; simp -implicitDefEqProofs only [evr, id, seval, res_one, par_one, idn_one, idn_0, idn_1, idn_2, resRow, res_ro, rExtract_tup, evn]; refine hk _ ?_; clear hk k; try show Sat _ _ _ _ _)
 (repeat refine Sat.seq ?_)
 refine Sat.cond_b rfl (fun h2 => ?_) (fun h2 => ?_)
 ·have hlt : xs.length < ys.length := by simp only [decide_eq_true_eq] at h2; omega
  (repeat refine Sat.seq ?_)
  (refine Sat.region_k fun k hk => ?_; simp -implicitDefEqProofs only [evr, id, seval, res_one, par_one, idn_one, idn_0, idn_1, idn_2, resRow, res_ro, rExtract_tup, evn]; refine hk _ ?_; clear hk k; try show Sat _ _ _ _ _)
  refine Sat.ret ?_
  simp only [Tryz.results103, evr, id, seval, res_one, par_one, idn_one, idn_0, idn_1, idn_2, List.append_nil, Int.toNat_zero, Nat.sub_self, Int.reduceToNat, resRow, res_ro, rExtract_tup]
  rw [← hc, List.drop_eq_getElem_cons hlt, cmpIds]
 have hle : ys.length ≤ xs.length := by simp only [decide_eq_false_iff_not] at h2; omega
 refine Sat.skip ?_
 simp only [thenK]
 (repeat refine Sat.seq ?_)
 (refine Sat.region_k fun k hk => ?_; simp -implicitDefEqProofs only [evr, id, seval, res_one, par_one, idn_one, idn_0, idn_1, idn_2, resRow, res_ro, rExtract_tup, evn]; refine hk _ ?_; clear hk k; try show Sat _ _ _ _ _)
 refine Sat.ret ?_
 simp only [Tryz.results103, evr, id, seval, res_one, par_one, idn_one, idn_0, idn_1, idn_2, List.append_nil, Int.toNat_zero, Nat.sub_self, Int.reduceToNat, resRow, res_ro, rExtract_tup]
 rw [← hc, List.drop_eq_nil_of_le hle, cmpIds]
def evAg (e : Evd) : SV := .agg 4 fun j => (Evd.cs e).getD j default
def evCmp (e f : Evd) : Int := orL [ordI e.kind f.kind, ordI e.a f.a, ordI e.b f.b, cmpIds e.ids f.ids]
set_option maxHeartbeats 1000000 in
set_option maxRecDepth 100000 in
theorem compareEvC (F : Frm) (e f : Evd) (he : e.ids.length ≤ 1000000000) (hf : f.ids.length ≤ 1000000000) : Contract F Tryz.prog 61 [evAg e, evAg f] (fun r => r = .i .i64 (evCmp e f)) := by
 refine contract_of Tryz.func61 rfl (by kernel_rfl) ?_
 simp only [Tryz.ntmps61, argEnv, evAg, Evd.cs]
 (repeat refine Sat.seq ?_)
 (refine Sat.region_k fun k hk => ?_; simp -implicitDefEqProofs only [evr, id, seval, res_one, par_one, idn_one, idn_0, idn_1, idn_2, resRow, res_ro, rExtract_tup, evn])
 intro blk1 blk2
 (refine hk _ ?_; clear hk k; try show Sat _ _ _ _ _)
 (repeat refine Sat.seq ?_)
 (refine Sat.region_tree (OT.keep [0, 2, 5, 7, 10, 12, 15, 17, 1, 3, 6, 8, 11, 13, 16, 18] [4, 9, 14] (BT.one 4 (BT.one 9 (BT.one 14 (BT.one 19 (BT.one 20 (BT.one 21 (BT.one 22 BT.done)))))))) (by kernel_rfl) (by kernel_rfl) (fun _ _ h => h) fun k hk => ?_; simp only [WOT, List.map_cons, List.map_nil, List.getD_cons_zero, List.getD_cons_succ]; simp -implicitDefEqProofs only [evr, id, seval, res_one, par_one, idn_one, idn_0, idn_1, idn_2, resRow, res_ro, rExtract_tup, WOT, evn])
 refine wcall_plain (cmpC F e.kind f.kind) rfl (by rintro _ rfl; exact ok_plain rfl) ?_
 rintro r rfl
 simp -implicitDefEqProofs only [evr, id, seval, res_one, par_one, idn_one, idn_0, idn_1, idn_2, resRow, res_ro, rExtract_tup, evn]
 refine wcall_plain (cmpAC F e.a f.a) rfl (by rintro _ rfl; exact ok_plain rfl) ?_
 rintro r rfl
 simp -implicitDefEqProofs only [evr, id, seval, res_one, par_one, idn_one, idn_0, idn_1, idn_2, resRow, res_ro, rExtract_tup, evn]
 refine wcall_plain (cmpAC F e.b f.b) rfl (by rintro _ rfl; exact ok_plain rfl) ?_
 rintro r rfl
 simp -implicitDefEqProofs only [evr, id, seval, res_one, par_one, idn_one, idn_0, idn_1, idn_2, resRow, res_ro, rExtract_tup, evn]
 refine wcall_plain (cmpFuncC F e.ad f.ad e.cap f.cap e.ids f.ids _ he hf) (by simp -implicitDefEqProofs only [evr, id, seval, res_one, par_one, idn_one, idn_0, idn_1, idn_2, resRow, res_ro, rExtract_tup, evn]; try rfl) (by rintro _ rfl; exact ok_plain rfl) ?_
 rintro r rfl
 simp -implicitDefEqProofs only [evr, id, seval, res_one, par_one, idn_one, idn_0, idn_1, idn_2, resRow, res_ro, rExtract_tup, evn]
 intro blk3
 refine wcall_plain (orC F (some ⟨blk3, 0, none⟩) 4 [ordI e.kind f.kind, ordI e.a f.a, ordI e.b f.b, cmpIds e.ids f.ids] (by simp)) (by simp -implicitDefEqProofs only [evr, id, seval, res_one, par_one, idn_one, idn_0, idn_1, idn_2, resRow, res_ro, rExtract_tup, intsRd, evn]) (by rintro _ rfl; exact ok_plain rfl) ?_
 rintro r rfl
 simp -implicitDefEqProofs only [evr, id, seval, res_one, par_one, idn_one, idn_0, idn_1, idn_2, resRow, res_ro, rExtract_tup, evn]
 (refine hk _ ?_; clear hk k; try show Sat _ _ _ _ _)
 refine Sat.ret ?_
 simp only [Tryz.results61, evr, id, seval, res_one, par_one, idn_one, idn_0, idn_1, idn_2, List.append_nil, Int.toNat_zero, Nat.sub_self, Int.reduceToNat, resRow, res_ro, rExtract_tup]
 rfl
end Go.Proofs.YtfeiiadligkamaaGreat


/- The order of evidence (no program in sight). -/
namespace Go.Proofs.YtfeiiadligkamaaGreat
open Eng
theorem idnCmp_neg (a b : Idn) : idnCmpI b a = - idnCmpI a b := cmpL_neg _ _
theorem cmpIds_neg : ∀ (l m : List Idn), cmpIds m l = - cmpIds l m
 | [], [] => rfl
 | [], _ :: _ => rfl
 | _ :: _, [] => rfl
 | x :: l, y :: m => by
  unfold cmpIds
  rw [idnCmp_neg x y, cmpIds_neg l m]
  by_cases h : idnCmpI x y = 0
  ·rw [if_neg (by simp [h]), if_neg (by simp [h])]
  ·rw [if_pos (by omega), if_pos h]
theorem cmpIds_zero : ∀ {l m : List Idn}, cmpIds l m = 0 ↔ l = m
 | [], [] => by simp [cmpIds]
 | [], _ :: _ => by simp [cmpIds]
 | _ :: _, [] => by simp [cmpIds]
 | x :: l, y :: m => by
  unfold cmpIds
  by_cases h : idnCmpI x y = 0
  ·rw [if_neg (by simp [h]), cmpIds_zero]
   have := idnCmpI_zero.1 h
   subst this
   simp
  ·rw [if_pos h]
   constructor
   ·intro h2; exact absurd h2 h
   ·intro h2
    simp only [List.cons.injEq] at h2
    exact absurd (idnCmpI_zero.2 h2.1) h
theorem cmpIds_trans : ∀ {l m n : List Idn}, cmpIds l m ≤ 0 → cmpIds m n ≤ 0 → cmpIds l n ≤ 0
 | [], _, [], _, _ => by simp [cmpIds]
 | [], _, _ :: _, _, _ => by simp [cmpIds]
 | _ :: _, [], _, h, _ => by simp [cmpIds] at h
 | _ :: _, _ :: _, [], _, h => by simp [cmpIds] at h
 | x :: l, y :: m, z :: n, h1, h2 => by
  unfold cmpIds at h1 h2 ⊢
  by_cases a : idnCmpI x y = 0
  ·have e := idnCmpI_zero.1 a
   subst e
   rw [if_neg (by simp [a])] at h1
   by_cases b : idnCmpI x z = 0
   ·rw [if_neg (by simp [b])] at h2
    rw [if_neg (by simp [b])]
    exact cmpIds_trans h1 h2
   ·rw [if_pos b] at h2
    rw [if_pos b]
    exact h2
  ·rw [if_pos a] at h1
   have a1 : idnCmpI x y < 0 := by omega
   by_cases b : idnCmpI y z = 0
   ·have e := idnCmpI_zero.1 b
    subst e
    rw [if_pos a]
    exact h1
   ·rw [if_pos b] at h2
    have b1 : idnCmpI y z < 0 := by omega
    have c := cmpL_trans x.keys y.keys z.keys rfl rfl a1 b1
    have c' : idnCmpI x z < 0 := c
    rw [if_pos (by omega)]
    omega
def lex3 (p q r w : Int) : Int := if p ≠ 0 then p else if q ≠ 0 then q else if r ≠ 0 then r else w
theorem evCmp_lex (e f : Evd) : evCmp e f = lex3 (ordI e.kind f.kind) (ordI e.a f.a) (ordI e.b f.b) (cmpIds e.ids f.ids) := by
 unfold evCmp lex3 orL orL orL orL orL
 by_cases h : cmpIds e.ids f.ids = 0
 ·simp [h]
 ·simp [h]
theorem evCmp_neg (e f : Evd) : evCmp f e = - evCmp e f := by
 rw [evCmp_lex, evCmp_lex, ordI_neg e.kind, ordI_neg e.a, ordI_neg e.b, cmpIds_neg e.ids]
 unfold lex3
 by_cases h1 : ordI e.kind f.kind = 0
 ·by_cases h2 : ordI e.a f.a = 0
  ·by_cases h3 : ordI e.b f.b = 0
   ·simp [h1, h2, h3]
   ·simp [h1, h2, h3]
  ·simp [h1, h2]
 ·simp [h1]
theorem evCmp_zero (e f : Evd) : evCmp e f = 0 ↔ e.kind = f.kind ∧ e.a = f.a ∧ e.b = f.b ∧ e.ids = f.ids := by
 rw [evCmp_lex]
 unfold lex3
 by_cases h1 : ordI e.kind f.kind = 0
 ·rw [if_neg (by simp [h1])]
  by_cases h2 : ordI e.a f.a = 0
  ·rw [if_neg (by simp [h2])]
   by_cases h3 : ordI e.b f.b = 0
   ·rw [if_neg (by simp [h3]), cmpIds_zero]
    rw [ordI_zero] at h1 h2 h3
    simp [h1, h2, h3]
   ·rw [if_pos h3]
    exact ⟨fun h => absurd h h3, fun h => absurd (ordI_zero.2 h.2.2.1) h3⟩
  ·rw [if_pos h2]
   exact ⟨fun h => absurd h h2, fun h => absurd (ordI_zero.2 h.2.1) h2⟩
 ·rw [if_pos h1]
  exact ⟨fun h => absurd h h1, fun h => absurd (ordI_zero.2 h.1) h1⟩
theorem ordI_cases (a b : Int) : (a < b ∧ ordI a b = -1) ∨ (a = b ∧ ordI a b = 0) ∨ (b < a ∧ ordI a b = 1) := by
 unfold ordI
 split
 ·exact .inl ⟨by assumption, rfl⟩
 ·split
  ·exact .inr (.inr ⟨by assumption, rfl⟩)
  ·exact .inr (.inl ⟨by omega, rfl⟩)
theorem evCmp_trans (e f g : Evd) (h1 : evCmp e f ≤ 0) (h2 : evCmp f g ≤ 0) : evCmp e g ≤ 0 := by
 rw [evCmp_lex] at h1 h2 ⊢
 have ht := @cmpIds_trans e.ids f.ids g.ids
 unfold lex3 at *
 rcases ordI_cases e.kind f.kind with ⟨a1, a2⟩ | ⟨a1, a2⟩ | ⟨a1, a2⟩ <;> rcases ordI_cases f.kind g.kind with ⟨b1, b2⟩ | ⟨b1, b2⟩ | ⟨b1, b2⟩ <;> rcases ordI_cases e.kind g.kind with ⟨c1, c2⟩ | ⟨c1, c2⟩ | ⟨c1, c2⟩ <;> first | omega | skip
 all_goals simp only [a2, b2, c2, ne_eq, not_true_eq_false, if_false, reduceIte, Int.reduceNeg, Int.reduceEq, not_false_eq_true, if_true] at h1 h2 ⊢
 all_goals first | omega | skip
 all_goals
  rcases ordI_cases e.a f.a with ⟨d1, d2⟩ | ⟨d1, d2⟩ | ⟨d1, d2⟩ <;> rcases ordI_cases f.a g.a with ⟨x1, x2⟩ | ⟨x1, x2⟩ | ⟨x1, x2⟩ <;> rcases ordI_cases e.a g.a with ⟨y1, y2⟩ | ⟨y1, y2⟩ | ⟨y1, y2⟩ <;> first | omega | skip
 all_goals simp only [d2, x2, y2, ne_eq, not_true_eq_false, if_false, reduceIte, Int.reduceNeg, Int.reduceEq, not_false_eq_true, if_true] at h1 h2 ⊢
 all_goals first | omega | skip
 all_goals
  rcases ordI_cases e.b f.b with ⟨m1, m2⟩ | ⟨m1, m2⟩ | ⟨m1, m2⟩ <;> rcases ordI_cases f.b g.b with ⟨n1, n2⟩ | ⟨n1, n2⟩ | ⟨n1, n2⟩ <;> rcases ordI_cases e.b g.b with ⟨o1, o2⟩ | ⟨o1, o2⟩ | ⟨o1, o2⟩ <;> first | omega | skip
 all_goals simp only [m2, n2, o2, ne_eq, not_true_eq_false, if_false, reduceIte, Int.reduceNeg, Int.reduceEq, not_false_eq_true, if_true] at h1 h2 ⊢
 all_goals first | omega | exact ht h1 h2
end Go.Proofs.YtfeiiadligkamaaGreat


/- Rows of evidence that is not long. -/
namespace Go.Proofs.YtfeiiadligkamaaGreat
open Go.Sort Eng
structure Evs where
 e : Evd
 h : e.ids.length ≤ 1000
instance : Inhabited Evs := ⟨⟨default, Nat.zero_le _⟩⟩
def Evs.cs (x : Evs) : List SV := Evd.cs x.e
def evsRd (d : Array Evs) : Nat → Nat → SV := fun i j => (Evs.cs d[i]!).getD j default
def evsRow (ad : Option Addr) (N cap : Nat) (d : Array Evs) : Eng.Own := .row ad 32 N cap 4 (evsRd d)
def evsAg (x : Evs) : SV := .agg 4 fun j => (Evs.cs x).getD j default
def evsCmp (g : FuncId) (lt : Evs → Evs → Bool) : Prop := ∀ x y, ∃ c : Int, lt x y = decide (c < 0) ∧ ∀ F, Contract F Tryz.prog g [evsAg x, evsAg y] (fun r => r = .i .i64 c)
def evsLt (x y : Evs) : Bool := decide (evCmp x.e y.e < 0)
theorem evsCmp1 : evsCmp 61 evsLt := fun x y => ⟨evCmp x.e y.e, rfl, fun F => compareEvC F x.e y.e (by have := x.h; omega) (by have := y.h; omega)⟩
end Go.Proofs.YtfeiiadligkamaaGreat


/- The best of each pair (no program in sight). -/
namespace Go.Proofs.YtfeiiadligkamaaGreat
open Eng Go.Sort
theorem orL_cons (x : Int) (l : List Int) : orL (x :: l) = if x ≠ 0 then x else orL l := rfl
theorem orL_app : ∀ (l m : List Int), orL (l ++ m) = if orL l ≠ 0 then orL l else orL m
 | [], m => by simp [orL]
 | x :: l, m => by
  rw [List.cons_append, orL_cons, orL_cons, orL_app l m]
  by_cases h : x = 0 <;> simp [h]
theorem idnCmp_orL (x y : Idn) : idnCmpI x y = orL [ordI x.van y.van, ordI x.run y.run, ordI x.num y.num] := rfl
theorem excCmp_or (x y : Exc) : excCmpI x y = orL [ordI x.a y.a, ordI x.b y.b, idnCmpI x.f y.f, idnCmpI x.s y.s] := by
 have e : excCmpI x y = orL ([ordI x.a y.a, ordI x.b y.b] ++ ([ordI x.f.van y.f.van, ordI x.f.run y.f.run, ordI x.f.num y.f.num] ++ [ordI x.s.van y.s.van, ordI x.s.run y.s.run, ordI x.s.num y.s.num])) := rfl
 rw [e, orL_app, orL_app, ← idnCmp_orL, ← idnCmp_orL]
 simp only [orL_cons, orL]
 repeat' split
 all_goals first | rfl | omega | contradiction | simp_all
def Exc.pr (x : Exc) : Par := ⟨x.a, x.b⟩
def excB (x y : Exc) : Bool := decide (cmpIds [x.s, x.f] [y.s, y.f] < 0)
theorem cmpIds_lt_trans {l m n : List Idn} (h : cmpIds l m < 0) (k : cmpIds m n < 0) : cmpIds l n < 0 := by
 have h1 := cmpIds_trans (Int.le_of_lt h) (Int.le_of_lt k)
 rcases Int.lt_or_eq_of_le h1 with h2 | h2
 ·exact h2
 ·have e := cmpIds_zero.1 h2
  subst e
  have := cmpIds_neg l m
  omega
theorem excB_irrefl (x : Exc) : excB x x = false := by
 unfold excB
 rw [decide_eq_false_iff_not, cmpIds_zero.2 rfl]
 omega
theorem excB_trans (x y z : Exc) (h : excB x y = true) (k : excB y z = true) : excB x z = true := by
 unfold excB at *
 rw [decide_eq_true_eq] at *
 exact cmpIds_lt_trans h k
theorem excB_both {x y : Exc} (h : excB x y = false) (k : excB y x = false) : x.f = y.f ∧ x.s = y.s := by
 unfold excB at *
 rw [decide_eq_false_iff_not] at *
 have n := cmpIds_neg [x.s, x.f] [y.s, y.f]
 have e := cmpIds_zero.1 (show cmpIds [x.s, x.f] [y.s, y.f] = 0 by omega)
 simp only [List.cons.injEq, and_true] at e
 exact ⟨e.2, e.1⟩
/-! ### The best of each key -/
section
variable {α : Type} {key : α → Par} {lt : α → α → Bool}
structure BestI (key : α → Par) (lt : α → α → Bool) (C : α → Prop) (X : List α) : Prop where
 nodup : (X.map key).Nodup
 each : ∀ e ∈ X, C e ∧ ∀ x, C x → key x = key e → lt x e = false
 all : ∀ x, C x → ∃ e ∈ X, key e = key x
theorem BestI.start : BestI key lt (fun _ => False) [] := ⟨List.nodup_nil, fun e he => (by cases he), fun x hx => hx.elim⟩
theorem BestI.congr {C C' : α → Prop} {X : List α} (h : BestI key lt C X) (hc : ∀ x, C x ↔ C' x) : BestI key lt C' X :=
 ⟨h.nodup, fun e he => ⟨(hc e).1 (h.each e he).1, fun x hx => (h.each e he).2 x ((hc x).2 hx)⟩, fun x hx => h.all x ((hc x).2 hx)⟩
theorem BestI.new {C : α → Prop} {X : List α} (hi : ∀ x, lt x x = false) (h : BestI key lt C X) {y : α} (hn : ∀ e ∈ X, key e ≠ key y) : BestI key lt (fun x => C x ∨ x = y) (X ++ [y]) := by
 refine ⟨?_, fun e he => ?_, fun x hx => ?_⟩
 ·rw [List.map_append, List.nodup_append]
  refine ⟨h.nodup, by simp, fun a ha b hb e => ?_⟩
  obtain ⟨x, hx, rfl⟩ := List.mem_map.1 ha
  rw [List.map_singleton, List.mem_singleton] at hb
  exact hn x hx (by rw [e, hb])
 ·rcases List.mem_append.1 he with he | he
  ·refine ⟨.inl (h.each e he).1, fun x hx hk => ?_⟩
   rcases hx with hx | hx
   ·exact (h.each e he).2 x hx hk
   ·rw [hx] at hk; exact absurd hk.symm (hn e he)
  ·rw [List.mem_singleton] at he
   subst he
   refine ⟨.inr rfl, fun x hx hk => ?_⟩
   rcases hx with hx | rfl
   ·obtain ⟨e', he', hk'⟩ := h.all x hx
    exact absurd (hk'.trans hk) (hn e' he')
   ·exact hi x
 ·rcases hx with hx | rfl
  ·obtain ⟨e, he, hk⟩ := h.all x hx
   exact ⟨e, List.mem_append.2 (.inl he), hk⟩
  ·exact ⟨x, List.mem_append.2 (.inr (List.mem_singleton.2 rfl)), rfl⟩
theorem BestI.inj {C : α → Prop} {X : List α} (h : BestI key lt C X) {i j : Nat} (hi : i < X.length) (hj : j < X.length) (e : key X[i] = key X[j]) : i = j := by
 refine (List.getElem?_inj (by simpa using hi) h.nodup).1 ?_
 rw [List.getElem?_map, List.getElem?_map, List.getElem?_eq_getElem hi, List.getElem?_eq_getElem hj]
 simp [e]
theorem BestI.set {C : α → Prop} {X : List α} (hi : ∀ x, lt x x = false) (ht : ∀ x y z, lt x y = true → lt y z = true → lt x z = true) (h : BestI key lt C X) {y : α} {i : Nat} (hl : i < X.length) (hk : key X[i] = key y) (hb : lt y X[i] = true) : BestI key lt (fun x => C x ∨ x = y) (X.set i y) := by
 refine ⟨?_, fun e he => ?_, fun x hx => ?_⟩
 ·have e : (X.set i y).map key = X.map key := by
   rw [List.map_set, ← hk]
   apply List.ext_getElem?
   intro j
   rw [List.getElem?_set]
   split
   ·rename_i e; subst e; simp [hl]
   ·rfl
  rw [e]; exact h.nodup
 ·obtain ⟨j, hj, rfl⟩ := List.getElem_of_mem he
  rw [List.length_set] at hj
  rw [List.getElem_set]
  split
  ·refine ⟨.inr rfl, fun x hx hkx => ?_⟩
   rcases hx with hx | rfl
   ·cases hlt : lt x y with
    | false => rfl
    | true =>
     have h1 := (h.each X[i] (List.getElem_mem _)).2 x hx (by rw [hkx, hk])
     rw [ht _ _ _ hlt hb] at h1
     cases h1
   ·exact hi x
  ·rename_i hne
   refine ⟨.inl (h.each X[j] (List.getElem_mem _)).1, fun x hx hkx => ?_⟩
   rcases hx with hx | hx
   ·exact (h.each X[j] (List.getElem_mem _)).2 x hx hkx
   ·rw [hx] at hkx; exact absurd (h.inj hl hj (by rw [hk, hkx])) hne
 ·have hx' : ∃ e ∈ X, key e = key x := by
   rcases hx with hx | rfl
   ·exact h.all x hx
   ·exact ⟨X[i], List.getElem_mem _, hk⟩
  obtain ⟨e, he, hke⟩ := hx'
  obtain ⟨j, hj, rfl⟩ := List.getElem_of_mem he
  by_cases e : i = j
  ·subst e
   exact ⟨y, List.mem_of_getElem? (List.getElem?_set_self hl), by rw [← hk, hke]⟩
  ·exact ⟨X[j], List.mem_of_getElem? (i := j) (by rw [List.getElem?_set_ne e, List.getElem?_eq_getElem hj]), hke⟩
theorem BestI.keep {C : α → Prop} {X : List α} (h : BestI key lt C X) {y : α} {i : Nat} (hl : i < X.length) (hk : key X[i] = key y) (hb : lt y X[i] = false) : BestI key lt (fun x => C x ∨ x = y) X := by
 refine ⟨h.nodup, fun e he => ⟨.inl (h.each e he).1, fun x hx hkx => ?_⟩, fun x hx => ?_⟩
 ·rcases hx with hx | rfl
  ·exact (h.each e he).2 x hx hkx
  ·obtain ⟨j, hj, rfl⟩ := List.getElem_of_mem he
   obtain rfl := h.inj hl hj (by rw [hk, hkx])
   exact hb
 ·rcases hx with hx | rfl
  ·exact h.all x hx
  ·exact ⟨X[i], List.getElem_mem _, hk⟩
structure BestOf (key : α → Par) (lt : α → α → Bool) (C : α → Prop) (es : List α) : Prop where
 asc : es.Pairwise fun x y => parLt (key x) (key y) = true
 each : ∀ e ∈ es, C e ∧ ∀ x, C x → key x = key e → lt x e = false
 all : ∀ x, C x → ∃ e ∈ es, key e = key x
theorem BestI.sorted {C : α → Prop} {X L : List α} (h : BestI key lt C X) (hp : L.Perm X) (hs : L.Pairwise fun x y => parLt (key y) (key x) = false) : BestOf key lt C L := by
 have hn : (L.map key).Nodup := (hp.map key).nodup_iff.2 h.nodup
 refine ⟨?_, fun e he => h.each e (hp.mem_iff.1 he), fun x hx => ?_⟩
 ·rw [List.pairwise_iff_getElem] at hs ⊢
  intro i j hi hj hij
  have h1 := hs i j hi hj hij
  rcases parLt_total (key L[i]) (key L[j]) with h2 | h2 | h2
  ·exact h2
  ·have := (List.getElem?_inj (i := i) (j := j) (by simpa using hi) hn).1 (by
    rw [List.getElem?_map, List.getElem?_map, List.getElem?_eq_getElem hi, List.getElem?_eq_getElem hj]
    simp [h2])
   omega
  ·rw [h1] at h2; cases h2
 ·obtain ⟨e, he, hk⟩ := h.all x hx
  exact ⟨e, hp.mem_iff.2 he, hk⟩
theorem asc_keys {l m : List α} (hl : l.Pairwise fun x y => parLt (key x) (key y) = true) (hm : m.Pairwise fun x y => parLt (key x) (key y) = true) (h : ∀ p, (∃ e ∈ l, key e = p) ↔ ∃ e ∈ m, key e = p) : l.map key = m.map key := by
 have hlp : (l.map key).Pairwise fun x y => parLt x y = true := List.pairwise_map.2 hl
 have hmp : (m.map key).Pairwise fun x y => parLt x y = true := List.pairwise_map.2 hm
 have hmem : ∀ p, p ∈ l.map key ↔ p ∈ m.map key := fun p => by
  rw [List.mem_map, List.mem_map]
  exact h p
 generalize l.map key = a at hlp hmem
 generalize m.map key = b at hmp hmem
 clear hl hm h
 induction a generalizing b with
 | nil =>
  cases b with
  | nil => rfl
  | cons y b => have := (hmem y).2 (by simp); cases this
 | cons x a ih =>
  cases b with
  | nil => have := (hmem x).1 (by simp); cases this
  | cons y b =>
   have h1 := List.pairwise_cons.1 hlp
   have h2 := List.pairwise_cons.1 hmp
   have hxy : x = y := by
    rcases List.mem_cons.1 ((hmem x).1 (by simp)) with e | e
    ·exact e
    ·rcases List.mem_cons.1 ((hmem y).2 (by simp)) with e' | e'
     ·exact e'.symm
     ·have := parLt_trans _ _ _ (h2.1 x e) (h1.1 y e')
      rw [parLt_irrefl] at this; cases this
   subst hxy
   congr 1
   refine ih h1.2 b h2.2 fun p => ⟨fun hp => ?_, fun hp => ?_⟩
   ·rcases List.mem_cons.1 ((hmem p).1 (List.mem_cons_of_mem _ hp)) with e | e
    ·subst e
     have := h1.1 p hp
     rw [parLt_irrefl] at this; cases this
    ·exact e
   ·rcases List.mem_cons.1 ((hmem p).2 (List.mem_cons_of_mem _ hp)) with e | e
    ·subst e
     have := h2.1 p hp
     rw [parLt_irrefl] at this; cases this
    ·exact e
theorem BestOf.unique {C D : α → Prop} {l m : List α} (h : BestOf key lt C l) (k : BestOf key lt D m) (hcd : ∀ x, C x ↔ D x) : l.length = m.length ∧ ∀ i (h1 : i < l.length) (h2 : i < m.length), key l[i] = key m[i] ∧ lt l[i] m[i] = false ∧ lt m[i] l[i] = false := by
 have hk : l.map key = m.map key := asc_keys h.asc k.asc fun p => ⟨fun ⟨e, he, hp⟩ => by
   obtain ⟨e', he', hp'⟩ := k.all e ((hcd e).1 (h.each e he).1)
   exact ⟨e', he', hp'.trans hp⟩, fun ⟨e, he, hp⟩ => by
   obtain ⟨e', he', hp'⟩ := h.all e ((hcd e).2 (k.each e he).1)
   exact ⟨e', he', hp'.trans hp⟩⟩
 refine ⟨by simpa using congrArg List.length hk, fun i h1 h2 => ?_⟩
 have hki : key l[i] = key m[i] := by
  have := congrArg (·[i]?) hk
  simp only [List.getElem?_map, List.getElem?_eq_getElem h1, List.getElem?_eq_getElem h2, Option.map_some, Option.some.injEq] at this
  exact this
 exact ⟨hki, (k.each m[i] (List.getElem_mem _)).2 l[i] ((hcd _).1 (h.each l[i] (List.getElem_mem _)).1) hki, (h.each l[i] (List.getElem_mem _)).2 m[i] ((hcd _).2 (k.each m[i] (List.getElem_mem _)).1) hki.symm⟩
end
/-! ### Exclusions -/
def mkExc (a b : Res) : Exc := ⟨a.from_, b.from_, a.idn, b.idn⟩
def ExcR (a b : Res) : Prop := a.ttl ≠ b.ttl ∧ a.from_ < b.from_
def ExcC (xs : List Res) (x : Exc) : Prop := ∃ p, IsPart xs p ∧ ∃ a ∈ p, ∃ b ∈ p, wayR a = true ∧ wayR b = true ∧ a.flow = b.flow ∧ ExcR a b ∧ x = mkExc a b
def ExcOf (xs : List Res) (es : List Exc) : Prop := BestOf Exc.pr excB (ExcC xs) es
theorem ExcOf.unique {xs ys : List Res} {l m : List Exc} (h : ExcOf xs l) (k : ExcOf ys m) (hc : ∀ x, ExcC xs x ↔ ExcC ys x) : l = m := by
 obtain ⟨h1, h2⟩ := BestOf.unique h k hc
 apply List.ext_getElem h1
 intro i hi hj
 obtain ⟨e1, e2, e3⟩ := h2 i hi hj
 obtain ⟨e4, e5⟩ := excB_both e2 e3
 generalize l[i] = x at *
 generalize m[i] = y at *
 cases x; cases y
 simp only [Exc.pr, Par.mk.injEq] at e1
 simp only at e4 e5
 obtain ⟨rfl, rfl⟩ := e1
 subst e4; subst e5; rfl
theorem flows_exc {xs : List Res} {gs : List (List Res)} (h : FlowsOf xs gs) (x : Exc) : (∃ g ∈ gs, ∃ a ∈ g, ∃ b ∈ g, ExcR a b ∧ x = mkExc a b) ↔ ExcC xs x := by
 constructor
 ·rintro ⟨g, hg, a, ha, b, hb, h1, h2⟩
  obtain ⟨p, hp, fl, h3⟩ := h.snd g hg
  obtain ⟨a1, a2, a3⟩ := h3 a ha
  obtain ⟨b1, b2, b3⟩ := h3 b hb
  exact ⟨p, hp, a, a1, b, b1, a2, b2, by rw [a3, b3], h1, h2⟩
 ·rintro ⟨p, hp, a, ha, b, hb, wa, wb, hf, h1, h2⟩
  obtain ⟨g, hg, g1, g2⟩ := h.cmp p hp a ha b hb wa wb hf
  exact ⟨g, hg, a, g1, b, g2, h1, h2⟩
end Go.Proofs.YtfeiiadligkamaaGreat
