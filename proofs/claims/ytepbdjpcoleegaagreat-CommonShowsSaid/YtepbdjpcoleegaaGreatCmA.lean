import Derived.Test.YtepbdjpcoleegaaGreatPoE
import Derived.Test.YtepbdjpcoleegaaGreatIdnSrt0
import Derived.Test.YtepbdjpcoleegaaGreatIdnCpt
import Derived.Test.YtepbdjpcoleegaaGreatParSrt0

/- Comparisons of identities and pairs, what a result shows, by the evaluator. -/
set_option linter.unusedSimpArgs false
set_option linter.unusedVariables false
namespace Go.Proofs.YtepbdjpcoleegaaGreat
open Go.Sort Eng
def resAsk (g : FuncId) (p : Res → Bool) : Prop := ∀ x F, Contract F Tryz.prog g [resAg x] (fun r => r = .b (p x))
set_option maxRecDepth 100000 in
theorem indexFuncC (F : Frm) (g : FuncId) (cc : Nat → SV) (p : Res → Bool) (hg : resAsk g p) (a : Option Addr) (cap : Nat) (d : Array Res) (hl : d.size ≤ 1000000000) :
  Contract F Tryz.prog 60 [.sl a d.size cap 17 (resRd d), .fn g 0 cc] (fun r => (r = .i .i64 (-1) ∧ ∀ q, q < d.size → p d[q]! = false) ∨ ∃ i : Nat, i < d.size ∧ p d[i]! = true ∧ r = .i .i64 i) := by
 refine contract_of Tryz.func60 rfl (by kernel_rfl) ?_
 simp only [Tryz.ntmps60, argEnv]
 (repeat refine Sat.seq ?_)
 (refine Sat.region_k fun k hk => ?_; simp -implicitDefEqProofs only [evr, id, seval, res_one, resRow, res_ro, evn]; refine hk _ ?_; clear hk k; try show Sat _ _ _ _ _)
 (repeat refine Sat.seq ?_)
 (refine Sat.region_k fun k hk => ?_; simp -implicitDefEqProofs only [evr, id, seval, res_one, resRow, res_ro, evn]; refine hk _ ?_; clear hk k; try show Sat _ _ _ _ _)
 (repeat refine Sat.seq ?_)
 refine Sat.block ?_
 refine Sat.loop (ι := Nat) (fun i => ⟨19, [(8, .i .i64 i), (7, .i .i64 d.size), (0, .sl a d.size cap 17 (resRd d)), (1, .fn g 0 cc)], []⟩)
  (fun i => i ≤ d.size ∧ ∀ q, q < i → p d[q]! = false) (fun i => d.size - i) 0 ⟨Nat.zero_le _, fun q h => by omega⟩ (by simp -implicitDefEqProofs only [evr, id, seval, res_one, resRow, res_ro, evl, evn]; first | rfl | trace_state) ?_
 rintro i ⟨hi, hq⟩
 (repeat refine Sat.seq ?_)
 (refine Sat.region_k fun k hk => ?_; simp -implicitDefEqProofs only [evr, id, seval, res_one, resRow, res_ro, evn]; refine hk _ ?_; clear hk k; try show Sat _ _ _ _ _)
 (repeat refine Sat.seq ?_)
 refine Sat.cond_b rfl (fun h => ?_) (fun h => ?_)
 ·have h1 : i < d.size := by simp only [decide_eq_true_eq] at h; omega
  have e3 : IntKind.i64.wrap ((i : Int) + 1) = ((i + 1 : Nat) : Int) := by rw [w64 (by omega)]; omega
  refine Sat.skip ?_
  simp only [thenK]
  (repeat refine Sat.seq ?_)
  refine Sat.block ?_
  (repeat refine Sat.seq ?_)
  (refine Sat.region_k fun k hk => ?_; simp -implicitDefEqProofs only [evr, id, seval, res_one, resRow, res_ro, evn]; refine hk _ ?_; clear hk k; try show Sat _ _ _ _ _)
  (repeat refine Sat.seq ?_)
  (refine Sat.region_k fun k hk => ?_; simp -implicitDefEqProofs only [evr, id, seval, res_one, resRow, res_ro, evn])
  refine ⟨by omega, ?_⟩
  refine wcall_plain (hg d[i]! F) (by simp -implicitDefEqProofs only [evr, id, seval, res_one, resRow, res_ro, evn]; rfl) (by rintro _ rfl; exact ok_plain rfl) ?_
  rintro r rfl
  simp -implicitDefEqProofs only [evr, id, seval, res_one, resRow, res_ro, evn]
  (refine hk _ ?_; clear hk k; try show Sat _ _ _ _ _)
  refine Sat.cond_b rfl (fun h2 => ?_) (fun h2 => ?_)
  ·(repeat refine Sat.seq ?_)
   (refine Sat.region_k fun k hk => ?_; simp -implicitDefEqProofs only [evr, id, seval, res_one, resRow, res_ro, evn]; refine hk _ ?_; clear hk k; try show Sat _ _ _ _ _)
   refine Sat.ret ?_
   simp only [blockK, Tryz.results60, evr, id, seval, res_one, List.append_nil, Int.toNat_zero, Nat.sub_self, Int.reduceToNat, resRow, res_ro]
   exact .inr ⟨i, h1, h2, rfl⟩
  ·refine Sat.skip ?_
   simp only [thenK, blockK]
   refine Sat.region_k fun k hk => ?_
   simp -implicitDefEqProofs only [evr, id, seval, res_one, resRow, res_ro, e3, evn]
   refine hk _ ?_
   simp only [thenK, blockK]
   refine ⟨i + 1, ⟨h1, fun q hq2 => ?_⟩, by omega, ?_⟩
   ·by_cases e : q = i
    ·subst e; exact h2
    ·exact hq q (by omega)
   ·simp -implicitDefEqProofs only [evr, id, seval, res_one, resRow, res_ro, evl, evn]
 ·have h1 : i = d.size := by simp only [decide_eq_false_iff_not] at h; omega
  subst h1
  refine Sat.exit ?_
  simp only [thenK, blockK, reduceIte]
  (repeat refine Sat.seq ?_)
  (refine Sat.region_k fun k hk => ?_; simp -implicitDefEqProofs only [evr, id, seval, res_one, resRow, res_ro, evn]; refine hk _ ?_; clear hk k; try show Sat _ _ _ _ _)
  refine Sat.ret ?_
  simp only [Tryz.results60, evr, id, seval, res_one, List.append_nil, Int.toNat_zero, Nat.sub_self, Int.reduceToNat, resRow, res_ro]
  exact .inl hq
set_option maxRecDepth 100000 in
theorem containsFuncC (F : Frm) (g : FuncId) (cc : Nat → SV) (p : Res → Bool) (hg : resAsk g p) (a : Option Addr) (cap : Nat) (xs : List Res) (hl : xs.length ≤ 1000000000) :
  Contract F Tryz.prog 35 [.sl a xs.length cap 17 (resRd xs.toArray), .fn g 0 cc] (fun r => r = .b (xs.any p)) := by
 refine contract_of Tryz.func35 rfl (by kernel_rfl) ?_
 simp only [Tryz.ntmps35, argEnv]
 (repeat refine Sat.seq ?_)
 (refine Sat.region_k fun k hk => ?_; simp -implicitDefEqProofs only [evr, id, seval, res_one, resRow, res_ro, evn]; refine hk _ ?_; clear hk k; try show Sat _ _ _ _ _)
 (repeat refine Sat.seq ?_)
 (refine Sat.region_k fun k hk => ?_; simp -implicitDefEqProofs only [evr, id, seval, res_one, resRow, res_ro, evn])
 have hc := indexFuncC F g (fun j => roPtr [] (cc j)) p hg a cap xs.toArray (by simp; omega)
 simp only [List.size_toArray] at hc
 refine wcall_plain hc (by simp -implicitDefEqProofs only [evr, id, seval, res_one, resRow, res_ro, evn]) (by rintro _ (⟨rfl, _⟩ | ⟨i, _, _, rfl⟩) <;> exact ok_plain rfl) ?_
 rintro r (⟨rfl, hno⟩ | ⟨i, hi, hp, rfl⟩)
 ·simp -implicitDefEqProofs only [evr, id, seval, res_one, resRow, res_ro, evn]
  (refine hk _ ?_; clear hk k; try show Sat _ _ _ _ _)
  refine Sat.ret ?_
  simp only [Tryz.results35, evr, id, seval, res_one, List.append_nil, Int.toNat_zero, Nat.sub_self, Int.reduceToNat, resRow, res_ro]
  have : xs.any p = false := by
   rw [List.any_eq_false]
   intro x hx
   obtain ⟨q, hq, rfl⟩ := List.getElem_of_mem hx
   have := hno q hq
   rw [getB hq] at this
   simp [this]
  rw [this]; rfl
 ·simp -implicitDefEqProofs only [evr, id, seval, res_one, resRow, res_ro, evn]
  (refine hk _ ?_; clear hk k; try show Sat _ _ _ _ _)
  refine Sat.ret ?_
  simp only [Tryz.results35, evr, id, seval, res_one, List.append_nil, Int.toNat_zero, Nat.sub_self, Int.reduceToNat, resRow, res_ro]
  have : xs.any p = true := by
   rw [List.any_eq_true]
   exact ⟨xs[i], List.getElem_mem hi, by rw [getB hi] at hp; exact hp⟩
  rw [this]
set_option maxRecDepth 100000 in
theorem compareIdC (F : Frm) (x y : Idn) : Contract F Tryz.prog 8 [idnAg x, idnAg y] (fun r => r = .i .i64 (idnCmpI x y)) := by
 refine contract_of Tryz.func8 rfl (by kernel_rfl) ?_
 simp only [Tryz.ntmps8, argEnv, idnAg, Idn.cs]
 (repeat refine Sat.seq ?_)
 (refine Sat.region_k fun k hk => ?_; simp -implicitDefEqProofs only [evr, id, seval, res_one, resRow, res_ro, evn])
 intro blk1 blk2
 (refine hk _ ?_; clear hk k; try show Sat _ _ _ _ _)
 (repeat refine Sat.seq ?_)
 (refine Sat.region_tree (OT.keep [0, 2, 5, 7, 10, 12, 1, 3, 6, 8, 11, 13] [4, 9] (BT.one 4 (BT.one 9 (BT.one 14 (BT.one 15 (BT.one 16 (BT.one 17 BT.done))))))) (by kernel_rfl) (by kernel_rfl) (fun _ _ h => h) fun k hk => ?_; simp only [WOT, List.map_cons, List.map_nil, List.getD_cons_zero, List.getD_cons_succ]; simp -implicitDefEqProofs only [evr, id, seval, res_one, resRow, res_ro, WOT, evn])
 refine wcall_plain (cmpC F x.van y.van) rfl (by rintro _ rfl; exact ok_plain rfl) ?_
 rintro r rfl
 simp -implicitDefEqProofs only [evr, id, seval, res_one, resRow, res_ro, evn]
 refine wcall_plain (cmpC F x.run y.run) rfl (by rintro _ rfl; exact ok_plain rfl) ?_
 rintro r rfl
 simp -implicitDefEqProofs only [evr, id, seval, res_one, resRow, res_ro, evn]
 refine wcall_plain (cmpC F x.num y.num) rfl (by rintro _ rfl; exact ok_plain rfl) ?_
 rintro r rfl
 simp -implicitDefEqProofs only [evr, id, seval, res_one, resRow, res_ro, evn]
 intro blk3
 refine wcall_plain (orC F (some ⟨blk3, 0, none⟩) 3 [ordI x.van y.van, ordI x.run y.run, ordI x.num y.num] (by simp)) (by simp -implicitDefEqProofs only [evr, id, seval, res_one, resRow, res_ro, intsRd, evn]) (by rintro _ rfl; exact ok_plain rfl) ?_
 rintro r rfl
 simp -implicitDefEqProofs only [evr, id, seval, res_one, resRow, res_ro, evn]
 (refine hk _ ?_; clear hk k; try show Sat _ _ _ _ _)
 refine Sat.ret ?_
 simp only [Tryz.results8, evr, id, seval, res_one, List.append_nil, Int.toNat_zero, Nat.sub_self, Int.reduceToNat, resRow, res_ro]
 rfl
set_option maxRecDepth 100000 in
theorem comparePrC (F : Frm) (x y : Par) : Contract F Tryz.prog 42 [parAg x, parAg y] (fun r => r = .i .i64 (parCmpI x y)) := by
 refine contract_of Tryz.func42 rfl (by kernel_rfl) ?_
 simp only [Tryz.ntmps42, argEnv, parAg, Par.cs]
 (repeat refine Sat.seq ?_)
 (refine Sat.region_k fun k hk => ?_; simp -implicitDefEqProofs only [evr, id, seval, res_one, resRow, res_ro, evn])
 intro blk1 blk2
 (refine hk _ ?_; clear hk k; try show Sat _ _ _ _ _)
 (repeat refine Sat.seq ?_)
 (refine Sat.region_tree (OT.keep [0, 2, 5, 7, 1, 3, 6, 8] [4] (BT.one 4 (BT.one 9 (BT.one 10 (BT.one 11 (BT.one 12 BT.done)))))) (by kernel_rfl) (by kernel_rfl) (fun _ _ h => h) fun k hk => ?_; simp only [WOT, List.map_cons, List.map_nil, List.getD_cons_zero, List.getD_cons_succ]; simp -implicitDefEqProofs only [evr, id, seval, res_one, resRow, res_ro, WOT, evn])
 refine wcall_plain (cmpAC F x.a y.a) rfl (by rintro _ rfl; exact ok_plain rfl) ?_
 rintro r rfl
 simp -implicitDefEqProofs only [evr, id, seval, res_one, resRow, res_ro, evn]
 refine wcall_plain (cmpAC F x.b y.b) rfl (by rintro _ rfl; exact ok_plain rfl) ?_
 rintro r rfl
 simp -implicitDefEqProofs only [evr, id, seval, res_one, resRow, res_ro, evn]
 intro blk3
 refine wcall_plain (orC F (some ⟨blk3, 0, none⟩) 2 [ordI x.a y.a, ordI x.b y.b] (by simp)) (by simp -implicitDefEqProofs only [evr, id, seval, res_one, resRow, res_ro, intsRd, evn]) (by rintro _ rfl; exact ok_plain rfl) ?_
 rintro r rfl
 simp -implicitDefEqProofs only [evr, id, seval, res_one, resRow, res_ro, evn]
 (refine hk _ ?_; clear hk k; try show Sat _ _ _ _ _)
 refine Sat.ret ?_
 simp only [Tryz.results42, evr, id, seval, res_one, List.append_nil, Int.toNat_zero, Nat.sub_self, Int.reduceToNat, resRow, res_ro]
 rfl
theorem parCmp1 : parCmp 42 parLt := fun x y => ⟨parCmpI x y, rfl, fun F => comparePrC F x y⟩
theorem idnCmp1 : idnCmp 8 idnLt := fun x y => ⟨idnCmpI x y, rfl, fun F => compareIdC F x y⟩
set_option maxRecDepth 100000 in
theorem pairsFnC : resAsk 36 (fun x => !validR x) := by
 intro x F
 refine contract_of Tryz.func36 rfl (by kernel_rfl) ?_
 simp only [Tryz.ntmps36, argEnv, resAg, Res.cs]
 (repeat refine Sat.seq ?_)
 (refine Sat.region_k fun k hk => ?_; simp -implicitDefEqProofs only [evr, id, seval, res_one, resRow, res_ro, evn])
 intro blk2
 (refine hk _ ?_; clear hk k; try show Sat _ _ _ _ _)
 (repeat refine Sat.seq ?_)
 (refine Sat.region_k fun k hk => ?_; simp -implicitDefEqProofs only [evr, id, seval, res_one, resRow, res_ro, evn])
 refine wcall_plain (validC F x) (by simp only [resAg, Res.cs, evr, id, seval, res_one, List.append_nil, Int.toNat_zero, Nat.sub_self, Int.reduceToNat, resRow, res_ro]; try rfl) (by rintro _ rfl; exact ok_plain rfl) ?_
 rintro r rfl
 simp -implicitDefEqProofs only [evr, id, seval, res_one, resRow, res_ro, evn]
 (refine hk _ ?_; clear hk k; try show Sat _ _ _ _ _)
 refine Sat.ret ?_
 simp only [Tryz.results36, evr, id, seval, res_one, List.append_nil, Int.toNat_zero, Nat.sub_self, Int.reduceToNat, resRow, res_ro]
def showR (r : Res) : Option Par := if r.answered = true ∧ r.kind = 3 ∧ r.from_ ≠ r.dst ∧ usableR r = true then some ⟨min r.dst r.from_, max r.dst r.from_⟩ else none
def showS : Option Par → SV
 | some p => tupL [parAg p, .b true]
 | none => tupL [parAg ⟨0, 0⟩, .b false]
theorem showS_ok (o : Option Par) (R : Nat → Prop) (w : World) : (showS o).ok R w := by
 cases o <;>
 ·intro j hj
  have hj2 : j < 2 := hj
  rcases (show j = 0 ∨ j = 1 by omega) with rfl | rfl
  ·intro q hq
   rcases (show q = 0 ∨ q = 1 by omega) with rfl | rfl <;> trivial
  ·trivial
set_option maxRecDepth 100000 in
theorem showC (F : Frm) (x : Res) : Contract F Tryz.prog 14 [resAg x] (fun r => r = showS (showR x)) := by
 refine contract_of Tryz.func14 rfl (by kernel_rfl) ?_
 simp only [Tryz.ntmps14, argEnv, resAg, Res.cs]
 (repeat refine Sat.seq ?_)
 (refine Sat.region_k fun k hk => ?_; simp -implicitDefEqProofs only [evr, id, seval, res_one, resRow, res_ro, evn])
 intro b1 b2
 (refine hk _ ?_; clear hk k; try show Sat _ _ _ _ _)
 (repeat refine Sat.seq ?_)
 refine Sat.at ⟨40, [(25, .b (showR x).isNone), (2, .op 1 b2 0), (1, .op 0 b1 0), (3, .ff)], [.box b1 51 (Res.cs x), .box b2 45 [.i .u32 0, .i .u32 0]]⟩ ?_ ?_
 ·(refine Sat.region_k fun k hk => ?_; simp -implicitDefEqProofs only [evr, id, seval, res_one, resRow, res_ro, evn])
  refine ⟨fun h1 => hk _ ?_, fun h1 => ⟨fun h2 => hk _ ?_, fun h2 => ⟨fun h3 => hk _ ?_, fun h3 => ?_⟩⟩⟩
  ·have e : (showR x).isNone = true := by
    unfold showR; rw [if_neg (fun h => by simp [h.1] at h1)]; rfl
   simp only [thenK, e, Res.cs]
   simp -implicitDefEqProofs only [evr, id, seval, res_one, resRow, res_ro, evl, evn]
  ·have e : (showR x).isNone = true := by
    unfold showR; rw [if_neg (fun h => by simp [h.2.1] at h2)]; rfl
   simp only [thenK, e, Res.cs]
   simp -implicitDefEqProofs only [evr, id, seval, res_one, resRow, res_ro, evl, evn]
  ·have e : (showR x).isNone = true := by
    unfold showR; rw [if_neg (fun h => by simp [h.2.2.1] at h3)]; rfl
   simp only [thenK, e, Res.cs]
   simp -implicitDefEqProofs only [evr, id, seval, res_one, resRow, res_ro, evl, evn]
  ·refine wcall_plain (usableC F x) (by simp only [resAg, Res.cs, evr, id, seval, res_one, List.append_nil, Int.toNat_zero, Nat.sub_self, Int.reduceToNat, resRow, res_ro]; try rfl) (by rintro _ rfl; exact ok_plain rfl) ?_
   rintro r rfl
   simp -implicitDefEqProofs only [evr, id, seval, res_one, resRow, res_ro, evn]
   refine hk _ ?_
   have e : (showR x).isNone = !usableR x := by
    unfold showR
    simp only [Bool.not_eq_false'] at h1
    simp only [bne_eq_false_iff_eq] at h2
    simp only [beq_eq_false_iff_ne] at h3
    cases usableR x <;> simp [h1, h2, h3]
   simp only [thenK, e, Res.cs]
   simp -implicitDefEqProofs only [evr, id, seval, res_one, resRow, res_ro, evl, evn]
 simp only [Res.cs]
 (repeat refine Sat.seq ?_)
 refine Sat.cond_b rfl (fun h => ?_) (fun h => ?_)
 ·obtain hs := Option.isNone_iff_eq_none.1 h
  rw [hs]
  (repeat refine Sat.seq ?_)
  (refine Sat.region_k fun k hk => ?_; simp -implicitDefEqProofs only [evr, id, seval, res_one, resRow, res_ro, evn]; refine hk _ ?_; clear hk k; try show Sat _ _ _ _ _)
  refine Sat.ret ?_
  simp only [Tryz.results14, evr, id, seval, res_one, List.append_nil, Int.toNat_zero, Nat.sub_self, Int.reduceToNat, resRow, res_ro]
  rfl
 ·have hs : showR x = some ⟨min x.dst x.from_, max x.dst x.from_⟩ := by
   unfold showR at h ⊢
   split
   ·rfl
   ·rename_i hn; rw [if_neg hn] at h; cases h
  rw [hs]
  refine Sat.skip ?_
  simp only [thenK]
  (repeat refine Sat.seq ?_)
  (refine Sat.region_k fun k hk => ?_; simp -implicitDefEqProofs only [evr, id, seval, res_one, resRow, res_ro, evn]; refine hk _ ?_; clear hk k; try show Sat _ _ _ _ _)
  refine Sat.ret ?_
  simp only [Tryz.results14, evr, id, seval, res_one, List.append_nil, Int.toNat_zero, Nat.sub_self, Int.reduceToNat, resRow, res_ro]
  rfl
end Go.Proofs.YtepbdjpcoleegaaGreat
