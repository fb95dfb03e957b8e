import Derived.Test.YtfeiiadligkamaaGreatAskE
import Derived.Test.YtfeiiadligkamaaGreatIdnSrt0
import Derived.Test.YtfeiiadligkamaaGreatIdnCpt
import Derived.Test.YtfeiiadligkamaaGreatParSrt0

/- Comparisons of identities and pairs, what a result shows, by the evaluator. -/
set_option linter.unusedSimpArgs false
set_option linter.unusedVariables false
namespace Go.Proofs.YtfeiiadligkamaaGreat
open Go.Sort Eng
set_option maxRecDepth 100000 in
theorem compareIdC (F : Frm) (x y : Idn) : Contract F Tryz.prog 48 [idnAg x, idnAg y] (fun r => r = .i .i64 (idnCmpI x y)) := by
 refine contract_of Tryz.func48 rfl (by kernel_rfl) ?_
 simp only [Tryz.ntmps48, argEnv, idnAg, Idn.cs]
 (repeat refine Sat.seq ?_)
 (refine Sat.region_k fun k hk => ?_; simp -implicitDefEqProofs only [evr, id, seval, res_one, resRow, res_ro, evn])
 intro blk1 blk2
 (refine hk _ ?_; clear hk k; try show Sat _ _ _ _ _)
 (repeat refine Sat.seq ?_)
 (refine Sat.region_tree (OT.keep [0, 2, 5, 7, 10, 12, 1, 3, 6, 8, 11, 13] [4, 9] (BT.one 4 (BT.one 9 (BT.one 14 (BT.one 15 (BT.one 16 (BT.one 17 BT.done))))))) (by kernel_rfl) (by kernel_rfl) (fun _ _ h => h) fun k hk => ?_; simp only [WOT, List.map_cons, List.map_nil, List.getD_cons_zero, List.getD_cons_succ]; simp -implicitDefEqProofs only [evr, id, seval, res_one, resRow, res_ro, WOT, evn])
 refine wcall_plain (cmpC F x.van y.van) rfl (by rintro _ rfl; exact ok_plain rfl) ?_
 rintro r rfl
 simp -implicitDefEqProofs only [evr, id, seval, res_one, resRow, res_ro, evn]
 refine wcall_plain (cmpC F x.run y.run) rfl (by rintro _ rfl; exact ok_plain rfl) ?_
 rintro r rfl
 simp -implicitDefEqProofs only [evr, id, seval, res_one, resRow, res_ro, evn]
 refine wcall_plain (cmpC F x.num y.num) rfl (by rintro _ rfl; exact ok_plain rfl) ?_
 rintro r rfl
 simp -implicitDefEqProofs only [evr, id, seval, res_one, resRow, res_ro, evn]
 intro blk3
 refine wcall_plain (orC F (some ⟨blk3, 0, none⟩) 3 [ordI x.van y.van, ordI x.run y.run, ordI x.num y.num] (by simp)) (by simp -implicitDefEqProofs only [evr, id, seval, res_one, resRow, res_ro, intsRd, evn]) (by rintro _ rfl; exact ok_plain rfl) ?_
 rintro r rfl
 simp -implicitDefEqProofs only [evr, id, seval, res_one, resRow, res_ro, evn]
 (refine hk _ ?_; clear hk k; try show Sat _ _ _ _ _)
 refine Sat.ret ?_
 simp only [Tryz.results48, evr, id, seval, res_one, List.append_nil, Int.toNat_zero, Nat.sub_self, Int.reduceToNat, resRow, res_ro]
 rfl
theorem idnCmp1 : idnCmp 48 idnLt := fun x y => ⟨idnCmpI x y, rfl, fun F => compareIdC F x y⟩
def showR (r : Res) : Option Par := if r.answered = true ∧ r.kind = 3 ∧ r.from_ ≠ r.dst ∧ usableR r = true then some ⟨min r.dst r.from_, max r.dst r.from_⟩ else none
end Go.Proofs.YtfeiiadligkamaaGreat
