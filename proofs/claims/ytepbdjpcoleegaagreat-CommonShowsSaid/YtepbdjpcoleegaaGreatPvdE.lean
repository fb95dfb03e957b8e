import Derived.Test.YtepbdjpcoleegaaGreatEpiM
import Derived.Test.YtepbdjpcoleegaaGreatCmqE

/- Results, by the evaluator: paths.Valid, Usable, TraceOf, Identity, episode.place, Contradict. -/
set_option linter.unusedSimpArgs false
set_option linter.unusedVariables false
namespace Go.Proofs.YtepbdjpcoleegaaGreat
open Go.Sort Eng
set_option maxRecDepth 100000 in
theorem validC (F : Frm) (x : Res) : Contract F Tryz.prog 37 [resAg x] (fun r => r = .b (validR x)) := by
 refine contract_of Tryz.func37 rfl (by kernel_rfl) ?_
 simp only [Tryz.ntmps37, argEnv, resAg, Res.cs]
 (repeat refine Sat.seq ?_)
 (refine Sat.region_k fun k hk => ?_; simp -implicitDefEqProofs only [evr, id, seval, res_one, evn])
 intro blk1
 (refine hk _ ?_; clear hk k; try show Sat _ _ _ _ _)
 (repeat refine Sat.seq ?_)
 refine Sat.at ⟨22, [(2, .b (validR x))], []⟩ ?_ ?_
 ·(refine Sat.region_k fun k hk => ?_; simp -implicitDefEqProofs only [evr, id, seval, res_one, evn])
  refine wcall_plain (jcheckG F x) rfl (by rintro _ rfl; exact ok_plain rfl) ?_
  rintro r rfl
  simp -implicitDefEqProofs only [evr, id, seval, res_one, evn]
  refine ⟨fun h1 => ⟨fun h2 => ⟨fun h3 => hk _ ?_, fun h3 => hk _ ?_⟩, fun h2 => hk _ ?_⟩, fun h1 => hk _ ?_⟩
  ·have e : validR x = true := by simp only [validR, h1, h2, h3]; rfl
   simp only [thenK, e]
   simp -implicitDefEqProofs only [evr, id, seval, res_one, evl, evn]
  ·have e : validR x = (x.from_ != 0) := by simp only [validR, h1, h2, h3]; rfl
   simp only [thenK, e]
   simp -implicitDefEqProofs only [evr, id, seval, res_one, evl, evn]
  ·have e : validR x = false := by simp only [validR, h1, h2]; rfl
   simp only [thenK, e]
   simp -implicitDefEqProofs only [evr, id, seval, res_one, evl, evn]
  ·have e : validR x = false := by simp only [validR, h1]; rfl
   simp only [thenK, e]
   simp -implicitDefEqProofs only [evr, id, seval, res_one, evl, evn]
 simp only [thenK, blockK]
 refine Sat.ret ?_
 simp only [Tryz.results37, evr, id, seval, res_one, List.append_nil, Int.toNat_zero, Nat.sub_self]
set_option maxRecDepth 100000 in
theorem usableC (F : Frm) (x : Res) : Contract F Tryz.prog 50 [resAg x] (fun r => r = .b (usableR x)) := by
 refine contract_of Tryz.func50 rfl (by kernel_rfl) ?_
 simp only [Tryz.ntmps50, argEnv, resAg, Res.cs]
 (repeat refine Sat.seq ?_)
 (refine Sat.region_k fun k hk => ?_; simp -implicitDefEqProofs only [evr, id, seval, res_one, evn])
 intro blk1
 (refine hk _ ?_; clear hk k; try show Sat _ _ _ _ _)
 (repeat refine Sat.seq ?_)
 refine Sat.at ⟨10, [(2, .b (usableR x))], []⟩ ?_ ?_
 ·(refine Sat.region_k fun k hk => ?_; simp -implicitDefEqProofs only [evr, id, seval, res_one, evn])
  refine ⟨fun h1 => ?_, fun h1 => hk _ ?_⟩
  ·refine wcall_plain (validC F x) rfl (by rintro _ rfl; exact ok_plain rfl) ?_
   rintro r rfl
   simp -implicitDefEqProofs only [evr, id, seval, res_one, evn]
   refine hk _ ?_
   have e : usableR x = validR x := by simp only [usableR, h1]; rfl
   simp only [thenK, e]
   simp -implicitDefEqProofs only [evr, id, seval, res_one, evl, evn]
  ·have e : usableR x = false := by simp only [usableR, h1]; rfl
   simp only [thenK, e]
   simp -implicitDefEqProofs only [evr, id, seval, res_one, evl, evn]
 simp only [thenK, blockK]
 refine Sat.ret ?_
 simp only [Tryz.results50, evr, id, seval, res_one, List.append_nil, Int.toNat_zero, Nat.sub_self]
def idAg (x : Res) : SV := .agg 3 fun j => [SV.i .i64 x.vantage, .i .i64 x.run, .i .i64 x.number].getD j default
set_option maxRecDepth 100000 in
theorem identC (F : Frm) (x : Res) : Contract F Tryz.prog 39 [resAg x] (fun r => r = idAg x) := by
 refine contract_of Tryz.func39 rfl (by kernel_rfl) ?_
 simp only [Tryz.ntmps39, argEnv, resAg, Res.cs]
 (repeat refine Sat.seq ?_)
 (refine Sat.region_k fun k hk => ?_; simp -implicitDefEqProofs only [evr, id, seval, res_one, evn])
 intro blk1 blk2
 (refine hk _ ?_; clear hk k; try show Sat _ _ _ _ _)
 (repeat refine Sat.seq ?_)
 (refine Sat.region_k fun k hk => ?_; simp -implicitDefEqProofs only [evr, id, seval, res_one, evn]; refine hk _ ?_; clear hk k; try show Sat _ _ _ _ _)
 refine Sat.ret ?_
 simp only [Tryz.results39, evr, id, seval, res_one, List.append_nil, Int.toNat_zero, Nat.sub_self]
 rfl
end Go.Proofs.YtepbdjpcoleegaaGreat
