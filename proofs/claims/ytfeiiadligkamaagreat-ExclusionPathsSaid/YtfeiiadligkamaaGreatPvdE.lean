import Derived.Test.YtfeiiadligkamaaGreatEpiM
import Derived.Test.YtfeiiadligkamaaGreatCmqE

/- Results, by the evaluator: paths.Valid, Usable, TraceOf, Identity, episode.place, Contradict. -/
set_option linter.unusedSimpArgs false
set_option linter.unusedVariables false
namespace Go.Proofs.YtfeiiadligkamaaGreat
open Go.Sort Eng
theorem spotEqs (a b c d e a' b' c' d' e' : Int) : aggEq Tryz.prog 158 5 (fun j => [SV.i .i64 a, SV.i .u32 b, SV.i .i64 c, SV.i .i64 d, SV.i .i64 e].getD j default) 5 (fun j => [SV.i .i64 a', SV.i .u32 b', SV.i .i64 c', SV.i .i64 d', SV.i .i64 e'].getD j default) =
    some ([[a == a', b == b', c == c'].all id, d == d', e == e'].all id) := by kernel_rfl
set_option maxRecDepth 100000 in
theorem validC (F : Frm) (x : Res) : Contract F Tryz.prog 83 [resAg x] (fun r => r = .b (validR x)) := by
  refine contract_of Tryz.func83 rfl (by kernel_rfl) ?_
  simp only [Tryz.ntmps83, argEnv, resAg, Res.cs]
  (repeat refine Sat.seq ?_)
  (refine Sat.region_k fun k hk => ?_; simp -implicitDefEqProofs only [evr, id, seval, res_one, spotEqs, evn])
  intro blk1
  (refine hk _ ?_; clear hk k; try show Sat _ _ _ _ _)
  (repeat refine Sat.seq ?_)
  refine Sat.at ⟨22, [(2, .b (validR x))], []⟩ ?_ ?_
  · (refine Sat.region_k fun k hk => ?_; simp -implicitDefEqProofs only [evr, id, seval, res_one, spotEqs, evn])
    refine wcall_plain (jcheckG F x) rfl (by rintro _ rfl; exact ok_plain rfl) ?_
    rintro r rfl
    simp -implicitDefEqProofs only [evr, id, seval, res_one, spotEqs, evn]
    refine ⟨fun h1 => ⟨fun h2 => ⟨fun h3 => hk _ ?_, fun h3 => hk _ ?_⟩, fun h2 => hk _ ?_⟩, fun h1 => hk _ ?_⟩
    · have e : validR x = true := by simp only [validR, h1, h2, h3]; rfl
      simp only [thenK, e]
      simp -implicitDefEqProofs only [evr, id, seval, res_one, spotEqs, evl, evn]
    · have e : validR x = (x.from_ != 0) := by simp only [validR, h1, h2, h3]; rfl
      simp only [thenK, e]
      simp -implicitDefEqProofs only [evr, id, seval, res_one, spotEqs, evl, evn]
    · have e : validR x = false := by simp only [validR, h1, h2]; rfl
      simp only [thenK, e]
      simp -implicitDefEqProofs only [evr, id, seval, res_one, spotEqs, evl, evn]
    · have e : validR x = false := by simp only [validR, h1]; rfl
      simp only [thenK, e]
      simp -implicitDefEqProofs only [evr, id, seval, res_one, spotEqs, evl, evn]
  simp only [thenK, blockK]
  refine Sat.ret ?_
  simp only [Tryz.results83, evr, id, seval, res_one, List.append_nil, Int.toNat_zero, Nat.sub_self, spotEqs]
set_option maxRecDepth 100000 in
theorem usableC (F : Frm) (x : Res) : Contract F Tryz.prog 99 [resAg x] (fun r => r = .b (usableR x)) := by
  refine contract_of Tryz.func99 rfl (by kernel_rfl) ?_
  simp only [Tryz.ntmps99, argEnv, resAg, Res.cs]
  (repeat refine Sat.seq ?_)
  (refine Sat.region_k fun k hk => ?_; simp -implicitDefEqProofs only [evr, id, seval, res_one, spotEqs, evn])
  intro blk1
  (refine hk _ ?_; clear hk k; try show Sat _ _ _ _ _)
  (repeat refine Sat.seq ?_)
  refine Sat.at ⟨10, [(2, .b (usableR x))], []⟩ ?_ ?_
  · (refine Sat.region_k fun k hk => ?_; simp -implicitDefEqProofs only [evr, id, seval, res_one, spotEqs, evn])
    refine ⟨fun h1 => ?_, fun h1 => hk _ ?_⟩
    · refine wcall_plain (validC F x) rfl (by rintro _ rfl; exact ok_plain rfl) ?_
      rintro r rfl
      simp -implicitDefEqProofs only [evr, id, seval, res_one, spotEqs, evn]
      refine hk _ ?_
      have e : usableR x = validR x := by simp only [usableR, h1]; rfl
      simp only [thenK, e]
      simp -implicitDefEqProofs only [evr, id, seval, res_one, spotEqs, evl, evn]
    · have e : usableR x = false := by simp only [usableR, h1]; rfl
      simp only [thenK, e]
      simp -implicitDefEqProofs only [evr, id, seval, res_one, spotEqs, evl, evn]
  simp only [thenK, blockK]
  refine Sat.ret ?_
  simp only [Tryz.results99, evr, id, seval, res_one, List.append_nil, Int.toNat_zero, Nat.sub_self, spotEqs]
def trcAg (x : Res) : SV := .agg 3 fun j => [SV.i .i64 x.vantage, .i .u32 x.dst, .i .i64 x.proto].getD j default
def idAg (x : Res) : SV := .agg 3 fun j => [SV.i .i64 x.vantage, .i .i64 x.run, .i .i64 x.number].getD j default
set_option maxRecDepth 100000 in
theorem traceOfC (F : Frm) (x : Res) : Contract F Tryz.prog 107 [resAg x] (fun r => r = trcAg x) := by
  refine contract_of Tryz.func107 rfl (by kernel_rfl) ?_
  simp only [Tryz.ntmps107, argEnv, resAg, Res.cs]
  (repeat refine Sat.seq ?_)
  (refine Sat.region_k fun k hk => ?_; simp -implicitDefEqProofs only [evr, id, seval, res_one, spotEqs, evn])
  intro blk1 blk2
  (refine hk _ ?_; clear hk k; try show Sat _ _ _ _ _)
  (repeat refine Sat.seq ?_)
  (refine Sat.region_k fun k hk => ?_; simp -implicitDefEqProofs only [evr, id, seval, res_one, spotEqs, evn]; refine hk _ ?_; clear hk k; try show Sat _ _ _ _ _)
  refine Sat.ret ?_
  simp only [Tryz.results107, evr, id, seval, res_one, List.append_nil, Int.toNat_zero, Nat.sub_self, spotEqs]
  rfl
set_option maxRecDepth 100000 in
theorem identC (F : Frm) (x : Res) : Contract F Tryz.prog 46 [resAg x] (fun r => r = idAg x) := by
  refine contract_of Tryz.func46 rfl (by kernel_rfl) ?_
  simp only [Tryz.ntmps46, argEnv, resAg, Res.cs]
  (repeat refine Sat.seq ?_)
  (refine Sat.region_k fun k hk => ?_; simp -implicitDefEqProofs only [evr, id, seval, res_one, spotEqs, evn])
  intro blk1 blk2
  (refine hk _ ?_; clear hk k; try show Sat _ _ _ _ _)
  (repeat refine Sat.seq ?_)
  (refine Sat.region_k fun k hk => ?_; simp -implicitDefEqProofs only [evr, id, seval, res_one, spotEqs, evn]; refine hk _ ?_; clear hk k; try show Sat _ _ _ _ _)
  refine Sat.ret ?_
  simp only [Tryz.results46, evr, id, seval, res_one, List.append_nil, Int.toNat_zero, Nat.sub_self, spotEqs]
  rfl
def spotAg (x : Res) : SV := .agg 5 fun j => [SV.i .i64 x.vantage, .i .u32 x.dst, .i .i64 x.proto, .i .i64 x.flow, .i .i64 x.ttl].getD j default
def placeS (x : Res) : SV := tupL [spotAg x, .b (placedR x)]
set_option maxRecDepth 100000 in
theorem placeC (F : Frm) (x : Res) : Contract F Tryz.prog 118 [resAg x] (fun r => r = placeS x) := by
  refine contract_of Tryz.func118 rfl (by kernel_rfl) ?_
  simp only [Tryz.ntmps118, argEnv, resAg, Res.cs]
  (repeat refine Sat.seq ?_)
  (refine Sat.region_k fun k hk => ?_; simp -implicitDefEqProofs only [evr, id, seval, res_one, spotEqs, evn])
  intro blk1 blk2
  (refine hk _ ?_; clear hk k; try show Sat _ _ _ _ _)
  (repeat refine Sat.seq ?_)
  refine Sat.at ⟨17, [(3, .b (placedR x)), (2, .op 1 blk2 0)], [.gone, .box blk2 158 [SV.i .i64 x.vantage, .i .u32 x.dst, .i .i64 x.proto, .i .i64 x.flow, .i .i64 x.ttl]]⟩ ?_ ?_
  · (refine Sat.region_tree (.keep [2, 4, 7, 0, 3, 5, 8] [1, 6, 9, 10, 11, 12] (.one 1 (.free 6 (.one 9 (.one 10 (.one 11 (.free 12 (.one 13 (.one 14 .done))))))))) (by kernel_rfl) (by kernel_rfl) (fun _ _ h => h) fun k hk => ?_; simp only [WOT, List.map_cons, List.map_nil, List.getD_cons_zero, List.getD_cons_succ]; simp -implicitDefEqProofs only [evr, id, seval, res_one, spotEqs, WOT, evn])
    repeat' (first
      | (refine And.intro ?_ ?_)
      | (refine wcall_plain (traceOfC F x) rfl (by rintro _ rfl; exact ok_aggL (l := [SV.i .i64 x.vantage, .i .u32 x.dst, .i .i64 x.proto]) rfl) ?_; rintro r rfl; simp only [trcAg, evr, id, seval, res_one, List.append_nil, Int.toNat_zero, Nat.sub_self, spotEqs])
      | (refine wcall_plain (usableC F x) rfl (by rintro _ rfl; exact ok_plain rfl) ?_; rintro r rfl; simp -implicitDefEqProofs only [evr, id, seval, res_one, spotEqs, evn])
      | (intro h1))
    all_goals
      refine hk _ ?_
      clear hk
      first
        | (have e : placedR x = usableR x := by simp only [placedR, h1]; rfl
           simp only [thenK, e]
           simp -implicitDefEqProofs only [evr, id, seval, res_one, spotEqs, evl, evn])
        | (have e : placedR x = false := by simp only [placedR, h1]; rfl
           simp only [thenK, e]
           simp -implicitDefEqProofs only [evr, id, seval, res_one, spotEqs, evl, evn])
  simp only [thenK, blockK]
  refine Sat.ret ?_
  simp only [Tryz.results118, evr, id, seval, res_one, List.append_nil, Int.toNat_zero, Nat.sub_self, spotEqs]
  rfl
theorem placeS_ok (x : Res) (R : Nat → Prop) (w : World) : (placeS x).ok R w := by
  intro j hj
  match j, hj with
  | 0, _ => exact ok_aggL (l := [SV.i .i64 x.vantage, .i .u32 x.dst, .i .i64 x.proto, .i .i64 x.flow, .i .i64 x.ttl]) rfl R w
  | 1, _ => trivial
end Go.Proofs.YtfeiiadligkamaaGreat
