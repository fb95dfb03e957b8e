import Derived.Test.YtfeiiadligkamaaGreatEpiM
import Derived.Test.YtfeiiadligkamaaGreatCmqE
set_option linter.unusedSimpArgs false
set_option linter.unusedVariables false
set_option linter.defProp false
namespace Go.Proofs.YtfeiiadligkamaaGreat
open Go.Sort Eng
theorem spotEqs (a b c d e a' b' c' d' e':Int):aggEq Tryz.prog 158 5 (fun j=>[SV.i .i64 a,SV.i .u32 b,SV.i .i64 c,SV.i .i64 d,SV.i .i64 e].getD j default) 5 (fun j=>[SV.i .i64 a',SV.i .u32 b',SV.i .i64 c',SV.i .i64 d',SV.i .i64 e'].getD j default) =
    some ([[a == a',b == b',c == c'].all id,d == d',e == e'].all id):=by kernel_rfl
def qb10:=And.intro @evr (And.intro @Qm (And.intro @List.append_nil.{0} (And.intro @Int.toNat_zero (And.intro @Nat.sub_self (@spotEqs)))))
def qb8:=And.intro @evr (And.intro @Qm (And.intro @spotEqs (@evn)))
def qb9:=And.intro @evr (And.intro @Qm (And.intro @spotEqs (And.intro @evl (@evn))))
set_option maxRecDepth 100000 in
theorem validC (F:Frm) (x:Res):Contract F Tryz.prog 83 [Q0 x] (fun r=>r=.b (QH x)):=by
  refine Qi Tryz.func83 rfl (by kernel_rfl) ?_;simp only[Tryz.ntmps83,Qt,Q0,Res.cs];(repeat refine Qc ?_);(refine Qa fun k hk=>?_;simp only[id,seval,qb8]);intro blk1;(refine hk _ ?_;clear hk k;try show Sat _ _ _ _ _);(repeat refine Qc ?_);refine Sat.at ⟨22,[(2,.b (QH x))],[]⟩ ?_ ?_
  · (refine Qa fun k hk=>?_;simp only[id,seval,qb8])
    refine Qd (jcheckG F x) rfl (by rintro _ rfl;exact Qh rfl) ?_;rintro r rfl;simp only[id,seval,qb8];refine⟨fun h1=>⟨fun h2=>⟨fun h3=>hk _ ?_,fun h3=>hk _ ?_⟩,fun h2=>hk _ ?_⟩,fun h1=>hk _ ?_⟩
    · have e:QH x=true:=by simp only[QH,h1,h2,h3];rfl
      simp only[Qf,e];simp only[id,seval,qb9]
    · have e:QH x=(x.from_ != 0):=by simp only[QH,h1,h2,h3];rfl
      simp only[Qf,e];simp only[id,seval,qb9]
    · have e:QH x=false:=by simp only[QH,h1,h2];rfl
      simp only[Qf,e];simp only[id,seval,qb9]
    · have e:QH x=false:=by simp only[QH,h1];rfl
      simp only[Qf,e];simp only[id,seval,qb9]
  simp only[Qf,Qg];refine Sat.ret ?_;simp only[Tryz.results83,id,seval,qb10]
set_option maxRecDepth 100000 in
theorem usableC (F:Frm) (x:Res):Contract F Tryz.prog 99 [Q0 x] (fun r=>r=.b (Zx x)):=by
  refine Qi Tryz.func99 rfl (by kernel_rfl) ?_;simp only[Tryz.ntmps99,Qt,Q0,Res.cs];(repeat refine Qc ?_);(refine Qa fun k hk=>?_;simp only[id,seval,qb8]);intro blk1;(refine hk _ ?_;clear hk k;try show Sat _ _ _ _ _);(repeat refine Qc ?_);refine Sat.at ⟨10,[(2,.b (Zx x))],[]⟩ ?_ ?_
  · (refine Qa fun k hk=>?_;simp only[id,seval,qb8])
    refine⟨fun h1=>?_,fun h1=>hk _ ?_⟩
    · refine Qd (validC F x) rfl (by rintro _ rfl;exact Qh rfl) ?_
      rintro r rfl;simp only[id,seval,qb8];refine hk _ ?_;have e:Zx x=QH x:=by simp only[Zx,h1];rfl
      simp only[Qf,e];simp only[id,seval,qb9]
    · have e:Zx x=false:=by simp only[Zx,h1];rfl
      simp only[Qf,e];simp only[id,seval,qb9]
  simp only[Qf,Qg];refine Sat.ret ?_;simp only[Tryz.results99,id,seval,qb10]
def QZ (x:Res):SV:=.agg 3 fun j=>[SV.i .i64 x.vantage,.i .u32 x.dst,.i .i64 x.proto].getD j default
def Z7 (x:Res):SV:=.agg 3 fun j=>[SV.i .i64 x.vantage,.i .i64 x.run,.i .i64 x.number].getD j default
set_option maxRecDepth 100000 in
theorem traceOfC (F:Frm) (x:Res):Contract F Tryz.prog 107 [Q0 x] (fun r=>r=QZ x):=by
  refine Qi Tryz.func107 rfl (by kernel_rfl) ?_;simp only[Tryz.ntmps107,Qt,Q0,Res.cs];(repeat refine Qc ?_);(refine Qa fun k hk=>?_;simp only[id,seval,qb8]);intro blk1 blk2;(refine hk _ ?_;clear hk k;try show Sat _ _ _ _ _);(repeat refine Qc ?_);(refine Qa fun k hk=>?_;simp only[id,seval,qb8];refine hk _ ?_;clear hk k;try show Sat _ _ _ _ _);refine Sat.ret ?_;simp only[Tryz.results107,id,seval,qb10];rfl
set_option maxRecDepth 100000 in
theorem identC (F:Frm) (x:Res):Contract F Tryz.prog 46 [Q0 x] (fun r=>r=Z7 x):=by
  refine Qi Tryz.func46 rfl (by kernel_rfl) ?_;simp only[Tryz.ntmps46,Qt,Q0,Res.cs];(repeat refine Qc ?_);(refine Qa fun k hk=>?_;simp only[id,seval,qb8]);intro blk1 blk2;(refine hk _ ?_;clear hk k;try show Sat _ _ _ _ _);(repeat refine Qc ?_);(refine Qa fun k hk=>?_;simp only[id,seval,qb8];refine hk _ ?_;clear hk k;try show Sat _ _ _ _ _);refine Sat.ret ?_;simp only[Tryz.results46,id,seval,qb10];rfl
def spotAg (x:Res):SV:=.agg 5 fun j=>[SV.i .i64 x.vantage,.i .u32 x.dst,.i .i64 x.proto,.i .i64 x.flow,.i .i64 x.ttl].getD j default
def placeS (x:Res):SV:=Xh [spotAg x,.b (Z4 x)]
set_option maxRecDepth 100000 in
theorem placeC (F:Frm) (x:Res):Contract F Tryz.prog 118 [Q0 x] (fun r=>r=placeS x):=by
  refine Qi Tryz.func118 rfl (by kernel_rfl) ?_;simp only[Tryz.ntmps118,Qt,Q0,Res.cs];(repeat refine Qc ?_);(refine Qa fun k hk=>?_;simp only[id,seval,qb8]);intro blk1 blk2;(refine hk _ ?_;clear hk k;try show Sat _ _ _ _ _);(repeat refine Qc ?_);refine Sat.at ⟨17,[(3,.b (Z4 x)),(2,.op 1 blk2 0)],[.gone,.box blk2 158 [SV.i .i64 x.vantage,.i .u32 x.dst,.i .i64 x.proto,.i .i64 x.flow,.i .i64 x.ttl]]⟩ ?_ ?_
  · (refine Qp (.keep [2,4,7,0,3,5,8] [1,6,9,10,11,12] (.one 1 (.free 6 (.one 9 (.one 10 (.one 11 (.free 12 (.one 13 (.one 14 .done))))))))) (by kernel_rfl) (by kernel_rfl) (fun _ _ h=>h) fun k hk=>?_;simp only[WOT,List.map_cons,List.map_nil,List.getD_cons_zero,List.getD_cons_succ];simp only[id,seval,WOT,qb8])
    repeat' (first
      | (refine And.intro ?_ ?_)
      | (refine Qd (traceOfC F x) rfl (by rintro _ rfl;exact ok_aggL (l:=[SV.i .i64 x.vantage,.i .u32 x.dst,.i .i64 x.proto]) rfl) ?_;rintro r rfl;simp only[QZ,id,seval,qb10])
      | (refine Qd (usableC F x) rfl (by rintro _ rfl;exact Qh rfl) ?_;rintro r rfl;simp only[id,seval,qb8])
      | (intro h1))
    all_goals
      refine hk _ ?_;clear hk;first
        | (have e:Z4 x=Zx x:=by simp only[Z4,h1];rfl
           simp only[Qf,e]
           simp only[id,seval,qb9])
        | (have e:Z4 x=false:=by simp only[Z4,h1];rfl
           simp only[Qf,e]
           simp only[id,seval,qb9])
  simp only[Qf,Qg];refine Sat.ret ?_;simp only[Tryz.results118,id,seval,qb10];rfl
theorem placeS_ok (x:Res) (R:Nat→Prop) (w:World):(placeS x).ok R w:=by
  intro j hj
  match j,hj with
  | 0,_=>exact ok_aggL (l:=[SV.i .i64 x.vantage,.i .u32 x.dst,.i .i64 x.proto,.i .i64 x.flow,.i .i64 x.ttl]) rfl R w
  | 1,_=>trivial
end Go.Proofs.YtfeiiadligkamaaGreat
