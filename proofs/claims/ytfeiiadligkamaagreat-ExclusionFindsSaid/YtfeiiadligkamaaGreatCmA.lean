import Derived.Test.YtfeiiadligkamaaGreatAskE
import Derived.Test.YtfeiiadligkamaaGreatIdnSrt0
import Derived.Test.YtfeiiadligkamaaGreatIdnCpt
import Derived.Test.YtfeiiadligkamaaGreatParSrt0
set_option linter.unusedSimpArgs false
set_option linter.unusedVariables false
set_option linter.defProp false
namespace Go.Proofs.YtfeiiadligkamaaGreat
open Go.Sort Eng
def qb45:=And.intro @evr (And.intro @Qm (And.intro @Qq (@evn)))
set_option maxRecDepth 100000 in
theorem Xg (F:Frm) (x y:Idn):Contract F Tryz.prog 48 [idnAg x,idnAg y] (fun r=>r=.i .i64 (QP x y)):=by
 refine Qi Tryz.func48 rfl (by kernel_rfl) ?_;simp only[Tryz.ntmps48,Qt,idnAg,Idn.cs];(repeat refine Qc ?_);(refine Qa fun k hk=>?_;simp only[id,seval,Qb,qb45]);intro blk1 blk2;(refine hk _ ?_;clear hk k;try show Sat _ _ _ _ _);(repeat refine Qc ?_);(refine Qp (OT.keep [0,2,5,7,10,12,1,3,6,8,11,13] [4,9] (BT.one 4 (BT.one 9 (BT.one 14 (BT.one 15 (BT.one 16 (BT.one 17 BT.done))))))) (by kernel_rfl) (by kernel_rfl) (fun _ _ h=>h) fun k hk=>?_;simp only[WOT,List.map_cons,List.map_nil,List.getD_cons_zero,List.getD_cons_succ];simp only[id,seval,Qb,WOT,qb45]);refine Qd (cmpC F x.van y.van) rfl (by rintro _ rfl;exact Qh rfl) ?_;rintro r rfl;simp only[id,seval,Qb,qb45];refine Qd (cmpC F x.run y.run) rfl (by rintro _ rfl;exact Qh rfl) ?_;rintro r rfl;simp only[id,seval,Qb,qb45];refine Qd (cmpC F x.num y.num) rfl (by rintro _ rfl;exact Qh rfl) ?_;rintro r rfl;simp only[id,seval,Qb,qb45];intro blk3;refine Qd (orC F (some ⟨blk3,0,none⟩) 3 [Zq x.van y.van,Zq x.run y.run,Zq x.num y.num] (by simp)) (by simp only[id,seval,Qb,intsRd,qb45]) (by rintro _ rfl;exact Qh rfl) ?_;rintro r rfl;simp only[id,seval,Qb,qb45];(refine hk _ ?_;clear hk k;try show Sat _ _ _ _ _);refine Sat.ret ?_;simp only[Tryz.results48,evr,id,seval,Qm,List.append_nil,Int.toNat_zero,Nat.sub_self,Int.reduceToNat,Qb,Qq];rfl
theorem idnCmp1:idnCmp 48 Za:=fun x y=>⟨QP x y,rfl,fun F=>Xg F x y⟩
def showR (r:Res):Option Par:=if r.answered=true∧r.kind=3∧r.from_≠r.dst∧Zx r=true then some ⟨min r.dst r.from_,max r.dst r.from_⟩ else none
end Go.Proofs.YtfeiiadligkamaaGreat
