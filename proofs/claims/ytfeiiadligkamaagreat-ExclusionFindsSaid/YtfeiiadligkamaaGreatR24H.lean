import Derived.Test.YtfeiiadligkamaaGreatR24G
set_option linter.unusedSimpArgs false
set_option linter.unusedVariables false
set_option linter.defProp false
namespace Go.Proofs.YtfeiiadligkamaaGreat
open Go.Sort Eng
theorem ZM (a b c d e f:Int):aggEq Tryz.prog 68 3 (fun j=>[SV.i .i64 a,SV.i .u32 b,SV.i .i64 c].getD j default) 3 (fun j=>[SV.i .i64 d,SV.i .u32 e,SV.i .i64 f].getD j default)=some (decide ((⟨a,b,c⟩:Tre)=⟨d,e,f⟩)):=tre_eq ⟨a,b,c⟩ ⟨d,e,f⟩
def isTre (t:Tre) (r:Res):Bool:=decide (r.tre=t)
def qb37:=And.intro @evr (And.intro @Qm (And.intro @Qq (And.intro @ZM (@evn))))
def qb39:=And.intro @evr (And.intro @Qm (And.intro @List.append_nil.{0} (And.intro @Int.toNat_zero (And.intro @Nat.sub_self (And.intro @Qq (@ZM))))))
def qb38:=And.intro @evr (And.intro @Qm (And.intro @Qq (And.intro @ZM (And.intro @evl (@evn)))))
set_option maxRecDepth 100000 in
theorem ofG (F:Frm) (ad:Option Addr) (cap:Nat) (xs:List Res) (t:Tre) (hl:xs.length≤1000000000) (hin:∀ r∈xs,RgR r) :
  ContractN F Tryz.prog 92 [.sl ad xs.length cap 17 (Qk xs.toArray),treAg t] (fun o=>∃ (a:Option Addr) (cap:Nat) (ys:List Res),OrdOf xs ys∧ys.length≤xs.length∧o=Qb a (ys.filter (isTre t)).length cap (ys.filter (isTre t)).toArray):=by
 refine Zh Tryz.func92 rfl (by kernel_rfl) ?_;simp only[Tryz.ntmps92,Qt,treAg,Tre.cs];(repeat refine Qc ?_);(refine Qa fun k hk=>?_;simp only[id,seval,Qb,qb37]);intro b1;(refine hk _ ?_;clear hk k;try show Sat _ _ _ _ _);(repeat refine Qc ?_);(refine Qa fun k hk=>?_;simp only[id,seval,Qb,qb37]);refine Q8 (orderG F ad cap xs hl hin) rfl rfl ?_;rintro ra ty len rc sz rrd ⟨a,c,ys,ho,hyl,e⟩;simp only[Qb,Own.row.injEq] at e;obtain⟨rfl,rfl,rfl,rfl,rfl,rfl⟩:=e;simp only[id,seval,Qb,qb37];(refine hk _ ?_;clear hk k;try show Sat _ _ _ _ _);refine Zo 5 rfl rfl ?_;simp only[id,seval,Qb,qb37];(repeat refine Qc ?_);(refine Qa fun k hk=>?_;simp only[id,seval,Qb,qb37];refine hk _ ?_;clear hk k;try show Sat _ _ _ _ _);(repeat refine Qc ?_);(refine Qa fun k hk=>?_;simp only[id,seval,Qb,qb37];refine hk _ ?_;clear hk k;try show Sat _ _ _ _ _);refine Q1 6 62 17 (Qk #[]) rfl ?_;(repeat refine Qc ?_);refine Sat.block ?_;refine Qo (ι:=Nat×Option Addr×Nat×List Res) (fun z=>⟨31,[(7,.i .i64 z.1),(6,.os 2 z.2.1 z.2.2.2.length z.2.2.1),(5,.sl ra ys.length rc 17 (Qk ys.toArray)),(3,.op 0 b1 0)],[.box b1 68 (Tre.cs t),.gone,Qb z.2.1 z.2.2.2.length z.2.2.1 z.2.2.2.toArray]⟩)
  (fun z=>z.1≤ys.length∧z.2.2.2=(ys.take z.1).filter (isTre t)) (fun z=>ys.length - z.1) (0,none,0,[]) ⟨Nat.zero_le _,rfl⟩ (by simp only[Tre.cs];simp only[id,seval,Qb,qb38];first|rfl|trace_state) ?_
 rintro⟨i,a,c,zs⟩ ⟨hi,hy⟩;simp only[Qb,Tre.cs] at hi hy ⊢;have hzl:zs.length≤i:=by rw[hy];exact XO
 (repeat refine Qc ?_);(refine Qa fun k hk=>?_;simp only[id,seval,Qb,qb37];refine hk _ ?_;clear hk k;try show Sat _ _ _ _ _);(repeat refine Qc ?_);refine Qe rfl (fun h=>?_) (fun h=>?_)
 ·have h1:i<ys.length:=by simp only[decide_eq_true_eq] at h;omega
  have e2:IntKind.i64.wrap ((i:Int)+1)=((i+1:Nat):Int):=by rw[w64 (by omega)];omega
  have hstep:=Xt (p:=isTre t) h1;refine Sat.skip ?_;simp only[Qf];(repeat refine Qc ?_);refine Sat.block ?_;(repeat refine Qc ?_);(refine Qr (by kernel_rfl) (by kernel_rfl) fun k hk=>?_;simp only[id,seval,Qb,qb37]);refine⟨by omega,?_⟩;refine ZV (traceOfG Frm.nil ys.toArray[i]!) rfl (Xs _) ?_;simp only[QZ,id,seval,Int.reduceToNat,Qb,qb39];(refine hk _ ?_;clear hk k;try show Sat _ _ _ _ _);(repeat refine Qc ?_);refine Qe rfl (fun h2=>?_) (fun h2=>?_)
  ·(repeat refine Qc ?_);(refine Qa fun k hk=>?_;simp only[id,seval,Qb,qb37]);refine⟨by omega,fun b3=>⟨⟨by unfold maxLen;omega,by omega⟩,fun a2 cap2=>?_⟩⟩;(refine hk _ ?_;clear hk k;try show Sat _ _ _ _ _);refine Qa fun k hk=>?_;simp only[id,seval,Qb,e2,qb37];refine hk _ ?_;simp only[Qf,Qg]
   have e3:zs ++ [ys[i]]=(ys.take (i+1)).filter (isTre t):=by
    rw[getB h1] at h2;rw[hstep,← hy,if_pos (by exact h2)]
   refine⟨(i+1,a2,cap2,zs ++ [ys[i]]),⟨by simp only;omega,e3⟩,by simp only;omega,?_⟩;simp only[List.length_append,List.length_singleton];simp only[id,seval,Qb,qb38];exact res_app (res_cs h1)
  ·refine Sat.skip ?_;simp only[Qf,Qg];refine Qa fun k hk=>?_;simp only[id,seval,Qb,e2,qb37];refine hk _ ?_;simp only[Qf,Qg];refine⟨(i+1,a,c,zs),⟨by simp only;omega,?_⟩,by simp only;omega,?_⟩
   ·rw[getB h1] at h2;simp only;rw[hstep,← hy,if_neg (by intro hh;rw[show isTre t ys[i]=false from h2] at hh;cases hh),List.append_nil]
   ·simp only[id,seval,Qb,qb38]
 ·have h1:i=ys.length:=by simp only[decide_eq_false_iff_not] at h;omega
  have hzs:zs=ys.filter (isTre t):=by rw[hy,h1,List.take_length]
  refine Sat.exit ?_;simp only[Qf,Qg,reduceIte];(repeat refine Qc ?_);(refine Qa fun k hk=>?_;simp only[id,seval,Qb,qb37];refine hk _ ?_;clear hk k;try show Sat _ _ _ _ _);refine Sat.ret ?_;simp only[Tryz.results92,id,seval,Int.reduceToNat,Qb,retN,retNK,newRow,qb39];exact⟨⟨rfl,rfl,rfl⟩,a,c,ys,ho,hyl,by rw[hzs]⟩
end Go.Proofs.YtfeiiadligkamaaGreat
