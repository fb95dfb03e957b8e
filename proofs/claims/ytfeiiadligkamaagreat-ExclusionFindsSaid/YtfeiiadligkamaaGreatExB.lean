import Derived.Test.YtfeiiadligkamaaGreatExA
import Derived.Test.YtfeiiadligkamaaGreatEpcE
import Derived.Test.YtfeiiadligkamaaGreatR24H
set_option linter.unusedSimpArgs false
set_option linter.unusedVariables false
set_option linter.defProp false
namespace Go.Proofs.YtfeiiadligkamaaGreat
open Go.Sort Eng
def qb40:=And.intro @evr (And.intro @ZM (And.intro @Qm (And.intro @Qq (@evn))))
def qb42:=And.intro @evr (And.intro @ZM (And.intro @Qm (And.intro @List.append_nil.{0} (And.intro @Int.toNat_zero (And.intro @Nat.sub_self (@Qq))))))
def qb41:=And.intro @evr (And.intro @ZM (And.intro @Qm (And.intro @Qq (And.intro @evl (@evn)))))
set_option maxRecDepth 100000 in
theorem pthOfC (F:Frm) (ad:Option Addr) (cap:Nat) (xs:List Res) (t:Tre) (hl:xs.length≤1000000000) (hin:∀ r∈xs,RgR r) :
  ContractN F Tryz.prog 85 [.sl ad xs.length cap 17 (Qk xs.toArray),treAg t] (fun o=>∃ a cap ys,OrdOf xs ys∧ys.length≤xs.length∧o=Qb a (ys.filter (isTre t)).length cap (ys.filter (isTre t)).toArray):=by
 refine Zh Tryz.func85 rfl (by kernel_rfl) ?_;simp only[Tryz.ntmps85,Qt,treAg,Tre.cs];(repeat refine Qc ?_);(refine Qa fun k hk=>?_;simp only[id,seval,Qb,qb40]);intro b1;(refine hk _ ?_;clear hk k;try show Sat _ _ _ _ _);(repeat refine Qc ?_);(refine Qa fun k hk=>?_;simp only[id,seval,Qb,qb40];refine hk _ ?_;clear hk k;try show Sat _ _ _ _ _);(repeat refine Qc ?_);(refine Qa fun k hk=>?_;simp only[id,seval,Qb,qb40]);refine Q8 (orderC F ad cap xs hl hin) rfl rfl ?_;rintro ra ty len rc sz rrd ⟨a,c,ys,ho,hyl,e⟩;simp only[Qb,Eng.Own.row.injEq] at e;obtain⟨rfl,rfl,rfl,rfl,rfl,rfl⟩:=e;simp only[id,seval,Qb,qb40];(refine hk _ ?_;clear hk k;try show Sat _ _ _ _ _);refine Zo 9 rfl rfl ?_;simp only[id,seval,Qb,qb40];refine Q1 5 62 17 (Qk #[]) rfl ?_;(repeat refine Qc ?_);refine Sat.block ?_;refine Qo (ι:=Nat×Option Addr×Nat×List Res) (fun z=>⟨25,[(11,.i .i64 z.1),(10,.i .i64 ys.length),(5,.os 2 z.2.1 z.2.2.2.length z.2.2.1),(9,.sl ra ys.length rc 17 (Qk ys.toArray)),(3,.op 0 b1 0)],[.box b1 68 (Tre.cs t),.gone,Qb z.2.1 z.2.2.2.length z.2.2.1 z.2.2.2.toArray]⟩)
  (fun z=>z.1≤ys.length∧z.2.2.2=(ys.take z.1).filter (isTre t)) (fun z=>ys.length - z.1) (0,none,0,[]) ⟨Nat.zero_le _,rfl⟩ (by simp only[Tre.cs];simp only[id,seval,Qb,qb41];first|rfl|trace_state) ?_
 rintro⟨i,a,c,zs⟩ ⟨hi,hy⟩;simp only[Qb,Tre.cs] at hi hy ⊢;have hzl:zs.length≤i:=by rw[hy];exact XO
 (repeat refine Qc ?_);(refine Qa fun k hk=>?_;simp only[id,seval,Qb,qb40];refine hk _ ?_;clear hk k;try show Sat _ _ _ _ _);(repeat refine Qc ?_);refine Qe rfl (fun h=>?_) (fun h=>?_)
 ·have h1:i<ys.length:=by simp only[decide_eq_true_eq] at h;omega
  have e2:IntKind.i64.wrap ((i:Int)+1)=((i+1:Nat):Int):=by rw[w64 (by omega)];omega
  have hstep:=Xt (p:=isTre t) h1;refine Sat.skip ?_;simp only[Qf];(repeat refine Qc ?_);refine Sat.block ?_;(repeat refine Qc ?_);(refine Qa fun k hk=>?_;simp only[id,seval,Qb,qb40]);refine⟨by omega,fun b2=>?_⟩;(refine hk _ ?_;clear hk k;try show Sat _ _ _ _ _);(repeat refine Qc ?_);(refine Qr (by kernel_rfl) (by kernel_rfl) fun k hk=>?_;simp only[id,seval,Qb,qb40]);refine ZV (traceOfC Frm.nil ys.toArray[i]!) rfl (Xs _) ?_;simp only[QZ,id,seval,Int.reduceToNat,Qb,qb42];(refine hk _ ?_;clear hk k;try show Sat _ _ _ _ _);(repeat refine Qc ?_);refine Qe rfl (fun h2=>?_) (fun h2=>?_)
  ·(repeat refine Qc ?_);(refine Qa fun k hk=>?_;simp only[id,seval,Qb,qb40]);refine fun b3=>⟨⟨by unfold maxLen;omega,by omega⟩,fun a2 cap2=>?_⟩;(refine hk _ ?_;clear hk k;try show Sat _ _ _ _ _);refine Qa fun k hk=>?_;simp only[id,seval,Qb,e2,qb40];refine hk _ ?_;simp only[Qf,Qg]
   have e3:zs ++ [ys[i]]=(ys.take (i+1)).filter (isTre t):=by
    rw[getB h1] at h2;rw[hstep,← hy,if_pos (by exact h2)]
   refine⟨(i+1,a2,cap2,zs ++ [ys[i]]),⟨by simp only;omega,e3⟩,by simp only;omega,?_⟩;simp only[List.length_append,List.length_singleton];simp only[id,seval,Qb,qb41];exact res_app (res_cs h1)
  ·refine Sat.skip ?_;simp only[Qf,Qg];refine Qa fun k hk=>?_;simp only[id,seval,Qb,e2,qb40];refine hk _ ?_;simp only[Qf,Qg];refine⟨(i+1,a,c,zs),⟨by simp only;omega,?_⟩,by simp only;omega,?_⟩
   ·rw[getB h1] at h2;simp only;rw[hstep,← hy,if_neg (by intro hh;rw[show isTre t ys[i]=false from h2] at hh;cases hh),List.append_nil]
   ·simp only[id,seval,Qb,qb41]
 ·have h1:i=ys.length:=by simp only[decide_eq_false_iff_not] at h;omega
  have hzs:zs=ys.filter (isTre t):=by rw[hy,h1,List.take_length]
  refine Sat.exit ?_;simp only[Qf,Qg,reduceIte];(repeat refine Qc ?_);(refine Qa fun k hk=>?_;simp only[id,seval,Qb,qb40];refine hk _ ?_;clear hk k;try show Sat _ _ _ _ _);refine Sat.ret ?_;simp only[Tryz.results85,id,seval,Int.reduceToNat,Qb,retN,retNK,newRow,qb42];refine⟨⟨rfl,rfl,rfl⟩,a,c,ys,ho,hyl,?_⟩;rw[← hzs]
set_option maxRecDepth 100000 in
theorem chkFnC:resAsk 82 (fun x=>!QH x):=by
 intro x F;refine Qi Tryz.func82 rfl (by kernel_rfl) ?_;simp only[Tryz.ntmps82,Qt,Q0,Res.cs];(repeat refine Qc ?_);(refine Qa fun k hk=>?_;simp only[id,seval,Qb,qb40]);intro blk2;(refine hk _ ?_;clear hk k;try show Sat _ _ _ _ _);(repeat refine Qc ?_);(refine Qa fun k hk=>?_;simp only[id,seval,Qb,qb40]);refine Qd (validC F x) rfl (by rintro _ rfl;exact Qh rfl) ?_;rintro r rfl;simp only[id,seval,Qb,qb40];(refine hk _ ?_;clear hk k;try show Sat _ _ _ _ _);refine Sat.ret ?_;simp only[Tryz.results82,id,seval,Int.reduceToNat,Qb,qb42]
set_option maxRecDepth 100000 in
theorem exCheckC (F:Frm) (ad:Option Addr) (cap:Nat) (xs:List Res) (hl:xs.length≤512) (hin:∀ r∈xs,RgR r) :
  Contract F Tryz.prog 44 [.sl ad xs.length cap 17 (Qk xs.toArray)] (fun r=>r=.i .i64 (if xs.any (fun x=>!QH x)=true then 1 else 0)):=by
 refine Qi Tryz.func44 rfl (by kernel_rfl) ?_;simp only[Tryz.ntmps44,Qt];(repeat refine Qc ?_);(refine Qa fun k hk=>?_;simp only[id,seval,Qb,qb40];refine hk _ ?_;clear hk k;try show Sat _ _ _ _ _);(repeat refine Qc ?_);refine Sat.block ?_;(repeat refine Qc ?_);(refine Qa fun k hk=>?_;simp only[id,seval,Qb,qb40]);refine Qd (containsFuncC F _ _ _ chkFnC ad cap xs (by omega)) (by simp only[id,seval,Qb,qb40];try rfl) (by rintro _ rfl;exact Qh rfl) ?_;rintro r rfl;simp only[id,seval,Qb,qb40];(refine hk _ ?_;clear hk k;try show Sat _ _ _ _ _);(repeat refine Qc ?_);refine Qe rfl (fun h=>?_) (fun h=>?_)
 ·(repeat refine Qc ?_);(refine Qa fun k hk=>?_;simp only[id,seval,Qb,qb40];refine hk _ ?_;clear hk k;try show Sat _ _ _ _ _);refine Sat.ret ?_;simp only[Qg,Tryz.results44,id,seval,Int.reduceToNat,Qb,qb42];rw[if_pos h]
 ·(repeat refine Qc ?_);(refine Qa fun k hk=>?_;simp only[id,seval,Qb,qb40]);refine Q8 (orderC F ad cap xs (by omega) hin) rfl rfl ?_;rintro ra ty len rc sz rrd ⟨a,c,ys,ho,hyl,e⟩;simp only[Qb,Eng.Own.row.injEq] at e;obtain⟨rfl,rfl,rfl,rfl,rfl,rfl⟩:=e;simp only[id,seval,Qb,qb40];(refine hk _ ?_;clear hk k;try show Sat _ _ _ _ _);(repeat refine Qc ?_);refine Qe rfl (fun h2=>?_) (fun h2=>?_)
  ·simp only[decide_eq_true_eq] at h2;omega
  refine Sat.skip ?_;simp only[Qf,Qg,reduceIte];(repeat refine Qc ?_);(refine Qa fun k hk=>?_;simp only[id,seval,Qb,qb40];refine hk _ ?_;clear hk k;try show Sat _ _ _ _ _);refine Sat.ret ?_;simp only[Tryz.results44,id,seval,Int.reduceToNat,Qb,qb42];rw[if_neg (by rw[h];simp)]
end Go.Proofs.YtfeiiadligkamaaGreat
