import Derived.Scope
import Derived.Test.YtfeiiadligkamaaGreatTrsE
import Derived.Test.YtfeiiadligkamaaGreatAskE
set_option linter.unusedSimpArgs false
set_option linter.unusedVariables false
set_option linter.defProp false
namespace Go.Proofs.YtfeiiadligkamaaGreat
open Go.Sort Eng
namespace Eng
def scopeK (K:Exit→St→Prop):Exit→St→Prop
 | .goto _,_=>False
 | e,st=>K e st
theorem Sat.scope {P:Program} {F:Frm} {st:St} {K:Exit→St→Prop} {c:Code} (h:Sat P F c st (scopeK K)):Sat P F (.scope c) st K:=by
 intro R0 w0 a w hr;refine wp_scope_straight (wp_mono (h R0 w0 a w hr) ?_);rintro e a' w' ⟨st',hk,hr'⟩;cases e with
 | goto l=>exact hk.elim
 | _=>exact⟨st',hk,hr'⟩
end Eng
def epRd (l:List (Nat×Nat)):Nat→Nat→SV:=fun i j=>[SV.i .i64 ((l.getD i (0,0)).1:Nat),.i .i64 ((l.getD i (0,0)).2:Nat)].getD j default
def Qx (a:Option Addr) (cap:Nat) (l:List (Nat×Nat)):Own:=.row a 130 l.length cap 2 (epRd l)
theorem ep_one (l:List (Nat×Nat)) (i j:Nat) (h:j<2):XA (epRd l i j)=true:=by
 rcases (show j=0∨j=1 by omega) with rfl|rfl<;>rfl
theorem ep_app {l:List (Nat×Nat)} {a b:Nat} {cs:List SV} (h:cs=[.i .i64 (a:Nat),.i .i64 (b:Nat)]):rdEq (l.length+1) 2 (Zb l.length (epRd l) (rdL cs 2)) (epRd (l ++ [(a,b)])):=by
 subst h;refine Xm (fun i j hi hj=>?_) (fun j hj=>?_)
 ·unfold epRd;simp [List.getD,List.getElem?_append,hi]
 ·unfold epRd;simp [List.getD]
def qb26:=And.intro @evr (And.intro @Qm (And.intro @Qq (And.intro @ep_one (@evn))))
def qb27:=And.intro @evr (And.intro @Qm (And.intro @List.append_nil.{0} (And.intro @Int.toNat_zero (And.intro @Nat.sub_self (And.intro @Qq (@ep_one))))))
set_option maxRecDepth 100000 in
theorem cutFnC:resAsk 117 (fun x=>!QH x):=by
 intro x F;refine Qi Tryz.func117 rfl (by kernel_rfl) ?_;simp only[Tryz.ntmps117,Qt,Q0,Res.cs];(repeat refine Qc ?_);(refine Qa fun k hk=>?_;simp only[id,seval,Qb,Qx,qb26]);intro blk2;(refine hk _ ?_;clear hk k;try show Sat _ _ _ _ _);(repeat refine Qc ?_);(refine Qa fun k hk=>?_;simp only[id,seval,Qb,Qx,qb26]);refine Qd (validC F x) rfl (by rintro _ rfl;exact Qh rfl) ?_;rintro r rfl;simp only[id,seval,Qb,Qx,qb26];(refine hk _ ?_;clear hk k;try show Sat _ _ _ _ _);refine Sat.ret ?_;simp only[Tryz.results117,id,seval,Qb,Qx,qb27]
theorem res_11 (d:Array Res) (i:Nat):Qk d i 11=.i .u32 (d[i]!).from_:=rfl
def oneT (xs:List Res):Prop:=∀ r∈xs,∀ s∈xs,r.tre=s.tre
def CutRes (xs:List Res) (l:List (Nat×Nat)) (e:Int):Prop:=
 (e=1∧l=[]∧∃ x∈xs,QH x=false)∨((∀ x∈xs,QH x=true)∧∃ ys,OrdOf xs ys∧((e=5∧l=[]∧512<ys.length)∨(e=35∧l=[]∧ys.length≤512∧¬ oneT ys)∨(e=0∧ys.length≤512∧oneT ys∧Cuts (fun i=>ys.toArray[i]!) ys.length l)))
def qb28:=And.intro @evr (And.intro @Qm (And.intro @Qq (And.intro @ep_one (And.intro @evl (@evn)))))
set_option maxRecDepth 100000 in
theorem cutC (F:Frm) (ad:Option Addr) (cap:Nat) (xs:List Res) (hl:xs.length≤1000000000) (hin:∀ r∈xs,RgR r) :
  Contract F Tryz.prog 86 [.sl ad xs.length cap 17 (Qk xs.toArray)] (fun r=>∃ (a:Option Addr) (cap:Nat) (l:List (Nat×Nat)) (e:Int),CutRes xs l e∧l.length≤1000∧r=Xh [.sl a l.length cap 2 (epRd l),.i .i64 e]):=by
 refine Qi Tryz.func86 rfl (by kernel_rfl) ?_;simp only[Tryz.ntmps86,Qt];(repeat refine Qc ?_);(refine Qa fun k hk=>?_;simp only[id,seval,Qb,Qx,qb26];refine hk _ ?_;clear hk k;try show Sat _ _ _ _ _);refine Sat.scope ?_;(repeat refine Qc ?_);(refine Qa fun k hk=>?_;simp only[id,seval,Qb,Qx,qb26]);refine Qd (containsFuncC F _ _ _ cutFnC ad cap xs hl) (by simp only[id,seval,Qb,Qx,qb26];rfl) (by rintro _ rfl;exact Qh rfl) ?_;rintro r rfl;simp only[id,seval,Qb,Qx,qb26];(refine hk _ ?_;clear hk k;try show Sat _ _ _ _ _);(repeat refine Qc ?_);refine Qe rfl (fun h=>?_) (fun h=>?_)
 ·(repeat refine Qc ?_);(refine Qa fun k hk=>?_;simp only[id,seval,Qb,Qx,qb26];refine hk _ ?_;clear hk k;try show Sat _ _ _ _ _);refine Q1 2 130 2 (epRd []) rfl ?_;refine Sat.ret ?_;simp only[scopeK,Qf,Tryz.results86,id,seval,Qb,Qx,qb27];obtain⟨x,hx,hv⟩:=List.any_eq_true.1 h;exact⟨none,0,[],1,.inl ⟨rfl,rfl,x,hx,by simpa using hv⟩,by simp,rfl⟩
 refine Sat.skip ?_;simp only[Qf]
 have hval:∀ x∈xs,QH x=true:=fun x hx=>by
  have:=(List.any_eq_false.1 h) x hx
  simpa using this
 (repeat refine Qc ?_);(refine Qa fun k hk=>?_;simp only[id,seval,Qb,Qx,qb26]);refine Q8 (orderC F ad cap xs hl hin) rfl rfl ?_;rintro ra ty len rc sz rrd ⟨a,c,ys,ho,hyl,e⟩;simp only[Qb,Own.row.injEq] at e;obtain⟨rfl,rfl,rfl,rfl,rfl,rfl⟩:=e;simp only[id,seval,Qb,Qx,qb26];(refine hk _ ?_;clear hk k;try show Sat _ _ _ _ _);refine Zo 4 rfl rfl ?_;simp only[id,seval,Qb,Qx,qb26];(repeat refine Qc ?_);(refine Qa fun k hk=>?_;simp only[id,seval,Qb,Qx,qb26];refine hk _ ?_;clear hk k;try show Sat _ _ _ _ _);(repeat refine Qc ?_);refine Qe rfl (fun h2=>?_) (fun h2=>?_)
 ·(repeat refine Qc ?_);(refine Qa fun k hk=>?_;simp only[id,seval,Qb,Qx,qb26];refine hk _ ?_;clear hk k;try show Sat _ _ _ _ _);refine Q1 2 130 2 (epRd []) rfl ?_;refine Sat.ret ?_;simp only[scopeK,Qf,Tryz.results86,id,seval,Qb,Qx,qb27];exact⟨none,0,[],5,.inr ⟨hval,ys,ho,.inl ⟨rfl,rfl,by simp only[decide_eq_true_eq] at h2;omega⟩⟩,by simp,rfl⟩
 refine Sat.skip ?_;simp only[Qf];have hn:ys.length≤512:=by simp only[decide_eq_false_iff_not] at h2;omega
 (repeat refine Qc ?_);(refine Qa fun k hk=>?_;simp only[id,seval,Qb,Qx,qb26]);refine Q2 ((tracesC F ra rc ys (by omega)).toC) rfl (by simp only[id,seval,Qb,Qx,qb26]) ?_;rintro r ⟨ta,tty,tn,tc,tsz,trd,rfl,⟨a3,c3,ts,htr,htl,e⟩⟩;simp only[Ql,Own.row.injEq] at e;obtain⟨rfl,rfl,rfl,rfl,rfl,rfl⟩:=e;simp only[id,seval,Qb,Qx,qb26];(refine hk _ ?_;clear hk k;try show Sat _ _ _ _ _);have hone:ts.length≤1 ↔ oneT ys:=htr.one.trans ⟨fun h r hr s hs=>h r hr s hs ((ho.2 r).1 hr).2 ((ho.2 s).1 hs).2,fun h r hr s hs _ _=>h r hr s hs⟩;(repeat refine Qc ?_);refine Qe rfl (fun h3=>?_) (fun h3=>?_)
 ·(repeat refine Qc ?_);(refine Qa fun k hk=>?_;simp only[id,seval,Qb,Qx,qb26];refine hk _ ?_;clear hk k;try show Sat _ _ _ _ _);refine Q1 2 130 2 (epRd []) rfl ?_;refine Sat.ret ?_;simp only[scopeK,Qf,Tryz.results86,id,seval,Qb,Qx,qb27];exact⟨none,0,[],35,.inr ⟨hval,ys,ho,.inr (.inl ⟨rfl,rfl,hn,fun h=>by have:=hone.2 h;simp only[decide_eq_true_eq] at h3;omega⟩)⟩,by simp,rfl⟩
 refine Sat.skip ?_;simp only[Qf];have h1t:oneT ys:=hone.1 (by simp only[decide_eq_false_iff_not] at h3;omega);(repeat refine Qc ?_);(refine Qa fun k hk=>?_;simp only[id,seval,Qb,Qx,qb26];refine hk _ ?_;clear hk k;try show Sat _ _ _ _ _);(repeat refine Qc ?_);refine Sat.label ?_;simp only[Qf];(repeat refine Qc ?_);(refine Qa fun k hk=>?_;simp only[id,seval,Qb,Qx,qb26];refine hk _ ?_;clear hk k;try show Sat _ _ _ _ _);refine Q1 5 130 2 (epRd []) rfl ?_;refine Sat.block ?_;refine Qo (ι:=Nat×Option Addr×Nat×List (Nat×Nat)) (fun z=>⟨86,[(6,.i .i64 z.1),(5,.os 1 z.2.1 z.2.2.2.length z.2.2.1),(4,.sl ra ys.length rc 17 (Qk ys.toArray))],[.gone,Qx z.2.1 z.2.2.1 z.2.2.2]⟩)
  (fun z=>z.1≤ys.length∧Pre (fun i=>ys.toArray[i]!) z.2.2.2 z.1∧(z.1<ys.length∨z.1=0)) (fun z=>ys.length - z.1) (0,none,0,[]) ⟨Nat.zero_le _,.nil,.inr rfl⟩ (by simp only[id,reduceCtorEq,reduceIte,Nat.reduceMul,Nat.reduceAdd,Nat.reduceLT,Nat.reduceLeDiff,Nat.reduceEqDiff,Int.reduceLT,Int.reduceBEq,Int.reduceBNe,Nat.reduceBEq,Int.reduceToNat,Qb,Qx,qb28];rfl) ?_
 rintro⟨f0,a,c,l⟩ ⟨hf0,hpre,hz⟩;simp only[Qx] at hf0 hpre hz ⊢;have hll:=hpre.bound;(repeat refine Qc ?_);(refine Qa fun k hk=>?_;simp only[id,seval,Qb,Qx,qb26];refine hk _ ?_;clear hk k;try show Sat _ _ _ _ _);(repeat refine Qc ?_);refine Qe rfl (fun h=>?_) (fun h=>?_)
 ·have h0:f0<ys.length:=by simp only[decide_eq_true_eq] at h;omega
  refine Sat.skip ?_;simp only[Qf];(repeat refine Qc ?_);refine Sat.block ?_;(repeat refine Qc ?_);(refine Qa fun k hk=>?_;simp only[id,seval,Qb,Qx,qb26]);intro b1;(refine hk _ ?_;clear hk k;try show Sat _ _ _ _ _);(repeat refine Qc ?_);(refine Qa fun k hk=>?_;simp only[id,seval,Qb,Qx,qb26];refine hk _ ?_;clear hk k;try show Sat _ _ _ _ _);(repeat refine Qc ?_);refine Sat.block ?_;refine Qo (ι:=Nat×(List Int→Option Int)) (fun z=>⟨86,[(8,.i .i64 z.1),(7,.mp 2 b1),(6,.i .i64 f0),(5,.os 1 a l.length c),(4,.sl ra ys.length rc 17 (Qk ys.toArray))],[.gone,.row a 130 l.length c 2 (epRd l),.mp b1 false [.i64,.u32,.i64,.i64,.i64] .u32 z.2]⟩)
   (fun z=>f0≤z.1∧z.1≤ys.length∧SeenI (fun i=>ys.toArray[i]!) f0 z.1 z.2∧Seg (fun i=>ys.toArray[i]!) f0 z.1) (fun z=>ys.length - z.1) (f0,fun _=>none) ⟨Nat.le_refl _,hf0,SeenI.empty _ _,Seg.nil _ _⟩ (by simp only[id,seval,Qb,Qx,qb28];first|rfl|trace_state) ?_
  rintro⟨i,f⟩ ⟨hfi,hi,hs,hseg⟩;simp only at hfi hi hs hseg ⊢;(repeat refine Qc ?_);(refine Qa fun k hk=>?_;simp only[id,seval,Qb,Qx,qb26];refine hk _ ?_;clear hk k;try show Sat _ _ _ _ _);(repeat refine Qc ?_);refine Qe rfl (fun h=>?_) (fun h=>?_)
  ·have h1:i<ys.length:=by simp only[decide_eq_true_eq] at h;omega
   have e2:IntKind.i64.wrap ((i:Int)+1)=((i+1:Nat):Int):=by rw[w64 (by omega)];omega
   refine Sat.skip ?_;simp only[Qf];(repeat refine Qc ?_);refine Sat.block ?_;(repeat refine Qc ?_);(refine Qa fun k hk=>?_;simp only[id,seval,Qb,Qx,qb26]);refine⟨by omega,?_⟩;refine Qd (placeC F ys.toArray[i]!) rfl (by rintro _ rfl;exact placeS_ok _) ?_;rintro r rfl;simp only[placeS,spotAg,id,seval,Qb,Qx,qb27];intro b3;(refine hk _ ?_;clear hk k;try show Sat _ _ _ _ _);(repeat refine Qc ?_);(refine Qa fun k hk=>?_;simp only[id,seval,Qb,Qx,qb26];refine hk _ ?_;clear hk k;try show Sat _ _ _ _ _);(repeat refine Qc ?_);refine Qe rfl (fun h2=>?_) (fun h2=>?_)
   ·have hp:Z4 ys.toArray[i]! = false:=by simpa using h2
    refine Sat.exit ?_;simp only[Qg,Qf,reduceIte];refine Qa fun k hk=>?_;simp only[id,seval,Qb,Qx,e2,qb26];refine hk _ ?_;simp only[Qf,Qg];have hn:=hs.skip hp;refine⟨(i+1,f),⟨by simp only;omega,by simp only;omega,hn.1,hseg.snoc hn.2⟩,by simp only;omega,?_⟩;simp only[id,seval,Qb,Qx,qb28]
   ·have hp:Z4 ys.toArray[i]! = true:=by simpa using h2
    refine Sat.skip ?_;simp only[Qf];(repeat refine Qc ?_)
    refine QT (ι:=Option Int) (fun z=>⟨86,[(12,.b z.isSome),(11,.i .u32 (z.getD 0)),(9,.op 3 b3 0),(8,.i .i64 i),(7,.mp 2 b1),(6,.i .i64 f0),(5,.os 1 a l.length c),(4,.sl ra ys.length rc 17 (Qk ys.toArray))],
     [.gone,.row a 130 l.length c 2 (epRd l),.mp b1 false [.i64,.u32,.i64,.i64,.i64] .u32 f,.box b3 158 [.i .i64 (ys.toArray[i]!).vantage,.i .u32 (ys.toArray[i]!).dst,.i .i64 (ys.toArray[i]!).proto,.i .i64 (ys.toArray[i]!).flow,.i .i64 (ys.toArray[i]!).ttl]]⟩) (fun z=>f (ys.toArray[i]!).spot=z) ?_ ?_
    ·(refine Qa fun k hk=>?_;simp only[id,seval,Qb,Qx,qb26]);refine⟨fun v hv=>hk _ ?_,fun hv=>hk _ ?_⟩
     ·simp only[Qf];refine⟨some v,hv,?_⟩;simp only[Option.isSome_some,Option.getD_some];simp only[id,seval,Qb,Qx,qb28];try rfl
     ·simp only[Qf];refine⟨none,hv,?_⟩;simp only[Option.isSome_none,Option.getD_none];simp only[id,seval,Qb,Qx,qb28];try rfl
    intro z hz2;simp only[Qf];(repeat refine Qc ?_)
    refine Sat.at ⟨86,[(62,.b (z.isSome && (z.getD 0 != (ys.toArray[i]!).from_))),(9,.op 3 b3 0),(8,.i .i64 i),(7,.mp 2 b1),(6,.i .i64 f0),(5,.os 1 a l.length c),(4,.sl ra ys.length rc 17 (Qk ys.toArray))],
     [.gone,.row a 130 l.length c 2 (epRd l),.mp b1 false [.i64,.u32,.i64,.i64,.i64] .u32 f,.box b3 158 [.i .i64 (ys.toArray[i]!).vantage,.i .u32 (ys.toArray[i]!).dst,.i .i64 (ys.toArray[i]!).proto,.i .i64 (ys.toArray[i]!).flow,.i .i64 (ys.toArray[i]!).ttl]]⟩ ?_ ?_
    ·(refine Qa fun k hk=>?_;simp only[id,seval,Qb,Qx,qb26]);simp only[id,seval,Qb,Qx,res_11,qb26];refine⟨fun h3=>⟨by omega,hk _ ?_⟩,fun h3=>hk _ ?_⟩
     ·simp only[Qf,h3,Bool.true_and];simp only[id,seval,Qb,Qx,qb28]
     ·simp only[Qf,h3,Bool.false_and];simp only[id,seval,Qb,Qx,qb28]
    simp only[Qf];(repeat refine Qc ?_);refine Qe rfl (fun h4=>?_) (fun h4=>?_)
    ·simp only[Bool.and_eq_true,bne_iff_ne,ne_eq] at h4;obtain⟨v,rfl⟩:=Option.isSome_iff_exists.1 h4.1;have hbad:=hs.clash hp hz2 h4.2;obtain⟨w,hw1,hw2,_⟩:=hbad;(repeat refine Qc ?_);(refine Qa fun k hk=>?_;simp only[id,seval,Qb,Qx,qb26]);intro b4;refine⟨⟨by unfold maxLen;omega,by omega⟩,fun a2 cap2=>?_⟩;(refine hk _ ?_;clear hk k;try show Sat _ _ _ _ _);(repeat refine Qc ?_);(refine Qa fun k hk=>?_;simp only[id,seval,Qb,Qx,qb26];refine hk _ ?_;clear hk k;try show Sat _ _ _ _ _);refine Sat.exit ?_;simp only[Qf,Qg,reduceIte];refine⟨(i,a2,cap2,l ++ [(f0,i)]),⟨by simp only;omega,.snoc hpre (by omega) hseg (hs.clash hp hz2 h4.2),.inl (by simp only;omega)⟩,by simp only;omega,?_⟩;simp only[List.length_append,List.length_singleton];simp only[id,seval,Qb,Qx,qb28];exact ep_app rfl
    ·refine Sat.skip ?_;simp only[Qf];(refine Qp (.keep [0,2,3,4,5,6,1,7] [] (.one 8 .done)) (by kernel_rfl) (by kernel_rfl) (fun _ _ h=>h) fun k hk=>?_;simp only[WOT,List.map_cons,List.map_nil,List.getD_cons_zero,List.getD_cons_succ];simp only[id,seval,Qb,Qx,WOT,qb26]);simp only[id,seval,Qb,Qx,res_11,qb26];refine⟨by omega,?_⟩;(refine hk _ ?_;clear hk k;try show Sat _ _ _ _ _);refine Qa fun k hk=>?_;simp only[id,seval,Qb,Qx,e2,qb26];refine hk _ ?_;simp only[Qf,Qg]
     have hn:=hs.put hfi hp (fun x hx=>by
      rw[hz2] at hx;subst hx
      simpa using h4)
     refine⟨(i+1,fPut f (ys.toArray[i]!).spot (ys.toArray[i]!).from_),⟨by simp only;omega,by simp only;omega,hn.1,hseg.snoc hn.2⟩,by simp only;omega,?_⟩;simp only[id,seval,Qb,Qx,qb28];exact fun _=>rfl
  ·have h1:i=ys.length:=by simp only[decide_eq_false_iff_not] at h;omega
   refine Sat.exit ?_;simp only[Qf,Qg,reduceIte];(repeat refine Qc ?_);(refine Qa fun k hk=>?_;simp only[id,seval,Qb,Qx,qb26]);intro b4;refine⟨⟨by unfold maxLen;omega,by omega⟩,fun a2 cap2=>?_⟩;(refine hk _ ?_;clear hk k;try show Sat _ _ _ _ _);refine Sat.exit ?_;simp only[Qf,Qg,reduceIte];(repeat refine Qc ?_);(refine Qa fun k hk=>?_;simp only[id,seval,Qb,Qx,qb26];refine hk _ ?_;clear hk k;try show Sat _ _ _ _ _);refine Sat.le (st':=⟨86,[(3,.i .i64 0),(2,.os 1 a2 (l ++ [(f0,ys.length)]).length cap2)],[.gone,Qx a2 cap2 (l ++ [(f0,ys.length)])]⟩) ?_ ?_
   ·refine Sat.ret ?_;simp only[scopeK,Qf,Tryz.results86,id,seval,Qb,Qx,qb27];exact⟨a2,cap2,l ++ [(f0,ys.length)],0,.inr ⟨hval,ys,ho,.inr (.inr ⟨rfl,hn,h1t,.inr ⟨l,f0,hpre,h0,h1 ▸ hseg,rfl⟩⟩)⟩,by simp;omega,rfl⟩
   ·simp only[Qx];simp only[id,seval,Qb,Qx,qb28];exact⟨by simp,by simp,ep_app rfl⟩
 ·refine Sat.exit ?_;simp only[Qf,Qg,reduceIte];(repeat refine Qc ?_);(refine Qa fun k hk=>?_;simp only[id,seval,Qb,Qx,qb26];refine hk _ ?_;clear hk k;try show Sat _ _ _ _ _);refine Sat.ret ?_;simp only[scopeK,Qf,Tryz.results86,id,seval,Qb,Qx,qb27]
  have h0:f0=0∧ys.length=0:=by
   simp only[decide_eq_false_iff_not] at h;omega
  have hl0:l=[]:=List.eq_nil_of_length_eq_zero (by omega);exact⟨a,c,l,0,.inr ⟨hval,ys,ho,.inr (.inr ⟨rfl,hn,h1t,.inl ⟨h0.2,hl0⟩⟩)⟩,by omega,rfl⟩
def partL (ys:List Res) (a b:Int):List Res:=if 0≤a∧a≤b∧b≤ys.length then (ys.take b.toNat).drop a.toNat else []
theorem part_rd {ys:List Res} {a b:Int} (h:0≤a∧a≤b∧b≤ys.length):rdEq (b.toNat - a.toNat) 17 (fun i j=>Qk ys.toArray (a.toNat+i) j) (Qk (partL ys a b).toArray):=by
 intro i j hi hj;unfold Qk partL;rw[if_pos h];have h1:a.toNat+i<b.toNat:=by omega
 have h2:a.toNat+i<ys.length:=by omega
 have h3:i<((ys.take b.toNat).drop a.toNat).length:=by rw[List.length_drop,List.length_take];omega
 show (Res.cs ys.toArray[a.toNat+i]!).getD j default=_;rw[getB h2,getB h3,List.getElem_drop,List.getElem_take]
theorem ContractN.of_sim {F:Frm} {P:Program} {f:FuncId} {args args':List SV} {post:Own→Prop} (h:ContractN F P f args' post) (hs:simA args args'):ContractN F P f args post:=
 ⟨h.enters,fun R w h1 h2 h3=>by rw[simA_den hs];exact h.calls R w h1 (simA_ok hs h2) h3⟩
end Go.Proofs.YtfeiiadligkamaaGreat
