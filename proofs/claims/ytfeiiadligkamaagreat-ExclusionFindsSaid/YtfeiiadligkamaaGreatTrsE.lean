import Derived.Test.YtfeiiadligkamaaGreatWitE
import Derived.Test.YtfeiiadligkamaaGreatTreSrt7
import Derived.Test.YtfeiiadligkamaaGreatTreCpt
import Derived.Test.YtfeiiadligkamaaGreatCmqE
set_option linter.unusedSimpArgs false
set_option linter.unusedVariables false
set_option linter.defProp false
namespace Go.Proofs.YtfeiiadligkamaaGreat
open Go.Sort Eng
def qb18:=And.intro @evr (And.intro @Qm (And.intro @Qq (And.intro @Z3 (And.intro @tre_ro (@evn)))))
def qb19:=And.intro @evr (And.intro @Qm (And.intro @List.append_nil.{0} (And.intro @Int.toNat_zero (And.intro @Nat.sub_self (And.intro @Qq (And.intro @Z3 (@tre_ro)))))))
set_option maxRecDepth 100000 in
theorem trcFnC (F:Frm) (x y:Tre):Contract F Tryz.prog 115 [treAg x,treAg y] (fun r=>r=.i .i64 (treCmpI x y)):=by
 refine Qi Tryz.func115 rfl (by kernel_rfl) ?_;simp only[Tryz.ntmps115,Qt,treAg,Tre.cs];(repeat refine Qc ?_);(refine Qa fun k hk=>?_;simp only[id,seval,Qb,Ql,qb18]);intro blk1 blk2;(refine hk _ ?_;clear hk k;try show Sat _ _ _ _ _);(repeat refine Qc ?_);(refine Qp (OT.keep [0,2,5,7,10,12,1,3,6,8,11,13] [4,9] (BT.one 4 (BT.one 9 (BT.one 14 (BT.one 15 (BT.one 16 (BT.one 17 BT.done))))))) (by kernel_rfl) (by kernel_rfl) (fun _ _ h=>h) fun k hk=>?_;simp only[WOT,List.map_cons,List.map_nil,List.getD_cons_zero,List.getD_cons_succ];simp only[id,seval,Qb,Ql,WOT,qb18]);refine Qd (cmpC F x.van y.van) rfl (by rintro _ rfl;exact Qh rfl) ?_;rintro r rfl;simp only[id,seval,Qb,Ql,qb18];refine Qd (cmpAC F x.dst y.dst) rfl (by rintro _ rfl;exact Qh rfl) ?_;rintro r rfl;simp only[id,seval,Qb,Ql,qb18];refine Qd (cmpC F x.pro y.pro) rfl (by rintro _ rfl;exact Qh rfl) ?_;rintro r rfl;simp only[id,seval,Qb,Ql,qb18];intro blk3;refine Qd (orC F (some ⟨blk3,0,none⟩) 3 [Zq x.van y.van,Zq x.dst y.dst,Zq x.pro y.pro] (by simp)) (by simp only[id,seval,Qb,Ql,intsRd,qb18]) (by rintro _ rfl;exact Qh rfl) ?_;rintro r rfl;simp only[id,seval,Qb,Ql,qb18];(refine hk _ ?_;clear hk k;try show Sat _ _ _ _ _);refine Sat.ret ?_;simp only[Tryz.results115,id,seval,Qb,Ql,qb19];rfl
theorem treCmp1:treCmp 115 treLt:=fun x y=>⟨treCmpI x y,rfl,fun F=>trcFnC F x y⟩
theorem Xs (x:Res) (R:Nat→Prop) (w:World):(QZ x).ok R w:=by
 intro j hj;rcases (show j=0∨j=1∨j=2 by omega) with rfl|rfl|rfl<;>trivial
def Res.tre (r:Res):Tre:=⟨r.vantage,r.dst,r.proto⟩
def TracesOf (xs:List Res) (ts:List Tre):Prop:=(ts.Pairwise fun a b=>treLt a b=true)∧∀ t,t∈ts ↔ ∃ r∈xs,QH r=true∧r.tre=t
theorem tre_sorted {xs:List Res} {N:Nat} {fs:List Tre} {d':Array Tre} (hf:fs=(xs.filter QH).map Res.tre) (hN:fs.length=N) (hd:d'.size=N) (hp:PermIn 0 N fs.toArray d') (hs:SortedIn treLt 0 N d'):TracesOf xs (QS d'.toList)∧(QS d'.toList).length≤N:=by
 subst hN;have h:=hp.2.2;have e1:(d'.extract 0 fs.length)=d':=by rw[← hd];simp
 have e2:(fs.toArray.extract 0 fs.length)=fs.toArray:=by simp
 rw[e1,e2] at h;have hm:∀ r,r∈d'.toList ↔ r∈fs:=fun r=>by simpa using h.mem_iff
 have hs':d'.toList.Pairwise fun a b=>treLt b a=false:=by
  rw[List.pairwise_iff_getElem];intro i j hi hj hij;have hi':i<d'.size:=by simpa using hi
  have hj':j<d'.size:=by simpa using hj
  have:=hs i j (Nat.zero_le _) hij (by omega)
  simpa [getElem!_def,hi',hj'] using this
 refine⟨⟨compactT_asc _ hs',fun t=>(compactT_mem _ t).trans ((hm t).trans ?_)⟩,?_⟩
 ·rw[hf];simp only[List.mem_map,List.mem_filter];exact⟨fun⟨r,⟨h1,h2⟩,h3⟩=>⟨r,h1,h2,h3⟩,fun⟨r,h1,h2,h3⟩=>⟨r,⟨h1,h2⟩,h3⟩⟩
 ·have:=compactT_le d'.toList;simp only[Array.length_toList] at this;omega
theorem tre_app {ys:List Tre} {x:Tre} {cs:List SV} (h:cs=Tre.cs x):rdEq (ys.length+1) 3 (Zb ys.length (Xw ys.toArray) (rdL cs 3)) (Xw (ys ++ [x]).toArray):=by
 subst h;refine Xm (fun i j hi hj=>?_) (fun j hj=>?_)
 ·unfold Xw;simp [getElem!_def,List.getElem?_append,hi]
 ·unfold Xw;simp [getElem!_def]
theorem TracesOf.one {xs:List Res} {ts:List Tre} (h:TracesOf xs ts):ts.length≤1 ↔ ∀ r∈xs,∀ s∈xs,QH r=true→QH s=true→r.tre=s.tre:=by
 constructor
 ·intro hl r hr s hs vr vs;have h1:=(h.2 r.tre).2 ⟨r,hr,vr,rfl⟩;have h2:=(h.2 s.tre).2 ⟨s,hs,vs,rfl⟩
  match ts,hl,h1,h2 with
  | [t],_,h1,h2=>simp at h1 h2;rw[h1,h2]
 ·intro ha
  match ts,h with
  | [],_=>simp
  | [t],_=>simp
  | t :: u :: l,h=>
   obtain⟨r,hr,vr,er⟩:=(h.2 t).1 (by simp);obtain⟨s,hs,vs,es⟩:=(h.2 u).1 (by simp);have hlt:=(List.pairwise_cons.1 h.1).1 u (by simp);rw[← er,← es,ha r hr s hs vr vs,treLt_irrefl] at hlt;cases hlt
def qb20:=And.intro @evr (And.intro @Qm (And.intro @Qq (And.intro @Z3 (And.intro @tre_ro (And.intro @evl (@evn))))))
set_option maxRecDepth 100000 in
theorem tracesC (F:Frm) (ad:Option Addr) (cap:Nat) (xs:List Res) (hl:xs.length≤1000000000) :
  ContractN F Tryz.prog 84 [.sl ad xs.length cap 17 (Qk xs.toArray)] (fun o=>∃ a cap ts,TracesOf xs ts∧ts.length≤xs.length∧o=Ql a ts.length cap ts.toArray):=by
 refine Zh Tryz.func84 rfl (by kernel_rfl) ?_;simp only[Tryz.ntmps84,Qt];(repeat refine Qc ?_);(refine Qa fun k hk=>?_;simp only[id,seval,Qb,Ql,qb18];refine hk _ ?_;clear hk k;try show Sat _ _ _ _ _);(repeat refine Qc ?_);(refine Qa fun k hk=>?_;simp only[id,seval,Qb,Ql,qb18];refine hk _ ?_;clear hk k;try show Sat _ _ _ _ _);(repeat refine Qc ?_);(refine Qa fun k hk=>?_;simp only[id,seval,Qb,Ql,qb18];refine hk _ ?_;clear hk k;try show Sat _ _ _ _ _);(repeat refine Qc ?_);refine Q1 3 68 3 (Xw #[]) rfl ?_;refine Sat.block ?_;refine Qo (ι:=Nat×Option Addr×Nat×List Tre) (fun z=>⟨24,[(8,.i .i64 z.1),(7,.i .i64 xs.length),(6,.sl ad xs.length cap 17 (Qk xs.toArray)),(3,.os 0 z.2.1 z.2.2.2.length z.2.2.1)],[Ql z.2.1 z.2.2.2.length z.2.2.1 z.2.2.2.toArray]⟩)
  (fun z=>z.1≤xs.length∧z.2.2.2=((xs.take z.1).filter QH).map Res.tre) (fun z=>xs.length - z.1) (0,none,0,[]) ⟨Nat.zero_le _,rfl⟩ (by simp only[id,reduceCtorEq,reduceIte,Nat.reduceMul,Nat.reduceAdd,Nat.reduceLT,Nat.reduceLeDiff,Nat.reduceEqDiff,Int.reduceLT,Int.reduceBEq,Int.reduceBNe,Nat.reduceBEq,Int.reduceToNat,Qb,Ql,qb20];rfl) ?_
 rintro⟨i,a,c,ys⟩ ⟨hi,hy⟩;simp only[Ql] at hi hy ⊢;have hyl:ys.length≤i:=by rw[hy,List.length_map];exact XO
 (repeat refine Qc ?_);(refine Qa fun k hk=>?_;simp only[id,seval,Qb,Ql,qb18];refine hk _ ?_;clear hk k;try show Sat _ _ _ _ _);(repeat refine Qc ?_);refine Qe rfl (fun h=>?_) (fun h=>?_)
 ·have h1:i<xs.length:=by simp only[decide_eq_true_eq] at h;omega
  have e2:IntKind.i64.wrap ((i:Int)+1)=((i+1:Nat):Int):=by rw[w64 (by omega)];omega
  have hstep:=Xt (p:=QH) h1;refine Sat.skip ?_;simp only[Qf];(repeat refine Qc ?_);refine Sat.block ?_;(repeat refine Qc ?_);(refine Qa fun k hk=>?_;simp only[id,seval,Qb,Ql,qb18]);refine⟨by omega,?_⟩;intro b2;(refine hk _ ?_;clear hk k;try show Sat _ _ _ _ _);(repeat refine Qc ?_);(refine Qa fun k hk=>?_;simp only[id,seval,Qb,Ql,qb18]);refine Qd (validC F xs.toArray[i]!) rfl (by rintro _ rfl;exact Qh rfl) ?_;rintro r rfl;simp only[id,seval,Qb,Ql,qb18];(refine hk _ ?_;clear hk k;try show Sat _ _ _ _ _);(repeat refine Qc ?_);refine Qe rfl (fun h2=>?_) (fun h2=>?_)
  ·(repeat refine Qc ?_);(refine Qa fun k hk=>?_;simp only[id,seval,Qb,Ql,qb18]);refine Qd (traceOfC F xs.toArray[i]!) rfl (by rintro _ rfl;exact Xs _) ?_;rintro r rfl;simp only[QZ,id,seval,Qb,Ql,qb19];intro b3;refine⟨⟨by unfold maxLen;omega,by omega⟩,fun a2 cap2=>?_⟩;(refine hk _ ?_;clear hk k;try show Sat _ _ _ _ _);refine Qa fun k hk=>?_;simp only[id,seval,Qb,Ql,e2,qb18];refine hk _ ?_;simp only[Qf,Qg]
   have e3:ys ++ [xs[i].tre]=((xs.take (i+1)).filter QH).map Res.tre:=by
    rw[getB h1] at h2;rw[hstep,List.map_append,← hy,if_pos h2];rfl
   refine⟨(i+1,a2,cap2,ys ++ [xs[i].tre]),⟨by simp only;omega,e3⟩,by simp only;omega,?_⟩;simp only[List.length_append,List.length_singleton];simp only[id,seval,Qb,Ql,qb20];exact tre_app (by rw[getB h1];rfl)
  ·refine Sat.skip ?_;simp only[Qf,Qg];refine Qa fun k hk=>?_;simp only[id,seval,Qb,Ql,e2,qb18];refine hk _ ?_;simp only[Qf,Qg];refine⟨(i+1,a,c,ys),⟨by simp only;omega,?_⟩,by simp only;omega,?_⟩
   ·rw[getB h1] at h2;simp only;rw[hstep,List.map_append,← hy,if_neg (by rw[h2];simp),List.map_nil,List.append_nil]
   ·simp only[id,seval,Qb,Ql,qb20]
 ·have h1:i=xs.length:=by simp only[decide_eq_false_iff_not] at h;omega
  have hys:ys=(xs.filter QH).map Res.tre:=by rw[hy,h1,List.take_length]
  refine Sat.exit ?_;simp only[Qf,Qg,reduceIte];(repeat refine Qc ?_);(refine Qa fun k hk=>?_;simp only[id,seval,Qb,Ql,qb18]);refine Xl 0 (treSortC F treLt_swo treCmp1 a c ys.length (by omega) ys.toArray (by simp)) rfl rfl ?_;rintro r o1 ⟨rfl,d',hd',⟨hperm,hsort⟩,rfl⟩;simp only[id,seval,Qb,Ql,qb18];(refine hk _ ?_;clear hk k;try show Sat _ _ _ _ _);(repeat refine Qc ?_);(refine Qa fun k hk=>?_;simp only[id,seval,Qb,Ql,qb18]);refine Xl 0 (compactTC F a c ys.length (by omega) d' hd') rfl rfl ?_;rintro r o1 ⟨rfl,rfl⟩;simp only[id,seval,Qb,Ql,qb18];(refine hk _ ?_;clear hk k;try show Sat _ _ _ _ _);refine Sat.ret ?_;simp only[Tryz.results84,id,seval,Qb,Ql,retN,retNK,newRow,qb19];obtain⟨g1,g2⟩:=tre_sorted hys rfl hd' hperm hsort;exact⟨⟨rfl,rfl,rfl⟩,a,c,QS d'.toList,g1,by omega,rfl⟩
end Go.Proofs.YtfeiiadligkamaaGreat
