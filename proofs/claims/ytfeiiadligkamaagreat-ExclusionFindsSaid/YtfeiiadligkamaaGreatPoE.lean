import Derived.Test.YtfeiiadligkamaaGreatClsE
import Derived.Test.YtfeiiadligkamaaGreatResSrt7
import Derived.Test.YtfeiiadligkamaaGreatCmtE
set_option linter.unusedSimpArgs false
set_option linter.unusedVariables false
set_option linter.defProp false
namespace Go.Proofs.YtfeiiadligkamaaGreat
open Go.Sort Eng
def RgR (r:Res):Prop:=w64i r.dst=r.dst∧w64i r.from_=r.from_
def OrdOf (xs ys:List Res):Prop:=Asc ys∧∀ r,r∈ys ↔ r∈xs∧QH r=true
theorem OrdOf.unique {xs ys zs:List Res} (h:OrdOf xs ys) (g:OrdOf xs zs):ys=zs:=
 pth_asc_unique h.1 g.1 fun r=>(h.2 r).trans (g.2 r).symm
theorem OrdOf.self {xs:List Res} (h:Asc xs) (hv:∀ r∈xs,QH r=true):OrdOf xs xs:=⟨h,fun r=>⟨fun m=>⟨m,hv r m⟩,fun m=>m.1⟩⟩
theorem compact_le:∀ l:List Res,(compact l).length≤l.length
 | []=>Nat.le_refl _
 | [x]=>Nat.le_refl _
 | x :: y :: l=>by
  have ih:=compact_le (y :: l);unfold compact;split
  ·simp only[List.length_cons] at ih ⊢;omega
  ·simp only[List.length_cons] at ih ⊢;omega
theorem ord_sorted {xs:List Res} {N:Nat} {fs:List Res} {d':Array Res} (hin:∀ r∈xs,RgR r) (hf:fs=xs.filter QH) (hN:fs.length=N) (hd:d'.size=N) (hp:PermIn 0 N fs.toArray d') (hs:SortedIn wLt 0 N d'):OrdOf xs (compact d'.toList)∧(compact d'.toList).length≤N:=by
 subst hN;have h:=hp.2.2;have e1:(d'.extract 0 fs.length)=d':=by rw[← hd];simp
 have e2:(fs.toArray.extract 0 fs.length)=fs.toArray:=by simp
 rw[e1,e2] at h;have hm:∀ r,r∈d'.toList ↔ r∈fs:=fun r=>by simpa using h.mem_iff
 have hin':∀ r∈d'.toList,RgR r:=fun r hr=>hin r (by have:=(hm r).1 hr;rw[hf] at this;exact (List.mem_filter.1 this).1)
 have hs':d'.toList.Pairwise fun a b=>Xb b a=false:=by
  rw[List.pairwise_iff_getElem];intro i j hi hj hij;have hi':i<d'.size:=by simpa using hi
  have hj':j<d'.size:=by simpa using hj
  have:=hs i j (Nat.zero_le _) hij (by omega);have g1:=hin' d'.toList[i] (List.getElem_mem hi);have g2:=hin' d'.toList[j] (List.getElem_mem hj);rw[← wLt_in g2.1 g2.2 g1.1 g1.2]
  simpa [getElem!_def,hi',hj'] using this
 refine⟨⟨pth_compact_asc _ hs',fun r=>(compact_mem _ r).trans ((hm r).trans ?_)⟩,?_⟩
 ·rw[hf];exact List.mem_filter
 ·have:=compact_le d'.toList;simp only[Array.length_toList] at this;omega
theorem Xt {α:Type} {p:α→Bool} {xs:List α} {i:Nat} (h:i<xs.length):(xs.take (i+1)).filter p=(xs.take i).filter p ++ (if p xs[i] then [xs[i]] else []):=by
 rw[List.take_succ_eq_append_getElem h,List.filter_append];cases hp:p xs[i]<;>simp [hp]
theorem XO {α:Type} {p:α→Bool} {xs:List α} {i:Nat}:((xs.take i).filter p).length≤i:=Nat.le_trans (List.length_filter_le _ _) (by rw[List.length_take];omega)
theorem getB {xs:List Res} {i:Nat} (h:i<xs.length):xs.toArray[i]! = xs[i]:=by simp [getElem!_def,h]
theorem res_app {ys:List Res} {x:Res} {cs:List SV} (h:cs=Res.cs x):rdEq (ys.length+1) 17 (Zb ys.length (Qk ys.toArray) (rdL cs 17)) (Qk (ys ++ [x]).toArray):=by
 subst h;refine Xm (fun i j hi hj=>?_) (fun j hj=>?_)
 ·unfold Qk;simp [getElem!_def,List.getElem?_append,hi]
 ·unfold Qk;simp [getElem!_def]
theorem res_cs {xs:List Res} {i:Nat} (h:i<xs.length):[Qk xs.toArray i 0,Qk xs.toArray i 1,Qk xs.toArray i 2,Qk xs.toArray i 3,Qk xs.toArray i 4,Qk xs.toArray i 5,Qk xs.toArray i 6,Qk xs.toArray i 7,Qk xs.toArray i 8,Qk xs.toArray i 9,Qk xs.toArray i 10,Qk xs.toArray i 11,Qk xs.toArray i 12,Qk xs.toArray i 13,Qk xs.toArray i 14,Qk xs.toArray i 15,Qk xs.toArray i 16]=Res.cs xs[i]:=by
 rw[← getB h];rfl
def qb14:=And.intro @evr (And.intro @Qm (And.intro @Qq (@evn)))
def qb15:=And.intro @evr (And.intro @Qm (And.intro @Qq (And.intro @evl (@evn))))
set_option maxRecDepth 100000 in
theorem orderC (F:Frm) (ad:Option Addr) (cap:Nat) (xs:List Res) (hl:xs.length≤1000000000) (hin:∀ r∈xs,RgR r) :
  ContractN F Tryz.prog 55 [.sl ad xs.length cap 17 (Qk xs.toArray)] (fun o=>∃ a cap ys,OrdOf xs ys∧ys.length≤xs.length∧o=Qb a ys.length cap ys.toArray):=by
 refine Zh Tryz.func55 rfl (by kernel_rfl) ?_;simp only[Tryz.ntmps55,Qt];(repeat refine Qc ?_);(refine Qa fun k hk=>?_;simp only[id,seval,Qb,qb14];refine hk _ ?_;clear hk k;try show Sat _ _ _ _ _);(repeat refine Qc ?_);(refine Qa fun k hk=>?_;simp only[id,seval,Qb,qb14];refine hk _ ?_;clear hk k;try show Sat _ _ _ _ _);(repeat refine Qc ?_);(refine Qa fun k hk=>?_;simp only[id,seval,Qb,qb14];refine hk _ ?_;clear hk k;try show Sat _ _ _ _ _);(repeat refine Qc ?_);refine Q1 3 62 17 (Qk #[]) rfl ?_;refine Sat.block ?_;refine Qo (ι:=Nat×Option Addr×Nat×List Res) (fun z=>⟨23,[(8,.i .i64 z.1),(7,.i .i64 xs.length),(6,.sl ad xs.length cap 17 (Qk xs.toArray)),(3,.os 0 z.2.1 z.2.2.2.length z.2.2.1)],[Qb z.2.1 z.2.2.2.length z.2.2.1 z.2.2.2.toArray]⟩)
  (fun z=>z.1≤xs.length∧z.2.2.2=(xs.take z.1).filter QH) (fun z=>xs.length - z.1) (0,none,0,[]) ⟨Nat.zero_le _,rfl⟩ (by simp only[id,reduceCtorEq,reduceIte,Nat.reduceMul,Nat.reduceAdd,Nat.reduceLT,Nat.reduceLeDiff,Nat.reduceEqDiff,Int.reduceLT,Int.reduceBEq,Int.reduceBNe,Nat.reduceBEq,Int.reduceToNat,Qb,qb15];rfl) ?_
 rintro⟨i,a,c,ys⟩ ⟨hi,hy⟩;simp only[Qb] at hi hy ⊢;have hyl:ys.length≤i:=by rw[hy];exact XO
 (repeat refine Qc ?_);(refine Qa fun k hk=>?_;simp only[id,seval,Qb,qb14];refine hk _ ?_;clear hk k;try show Sat _ _ _ _ _);(repeat refine Qc ?_);refine Qe rfl (fun h=>?_) (fun h=>?_)
 ·have h1:i<xs.length:=by simp only[decide_eq_true_eq] at h;omega
  have e2:IntKind.i64.wrap ((i:Int)+1)=((i+1:Nat):Int):=by rw[w64 (by omega)];omega
  have hstep:=Xt (p:=QH) h1;refine Sat.skip ?_;simp only[Qf];(repeat refine Qc ?_);refine Sat.block ?_;(repeat refine Qc ?_);(refine Qa fun k hk=>?_;simp only[id,seval,Qb,qb14]);refine⟨by omega,?_⟩;intro b2;(refine hk _ ?_;clear hk k;try show Sat _ _ _ _ _);(repeat refine Qc ?_);(refine Qa fun k hk=>?_;simp only[id,seval,Qb,qb14]);refine Qd (validC F xs.toArray[i]!) rfl (by rintro _ rfl;exact Qh rfl) ?_;rintro r rfl;simp only[id,seval,Qb,qb14];(refine hk _ ?_;clear hk k;try show Sat _ _ _ _ _);(repeat refine Qc ?_);refine Qe rfl (fun h2=>?_) (fun h2=>?_)
  ·(repeat refine Qc ?_);(refine Qa fun k hk=>?_;simp only[id,seval,Qb,qb14]);intro b3;refine⟨⟨by unfold maxLen;omega,by omega⟩,fun a2 cap2=>?_⟩;(refine hk _ ?_;clear hk k;try show Sat _ _ _ _ _);refine Qa fun k hk=>?_;simp only[id,seval,Qb,e2,qb14];refine hk _ ?_;simp only[Qf,Qg]
   have e3:ys ++ [xs[i]]=(xs.take (i+1)).filter QH:=by
    rw[getB h1] at h2;rw[hstep,← hy,if_pos h2]
   refine⟨(i+1,a2,cap2,ys ++ [xs[i]]),⟨by simp only;omega,e3⟩,by simp only;omega,?_⟩;simp only[List.length_append,List.length_singleton];simp only[id,seval,Qb,qb15];exact res_app (res_cs h1)
  ·refine Sat.skip ?_;simp only[Qf,Qg];refine Qa fun k hk=>?_;simp only[id,seval,Qb,e2,qb14];refine hk _ ?_;simp only[Qf,Qg];refine⟨(i+1,a,c,ys),⟨by simp only;omega,?_⟩,by simp only;omega,?_⟩
   ·rw[getB h1] at h2;simp only;rw[hstep,← hy,if_neg (by rw[h2];simp),List.append_nil]
   ·simp only[id,seval,Qb,qb15]
 ·have h1:i=xs.length:=by simp only[decide_eq_false_iff_not] at h;omega
  have hys:ys=xs.filter QH:=by rw[hy,h1,List.take_length]
  refine Sat.exit ?_;simp only[Qf,Qg,reduceIte];(repeat refine Qc ?_);(refine Qa fun k hk=>?_;simp only[id,seval,Qb,qb14]);refine Xl 0 (resSortC F wLt_swo pcompareCmp a c ys.length (by omega) ys.toArray (by simp)) rfl rfl ?_;rintro r o1 ⟨rfl,d',hd',⟨hperm,hsort⟩,rfl⟩;simp only[id,seval,Qb,qb14];(refine hk _ ?_;clear hk k;try show Sat _ _ _ _ _);(repeat refine Qc ?_);(refine Qa fun k hk=>?_;simp only[id,seval,Qb,qb14]);refine Xl 0 (compactC F a c ys.length (by omega) d' hd') rfl rfl ?_;rintro r o1 ⟨rfl,rfl⟩;simp only[id,seval,Qb,qb14];(refine hk _ ?_;clear hk k;try show Sat _ _ _ _ _);refine Sat.ret ?_;simp only[Tryz.results55,evr,id,seval,Qm,List.append_nil,Int.toNat_zero,Nat.sub_self,Qb,Qq,retN,retNK,newRow];obtain⟨g1,g2⟩:=ord_sorted hin hys rfl hd' hperm hsort;exact⟨⟨rfl,rfl,rfl⟩,a,c,compact d'.toList,g1,by omega,rfl⟩
end Go.Proofs.YtfeiiadligkamaaGreat
