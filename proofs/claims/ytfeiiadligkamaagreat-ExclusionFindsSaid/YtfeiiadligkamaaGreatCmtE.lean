import Derived.Test.YtfeiiadligkamaaGreatResOrd
import Derived.Test.YtfeiiadligkamaaGreatResSrt0
import Derived.Test.YtfeiiadligkamaaGreatPk3
set_option linter.unusedSimpArgs false
set_option linter.unusedVariables false
set_option linter.defProp false
namespace Go.Proofs.YtfeiiadligkamaaGreat
open Go.Sort Eng
theorem Qq (own:List Own) (d:Array Res) (i j:Nat) (h:j<17):roArg own (Qk d i j)=Qk d i j:=by
 rcases (show j=0∨j=1∨j=2∨j=3∨j=4∨j=5∨j=6∨j=7∨j=8∨j=9∨j=10∨j=11∨j=12∨j=13∨j=14∨j=15∨j=16 by omega) with rfl|rfl|rfl|rfl|rfl|rfl|rfl|rfl|rfl|rfl|rfl|rfl|rfl|rfl|rfl|rfl|rfl<;>rfl
theorem res_eqs (s t:Res):aggEq Tryz.prog 62 17 (fun j=>(Res.cs s).getD j default) 17 (fun j=>(Res.cs t).getD j default) =
  some ([s.vantage == t.vantage,s.run == t.run,s.number == t.number,s.at_ == t.at_,s.dst == t.dst,s.proto == t.proto,s.flow == t.flow,s.ttl == t.ttl,s.answered == t.answered,s.doubled == t.doubled,s.back == t.back,[s.from_ == t.from_,s.kind == t.kind,s.code == t.code,s.left == t.left,s.id == t.id,s.quoted == t.quoted].all id].all id):=by kernel_rfl
theorem res_eq (s t:Res):aggEq Tryz.prog 62 17 (fun j=>(Res.cs s).getD j default) 17 (fun j=>(Res.cs t).getD j default)=some (decide (s=t)):=by
 rw[res_eqs]
 congr 1
 apply Bool.eq_iff_iff.2;cases s;cases t
 simp [and_assoc]
theorem res_eqr (d e:Array Res) (i k:Nat):aggEq Tryz.prog 62 17 (Qk d i) 17 (Qk e k)=some (decide (d[i]! = e[k]!)):=res_eq _ _
theorem res_set {d:Array Res} {N k:Nat} (hN:d.size=N) (hk:k<N) (q:Nat):rdEq N 17 (Z8 (Qk d) k 0 ((List.range 17).map (Qk d q))) (Qk (d.setIfInBounds k d[q]!)):=by
 intro p j hp hj;unfold Z8;have hl:((List.range 17).map (Qk d q)).length=17:=by simp
 have hg:((List.range 17).map (Qk d q)).getD (j - 0) default=Qk d q j:=by simp [List.getD,hj]
 simp only[hl,hg,Nat.zero_le,Nat.zero_add,hj,and_true,true_and];by_cases e:p=k
 ·subst e;simp [Qk,getElem!_def,hN,hk]
 ·rw[if_neg e];unfold Qk;simp [getElem!_def,Ne.symm e]
theorem compact_snoc:∀ (l:List Res) (a b:Res),compact (l ++ [a,b])=if a=b then compact (l ++ [a]) else compact (l ++ [a]) ++ [b]
 | [],a,b=>by by_cases h:a=b<;>simp [compact,h]
 | [x],a,b=>by
  simp only[List.cons_append,List.nil_append,compact];by_cases h1:x=a<;>by_cases h2:a=b<;>simp [h1,h2]
 | x :: y :: l,a,b=>by
  have ih:=compact_snoc (y :: l) a b;simp only[List.cons_append] at ih ⊢;simp only[compact];rw[ih];by_cases h1:x=y<;>by_cases h2:a=b<;>simp [h1,h2]
theorem compact_take (d:Array Res) (j:Nat) (h1:1≤j) (h2:j<d.size):compact (d.toList.take (j+1))=if d[j]! = d[j - 1]! then compact (d.toList.take j) else compact (d.toList.take j) ++ [d[j]!]:=by
 obtain⟨q,rfl⟩:∃ q,j=q+1:=⟨j - 1,by omega⟩;have hl:q+1<d.toList.length:=by simpa using h2
 rw[List.take_succ_eq_append_getElem hl,List.take_succ_eq_append_getElem (show q<d.toList.length by omega),List.append_assoc];simp only[List.cons_append,List.nil_append,Nat.add_sub_cancel];rw[compact_snoc];have e1:d[q+1]! = d.toList[q+1]:=by simp [getElem!_def,h2]
 have e2:d[q]! = d.toList[q]:=by simp [getElem!_def,show q<d.size by omega]
 rw[e1,e2];by_cases h:d.toList[q]=d.toList[q+1]
 ·rw[if_pos h,if_pos h.symm]
 ·rw[if_neg h,if_neg (Ne.symm h)]
theorem res_blk2 {ad:Option Addr} {N N' cap:Nat} (d d':Array Res):(Qb ad N cap d').blk=(Qb ad N' cap d).blk:=by cases ad<;>rfl
def qb1:=And.intro @evr (And.intro @Qm (And.intro @res_eqr (And.intro @Qq (@evn))))
def qb2:=And.intro @evr (And.intro @Qm (And.intro @res_eqr (And.intro @Qq (And.intro @evl (@evn)))))
set_option maxRecDepth 100000 in
theorem compactC (F:Frm) (ad:Option Addr) (cap N:Nat) (hN:N≤1000000000000) (d:Array Res) (hd:d.size=N) :
  ContractM F Tryz.prog 98 [.os 0 ad N cap] (Qb ad N cap d)
   (fun r o1=>r=.os 0 ad (compact d.toList).length cap∧o1=Qb ad (compact d.toList).length cap (compact d.toList).toArray):=by
 refine contractM_of Tryz.func98 rfl (by kernel_rfl) (by rintro r o1 ⟨_,rfl⟩;exact res_blk2 _ _) ?_;simp only[Tryz.ntmps98,Qt];refine ZE 0 rfl fun hcap=>?_
 have same:∀ {n:Nat} {env:List (Nat×SV)},compact d.toList=d.toList→Eng.look env 2=some (.os 0 ad N cap)→retM Tryz.prog [.tmp 2] (fun r o1=>r=.os 0 ad (compact d.toList).length cap∧o1=Qb ad (compact d.toList).length cap (compact d.toList).toArray) .ret ⟨n,env,[Qb ad N cap d]⟩:=by
  intro n env hc hl;rw[hc];simp only[id,seval,Qb,hl,qb1];refine⟨by simp [okM],_,_,rfl,?_,?_⟩
  ·simp [hd]
  ·simp [hd]
 (repeat refine Qc ?_);(refine Qa fun k hk=>?_;simp only[id,seval,Qb,qb1];refine hk _ ?_;clear hk k;try show Sat _ _ _ _ _);(repeat refine Qc ?_);(refine Qa fun k hk=>?_;simp only[id,seval,Qb,qb1];refine hk _ ?_;clear hk k;try show Sat _ _ _ _ _);(repeat refine Qc ?_);refine Qe rfl (fun h=>?_) (fun h=>?_)
 ·have hlt:N<2:=by simp only[decide_eq_true_eq] at h;omega
  (repeat refine Qc ?_);(refine Qa fun k hk=>?_;simp only[id,seval,Qb,qb1];refine hk _ ?_;clear hk k;try show Sat _ _ _ _ _);refine Sat.ret ?_;refine same ?_ rfl;have hl:d.toList.length<2:=by simpa [hd] using hlt
  match d.toList,hl with
  | [],_=>rfl
  | [x],_=>rfl
  | _ :: _ :: _,hl=>exact absurd hl (by simp only[List.length_cons];omega)
 ·have hge:2≤N:=by simp only[decide_eq_false_iff_not] at h;omega
  refine Sat.skip ?_;simp only[Qf];(repeat refine Qc ?_);(refine Qa fun k hk=>?_;simp only[id,seval,Qb,qb1];refine hk _ ?_;clear hk k;try show Sat _ _ _ _ _);(repeat refine Qc ?_);refine Sat.block ?_;refine Qo (ι:=Nat) (fun i=>⟨61,[(3,.i .i64 i),(0,.os 0 ad N cap)],[Qb ad N cap d]⟩)
   (fun i=>1≤i∧i≤N∧compact (d.toList.take i)=d.toList.take i) (fun i=>N - i) 1 ⟨Nat.le_refl _,by omega,by
    have hl:d.toList.length=N:=by simpa using hd
    match h:d.toList,hl with
    | [],hl=>rfl
    | x :: t,hl=>rfl⟩ (by simp only[id,reduceCtorEq,reduceIte,Nat.reduceMul,Nat.reduceAdd,Nat.reduceLT,Nat.reduceLeDiff,Nat.reduceEqDiff,Int.reduceLT,Int.reduceBEq,Int.reduceBNe,Nat.reduceBEq,Qb,qb2];rfl) ?_
  rintro i ⟨hi1,hi2,hi3⟩;(repeat refine Qc ?_);(refine Qa fun k hk=>?_;simp only[id,seval,Qb,qb1];refine hk _ ?_;clear hk k;try show Sat _ _ _ _ _);(repeat refine Qc ?_);refine Qe rfl (fun h=>?_) (fun h=>?_)
  ·have h1:i<N:=by simp only[decide_eq_true_eq] at h;omega
   have e2:IntKind.i64.wrap ((i:Int) - 1)=((i - 1:Nat):Int):=by rw[w64 (by omega)];omega
   have e3:IntKind.i64.wrap ((i:Int)+1)=((i+1:Nat):Int):=by rw[w64 (by omega)];omega
   have hct:=compact_take d i hi1 (by omega);refine Sat.skip ?_;simp only[Qf];(repeat refine Qc ?_);refine Sat.block ?_;(repeat refine Qc ?_);refine Qr (by kernel_rfl) (by kernel_rfl) fun k hk=>?_;simp only[id,seval,Qb,e2,qb1];refine⟨by omega,by omega,by omega,by omega,?_⟩;(refine hk _ ?_;clear hk k;try show Sat _ _ _ _ _);(repeat refine Qc ?_);refine Qe rfl (fun h3=>?_) (fun h3=>?_)
   ·simp only[decide_eq_true_eq] at h3;rw[if_pos h3,hi3] at hct;(repeat refine Qc ?_);(refine Qa fun k hk=>?_;simp only[id,seval,Qb,qb1]);refine⟨by omega,?_⟩;(refine hk _ ?_;clear hk k;try show Sat _ _ _ _ _);(repeat refine Qc ?_);(refine Qa fun k hk=>?_;simp only[id,seval,Qb,qb1];refine hk _ ?_;clear hk k;try show Sat _ _ _ _ _);(repeat refine Qc ?_);refine Sat.block ?_;refine Qo (ι:=Nat×Nat×Array Res) (fun x=>⟨61,[(3,.i .i64 x.1),(5,.i .i64 x.2.1),(0,.os 0 ad N cap),(4,.ow 0 ad 17 i (N - i) (cap - i))],[Qb ad N cap x.2.2]⟩)
     (fun x=>1≤x.2.1∧x.2.1≤N - i∧x.1≤i+x.2.1 - 1∧x.2.2.size=N∧(∀ q,i+x.2.1 - 1≤q→x.2.2[q]! = d[q]!)∧x.2.2.toList.take x.1=compact (d.toList.take (i+x.2.1))) (fun x=>N - x.2.1) (i,1,d) ⟨Nat.le_refl _,by show 1≤N - i;omega,by show i≤i+1 - 1;omega,hd,fun _ _=>rfl,hct.symm⟩ (by simp only[id,reduceCtorEq,reduceIte,Nat.reduceMul,Nat.reduceAdd,Nat.reduceLT,Nat.reduceLeDiff,Nat.reduceEqDiff,Int.reduceLT,Int.reduceBEq,Int.reduceBNe,Nat.reduceBEq,Qb,qb2];first|rfl|exact⟨rfl,rfl⟩) ?_
    rintro⟨w,r,d2⟩ ⟨hr1,hr2,hw,hd2,hq,ht⟩;simp only at hr1 hr2 hw hd2 hq ht ⊢;(repeat refine Qc ?_);(refine Qa fun k hk=>?_;simp only[id,seval,Qb,qb1];refine hk _ ?_;clear hk k;try show Sat _ _ _ _ _);(repeat refine Qc ?_);refine Qe rfl (fun h=>?_) (fun h=>?_)
    ·have h1:r<N - i:=by simp only[decide_eq_true_eq] at h;omega
     have e4:IntKind.i64.wrap ((r:Int) - 1)=((r - 1:Nat):Int):=by rw[w64 (by omega)];omega
     have e5:IntKind.i64.wrap ((r:Int)+1)=((r+1:Nat):Int):=by rw[w64 (by omega)];omega
     have e6:IntKind.i64.wrap ((w:Int)+1)=((w+1:Nat):Int):=by rw[w64 (by omega)];omega
     have hct2:=compact_take d (i+r) (by omega) (by omega);have q1:=hq (i+r) (by omega);have q2:=hq (i+r - 1) (by omega);have hsz:d2.toList.length=N:=by simpa using hd2
     refine Sat.skip ?_;simp only[Qf];(repeat refine Qc ?_);refine Sat.block ?_;(repeat refine Qc ?_);refine Qr (by kernel_rfl) (by kernel_rfl) fun k hk=>?_;simp only[id,seval,Qb,e4,qb1];refine⟨⟨by omega,by omega⟩,by omega,by omega,⟨by omega,by omega⟩,by omega,by omega,?_⟩;(refine hk _ ?_;clear hk k;try show Sat _ _ _ _ _);(repeat refine Qc ?_);refine Qe rfl (fun h4=>?_) (fun h4=>?_)
     ·simp only[Bool.not_eq_true',decide_eq_false_iff_not] at h4;rw[show i+(r - 1)=i+r - 1 by omega,q1,q2] at h4;rw[if_neg h4] at hct2;(repeat refine Qc ?_);(refine Qa fun k hk=>?_;simp only[id,seval,Qb,qb1]);refine⟨⟨by omega,by omega⟩,by omega,by omega,by omega,by omega,?_⟩;(refine hk _ ?_;clear hk k;try show Sat _ _ _ _ _);(repeat refine Qc ?_);refine Qa fun k hk=>?_;simp only[id,seval,Qb,e6,qb1];refine hk _ ?_;simp only[Qf,Qg];(repeat refine Qc ?_);refine Qa fun k hk=>?_;simp only[id,seval,Qb,e5,qb1];refine hk _ ?_;simp only[Qf,Qg];refine⟨(w+1,r+1,d2.setIfInBounds w d2[i+r]!),⟨by simp only;omega,by simp only;omega,by simp only;omega,by simp [hd2],fun q hq'=>?_,?_⟩,by show N - (r+1)<N - r;omega,?_⟩
      ·have hne:w≠q:=by simp only at hq';omega
       have:=hq q (by simp only at hq';omega);rw[← this];simp [getElem!_def,hne]
      ·show (d2.setIfInBounds w d2[i+r]!).toList.take (w+1)=compact (d.toList.take (i+(r+1)));rw[← Nat.add_assoc,hct2,← ht,q1,Array.toList_setIfInBounds,List.take_succ_eq_append_getElem (by simp;omega),List.take_set_of_le (Nat.le_refl _)];simp
      ·simp only[id,seval,Qb,qb2];exact res_set hd2 (by omega) _
     ·simp only[Bool.not_eq_false',decide_eq_true_eq] at h4;rw[show i+(r - 1)=i+r - 1 by omega,q1,q2] at h4;rw[if_pos h4] at hct2;refine Sat.skip ?_;simp only[Qf,Qg];refine Qa fun k hk=>?_;simp only[id,seval,Qb,e5,qb1];refine hk _ ?_;simp only[Qf,Qg];refine⟨(w,r+1,d2),⟨by simp only;omega,by simp only;omega,by simp only;omega,hd2,fun q hq'=>hq q (by simp only at hq';omega),?_⟩,by show N - (r+1)<N - r;omega,?_⟩
      ·show d2.toList.take w=compact (d.toList.take (i+(r+1)));rw[← Nat.add_assoc,hct2,ht]
      ·simp only[id,seval,Qb,qb2]
    ·have h1:r=N - i:=by simp only[decide_eq_false_iff_not] at h;omega
     subst h1;have hsz:d2.toList.length=N:=by simpa using hd2
     have hfin:compact d.toList=d2.toList.take w:=by rw[ht,List.take_of_length_le (by simp [hd];omega)]
     have hlen:(compact d.toList).length=w:=by rw[hfin,List.length_take];omega
     refine Sat.exit ?_;simp only[Qf,Qg,reduceIte];(repeat refine Qc ?_);(refine Qa fun k hk=>?_;simp only[id,seval,Qb,qb1]);refine⟨by omega,⟨by omega,by omega⟩,?_⟩;(refine hk _ ?_;clear hk k;try show Sat _ _ _ _ _);(repeat refine Qc ?_);(refine Qa fun k hk=>?_;simp only[id,seval,Qb,qb1]);refine⟨by omega,?_⟩;(refine hk _ ?_;clear hk k;try show Sat _ _ _ _ _);refine Sat.le (st':=⟨61,[(2,.os 0 ad w cap)],[Qb ad w cap (d2.toList.take w).toArray]⟩) ?_ ?_
     ·refine Sat.ret ?_;rw[hlen,hfin];simp only[Tryz.results98,evr,id,seval,Qm,List.append_nil,Int.toNat_zero,Nat.sub_self,Qb,res_eqr,Qq];exact⟨rfl,_,_,rfl,rfl⟩
     ·simp only[id,seval,Qb,qb2];intro p q hp hq';unfold Zb;rw[if_pos hp];unfold Qk;simp [getElem!_def,List.getElem?_take,hp]
   ·simp only[decide_eq_false_iff_not] at h3;rw[if_neg h3,hi3] at hct;refine Sat.skip ?_;simp only[Qf,Qg];refine Qa fun k hk=>?_;simp only[id,seval,Qb,e3,qb1];refine hk _ ?_;simp only[Qf,Qg];refine⟨i+1,⟨by omega,by omega,?_⟩,by omega,?_⟩
    ·rw[hct,List.take_succ_eq_append_getElem (by simp [hd];omega)];simp [getElem!_def,hd,h1]
    ·simp only[id,seval,Qb,qb2]
  ·have h1:i=N:=by simp only[decide_eq_false_iff_not] at h;omega
   subst h1;refine Sat.exit ?_;simp only[Qf,Qg,reduceIte];(repeat refine Qc ?_);(refine Qa fun k hk=>?_;simp only[id,seval,Qb,qb1];refine hk _ ?_;clear hk k;try show Sat _ _ _ _ _);refine Sat.ret ?_;refine same ?_ rfl
   rwa [List.take_of_length_le (by simp [hd])] at hi3
end Go.Proofs.YtfeiiadligkamaaGreat
