import Derived.Test.YtfeiiadligkamaaGreatCmM
import Derived.Test.YtfeiiadligkamaaGreatCmB
import Derived.Test.YtfeiiadligkamaaGreatPk3
import Derived.Test.YtfeiiadligkamaaGreatIdnSrt7
import Derived.Sort.AssemblyPlain
import Derived.Test.YtfeiiadligkamaaGreatExM
import Derived.Test.YtfeiiadligkamaaGreatExcMath
import Derived.Test.YtfeiiadligkamaaGreatPk2
import Derived.Test.YtfeiiadligkamaaGreatSrtLay
namespace Go.Proofs.YtfeiiadligkamaaGreat
set_option linter.unusedSimpArgs false
set_option linter.unusedVariables false
section
open Go.Sort Eng
theorem tl_get (T:List Eng.Own) (x:Eng.Own):(T ++ [x])[T.length]? = some x:=List.getElem?_concat_length
theorem tl_set (T:List Eng.Own) (x y:Eng.Own):(T ++ [x]).set T.length y=T ++ [y]:=by rw[List.set_append_right _ _ (Nat.le_refl _),Nat.sub_self];rfl
theorem idn_app {ys:List Idn} {x:Idn} {cs:List SV} (h:cs=Idn.cs x):rdEq (ys.length+1) 3 (Zb ys.length (QX ys.toArray) (rdL cs 3)) (QX (ys ++ [x]).toArray):=by
 subst h;refine Xm (fun i j hi hj=>?_) (fun j hj=>?_)
 ·unfold QX;simp [getElem!_def,List.getElem?_append,hi]
 ·unfold QX;simp [getElem!_def]
structure Grp where
 p:Par
 ids:List Idn
 a:Option Addr
 cap:Nat
instance:Inhabited Grp:=⟨⟨default,[],none,0⟩⟩
def Grp.row (g:Grp):Eng.Own:=Q6 g.a g.ids.length g.cap g.ids.toArray
def Grp.val (g:Grp):SV:=.os 0 g.a g.ids.length g.cap
def Grp.pair (g:Grp):Par×List Idn:=(g.p,g.ids)
structure Evd where
 kind:Int
 a:Int
 b:Int
 ids:List Idn
 ad:Option Addr
 cap:Nat
instance:Inhabited Evd:=⟨⟨0,0,0,[],none,0⟩⟩
def Evd.cs (e:Evd):List SV:=[.i .i64 e.kind,.i .u32 e.a,.i .u32 e.b,.sl e.ad e.ids.length e.cap 3 (QX e.ids.toArray)]
def Xi (es:List Evd):Nat→Nat→SV:=fun i j=>(Evd.cs (es.getD i default)).getD j default
theorem idn_sorted {L:List Idn} {d':Array Idn} (hd:d'.size=L.length) (hp:PermIn 0 L.length L.toArray d') (hs:SortedIn Za 0 L.length d'):d'.toList.Perm L∧d'.toList.Pairwise fun a b=>Za b a=false:=by
 have h:=hp.2.2;have e1:(d'.extract 0 L.length)=d':=by rw[← hd];simp
 have e2:(L.toArray.extract 0 L.length)=L.toArray:=by simp
 rw[e1,e2] at h;refine⟨by simpa using h,?_⟩;rw[List.pairwise_iff_getElem];intro i j hi hj hij;have hi':i<d'.size:=by simpa using hi
 have hj':j<d'.size:=by simpa using hj
 have:=hs i j (Nat.zero_le _) hij (by omega)
 simpa [getElem!_def,hi',hj'] using this
def Evd.pr (e:Evd):Par:=⟨e.a,e.b⟩
structure PairsOf (xs:List Res) (es:List Evd):Prop where
 asc:es.Pairwise fun x y=>ZK x.pr y.pr=true
 each:∀ e∈es,e.kind=1∧(e.ids.Pairwise fun x y=>Za x y=true)∧e.ids≠[]∧e.ids.length≤512
 mem:∀ p d,(∃ e∈es,e.pr=p∧d∈e.ids) ↔ ∃ r∈xs,showR r=some p∧r.idn=d
 len:es.length≤xs.length
end

set_option linter.defProp false
section
open Go.Sort Eng
theorem Zm (d:Array Idn) (i:Nat):QX d i 0=.i .i64 d[i]!.van:=rfl
theorem Zl (d:Array Idn) (i:Nat):QX d i 1=.i .i64 d[i]!.run:=rfl
theorem Zk (d:Array Idn) (i:Nat):QX d i 2=.i .i64 d[i]!.num:=rfl
def Q4:List Idn→List Idn→Int
 | [],[]=>0
 | [],_ :: _=>-1
 | _ :: _,[]=>1
 | x :: xs,y :: ys=>if QP x y≠0 then QP x y else Q4 xs ys
theorem cmpIds_step {xs ys:List Idn} {i:Nat} (h1:i<xs.length) (h2:i<ys.length):Q4 (xs.drop i) (ys.drop i)=if QP xs[i] ys[i]≠0 then QP xs[i] ys[i] else Q4 (xs.drop (i+1)) (ys.drop (i+1)):=by
 rw[List.drop_eq_getElem_cons h1,List.drop_eq_getElem_cons h2,Q4]
theorem idnGet {xs:List Idn} {i:Nat} (h:i<xs.length):xs.toArray[i]! = xs[i]:=by simp [getElem!_def,h]
def qb46:=And.intro @evr (And.intro @Qm (And.intro @Qv (And.intro @Qu (And.intro @Zm (And.intro @Zl (And.intro @Zk (And.intro @Qq (And.intro @Qj (@evn)))))))))
def qb48:=And.intro @evr (And.intro @Qm (And.intro @Qv (And.intro @Qu (And.intro @Zm (And.intro @Zl (And.intro @Zk (And.intro @List.append_nil.{0} (And.intro @Int.toNat_zero (And.intro @Nat.sub_self (And.intro @Qq (@Qj)))))))))))
def qb47:=And.intro @evr (And.intro @Qm (And.intro @Qv (And.intro @Qu (And.intro @Zm (And.intro @Zl (And.intro @Zk (And.intro @Qq (And.intro @Qj (And.intro @evl (@evn))))))))))
set_option maxRecDepth 100000 in
theorem cmpFuncC (F:Frm) (a b:Option Addr) (cap cap2:Nat) (xs ys:List Idn) (cc:Nat→SV) (hx:xs.length≤1000000000) (hy:ys.length≤1000000000) :
  Contract F Tryz.prog 103 [.sl a xs.length cap 3 (QX xs.toArray),.sl b ys.length cap2 3 (QX ys.toArray),.fn 48 0 cc] (fun r=>r=.i .i64 (Q4 xs ys)):=by
 refine Qi Tryz.func103 rfl (by kernel_rfl) ?_;simp only[Tryz.ntmps103,Qt];(repeat refine Qc ?_);(refine Qa fun k hk=>?_;simp only[id,seval,Qb,qb46];refine hk _ ?_;clear hk k;try show Sat _ _ _ _ _);(repeat refine Qc ?_);(refine Qa fun k hk=>?_;simp only[id,seval,Qb,qb46];refine hk _ ?_;clear hk k;try show Sat _ _ _ _ _);(repeat refine Qc ?_);refine Sat.block ?_;refine Qo (ι:=Nat) (fun i=>⟨39,[(13,.i .i64 i),(12,.i .i64 xs.length),(11,.sl a xs.length cap 3 (QX xs.toArray)),(0,.sl a xs.length cap 3 (QX xs.toArray)),(1,.sl b ys.length cap2 3 (QX ys.toArray)),(2,.fn 48 0 cc)],[]⟩)
  (fun i=>i≤xs.length∧i≤ys.length∧Q4 (xs.drop i) (ys.drop i)=Q4 xs ys) (fun i=>xs.length - i) 0 ⟨Nat.zero_le _,Nat.zero_le _,rfl⟩ (by simp only[id,seval,Qb,qb47];try rfl) ?_
 rintro i ⟨hi,hi2,hc⟩;(repeat refine Qc ?_);(refine Qa fun k hk=>?_;simp only[id,seval,Qb,qb46];refine hk _ ?_;clear hk k;try show Sat _ _ _ _ _);(repeat refine Qc ?_);refine Qe rfl (fun h=>?_) (fun h=>?_)
 ·have h1:i<xs.length:=by simp only[decide_eq_true_eq] at h;omega
  have e1:IntKind.i64.wrap ((i:Int)+1)=((i+1:Nat):Int):=by rw[w64 (by omega)];omega
  refine Sat.skip ?_;simp only[Qf];(repeat refine Qc ?_);refine Sat.block ?_;(repeat refine Qc ?_);(refine Qa fun k hk=>?_;simp only[id,seval,Qb,qb46]);refine⟨by omega,fun b8=>?_⟩;(refine hk _ ?_;clear hk k;try show Sat _ _ _ _ _);(repeat refine Qc ?_);(refine Qa fun k hk=>?_;simp only[id,seval,Qb,qb46];refine hk _ ?_;clear hk k;try show Sat _ _ _ _ _);(repeat refine Qc ?_);refine Qe rfl (fun h2=>?_) (fun h2=>?_)
  ·have hle:ys.length≤i:=by simp only[decide_eq_true_eq] at h2;omega
   (repeat refine Qc ?_);(refine Qa fun k hk=>?_;simp only[id,seval,Qb,qb46];refine hk _ ?_;clear hk k;try show Sat _ _ _ _ _);refine Sat.ret ?_;simp only[Qg,Tryz.results103,id,seval,Int.reduceToNat,Qb,qb48];rw[← hc,List.drop_eq_getElem_cons h1,List.drop_eq_nil_of_le hle,Q4]
  have h3:i<ys.length:=by simp only[decide_eq_false_iff_not] at h2;omega
  have hst:=cmpIds_step h1 h3;rw[hc] at hst;refine Sat.skip ?_;simp only[Qf];(repeat refine Qc ?_);(refine Qa fun k hk=>?_;simp only[id,seval,Qb,qb46]);refine⟨by omega,fun b9=>?_⟩;(refine hk _ ?_;clear hk k;try show Sat _ _ _ _ _);(repeat refine Qc ?_);(refine Qa fun k hk=>?_;simp only[id,seval,Qb,qb46]);refine Qd (Xg F xs.toArray[i]! ys.toArray[i]!) rfl (by rintro _ rfl;exact Qh rfl) ?_;rintro _ rfl;rw[idnGet h1,idnGet h3];simp only[id,seval,Qb,qb46];(refine hk _ ?_;clear hk k;try show Sat _ _ _ _ _);(repeat refine Qc ?_);(refine Qa fun k hk=>?_;simp only[id,seval,Qb,qb46];refine hk _ ?_;clear hk k;try show Sat _ _ _ _ _);(repeat refine Qc ?_);refine Qe rfl (fun h4=>?_) (fun h4=>?_)
  ·have hne:QP xs[i] ys[i]≠0:=by simpa using h4
   rw[if_pos hne] at hst;(repeat refine Qc ?_);(refine Qa fun k hk=>?_;simp only[id,seval,Qb,qb46];refine hk _ ?_;clear hk k;try show Sat _ _ _ _ _);refine Sat.ret ?_;simp only[Qg,Tryz.results103,id,seval,Int.reduceToNat,Qb,qb48];rw[hst]
  have hz:QP xs[i] ys[i]=0:=by simpa using h4
  rw[if_neg (by simpa using hz)] at hst;refine Sat.skip ?_;simp only[Qf,Qg];refine Qa fun k hk=>?_;simp only[id,seval,Qb,e1,qb46];refine hk _ ?_;simp only[Qf,Qg];refine⟨i+1,⟨h1,h3,hst.symm⟩,by omega,?_⟩;simp only[id,seval,Qb,qb47]
 have h1:i=xs.length:=by simp only[decide_eq_false_iff_not] at h;omega
 subst h1;rw[List.drop_length] at hc;refine Sat.exit ?_;simp only[Qf,Qg,reduceIte];(repeat refine Qc ?_);(refine Qa fun k hk=>?_;simp only[id,seval,Qb,qb46];refine hk _ ?_;clear hk k;try show Sat _ _ _ _ _);(repeat refine Qc ?_);refine Qe rfl (fun h2=>?_) (fun h2=>?_)
 ·have hlt:xs.length<ys.length:=by simp only[decide_eq_true_eq] at h2;omega
  (repeat refine Qc ?_);(refine Qa fun k hk=>?_;simp only[id,seval,Qb,qb46];refine hk _ ?_;clear hk k;try show Sat _ _ _ _ _);refine Sat.ret ?_;simp only[Tryz.results103,id,seval,Int.reduceToNat,Qb,qb48];rw[← hc,List.drop_eq_getElem_cons hlt,Q4]
 have hle:ys.length≤xs.length:=by simp only[decide_eq_false_iff_not] at h2;omega
 refine Sat.skip ?_;simp only[Qf];(repeat refine Qc ?_);(refine Qa fun k hk=>?_;simp only[id,seval,Qb,qb46];refine hk _ ?_;clear hk k;try show Sat _ _ _ _ _);refine Sat.ret ?_;simp only[Tryz.results103,id,seval,Int.reduceToNat,Qb,qb48];rw[← hc,List.drop_eq_nil_of_le hle,Q4]
def evAg (e:Evd):SV:=.agg 4 fun j=>(Evd.cs e).getD j default
def evCmp (e f:Evd):Int:=orL [Zq e.kind f.kind,Zq e.a f.a,Zq e.b f.b,Q4 e.ids f.ids]
set_option maxHeartbeats 1000000 in
set_option maxRecDepth 100000 in
theorem compareEvC (F:Frm) (e f:Evd) (he:e.ids.length≤1000000000) (hf:f.ids.length≤1000000000):Contract F Tryz.prog 61 [evAg e,evAg f] (fun r=>r=.i .i64 (evCmp e f)):=by
 refine Qi Tryz.func61 rfl (by kernel_rfl) ?_;simp only[Tryz.ntmps61,Qt,evAg,Evd.cs];(repeat refine Qc ?_);(refine Qa fun k hk=>?_;simp only[id,seval,Qb,qb46]);intro blk1 blk2;(refine hk _ ?_;clear hk k;try show Sat _ _ _ _ _);(repeat refine Qc ?_);(refine Qp (OT.keep [0,2,5,7,10,12,15,17,1,3,6,8,11,13,16,18] [4,9,14] (BT.one 4 (BT.one 9 (BT.one 14 (BT.one 19 (BT.one 20 (BT.one 21 (BT.one 22 BT.done)))))))) (by kernel_rfl) (by kernel_rfl) (fun _ _ h=>h) fun k hk=>?_;simp only[WOT,List.map_cons,List.map_nil,List.getD_cons_zero,List.getD_cons_succ];simp only[id,seval,Qb,WOT,qb46]);refine Qd (cmpC F e.kind f.kind) rfl (by rintro _ rfl;exact Qh rfl) ?_;rintro r rfl;simp only[id,seval,Qb,qb46];refine Qd (cmpAC F e.a f.a) rfl (by rintro _ rfl;exact Qh rfl) ?_;rintro r rfl;simp only[id,seval,Qb,qb46];refine Qd (cmpAC F e.b f.b) rfl (by rintro _ rfl;exact Qh rfl) ?_;rintro r rfl;simp only[id,seval,Qb,qb46];refine Qd (cmpFuncC F e.ad f.ad e.cap f.cap e.ids f.ids _ he hf) (by simp only[id,seval,Qb,qb46];try rfl) (by rintro _ rfl;exact Qh rfl) ?_;rintro r rfl;simp only[id,seval,Qb,qb46];intro blk3;refine Qd (orC F (some ⟨blk3,0,none⟩) 4 [Zq e.kind f.kind,Zq e.a f.a,Zq e.b f.b,Q4 e.ids f.ids] (by simp)) (by simp only[id,seval,Qb,intsRd,qb46]) (by rintro _ rfl;exact Qh rfl) ?_;rintro r rfl;simp only[id,seval,Qb,qb46];(refine hk _ ?_;clear hk k;try show Sat _ _ _ _ _);refine Sat.ret ?_;simp only[Tryz.results61,id,seval,Int.reduceToNat,Qb,qb48];rfl
end

section
open Eng
theorem idnCmp_neg (a b:Idn):QP b a=- QP a b:=cmpL_neg _ _
theorem cmpIds_neg:∀ (l m:List Idn),Q4 m l=- Q4 l m
 | [],[]=>rfl
 | [],_ :: _=>rfl
 | _ :: _,[]=>rfl
 | x :: l,y :: m=>by
  unfold Q4;rw[idnCmp_neg x y,cmpIds_neg l m];by_cases h:QP x y=0
  ·rw[if_neg (by simp [h]),if_neg (by simp [h])]
  ·rw[if_pos (by omega),if_pos h]
theorem cmpIds_zero:∀ {l m:List Idn},Q4 l m=0 ↔ l=m
 | [],[]=>by simp [Q4]
 | [],_ :: _=>by simp [Q4]
 | _ :: _,[]=>by simp [Q4]
 | x :: l,y :: m=>by
  unfold Q4;by_cases h:QP x y=0
  ·rw[if_neg (by simp [h]),cmpIds_zero];have:=XD.1 h;subst this;simp
  ·rw[if_pos h];constructor
   ·intro h2;exact absurd h2 h
   ·intro h2;simp only[List.cons.injEq] at h2;exact absurd (XD.2 h2.1) h
theorem cmpIds_trans:∀ {l m n:List Idn},Q4 l m≤0→Q4 m n≤0→Q4 l n≤0
 | [],_,[],_,_=>by simp [Q4]
 | [],_,_ :: _,_,_=>by simp [Q4]
 | _ :: _,[],_,h,_=>by simp [Q4] at h
 | _ :: _,_ :: _,[],_,h=>by simp [Q4] at h
 | x :: l,y :: m,z :: n,h1,h2=>by
  unfold Q4 at h1 h2 ⊢;by_cases a:QP x y=0
  ·have e:=XD.1 a;subst e;rw[if_neg (by simp [a])] at h1;by_cases b:QP x z=0
   ·rw[if_neg (by simp [b])] at h2;rw[if_neg (by simp [b])];exact cmpIds_trans h1 h2
   ·rw[if_pos b] at h2;rw[if_pos b];exact h2
  ·rw[if_pos a] at h1;have a1:QP x y<0:=by omega
   by_cases b:QP y z=0
   ·have e:=XD.1 b;subst e;rw[if_pos a];exact h1
   ·rw[if_pos b] at h2;have b1:QP y z<0:=by omega
    have c:=ZO x.keys y.keys z.keys rfl rfl a1 b1;have c':QP x z<0:=c;rw[if_pos (by omega)];omega
def lex3 (p q r w:Int):Int:=if p≠0 then p else if q≠0 then q else if r≠0 then r else w
theorem evCmp_lex (e f:Evd):evCmp e f=lex3 (Zq e.kind f.kind) (Zq e.a f.a) (Zq e.b f.b) (Q4 e.ids f.ids):=by
 unfold evCmp lex3 orL orL orL orL orL;by_cases h:Q4 e.ids f.ids=0
 ·simp [h]
 ·simp [h]
theorem evCmp_neg (e f:Evd):evCmp f e=- evCmp e f:=by
 rw[evCmp_lex,evCmp_lex,ordI_neg e.kind,ordI_neg e.a,ordI_neg e.b,cmpIds_neg e.ids];unfold lex3;by_cases h1:Zq e.kind f.kind=0
 ·by_cases h2:Zq e.a f.a=0
  ·by_cases h3:Zq e.b f.b=0
   ·simp [h1,h2,h3]
   ·simp [h1,h2,h3]
  ·simp [h1,h2]
 ·simp [h1]
theorem evCmp_zero (e f:Evd):evCmp e f=0 ↔ e.kind=f.kind∧e.a=f.a∧e.b=f.b∧e.ids=f.ids:=by
 rw[evCmp_lex];unfold lex3;by_cases h1:Zq e.kind f.kind=0
 ·rw[if_neg (by simp [h1])];by_cases h2:Zq e.a f.a=0
  ·rw[if_neg (by simp [h2])];by_cases h3:Zq e.b f.b=0
   ·rw[if_neg (by simp [h3]),cmpIds_zero];rw[Zz] at h1 h2 h3;simp [h1,h2,h3]
   ·rw[if_pos h3];exact⟨fun h=>absurd h h3,fun h=>absurd (Zz.2 h.2.2.1) h3⟩
  ·rw[if_pos h2];exact⟨fun h=>absurd h h2,fun h=>absurd (Zz.2 h.2.1) h2⟩
 ·rw[if_pos h1];exact⟨fun h=>absurd h h1,fun h=>absurd (Zz.2 h.1) h1⟩
theorem Zv (a b:Int):(a<b∧Zq a b=-1)∨(a=b∧Zq a b=0)∨(b<a∧Zq a b=1):=by
 unfold Zq;split
 ·exact .inl ⟨by assumption,rfl⟩
 ·split
  ·exact .inr (.inr ⟨by assumption,rfl⟩)
  ·exact .inr (.inl ⟨by omega,rfl⟩)
theorem evCmp_trans (e f g:Evd) (h1:evCmp e f≤0) (h2:evCmp f g≤0):evCmp e g≤0:=by
 rw[evCmp_lex] at h1 h2 ⊢;have ht:=@cmpIds_trans e.ids f.ids g.ids;unfold lex3 at *;rcases Zv e.kind f.kind with ⟨a1,a2⟩|⟨a1,a2⟩|⟨a1,a2⟩<;>rcases Zv f.kind g.kind with ⟨b1,b2⟩|⟨b1,b2⟩|⟨b1,b2⟩<;>rcases Zv e.kind g.kind with ⟨c1,c2⟩|⟨c1,c2⟩|⟨c1,c2⟩<;>first|omega|skip
 all_goals simp only[a2,b2,c2,ne_eq,not_true_eq_false,if_false,reduceIte,Int.reduceNeg,Int.reduceEq,not_false_eq_true,if_true] at h1 h2 ⊢
 all_goals first|omega|skip
 all_goals
  rcases Zv e.a f.a with ⟨d1,d2⟩|⟨d1,d2⟩|⟨d1,d2⟩<;>rcases Zv f.a g.a with ⟨x1,x2⟩|⟨x1,x2⟩|⟨x1,x2⟩<;>rcases Zv e.a g.a with ⟨y1,y2⟩|⟨y1,y2⟩|⟨y1,y2⟩<;>first|omega|skip
 all_goals simp only[d2,x2,y2,ne_eq,not_true_eq_false,if_false,reduceIte,Int.reduceNeg,Int.reduceEq,not_false_eq_true,if_true] at h1 h2 ⊢
 all_goals first|omega|skip
 all_goals
  rcases Zv e.b f.b with ⟨m1,m2⟩|⟨m1,m2⟩|⟨m1,m2⟩<;>rcases Zv f.b g.b with ⟨n1,n2⟩|⟨n1,n2⟩|⟨n1,n2⟩<;>rcases Zv e.b g.b with ⟨o1,o2⟩|⟨o1,o2⟩|⟨o1,o2⟩<;>first|omega|skip
 all_goals simp only[m2,n2,o2,ne_eq,not_true_eq_false,if_false,reduceIte,Int.reduceNeg,Int.reduceEq,not_false_eq_true,if_true] at h1 h2 ⊢
 all_goals first|omega|exact ht h1 h2
end

section
open Go.Sort Eng
structure Evs where
 e:Evd
 h:e.ids.length≤1000
instance:Inhabited Evs:=⟨⟨default,Nat.zero_le _⟩⟩
def Evs.cs (x:Evs):List SV:=Evd.cs x.e
def evsRd (d:Array Evs):Nat→Nat→SV:=fun i j=>(Evs.cs d[i]!).getD j default
def evsRow (ad:Option Addr) (N cap:Nat) (d:Array Evs):Eng.Own:=.row ad 32 N cap 4 (evsRd d)
def evsAg (x:Evs):SV:=.agg 4 fun j=>(Evs.cs x).getD j default
def evsCmp (g:FuncId) (lt:Evs→Evs→Bool):Prop:=∀ x y,∃ c:Int,lt x y=decide (c<0)∧∀ F,Contract F Tryz.prog g [evsAg x,evsAg y] (fun r=>r=.i .i64 c)
def evsLt (x y:Evs):Bool:=decide (evCmp x.e y.e<0)
theorem evsCmp1:evsCmp 61 evsLt:=fun x y=>⟨evCmp x.e y.e,rfl,fun F=>compareEvC F x.e y.e (by have:=x.h;omega) (by have:=y.h;omega)⟩
end

section
open Eng Go.Sort
theorem orL_cons (x:Int) (l:List Int):orL (x :: l)=if x≠0 then x else orL l:=rfl
theorem orL_app:∀ (l m:List Int),orL (l ++ m)=if orL l≠0 then orL l else orL m
 | [],m=>by simp [orL]
 | x :: l,m=>by
  rw[List.cons_append,orL_cons,orL_cons,orL_app l m];by_cases h:x=0<;>simp [h]
theorem idnCmp_orL (x y:Idn):QP x y=orL [Zq x.van y.van,Zq x.run y.run,Zq x.num y.num]:=rfl
theorem excCmp_or (x y:Exc):XI x y=orL [Zq x.a y.a,Zq x.b y.b,QP x.f y.f,QP x.s y.s]:=by
 have e:XI x y=orL ([Zq x.a y.a,Zq x.b y.b] ++ ([Zq x.f.van y.f.van,Zq x.f.run y.f.run,Zq x.f.num y.f.num] ++ [Zq x.s.van y.s.van,Zq x.s.run y.s.run,Zq x.s.num y.s.num])):=rfl;rw[e,orL_app,orL_app,← idnCmp_orL,← idnCmp_orL];simp only[orL_cons,orL]
 repeat' split
 all_goals first|rfl|omega|contradiction|simp_all
def Exc.pr (x:Exc):Par:=⟨x.a,x.b⟩
def excB (x y:Exc):Bool:=decide (Q4 [x.s,x.f] [y.s,y.f]<0)
theorem excB_or (x y:Exc):orL [QP x.s y.s,QP x.f y.f]=Q4 [x.s,x.f] [y.s,y.f]:=rfl
theorem cmpIds_lt_trans {l m n:List Idn} (h:Q4 l m<0) (k:Q4 m n<0):Q4 l n<0:=by
 have h1:=cmpIds_trans (Int.le_of_lt h) (Int.le_of_lt k);rcases Int.lt_or_eq_of_le h1 with h2|h2
 ·exact h2
 ·have e:=cmpIds_zero.1 h2;subst e;have:=cmpIds_neg l m;omega
theorem excB_irrefl (x:Exc):excB x x=false:=by
 unfold excB;rw[decide_eq_false_iff_not,cmpIds_zero.2 rfl];omega
theorem excB_trans (x y z:Exc) (h:excB x y=true) (k:excB y z=true):excB x z=true:=by
 unfold excB at *;rw[decide_eq_true_eq] at *;exact cmpIds_lt_trans h k
theorem excB_both {x y:Exc} (h:excB x y=false) (k:excB y x=false):x.f=y.f∧x.s=y.s:=by
 unfold excB at *;rw[decide_eq_false_iff_not] at *;have n:=cmpIds_neg [x.s,x.f] [y.s,y.f];have e:=cmpIds_zero.1 (show Q4 [x.s,x.f] [y.s,y.f]=0 by omega);simp only[List.cons.injEq,and_true] at e;exact⟨e.2,e.1⟩
/-! ### The best of each key -/
section
variable {α:Type} {key:α→Par} {lt:α→α→Bool}
structure BestI (key:α→Par) (lt:α→α→Bool) (C:α→Prop) (X:List α):Prop where
 nodup:(X.map key).Nodup
 each:∀ e∈X,C e∧∀ x,C x→key x=key e→lt x e=false
 all:∀ x,C x→∃ e∈X,key e=key x
theorem BestI.start:BestI key lt (fun _=>False) []:=⟨List.nodup_nil,fun e he=>(by cases he),fun x hx=>hx.elim⟩
theorem BestI.congr {C C':α→Prop} {X:List α} (h:BestI key lt C X) (hc:∀ x,C x ↔ C' x):BestI key lt C' X:=
 ⟨h.nodup,fun e he=>⟨(hc e).1 (h.each e he).1,fun x hx=>(h.each e he).2 x ((hc x).2 hx)⟩,fun x hx=>h.all x ((hc x).2 hx)⟩
theorem BestI.new {C:α→Prop} {X:List α} (hi:∀ x,lt x x=false) (h:BestI key lt C X) {y:α} (hn:∀ e∈X,key e≠key y):BestI key lt (fun x=>C x∨x=y) (X ++ [y]):=by
 refine⟨?_,fun e he=>?_,fun x hx=>?_⟩
 ·rw[List.map_append,List.nodup_append];refine⟨h.nodup,by simp,fun a ha b hb e=>?_⟩;obtain⟨x,hx,rfl⟩:=List.mem_map.1 ha;rw[List.map_singleton,List.mem_singleton] at hb;exact hn x hx (by rw[e,hb])
 ·rcases List.mem_append.1 he with he|he
  ·refine⟨.inl (h.each e he).1,fun x hx hk=>?_⟩;rcases hx with hx|hx
   ·exact (h.each e he).2 x hx hk
   ·rw[hx] at hk;exact absurd hk.symm (hn e he)
  ·rw[List.mem_singleton] at he;subst he;refine⟨.inr rfl,fun x hx hk=>?_⟩;rcases hx with hx|rfl
   ·obtain⟨e',he',hk'⟩:=h.all x hx;exact absurd (hk'.trans hk) (hn e' he')
   ·exact hi x
 ·rcases hx with hx|rfl
  ·obtain⟨e,he,hk⟩:=h.all x hx;exact⟨e,List.mem_append.2 (.inl he),hk⟩
  ·exact⟨x,List.mem_append.2 (.inr (List.mem_singleton.2 rfl)),rfl⟩
theorem BestI.inj {C:α→Prop} {X:List α} (h:BestI key lt C X) {i j:Nat} (hi:i<X.length) (hj:j<X.length) (e:key X[i]=key X[j]):i=j:=by
 refine (List.getElem?_inj (by simpa using hi) h.nodup).1 ?_;rw[List.getElem?_map,List.getElem?_map,List.getElem?_eq_getElem hi,List.getElem?_eq_getElem hj];simp [e]
theorem BestI.set {C:α→Prop} {X:List α} (hi:∀ x,lt x x=false) (ht:∀ x y z,lt x y=true→lt y z=true→lt x z=true) (h:BestI key lt C X) {y:α} {i:Nat} (hl:i<X.length) (hk:key X[i]=key y) (hb:lt y X[i]=true):BestI key lt (fun x=>C x∨x=y) (X.set i y):=by
 refine⟨?_,fun e he=>?_,fun x hx=>?_⟩
 ·have e:(X.set i y).map key=X.map key:=by
   rw[List.map_set,← hk];apply List.ext_getElem?;intro j;rw[List.getElem?_set];split
   ·rename_i e;subst e;simp [hl]
   ·rfl
  rw[e];exact h.nodup
 ·obtain⟨j,hj,rfl⟩:=List.getElem_of_mem he;rw[List.length_set] at hj;rw[List.getElem_set];split
  ·refine⟨.inr rfl,fun x hx hkx=>?_⟩;rcases hx with hx|rfl
   ·cases hlt:lt x y with
    | false=>rfl
    | true=>
     have h1:=(h.each X[i] (List.getElem_mem _)).2 x hx (by rw[hkx,hk]);rw[ht _ _ _ hlt hb] at h1;cases h1
   ·exact hi x
  ·rename_i hne;refine⟨.inl (h.each X[j] (List.getElem_mem _)).1,fun x hx hkx=>?_⟩;rcases hx with hx|hx
   ·exact (h.each X[j] (List.getElem_mem _)).2 x hx hkx
   ·rw[hx] at hkx;exact absurd (h.inj hl hj (by rw[hk,hkx])) hne
 ·have hx':∃ e∈X,key e=key x:=by
   rcases hx with hx|rfl
   ·exact h.all x hx
   ·exact⟨X[i],List.getElem_mem _,hk⟩
  obtain⟨e,he,hke⟩:=hx';obtain⟨j,hj,rfl⟩:=List.getElem_of_mem he;by_cases e:i=j
  ·subst e;exact⟨y,List.mem_of_getElem? (List.getElem?_set_self hl),by rw[← hk,hke]⟩
  ·exact⟨X[j],List.mem_of_getElem? (i:=j) (by rw[List.getElem?_set_ne e,List.getElem?_eq_getElem hj]),hke⟩
theorem BestI.keep {C:α→Prop} {X:List α} (h:BestI key lt C X) {y:α} {i:Nat} (hl:i<X.length) (hk:key X[i]=key y) (hb:lt y X[i]=false):BestI key lt (fun x=>C x∨x=y) X:=by
 refine⟨h.nodup,fun e he=>⟨.inl (h.each e he).1,fun x hx hkx=>?_⟩,fun x hx=>?_⟩
 ·rcases hx with hx|rfl
  ·exact (h.each e he).2 x hx hkx
  ·obtain⟨j,hj,rfl⟩:=List.getElem_of_mem he;obtain rfl:=h.inj hl hj (by rw[hk,hkx]);exact hb
 ·rcases hx with hx|rfl
  ·exact h.all x hx
  ·exact⟨X[i],List.getElem_mem _,hk⟩
structure BestOf (key:α→Par) (lt:α→α→Bool) (C:α→Prop) (es:List α):Prop where
 asc:es.Pairwise fun x y=>ZK (key x) (key y)=true
 each:∀ e∈es,C e∧∀ x,C x→key x=key e→lt x e=false
 all:∀ x,C x→∃ e∈es,key e=key x
theorem BestI.sorted {C:α→Prop} {X L:List α} (h:BestI key lt C X) (hp:L.Perm X) (hs:L.Pairwise fun x y=>ZK (key y) (key x)=false):BestOf key lt C L:=by
 have hn:(L.map key).Nodup:=(hp.map key).nodup_iff.2 h.nodup;refine⟨?_,fun e he=>h.each e (hp.mem_iff.1 he),fun x hx=>?_⟩
 ·rw[List.pairwise_iff_getElem] at hs ⊢;intro i j hi hj hij;have h1:=hs i j hi hj hij;rcases parLt_total (key L[i]) (key L[j]) with h2|h2|h2
  ·exact h2
  ·have:=(List.getElem?_inj (i:=i) (j:=j) (by simpa using hi) hn).1 (by
    rw[List.getElem?_map,List.getElem?_map,List.getElem?_eq_getElem hi,List.getElem?_eq_getElem hj]
    simp [h2])
   omega
  ·rw[h1] at h2;cases h2
 ·obtain⟨e,he,hk⟩:=h.all x hx;exact⟨e,hp.mem_iff.2 he,hk⟩
theorem asc_keys {l m:List α} (hl:l.Pairwise fun x y=>ZK (key x) (key y)=true) (hm:m.Pairwise fun x y=>ZK (key x) (key y)=true) (h:∀ p,(∃ e∈l,key e=p) ↔ ∃ e∈m,key e=p):l.map key=m.map key:=by
 have hlp:(l.map key).Pairwise fun x y=>ZK x y=true:=List.pairwise_map.2 hl;have hmp:(m.map key).Pairwise fun x y=>ZK x y=true:=List.pairwise_map.2 hm
 have hmem:∀ p,p∈l.map key ↔ p∈m.map key:=fun p=>by
  rw[List.mem_map,List.mem_map];exact h p
 generalize l.map key=a at hlp hmem;generalize m.map key=b at hmp hmem;clear hl hm h
 induction a generalizing b with
 | nil=>
  cases b with
  | nil=>rfl
  | cons y b=>have:=(hmem y).2 (by simp);cases this
 | cons x a ih=>
  cases b with
  | nil=>have:=(hmem x).1 (by simp);cases this
  | cons y b=>
   have h1:=List.pairwise_cons.1 hlp;have h2:=List.pairwise_cons.1 hmp
   have hxy:x=y:=by
    rcases List.mem_cons.1 ((hmem x).1 (by simp)) with e|e
    ·exact e
    ·rcases List.mem_cons.1 ((hmem y).2 (by simp)) with e'|e'
     ·exact e'.symm
     ·have:=parLt_trans _ _ _ (h2.1 x e) (h1.1 y e');rw[Zp] at this;cases this
   subst hxy
   congr 1
   refine ih h1.2 b h2.2 fun p=>⟨fun hp=>?_,fun hp=>?_⟩
   ·rcases List.mem_cons.1 ((hmem p).1 (List.mem_cons_of_mem _ hp)) with e|e
    ·subst e;have:=h1.1 p hp;rw[Zp] at this;cases this
    ·exact e
   ·rcases List.mem_cons.1 ((hmem p).2 (List.mem_cons_of_mem _ hp)) with e|e
    ·subst e;have:=h2.1 p hp;rw[Zp] at this;cases this
    ·exact e
theorem BestOf.unique {C D:α→Prop} {l m:List α} (h:BestOf key lt C l) (k:BestOf key lt D m) (hcd:∀ x,C x ↔ D x):l.length=m.length∧∀ i (h1:i<l.length) (h2:i<m.length),key l[i]=key m[i]∧lt l[i] m[i]=false∧lt m[i] l[i]=false:=by
 have hk:l.map key=m.map key:=asc_keys h.asc k.asc fun p=>⟨fun⟨e,he,hp⟩=>by
   obtain⟨e',he',hp'⟩:=k.all e ((hcd e).1 (h.each e he).1)
   exact⟨e',he',hp'.trans hp⟩,fun⟨e,he,hp⟩=>by
   obtain⟨e',he',hp'⟩:=h.all e ((hcd e).2 (k.each e he).1)
   exact⟨e',he',hp'.trans hp⟩⟩
 refine⟨by simpa using congrArg List.length hk,fun i h1 h2=>?_⟩
 have hki:key l[i]=key m[i]:=by
  have:=congrArg (·[i]?) hk;simp only[List.getElem?_map,List.getElem?_eq_getElem h1,List.getElem?_eq_getElem h2,Option.map_some,Option.some.injEq] at this;exact this
 exact⟨hki,(k.each m[i] (List.getElem_mem _)).2 l[i] ((hcd _).1 (h.each l[i] (List.getElem_mem _)).1) hki,(h.each l[i] (List.getElem_mem _)).2 m[i] ((hcd _).2 (k.each m[i] (List.getElem_mem _)).1) hki.symm⟩
end
/-! ### Exclusions -/
def XF (a b:Res):Exc:=⟨a.from_,b.from_,a.idn,b.idn⟩
def ExcR (a b:Res):Prop:=a.ttl≠b.ttl∧a.from_<b.from_
def ExcC (xs:List Res) (x:Exc):Prop:=∃ p,IsPart xs p∧∃ a∈p,∃ b∈p,Xu a=true∧Xu b=true∧a.flow=b.flow∧ExcR a b∧x=XF a b
def ExcOf (xs:List Res) (es:List Exc):Prop:=BestOf Exc.pr excB (ExcC xs) es
theorem ExcOf.unique {xs ys:List Res} {l m:List Exc} (h:ExcOf xs l) (k:ExcOf ys m) (hc:∀ x,ExcC xs x ↔ ExcC ys x):l=m:=by
 obtain⟨h1,h2⟩:=BestOf.unique h k hc;apply List.ext_getElem h1;intro i hi hj;obtain⟨e1,e2,e3⟩:=h2 i hi hj;obtain⟨e4,e5⟩:=excB_both e2 e3;generalize l[i]=x at *;generalize m[i]=y at *;cases x;cases y
 simp only[Exc.pr,Par.mk.injEq] at e1;simp only at e4 e5;obtain⟨rfl,rfl⟩:=e1;subst e4;subst e5;rfl
theorem flows_exc {xs:List Res} {gs:List (List Res)} (h:FlowsOf xs gs) (x:Exc):(∃ g∈gs,∃ a∈g,∃ b∈g,ExcR a b∧x=XF a b) ↔ ExcC xs x:=by
 constructor
 ·rintro⟨g,hg,a,ha,b,hb,h1,h2⟩;obtain⟨p,hp,fl,h3⟩:=h.snd g hg;obtain⟨a1,a2,a3⟩:=h3 a ha;obtain⟨b1,b2,b3⟩:=h3 b hb;exact⟨p,hp,a,a1,b,b1,a2,b2,by rw[a3,b3],h1,h2⟩
 ·rintro⟨p,hp,a,ha,b,hb,wa,wb,hf,h1,h2⟩;obtain⟨g,hg,g1,g2⟩:=h.cmp p hp a ha b hb wa wb hf;exact⟨g,hg,a,g1,b,g2,h1,h2⟩
end

section
open Eng Go.Sort
def evB (e f:Evd):Bool:=decide (evCmp e f<0)
theorem ZZ (e:Evd):evB e e=false:=by
 unfold evB;rw[decide_eq_false_iff_not,(evCmp_zero e e).2 ⟨rfl,rfl,rfl,rfl⟩];omega
theorem evB_neg (e f g:Evd) (h:evB e f=false) (k:evB f g=false):evB e g=false:=by
 unfold evB at *;rw[decide_eq_false_iff_not] at *;have h1:=evCmp_neg e f;have h2:=evCmp_neg f g;have h3:=evCmp_neg e g;have:=evCmp_trans g f e (by omega) (by omega);omega
theorem evB_trans (e f g:Evd) (h:evB e f=true) (k:evB f g=true):evB e g=true:=by
 cases hc:evB e g with
 | true=>rfl
 | false=>
  have h1:evB g f=false:=by
   unfold evB at k ⊢;rw[decide_eq_true_eq] at k;rw[decide_eq_false_iff_not];have:=evCmp_neg f g;omega
  rw[evB_neg _ _ _ hc h1] at h;cases h
theorem evsLt_swo:SWO evsLt:=by
 refine⟨fun x=>ZZ x.e,fun x y z h k=>evB_trans _ _ _ h k,fun x y z h k=>evB_neg _ _ _ h k⟩
section
variable {α:Type} {key:α→Par} {lt:α→α→Bool}
theorem BestI.cover {C C':α→Prop} {X:List α} (hn:∀ x y z,lt x y=false→lt y z=false→lt x z=false) (h:BestI key lt C X) (h1:∀ x,C x→C' x) (h2:∀ x,C' x→∃ x',C x'∧key x'=key x∧lt x x'=false):BestI key lt C' X:=by
 refine⟨h.nodup,fun e he=>⟨h1 e (h.each e he).1,fun x hx hk=>?_⟩,fun x hx=>?_⟩
 ·obtain⟨x',hx',hk',hlt⟩:=h2 x hx;exact hn _ _ _ hlt ((h.each e he).2 x' hx' (hk'.trans hk))
 ·obtain⟨x',hx',hk',_⟩:=h2 x hx;obtain⟨e,he,hk⟩:=h.all x' hx';exact⟨e,he,hk.trans hk'⟩
end
def IdsOf (l ids:List Idn):Prop:=(ids.Pairwise fun x y=>Za x y=true)∧∀ d,d∈ids ↔ d∈l
theorem idn_asc_unique:∀ {l m:List Idn},(l.Pairwise fun x y=>Za x y=true)→(m.Pairwise fun x y=>Za x y=true)→(∀ d,d∈l ↔ d∈m)→l=m
 | [],[],_,_,_=>rfl
 | [],y :: m,_,_,h=>by have:=(h y).2 (by simp);cases this
 | x :: l,[],_,_,h=>by have:=(h x).1 (by simp);cases this
 | x :: l,y :: m,hl,hm,h=>by
  have h1:=List.pairwise_cons.1 hl;have h2:=List.pairwise_cons.1 hm
  have hxy:x=y:=by
   rcases List.mem_cons.1 ((h x).1 (by simp)) with e|e
   ·exact e
   ·rcases List.mem_cons.1 ((h y).2 (by simp)) with e'|e'
    ·exact e'.symm
    ·have:=Xy _ _ _ (h2.1 x e) (h1.1 y e');rw[idnLt_irrefl] at this;cases this
  subst hxy
  congr 1
  refine idn_asc_unique h1.2 h2.2 fun p=>⟨fun hp=>?_,fun hp=>?_⟩
  ·rcases List.mem_cons.1 ((h p).1 (List.mem_cons_of_mem _ hp)) with e|e
   ·subst e;have:=h1.1 p hp;rw[idnLt_irrefl] at this;cases this
   ·exact e
  ·rcases List.mem_cons.1 ((h p).2 (List.mem_cons_of_mem _ hp)) with e|e
   ·subst e;have:=h2.1 p hp;rw[idnLt_irrefl] at this;cases this
   ·exact e
theorem IdsOf.unique {l ids ids':List Idn} (h:IdsOf l ids) (k:IdsOf l ids'):ids=ids':=idn_asc_unique h.1 k.1 fun d=>(h.2 d).trans (k.2 d).symm
def MatE (a b c:Idn) (fr mt:Int) (e:Evd):Prop:=e.kind=2∧e.a=min fr mt∧e.b=max fr mt∧IdsOf [a,b,c] e.ids
theorem MatE.pr {a b c:Idn} {fr mt:Int} {e:Evd} (h:MatE a b c fr mt e):e.pr=⟨min fr mt,max fr mt⟩:=by
 unfold Evd.pr;rw[h.2.1,h.2.2.1]
theorem ids_last {a b c:Idn} (h1:Za a c=true) (h2:Za b c=true):∃ s:List Idn,(∀ d,d∈s ↔ d=a∨d=b)∧(s.Pairwise fun x y=>Za x y=true):=by
 rcases Xz a b with h|h|h
 ·exact⟨[a,b],fun d=>by simp,by simp [h]⟩
 ·subst h;exact⟨[a],fun d=>by simp,by simp⟩
 ·exact⟨[b,a],fun d=>by simp [or_comm],by simp [h]⟩
theorem cmpIds_app:∀ (s l m:List Idn),Q4 (s ++ l) (s ++ m)=Q4 l m
 | [],l,m=>rfl
 | x :: s,l,m=>by
  rw[List.cons_append,List.cons_append,Q4,if_neg (by rw[XD.2 rfl];simp),cmpIds_app s l m]
theorem mat_later {a b c c':Idn} {fr mt:Int} {e e':Evd} (h1:Za a c=true) (h2:Za b c=true) (hcc:Za c' c=false) (he:MatE a b c fr mt e) (he':MatE a b c' fr mt e'):evB e' e=false:=by
 obtain⟨s,hs,hsp⟩:=ids_last h1 h2;have hlt:∀ x y,Za x c=true→(x=y∨Za x y=true)→True:=fun _ _ _ _=>trivial
 have hcc':∀ x,Za x c=true→Za x c'=true:=fun x hx=>by
  rcases Xz c c' with h|h|h
  ·exact Xy _ _ _ hx h
  ·rw[← h];exact hx
  ·rw[hcc] at h;cases h
 have mk:∀ d,Za a d=true→Za b d=true→IdsOf [a,b,d] (s ++ [d]):=fun d ha hb=>by
  refine⟨?_,fun x=>?_⟩
  ·rw[List.pairwise_append];refine⟨hsp,by simp,fun x hx y hy=>?_⟩;rw[List.mem_singleton] at hy;subst hy;rcases (hs x).1 hx with rfl|rfl
   ·exact ha
   ·exact hb
  ·rw[List.mem_append,hs x];simp [or_assoc]
 have e1:=he.2.2.2.unique (mk c h1 h2);have e2:=he'.2.2.2.unique (mk c' (hcc' a h1) (hcc' b h2));unfold evB;rw[decide_eq_false_iff_not,evCmp_lex,he.1,he'.1,he.2.1,he'.2.1,he.2.2.1,he'.2.2.1,Zz.2 rfl,Zz.2 rfl,Zz.2 rfl,e1,e2,cmpIds_app];unfold lex3;simp only[ne_eq,not_true_eq_false,if_false,Q4];unfold Za at hcc;rw[decide_eq_false_iff_not] at hcc;split
 ·exact hcc
 ·omega
end

section
open Go.Sort Eng
structure Fg where
 rs:List Res
 a:Option Addr
 cap:Nat
instance:Inhabited Fg:=⟨⟨[],none,0⟩⟩
def Fg.row (g:Fg):Eng.Own:=Qb g.a g.rs.length g.cap g.rs.toArray
def fgRd (gs:List Fg):Nat→Nat→SV:=fun i _=>.os 0 (gs.getD i default).a (gs.getD i default).rs.length (gs.getD i default).cap
def fgRow (a:Option Addr) (cap:Nat) (gs:List Fg):Eng.Own:=.row a 23 gs.length cap 1 (fgRd gs)
theorem fg_one (gs:List Fg) (i j:Nat) (_:j<1):XA (fgRd gs i j)=true:=rfl
def fgS (gs:List Fg):Nat→Nat→SV:=fun i _=>.sl (gs.getD i default).a (gs.getD i default).rs.length (gs.getD i default).cap 17 (Qk (gs.getD i default).rs.toArray)
theorem fB_ex:∃ f:Nat→Nat→Nat,(∀ i k,f i k+512≤f i (k+1))∧(∀ i k,k≤1000→f i k≤f (i+1) 0)∧(∀ i k,i≤512→k≤1000→f i k≤262656000):=by
 refine⟨fun i k=>512000 * i+512 * k,fun i k=>?_,fun i k h=>?_,fun i k h1 h2=>?_⟩<;>simp only<;>omega
noncomputable def fB:Nat→Nat→Nat:=Classical.choose fB_ex
theorem fB_k {i k n m:Nat} (h:n≤fB i k+m) (hm:m≤512):n≤fB i (k+1):=by
 have:=(Classical.choose_spec fB_ex).1 i k;unfold fB at h ⊢;omega
theorem fB_i {i k n:Nat} (h:n≤fB i k) (hk:k≤1000):n≤fB (i+1) 0:=Nat.le_trans h ((Classical.choose_spec fB_ex).2.1 i k hk)
theorem fB_le {i k:Nat} (h1:i≤512) (h2:k≤1000):fB i k≤262656000:=(Classical.choose_spec fB_ex).2.2 i k h1 h2
namespace Eng
theorem Sat.toSlot {P:Program} {F:Frm} {n:Nat} {env:List (Nat×SV)} {c:Code} {K:Exit→St→Prop} {g m x:Own} {T:List Own} (h:Sat P F c ⟨n,env,g :: m :: x :: T⟩ K):Sat P F c ⟨n,env,g :: m :: .gone :: (T ++ [x])⟩ K:=by
 refine Xr (fun j=>if j=2 then T.length+3 else j) (fun j o ho=>?_) (fun i j o o' hij ho ho' _ _ e=>?_) h
 ·match j,ho with
  | 0,ho=>exact .inr (by simpa using ho)
  | 1,ho=>exact .inr (by simpa using ho)
  | 2,ho=>
   refine .inr ?_;simp only[if_pos,List.getElem?_cons_succ,List.getElem?_concat_length]
   simpa using ho
  | j+3,ho=>
   refine .inr ?_;rw[if_neg (by omega)];simp only[List.getElem?_cons_succ] at ho ⊢;rw[List.getElem?_append_left (List.getElem?_eq_some_iff.1 ho).1];exact ho
 ·have hi:=(List.getElem?_eq_some_iff.1 ho).1;have hj:=(List.getElem?_eq_some_iff.1 ho').1;simp only[List.length_cons] at hi hj;split at e<;>split at e<;>omega
end Eng
def qb49:=And.intro @evr (And.intro @ZM (And.intro @Qm (And.intro @Z3 (And.intro @tre_ro (And.intro @Qq (And.intro @tl_get (And.intro @tl_set (And.intro @ep_one (@evn)))))))))
def qb50:=And.intro @evr (And.intro @ZM (And.intro @Qm (And.intro @Z3 (And.intro @tre_ro (And.intro @Qq (And.intro @tl_get (And.intro @tl_set (And.intro @ep_one (And.intro @evl (@evn))))))))))
def qb51:=And.intro @evr (And.intro @ZM (And.intro @Qm (And.intro @Z3 (And.intro @tre_ro (And.intro @List.append_nil.{0} (And.intro @Int.toNat_zero (And.intro @Nat.sub_self (And.intro @Qq (And.intro @tl_get (And.intro @tl_set (@ep_one)))))))))))
set_option maxHeartbeats 2000000 in
set_option maxRecDepth 100000 in
theorem flowsC (F:Frm) (ad:Option Addr) (cap:Nat) (xs:List Res) (hl:xs.length≤512) (hin:∀ r∈xs,RgR r) :
  Contract F Tryz.prog 45 [.sl ad xs.length cap 17 (Qk xs.toArray)] (fun r=>∃ a cap gs,FlowsOf xs (gs.map Fg.rs)∧gs.length≤1000000000∧(∀ g∈gs,g.rs.length≤1000000000)∧r=.sl a gs.length cap 1 (fgS gs)):=by
 refine Qi Tryz.func45 rfl (by kernel_rfl) ?_;simp only[Tryz.ntmps45,Qt];(repeat refine Qc ?_);(refine Qa fun k hk=>?_;simp only[id,seval,Ql,Qb,qb49];refine hk _ ?_;clear hk k;try show Sat _ _ _ _ _);(repeat refine Qc ?_);(refine Qa fun k hk=>?_;simp only[id,seval,Ql,Qb,qb49];refine hk _ ?_;clear hk k;try show Sat _ _ _ _ _);(repeat refine Qc ?_);(refine Qa fun k hk=>?_;simp only[id,seval,Ql,Qb,qb49]);refine Q8 (tracesC F ad cap xs (by omega)) rfl rfl ?_;rintro ra ty len rc sz rrd ⟨ta,tc,ts,hts,htl,e⟩;simp only[Ql,Eng.Own.row.injEq] at e;obtain⟨rfl,rfl,rfl,rfl,rfl,rfl⟩:=e;simp only[id,seval,Ql,Qb,qb49];(refine hk _ ?_;clear hk k;try show Sat _ _ _ _ _);refine Zo 17 rfl rfl ?_;simp only[id,seval,Ql,Qb,qb49]
 refine Xr (own':=[.gone,.gone,.gone]) id (fun i o ho=>.inl (by
  match i,ho with
  | 0,ho=>simpa using ho.symm
  | 1,ho=>simpa using ho.symm
  | 2,ho=>simpa using ho.symm
  | i+3,ho=>simp at ho)) (fun i j _ _ hij _ _ _ _=>hij) ?_
 refine Sat.nilAt 1 23 1 (fgRd []) rfl ?_;refine Sat.redo 3 (.os 1 none 0 0) rfl rfl (fun _ _=>trivial) ?_;simp only[List.set_cons_succ,List.set_cons_zero];(repeat refine Qc ?_);refine Sat.block ?_
 refine Qo (ι:=Nat×List Fg×Option Addr×Nat) (fun z=>⟨84,[(19,.i .i64 z.1),(3,.os 1 z.2.2.1 z.2.1.length z.2.2.2),(18,.i .i64 ts.length),(17,.sl ra ts.length rc 3 (Xw ts.toArray)),(0,.sl ad xs.length cap 17 (Qk xs.toArray))],
   .gone :: fgRow z.2.2.1 z.2.2.2 z.2.1 :: .gone :: z.2.1.map Fg.row⟩)
  (fun z=>z.1≤ts.length∧FlowsI xs (fun p=>∃ t∈ts.take z.1,IsPartT xs t p) (z.2.1.map Fg.rs)∧z.2.1.length≤fB z.1 0∧∀ g∈z.2.1,g.rs.length≤fB z.1 0) (fun z=>ts.length - z.1) (0,[],none,0)
  ⟨Nat.zero_le _,⟨fun g hg=>(by cases hg),fun p hp=>by obtain⟨t,ht,_⟩:=hp;cases ht⟩,Nat.zero_le _,fun g hg=>(by cases hg)⟩ (by simp only[fgRow];simp only[id,seval,Ql,Qb,qb50];try rfl) ?_
 rintro⟨i,gs,oa,oc⟩ ⟨hi,hF,hgl,hgr⟩;simp only at hi hF hgl hgr ⊢;obtain⟨T,hTd⟩:∃ T,T=gs.map Fg.row:=⟨_,rfl⟩;rw[← hTd];have hTl:T.length=gs.length:=by rw[hTd,List.length_map]
 simp only[fgRow];(repeat refine Qc ?_);(refine Qa fun k hk=>?_;simp only[id,seval,Ql,Qb,qb49];refine hk _ ?_;clear hk k;try show Sat _ _ _ _ _);(repeat refine Qc ?_);refine Qe rfl (fun h=>?_) (fun h=>?_)
 ·have h1:i<ts.length:=by simp only[decide_eq_true_eq] at h;omega
  have e1:IntKind.i64.wrap ((i:Int)+1)=((i+1:Nat):Int):=by rw[w64 (by omega)];omega
  refine Sat.skip ?_;simp only[Qf];(repeat refine Qc ?_);refine Sat.block ?_;(repeat refine Qc ?_);(refine Qa fun k hk=>?_;simp only[id,seval,Ql,Qb,qb49]);refine⟨by omega,fun b5=>?_⟩;(refine hk _ ?_;clear hk k;try show Sat _ _ _ _ _);refine Qs (.gone :: .row oa 23 gs.length oc 1 (fgRd gs) :: .gone :: T) 5 rfl ?_;try simp only[List.length_cons,List.length_nil]
  obtain⟨t,ht⟩:∃ t,t=ts.toArray[i]! := ⟨_,rfl⟩;(repeat refine Qc ?_);(refine Qa fun k hk=>?_;simp only[id,seval,Ql,Qb,qb49]);refine Q8 (pthOfC F ad cap xs t (by omega) hin) rfl (by rw[ht];rfl) ?_;rintro ra1 ty1 len1 rc1 sz1 rrd1 ⟨za,zc,ys,ho,hyl,e⟩;obtain⟨zs,hzs⟩:∃ zs,zs=ofT ys t:=⟨_,rfl⟩;have hzs2:ys.filter (isTre t)=zs:=hzs.symm;rw[hzs2] at e;simp only[Qb,Eng.Own.row.injEq] at e;obtain⟨rfl,rfl,rfl,rfl,rfl,rfl⟩:=e;simp only[id,seval,Ql,Qb,qb49];(refine hk _ ?_;clear hk k;try show Sat _ _ _ _ _);refine QQ (.gone :: .row oa 23 gs.length oc 1 (fgRd gs) :: .gone :: T) 6 rfl ?_;try simp only[List.length_cons,List.length_nil]
  have hzl:zs.length≤512:=by rw[hzs];unfold ofT;have:=List.length_filter_le (isTre t) ys;omega
  have hzv:∀ r∈zs,r∈xs∧QH r=true∧r.tre=t:=fun r hr=>by
   rw[hzs] at hr;obtain⟨h1,h2⟩:=List.mem_filter.1 hr;obtain⟨h3,h4⟩:=(ho.2 r).1 h1;unfold isTre at h2;exact⟨h3,h4,of_decide_eq_true h2⟩
  have hzasc:Asc zs:=by rw[hzs];exact ho.1.filter _
  (repeat refine Qc ?_);(refine Qa fun k hk=>?_;simp only[id,seval,Ql,Qb,qb49]);refine Q2 (cutC F ra1 rc1 zs (by omega) (fun r hr=>hin r (hzv r hr).1)) rfl rfl ?_;rintro _ ⟨ca,cc,l,e,hcr,hll,rfl⟩
  have hcut:cutsOf zs l:=by
   rcases hcr with ⟨_,_,x,hx,hv⟩|⟨_,ys',ho',hcr⟩
   ·rw[(hzv x hx).2.1] at hv;cases hv
   ·obtain rfl:=(OrdOf.self hzasc fun r hr=>(hzv r hr).2.1).unique ho';rcases hcr with ⟨_,_,h9⟩|⟨_,_,_,h9⟩|⟨_,_,_,h9⟩
    ·omega
    ·exact absurd (fun r hr s hs=>by rw[(hzv r hr).2.2,(hzv s hs).2.2]) h9
    ·exact h9
  simp only[Xh,id,seval,Ql,Int.reduceToNat,Qb,qb51];(refine hk _ ?_;clear hk k;try show Sat _ _ _ _ _);(repeat refine Qc ?_);(refine Qa fun k hk=>?_;simp only[id,seval,Ql,Qb,qb49];refine hk _ ?_;clear hk k;try show Sat _ _ _ _ _);(repeat refine Qc ?_);refine Sat.block ?_
  refine Qo (ι:=Nat×List Fg×Option Addr×Nat) (fun z=>⟨84,[(33,.i .i64 z.1),(3,.os 1 z.2.2.1 z.2.1.length z.2.2.2),(32,.i .i64 l.length),(31,.sl ca l.length cc 2 (epRd l)),(6,.sl ra1 zs.length rc1 17 (Qk zs.toArray)),(19,.i .i64 i),(18,.i .i64 ts.length),(17,.sl ra ts.length rc 3 (Xw ts.toArray)),(0,.sl ad xs.length cap 17 (Qk xs.toArray))],
    .gone :: fgRow z.2.2.1 z.2.2.2 z.2.1 :: .gone :: z.2.1.map Fg.row⟩)
   (fun z=>z.1≤l.length∧FlowsI xs (fun p=>(∃ t∈ts.take i,IsPartT xs t p)∨∃ c∈l.take z.1,p=cutL zs c) (z.2.1.map Fg.rs)∧z.2.1.length≤fB i z.1∧∀ g∈z.2.1,g.rs.length≤fB i z.1) (fun z=>l.length - z.1) (0,gs,oa,oc)
   ⟨Nat.zero_le _,hF.mono (fun p hp=>hp.elim id fun⟨c,hc,_⟩=>by cases hc),hgl,hgr⟩ (by simp only[fgRow];rw[← hTd];simp only[id,seval,Ql,Qb,qb50];try exact QU _) ?_
  clear hF hgl hgr hTd hTl T;rintro⟨k,gs,oa,oc⟩ ⟨hk2,hF,hgl,hgr⟩;simp only at hk2 hF hgl hgr ⊢;obtain⟨T,hTd⟩:∃ T,T=gs.map Fg.row:=⟨_,rfl⟩;rw[← hTd];have hTl:T.length=gs.length:=by rw[hTd,List.length_map]
  simp only[fgRow];(repeat refine Qc ?_);(refine Qa fun k hk=>?_;simp only[id,seval,Ql,Qb,qb49];refine hk _ ?_;clear hk k;try show Sat _ _ _ _ _);(repeat refine Qc ?_);refine Qe rfl (fun h=>?_) (fun h=>?_)
  ·have h2:k<l.length:=by simp only[decide_eq_true_eq] at h;omega
   have e2:IntKind.i64.wrap ((k:Int)+1)=((k+1:Nat):Int):=by rw[w64 (by omega)];omega
   refine Sat.skip ?_;simp only[Qf];(repeat refine Qc ?_);refine Sat.block ?_;(repeat refine Qc ?_);(refine Qa fun k hk=>?_;simp only[id,seval,Ql,Qb,qb49]);refine⟨by omega,fun b10=>?_⟩;(refine hk _ ?_;clear hk k;try show Sat _ _ _ _ _);refine Qs (.gone :: .row oa 23 gs.length oc 1 (fgRd gs) :: .gone :: T) 10 rfl ?_;try simp only[List.length_cons,List.length_nil]
   obtain⟨c,hc⟩:∃ c,c=l.getD k (0,0):=⟨_,rfl⟩;have hcl:c∈l:=by rw[hc,List.getD_eq_getElem?_getD,List.getElem?_eq_getElem h2];exact List.getElem_mem h2
   obtain⟨hc1,hc2⟩:=hcut.bounds hcl;have q0:epRd l k 0=.i .i64 (c.1:Nat):=by rw[hc];rfl
   have q1:epRd l k 1=.i .i64 (c.2:Nat):=by rw[hc];rfl
   simp only[q0,q1];(repeat refine Qc ?_);(refine Qa fun k hk=>?_;simp only[id,seval,Ql,Qb,qb49]);refine fun mb=>?_;(refine hk _ ?_;clear hk k;try show Sat _ _ _ _ _);refine Sat.toSlot ?_;refine Sat.redo 11 (.mp 2 mb) rfl rfl (fun _ _=>trivial) ?_;(repeat refine Qc ?_);(refine Qa fun k hk=>?_;simp only[id,seval,Ql,Qb,qb49]);refine⟨by omega,?_⟩;(refine hk _ ?_;clear hk k;try show Sat _ _ _ _ _);obtain⟨p,hp⟩:∃ p,p=cutL zs c:=⟨_,rfl⟩;have hpt:IsPart xs p:=⟨t,by rw[hp,hzs];exact (IsPartT.iff ho (by rw[← hzs];exact hcut)).2 ⟨c,hcl,rfl⟩⟩;obtain⟨hpl,hpg⟩:=cut_get (Nat.le_of_lt hc1) hc2;rw[← hp] at hpl hpg;obtain⟨pa,hpa⟩:∃ pa,pa=(if rc1=c.fst then ra1 else Option.map (fun x=>x.add (c.fst * 17)) ra1):=⟨_,rfl⟩;rw[← hpa];simp only[← hpl];(repeat refine Qc ?_);refine Sat.block ?_
   refine Qo (ι:=Nat×List Fg×(Option Addr×Nat)×(List Int→Option Int)) (fun z=>⟨84,[(45,.i .i64 z.1),(11,.mp 2 mb),(3,.os 1 z.2.2.1.1 z.2.1.length z.2.2.1.2),(44,.i .i64 p.length),(43,.sl pa p.length (rc1 - c.1) 17 fun i j=>Qk zs.toArray (c.1+i) j),(33,.i .i64 k),(32,.i .i64 l.length),(31,.sl ca l.length cc 2 (epRd l)),(6,.sl ra1 zs.length rc1 17 (Qk zs.toArray)),(19,.i .i64 i),(18,.i .i64 ts.length),(17,.sl ra ts.length rc 3 (Xw ts.toArray)),(0,.sl ad xs.length cap 17 (Qk xs.toArray))],
     .gone :: fgRow z.2.2.1.1 z.2.2.1.2 z.2.1 :: .mp mb true [.i64] .i64 z.2.2.2 :: z.2.1.map Fg.row⟩)
    (fun z=>z.1≤p.length∧FlowsJ xs (fun p=>(∃ t∈ts.take i,IsPartT xs t p)∨∃ c∈l.take k,p=cutL zs c) p (p.take z.1) z.2.2.2 (z.2.1.map Fg.rs)∧z.2.1.length≤fB i k+z.1∧∀ g∈z.2.1,g.rs.length≤fB i k+z.1) (fun z=>p.length - z.1) (0,gs,(oa,oc),fun _=>none)
    ⟨Nat.zero_le _,hF.start p,Nat.le_trans hgl (Nat.le_add_right _ _),fun g hg=>Nat.le_trans (hgr g hg) (Nat.le_add_right _ _)⟩ (by simp only[fgRow];rw[← hTd];simp only[id,seval,Ql,Qb,qb50];exact QU _) ?_
   clear hF hgl hgr hTd hTl T;rintro⟨j,gs,⟨oa,oc⟩,f⟩ ⟨hj,hF,hgl,hgr⟩;simp only at hj hF hgl hgr ⊢;obtain⟨T,hTd⟩:∃ T,T=gs.map Fg.row:=⟨_,rfl⟩;rw[← hTd];have hTl:T.length=gs.length:=by rw[hTd,List.length_map]
   simp only[fgRow];(repeat refine Qc ?_);(refine Qa fun k hk=>?_;simp only[id,seval,Ql,Qb,qb49];refine hk _ ?_;clear hk k;try show Sat _ _ _ _ _);(repeat refine Qc ?_);refine Qe rfl (fun h=>?_) (fun h=>?_)
   ·have h3:j<p.length:=by simp only[decide_eq_true_eq] at h;omega
    have e3:IntKind.i64.wrap ((j:Int)+1)=((j+1:Nat):Int):=by rw[w64 (by omega)];omega
    obtain⟨r,hr⟩:∃ r,r=zs.toArray[c.1+j]! := ⟨_,rfl⟩
    have hrp:p[j]'h3=r:=by
     have h9:=hpg j (by omega);rw[List.getElem?_eq_getElem h3,List.getElem?_eq_getElem (show c.1+j<zs.length by omega)] at h9;rw[hr,getB (show c.1+j<zs.length by omega)]
     simpa using h9
    have htk:p.take (j+1)=p.take j ++ [r]:=by rw[List.take_succ_eq_append_getElem h3,hrp]
    have hrm:r∈p:=by rw[← hrp];exact List.getElem_mem h3
    refine Sat.skip ?_;simp only[Qf];(repeat refine Qc ?_);refine Sat.block ?_;(repeat refine Qc ?_);(refine Qa fun k hk=>?_;simp only[id,seval,Ql,Qb,qb49]);refine⟨by omega,fun b13=>?_⟩;(refine hk _ ?_;clear hk k;try show Sat _ _ _ _ _);refine Qs (.gone :: .row oa 23 gs.length oc 1 (fgRd gs) :: .mp mb true [.i64] .i64 f :: T) 13 rfl ?_;try simp only[List.length_cons,List.length_nil]
    (repeat refine Qc ?_);(refine Qa fun k hk=>?_;simp only[id,seval,Ql,Qb,qb49]);refine Qd (wayC F zs.toArray[c.1+j]!) rfl (by rintro _ rfl;exact Qh rfl) ?_;rintro _ rfl;rw[← hr];simp only[id,seval,Ql,Qb,qb49];(refine hk _ ?_;clear hk k;try show Sat _ _ _ _ _);(repeat refine Qc ?_);refine Qe rfl (fun h4=>?_) (fun h4=>?_)
    ·have hw:Xu r=false:=by simpa using h4
     refine Sat.exit ?_;simp only[Qf,Qg,reduceIte];refine Qa fun kk hk=>?_;simp only[id,seval,Ql,Qb,e3,qb49];refine hk _ ?_;simp only[Qf,Qg];refine⟨(j+1,gs,(oa,oc),f),⟨by simp only;omega,by rw[htk];exact hF.skip hw,Nat.le_succ_of_le hgl,fun g hg=>Nat.le_succ_of_le (hgr g hg)⟩,by simp only;omega,?_⟩;simp only[fgRow];rw[← hTd];simp only[id,seval,Ql,Qb,qb50];exact QU _
    have hw:Xu r=true:=by simpa using h4
    refine Sat.skip ?_;simp only[Qf];(repeat refine Qc ?_);have q6:Qk zs.toArray (c.1+j) 6=.i .i64 r.flow:=by rw[hr];rfl
    obtain⟨el,hel⟩:∃ el,el=SV.el ⟨b13,0,none⟩ 17 fun j=>(Res.cs r).getD j default:=⟨_,rfl⟩
    refine QT (ι:=Option Int) (fun z=>⟨84,[(14,.i .i64 (z.getD 0)),(15,.b z.isSome),(13,el),(45,.i .i64 j),(11,.mp 2 mb),(3,.os 1 oa gs.length oc),(44,.i .i64 p.length),(43,.sl pa p.length (rc1 - c.1) 17 fun i j=>Qk zs.toArray (c.1+i) j),(33,.i .i64 k),(32,.i .i64 l.length),(31,.sl ca l.length cc 2 (epRd l)),(6,.sl ra1 zs.length rc1 17 (Qk zs.toArray)),(19,.i .i64 i),(18,.i .i64 ts.length),(17,.sl ra ts.length rc 3 (Xw ts.toArray)),(0,.sl ad xs.length cap 17 (Qk xs.toArray))],
     .gone :: .row oa 23 gs.length oc 1 (fgRd gs) :: .mp mb true [.i64] .i64 f :: T⟩) (fun z=>f [r.flow]=z) ?_ ?_
    ·(refine Qa fun k hk=>?_;simp only[id,seval,Ql,Qb,qb49]);simp only[q6,id,seval,Ql,Int.reduceToNat,Qb,qb51];refine⟨fun v hv=>hk _ ?_,fun hv=>hk _ ?_⟩
     ·simp only[Qf];refine⟨some v,hv,?_⟩;simp only[Option.isSome_some,Option.getD_some];rw[hel];simp only[id,seval,Ql,Qb,qb50];exact⟨by rw[hr];rfl,QU _⟩
     ·simp only[Qf];refine⟨none,hv,?_⟩;simp only[Option.isSome_none,Option.getD_none];rw[hel];simp only[id,seval,Ql,Qb,qb50];exact⟨by rw[hr];rfl,QU _⟩
    intro z hz;simp only[Qf];(repeat refine Qc ?_);(refine Qa fun k hk=>?_;simp only[id,seval,Ql,Qb,qb49];refine hk _ ?_;clear hk k;try show Sat _ _ _ _ _);(repeat refine Qc ?_);have hT2:mapT Tryz.prog 131=some (true,[.i64],.i64):=by kernel_rfl
    refine Zg (ι:=Nat×List Fg×(Option Addr×Nat)×(List Int→Option Int)) (fun w=>⟨84,[(14,.i .i64 w.1),(13,el),(45,.i .i64 j),(11,.mp 2 mb),(3,.os 1 w.2.2.1.1 w.2.1.length w.2.2.1.2),(44,.i .i64 p.length),(43,.sl pa p.length (rc1 - c.1) 17 fun i j=>Qk zs.toArray (c.1+i) j),(33,.i .i64 k),(32,.i .i64 l.length),(31,.sl ca l.length cc 2 (epRd l)),(6,.sl ra1 zs.length rc1 17 (Qk zs.toArray)),(19,.i .i64 i),(18,.i .i64 ts.length),(17,.sl ra ts.length rc 3 (Xw ts.toArray)),(0,.sl ad xs.length cap 17 (Qk xs.toArray))],
     .gone :: .row w.2.2.1.1 23 w.2.1.length w.2.2.1.2 1 (fgRd w.2.1) :: .mp mb true [.i64] .i64 w.2.2.2 :: w.2.1.map Fg.row⟩)
     (fun w=>w.1<w.2.1.length∧(∀ a2 c2,FlowsJ xs (fun p=>(∃ t∈ts.take i,IsPartT xs t p)∨∃ c∈l.take k,p=cutL zs c) p (p.take (j+1)) w.2.2.2 ((w.2.1.set w.1 ⟨(w.2.1.getD w.1 default).rs ++ [r],a2,c2⟩).map Fg.rs))∧w.2.1.length≤fB i k+(j+1)∧∀ g∈w.2.1,g.rs.length≤fB i k+j) (fun hrest=>?_) ?_
    ·refine Qe rfl (fun h5=>?_) (fun h5=>?_)
     ·have hzn:f [r.flow]=none:=by rw[hz];simpa using h5
      have hzn0:z=none:=by simpa using h5
      subst hzn0;have hb9:=fB_le (i:=i) (k:=k) (by omega) (by omega);(repeat refine Qc ?_);(refine Qa fun k hk=>?_;simp only[id,seval,Ql,Qb,qb49];refine hk _ ?_;clear hk k;try show Sat _ _ _ _ _);(repeat refine Qc ?_);rw[hel];simp only[Res.cs];(refine Qa fun k hk=>?_;simp only[id,seval,Ql,Qb,qb49]);(refine hk _ ?_;clear hk k;try show Sat _ _ _ _ _);(refine Qa fun k hk=>?_;simp only[id,seval,Ql,Qb,qb49]);refine fun bl=>⟨⟨by unfold maxLen;omega,by omega⟩,fun a3 c3=>hk _ ?_⟩;clear hk k;simp only[Qf,Qg];refine Sat.cutOwn (.gone :: .row a3 23 (gs.length+1) c3 1 (Zb gs.length (fgRd gs) (rdL [SV.sl none 0 0 0 fun x x_1=>SV.v undef] 1)) :: .mp mb true [.i64] .i64 (fPut f [r.flow] gs.length) :: T) ?_;obtain⟨gs2,hgs2⟩:∃ gs2:List Fg,gs2=gs ++ [⟨[],none,0⟩]:=⟨_,rfl⟩;have hg2l:gs2.length=gs.length+1:=by rw[hgs2,List.length_append];rfl
      have hg2o:∀ q,q<gs.length→gs2.getD q default=gs.getD q default:=fun q hq=>by
       rw[hgs2,List.getD_eq_getElem?_getD,List.getElem?_append_left hq,List.getD_eq_getElem?_getD]
      have hg2n:gs2.getD gs.length default=⟨[],none,0⟩:=by
       rw[hgs2,List.getD_eq_getElem?_getD,List.getElem?_concat_length];rfl
      refine Sat.reread 1 (fgRd gs2) rfl (fun q w hq hw2=>?_) ?_
      ·obtain rfl:w=0:=by omega
       by_cases h9:q<gs.length
       ·have e9:Zb gs.length (fgRd gs) (rdL [SV.sl none 0 0 0 fun x x_1=>SV.v undef] 1) q 0=fgRd gs2 q 0:=by
         unfold Zb fgRd;rw[if_pos h9,hg2o q h9]
        rw[e9];exact QE _
       ·obtain rfl:q=gs.length:=by omega
        have e9:Zb gs.length (fgRd gs) (rdL [SV.sl none 0 0 0 fun x x_1=>SV.v undef] 1) gs.length 0=SV.sl none 0 0 0 fun x x_1=>SV.v undef:=by
         unfold Zb;rw[if_neg (Nat.lt_irrefl _),Nat.sub_self];rfl
        have e8:fgRd gs2 gs.length 0=.os 0 none 0 0:=by unfold fgRd;rw[hg2n];rfl
        rw[e9,e8];exact⟨rfl,fun _ _ _=>trivial⟩
      refine Sat.nilAt 0 62 17 (Qk #[]) rfl ?_;simp only[List.set_cons_succ,List.set_cons_zero];refine Sat.pushNew (T:=.mp mb true [.i64] .i64 (fPut f [r.flow] gs.length) :: T) ?_;refine (hrest (gs.length,gs2,(a3,c3),fPut f [r.flow] gs.length) ⟨by simp only;omega,fun a2 c2=>?_,by simp only;omega,fun g hg=>?_⟩).le ?_
      ·have h9:=hF.miss hpt hrm hw hzn;rw[List.length_map] at h9
       have e9:(gs2.set gs.length ⟨(gs2.getD gs.length default).rs ++ [r],a2,c2⟩).map Fg.rs=gs.map Fg.rs ++ [[r]]:=by
        rw[hg2n,hgs2,List.set_append_right _ _ (Nat.le_refl _),Nat.sub_self,List.map_append];rfl
       simp only;rw[htk,e9];exact h9
      ·simp only at hg;rw[hgs2] at hg;rcases List.mem_append.1 hg with hg|hg
       ·exact hgr g hg
       ·rw[List.mem_singleton] at hg;subst hg;exact Nat.zero_le _
      ·have e9:gs2.map Fg.row=T ++ [Fg.row ⟨[],none,0⟩]:=by rw[hgs2,List.map_append,← hTd];rfl
       simp only[List.cons_append];rw[e9,hg2l];simp only[id,seval,Ql,Qb,qb50];exact⟨by rw[hel];rfl,QU _⟩
     ·obtain⟨v,rfl⟩:∃ v,z=some v:=by
       cases z with
       | none=>simp at h5
       | some v=>exact⟨v,rfl⟩
      obtain⟨n,rfl,hn,_⟩:=hF.idx _ _ hz;rw[List.length_map] at hn;refine Sat.skip ?_;simp only[Qf,Option.getD_some];refine (hrest (n,gs,(oa,oc),f) ⟨hn,fun a2 c2=>?_,Nat.le_succ_of_le hgl,hgr⟩).le ?_
      ·have h9:=(hF.hit hpt hrm hw hz).2;rw[htk,List.map_set]
       have e9:(gs.map Fg.rs).getD n []=(gs.getD n default).rs:=by
        rw[List.getD_eq_getElem?_getD,List.getElem?_map,List.getD_eq_getElem?_getD,List.getElem?_eq_getElem hn];rfl
       rw[e9] at h9;exact h9
      ·simp only;rw[← hTd];simp only[id,seval,Ql,Qb,qb50];exact QU _
    clear hF hgl hgr hTd hTl T;rintro⟨n,gs,⟨oa,oc⟩,f⟩ ⟨hn,hF,hgl,hgr⟩;simp only at hn hF hgl hgr ⊢;obtain⟨T,hTd⟩:∃ T,T=gs.map Fg.row:=⟨_,rfl⟩;rw[← hTd];have hTl:T.length=gs.length:=by rw[hTd,List.length_map]
    rw[hel];simp only[Res.cs];obtain⟨g,hg⟩:∃ g,g=gs.getD n default:=⟨_,rfl⟩;have hgm:g∈gs:=by rw[hg,List.getD_eq_getElem?_getD,List.getElem?_eq_getElem hn];exact List.getElem_mem hn
    have hgle:=hgr g hgm;have hb9:=fB_le (i:=i) (k:=k) (by omega) (by omega)
    have hTn:(Eng.Own.mp mb true [IntKind.i64] .i64 f :: T)[n+1]? = some g.row:=by
     rw[List.getElem?_cons_succ,hTd,List.getElem?_map,List.getElem?_eq_getElem hn,hg,List.getD_eq_getElem?_getD,List.getElem?_eq_getElem hn];rfl
    refine Sat.pull (n+1) hTn ?_;simp only[List.set_cons_succ];obtain⟨T1,hT1⟩:∃ T1,T1=T.set n Eng.Own.gone:=⟨_,rfl⟩;rw[← hT1];simp only[Fg.row];have q7:fgRd gs n 0=.os 0 g.a g.rs.length g.cap:=by rw[hg];rfl
    (refine Qp (.keep [0,1,2,3,4,5,6] [7] (.one 7 (.one 8 (.one 9 (.one 10 .done))))) (by kernel_rfl) (by kernel_rfl) (fun _ _ h=>h) fun k hk=>?_;simp only[WOT,List.map_cons,List.map_nil,List.getD_cons_zero,List.getD_cons_succ];simp only[id,seval,Ql,Qb,WOT,qb49]);refine⟨by omega,by omega,fun bs=>⟨by rw[List.take_left],?_⟩⟩;simp only[q7,id,seval,Ql,Int.reduceToNat,Qb,qb51];refine⟨⟨by unfold maxLen;omega,by omega⟩,fun a2 c2=>⟨by omega,hn,hk _ ?_⟩⟩;clear hk k;simp only[Qf,Qg];refine Sat.cutOwn (.row a2 62 (g.rs.length+1) c2 17 (Zb g.rs.length (Qk g.rs.toArray) (rdL (Res.cs r) 17)) :: .row oa 23 gs.length oc 1 (Z8 (fgRd gs) n 0 [SV.os 0 a2 (g.rs.length+1) c2]) :: .mp mb true [.i64] .i64 f :: T1) ?_;obtain⟨g2,hg2⟩:∃ g2:Fg,g2=⟨g.rs ++ [r],a2,c2⟩:=⟨_,rfl⟩;have hJ:=hF a2 c2;rw[← hg,← hg2] at hJ
    refine Sat.leOwn (own':=g2.row :: .row oa 23 gs.length oc 1 (Z8 (fgRd gs) n 0 [SV.os 0 a2 (g.rs.length+1) c2]) :: .mp mb true [.i64] .i64 f :: T1) ⟨by
     subst hg2
     exact⟨rfl,rfl,by simp,rfl,rfl,by
      exact res_app rfl⟩,own_refl _,own_refl _,QU _⟩ ?_
    refine Sat.reread 1 (fgRd (gs.set n g2)) rfl (fun q w hq hw2=>?_) ?_
    ·obtain rfl:w=0:=by omega
     unfold Z8 fgRd;by_cases h9:q=n
     ·subst h9;rw[ZU hn,if_pos (by simp),hg2];simp only[List.length_append,List.length_singleton];exact QE _
     ·rw[getD_set_ne (Ne.symm h9),if_neg (fun h8=>h9 h8.1)];exact QE _
    simp only[List.set_cons_succ,List.set_cons_zero];refine Sat.push (T:=.mp mb true [.i64] .i64 f :: T1) (n+1) (by rw[List.getElem?_cons_succ,hT1,List.getElem?_set_self (by omega)]) ?_;simp only[List.set_cons_succ];have hTn2:T1.set n g2.row=(gs.set n g2).map Fg.row:=by rw[hT1,List.set_set,hTd,List.map_set]
    rw[hTn2];have hsl:(gs.set n g2).length=gs.length:=List.length_set
    have hl2:∀ g∈gs.set n g2,g.rs.length≤fB i k+(j+1):=fun f2 hf=>by
     rcases List.mem_or_eq_of_mem_set hf with hf|hf
     ·exact Nat.le_succ_of_le (hgr f2 hf)
     ·rw[hf,hg2];simp only[List.length_append,List.length_singleton];omega
    rw[← hsl];rw[← hsl] at hgl;clear hTn2;generalize gs.set n g2=fs at hJ hl2 hgl;refine Qa fun kk hk=>?_;simp only[id,seval,Ql,Qb,e3,qb49];refine hk _ ?_;simp only[Qf,Qg];refine⟨(j+1,fs,(oa,oc),f),⟨by simp only;omega,hJ,hgl,hl2⟩,by simp only;omega,?_⟩;simp only[fgRow];simp only[id,seval,Ql,Qb,qb50];try exact QU _
   have h3:j=p.length:=by simp only[decide_eq_false_iff_not] at h;omega
   subst h3;rw[List.take_length] at hF;refine Sat.exit ?_;simp only[Qf,Qg,reduceIte];refine Qa fun kk hk=>?_;simp only[id,seval,Ql,Qb,e2,qb49];refine hk _ ?_;simp only[Qf,Qg]
   have htk2:l.take (k+1)=l.take k ++ [c]:=by
    rw[List.take_succ_eq_append_getElem h2,hc,List.getD_eq_getElem?_getD,List.getElem?_eq_getElem h2];rfl
   refine⟨(k+1,gs,oa,oc),⟨by simp only;omega,hF.done.mono (fun p' hp'=>?_),?_,fun g hg=>?_⟩,by simp only;omega,?_⟩
   ·rcases hp' with hp'|⟨c',hc',e9⟩
    ·exact .inl (.inl hp')
    ·rw[htk2] at hc';rcases List.mem_append.1 hc' with hc'|hc'
     ·exact .inl (.inr ⟨c',hc',e9⟩)
     ·rw[List.mem_singleton] at hc';exact .inr (by rw[e9,hc',hp])
   ·have h8:gs.length≤fB i (k+1):=fB_k hgl (by omega);exact h8
   ·have h9:=hgr g hg;have h8:g.rs.length≤fB i (k+1):=fB_k h9 (by omega);exact h8
   ·simp only[fgRow];rw[← hTd];simp only[id,seval,Ql,Qb,qb50];exact QU _
  have h2:k=l.length:=by simp only[decide_eq_false_iff_not] at h;omega
  subst h2;rw[List.take_length] at hF;refine Sat.exit ?_;simp only[Qf,Qg,reduceIte];refine Qa fun kk hk=>?_;simp only[id,seval,Ql,Qb,e1,qb49];refine hk _ ?_;simp only[Qf,Qg]
  have htk:ts.take (i+1)=ts.take i ++ [t]:=by
   rw[List.take_succ_eq_append_getElem h1,ht];simp [getElem!_def,h1]
  refine⟨(i+1,gs,oa,oc),⟨by simp only;omega,hF.mono (fun p' hp'=>?_),?_,fun g hg=>?_⟩,by simp only;omega,?_⟩
  ·obtain⟨t',ht',h9⟩:=hp';simp only at ht';rw[htk] at ht';rcases List.mem_append.1 ht' with ht'|ht'
   ·exact .inl ⟨t',ht',h9⟩
   ·rw[List.mem_singleton] at ht';subst ht';rw[hzs] at hcut ⊢;exact .inr ((IsPartT.iff ho hcut).1 h9)
  ·have h8:gs.length≤fB (i+1) 0:=fB_i hgl hll;exact h8
  ·have h9:=hgr g hg;have h8:g.rs.length≤fB (i+1) 0:=fB_i h9 hll;exact h8
  ·simp only[fgRow];rw[← hTd];simp only[id,seval,Ql,Qb,qb50];exact QU _
 have h1:i=ts.length:=by simp only[decide_eq_false_iff_not] at h;omega
 subst h1;rw[List.take_length] at hF;refine Sat.exit ?_;simp only[Qf,Qg,reduceIte];have hB:fB ts.length 0≤1000000000:=Nat.le_trans (fB_le (by omega) (Nat.zero_le _)) (by decide);have hfin:∀ g∈gs,g.rs.length≤1000000000:=fun g hg=>Nat.le_trans (hgr g hg) hB;refine Xr (own':=.row oa 23 gs.length oc 1 (fgRd gs) :: T) (fun j=>if j=0 then 1 else j+2) (fun j o ho=>?_) (fun i j o o' hij ho ho' _ _ e=>?_) ?_
 ·match j,ho with
  | 0,ho=>exact .inr (by simpa using ho)
  | j+1,ho=>exact .inr (by rw[if_neg (by omega)];simpa using ho)
 ·split at e<;>split at e<;>omega
 refine Sat.redo 3 (.os 0 oa gs.length oc) rfl rfl (fun _ _=>trivial) ?_;refine Sat.settleTail (o':=.row oa 23 gs.length oc 1 (fgS gs)) (fun b hb=>by cases oa<;>exact hb) (fun R R' B w hRR hT hTb hno ho=>?_) ?_
 ·obtain⟨h2,h3,h4⟩:=ho;have hden:∀ q r,q<gs.length→r<1→(fgRd gs q r).den=(fgS gs q r).den:=fun q r hq hr=>rfl;refine⟨?_,fun g hg=>hno _ (by rw[hg];rfl),fun q r hq hr=>⟨?_,?_⟩⟩
  ·have e2:cellsOf gs.length 1 (fgS gs)=cellsOf gs.length 1 (fgRd gs):=by
    unfold cellsOf;refine List.map_congr_left fun t ht=>rfl
   rw[e2];exact h2
  ·exact (h4 q r hq hr).1
  ·have htm:(gs.getD q default).row∈T:=by rw[hTd];exact List.mem_map.2 ⟨_,Q3 hq,rfl⟩
   exact row_sl (hT _ htm) hRR (fun b hb=>hTb _ htm b hb)
 refine Zo 3 rfl rfl ?_;simp only[id,seval,Ql,Qb,qb49];(repeat refine Qc ?_);(refine Qa fun k hk=>?_;simp only[id,seval,Ql,Qb,qb49];refine hk _ ?_;clear hk k;try show Sat _ _ _ _ _);refine Sat.ret ?_;simp only[Tryz.results45,id,seval,Ql,Int.reduceToNat,Qb,qb51];exact⟨oa,oc,gs,FlowsOf.of hts hF,Nat.le_trans hgl hB,hfin,rfl⟩
end

section
open Go.Sort Eng
def Zi (d:Array Exc):Nat→Nat→SV:=fun i j=>(Exc.cs d[i]!).getD j default
def excRow (ad:Option Addr) (N cap:Nat) (d:Array Exc):Own:=.row ad 29 N cap 8 (Zi d)
def excAg (x:Exc):SV:=.agg 8 fun j=>(Exc.cs x).getD j default
theorem QY (d:Array Exc) (i j:Nat) (h:j<8):XA (Zi d i j)=true:=by
 rcases (show j=0∨j=1∨j=2∨j=3∨j=4∨j=5∨j=6∨j=7 by omega) with rfl|rfl|rfl|rfl|rfl|rfl|rfl|rfl<;>rfl
def excCmp (g:FuncId) (lt:Exc→Exc→Bool):Prop:=∀ x y,∃ c:Int,lt x y=decide (c<0)∧∀ F,Contract F Tryz.prog g [excAg x,excAg y] (fun r=>r=.i .i64 c)
end

section
open Go.Sort Eng
theorem exc_one1 (x:Exc):∀ s∈Exc.cs x,s.den.oneCell'=true:=fun s hs=>XH (List.all_eq_true.1 (show (Exc.cs x).all XA=true from rfl) s hs)
theorem exc_def (R:Nat→Prop) (w:World):∀ s∈Exc.cs default,s.ok R w:=by
 intro s hs;simp only[Exc.cs,List.mem_cons,List.not_mem_nil,or_false] at hs;rcases hs with rfl|rfl|rfl|rfl|rfl|rfl|rfl|rfl<;>first|trivial|exact⟨Nat.le_refl _,Nat.zero_le _,.inl rfl⟩
theorem excSortC (F:Frm) {g:FuncId} {rdc:Nat→SV} {lt:Exc→Exc→Bool} (hw:SWO lt) (hc:excCmp g lt) (ad:Option Addr) (cap N:Nat) (hN:N≤1000000000000) (d:Array Exc) (hd:d.size=N) :
  ContractM F Tryz.prog 49 [.os 0 ad N cap,.fn g 0 rdc] (excRow ad N cap d)
   (fun r o1=>r=Xh []∧∃ d',d'.size=N∧(PermIn 0 N d d'∧SortedIn lt 0 N d')∧o1=excRow ad N cap d'):=
 sortK Tryz.sortExclusion 8 (by decide) Tryz.isAgg29 Tryz.sizeOf29 Exc.cs (fun _=>rfl) exc_one1 exc_def F 29 (enters_of Tryz.func49 (by kernel_rfl) rfl) hw hc ad cap N hN d hd
end

section
open Go.Sort Eng
theorem evs_one1 (x:Evs):∀ s∈Evs.cs x,s.den.oneCell'=true:=fun s hs=>XH (List.all_eq_true.1 (show (Evs.cs x).all XA=true from rfl) s hs)
theorem evs_def (R:Nat→Prop) (w:World):∀ s∈Evs.cs default,s.ok R w:=by
 intro s hs;simp only[Evs.cs,Evd.cs,List.mem_cons,List.not_mem_nil,or_false] at hs;rcases hs with rfl|rfl|rfl|rfl<;>first|trivial|exact⟨Nat.le_refl _,Nat.zero_le _,.inl rfl⟩
theorem evsSortC (F:Frm) {g:FuncId} {rdc:Nat→SV} {lt:Evs→Evs→Bool} (hw:SWO lt) (hc:evsCmp g lt) (ad:Option Addr) (cap N:Nat) (hN:N≤1000000000000) (d:Array Evs) (hd:d.size=N) :
  ContractM F Tryz.prog 60 [.os 0 ad N cap,.fn g 0 rdc] (evsRow ad N cap d)
   (fun r o1=>r=Xh []∧∃ d',d'.size=N∧(PermIn 0 N d d'∧SortedIn lt 0 N d')∧o1=evsRow ad N cap d'):=
 sortK Tryz.sortEvidence 4 (by decide) Tryz.isAgg32 Tryz.sizeOf32 Evs.cs (fun _=>rfl) evs_one1 evs_def F 32 (enters_of Tryz.func60 (by kernel_rfl) rfl) hw hc ad cap N hN d hd
end

section
open Go.Sort Eng
theorem sim_idn {f:Nat→SV} {d:Idn} (h0:f 0=.i .i64 d.van) (h1:f 1=.i .i64 d.run) (h2:f 2=.i .i64 d.num):sim (.agg 3 f) (idnAg d):=by
 refine⟨?_,fun R w _ j hj=>?_⟩
 ·simp only[SV.den,idnAg]
  congr 1
  have:(List.range 3)=[0,1,2]:=rfl
  rw[this];simp only[List.map_cons,List.map_nil,h0,h1,h2];rfl
 ·rcases (show j=0∨j=1∨j=2 by omega) with rfl|rfl|rfl<;>trivial
def qb52:=And.intro @evr (And.intro @QY (And.intro @Qm (And.intro @fg_one (And.intro @Qu (And.intro @Qv (And.intro @Qq (And.intro @Qj (@evn))))))))
def qb53:=And.intro @evr (And.intro @QY (And.intro @Qm (And.intro @fg_one (And.intro @Qu (And.intro @Qv (And.intro @List.append_nil.{0} (And.intro @Int.toNat_zero (And.intro @Nat.sub_self (And.intro @Qq (@Qj))))))))))
set_option maxHeartbeats 1000000 in
set_option maxRecDepth 100000 in
theorem compareExC (F:Frm) (x y:Exc):Contract F Tryz.prog 24 [excAg x,excAg y] (fun r=>r=.i .i64 (XI x y)):=by
 rw[excCmp_or];refine Qi Tryz.func24 rfl (by kernel_rfl) ?_;simp only[Tryz.ntmps24,Qt,excAg,Exc.cs];(repeat refine Qc ?_);(refine Qa fun k hk=>?_;simp only[id,seval,Qb,qb52]);intro blk1 blk2;(refine hk _ ?_;clear hk k;try show Sat _ _ _ _ _);(repeat refine Qc ?_);(refine Qp (OT.keep [0,2,5,7,10,12,15,17,1,3,6,8,11,13,16,18] [4,9,14,19] (BT.one 4 (BT.one 9 (BT.one 14 (BT.one 19 (BT.one 20 (BT.one 21 (BT.one 22 BT.done)))))))) (by kernel_rfl) (by kernel_rfl) (fun _ _ h=>h) fun k hk=>?_;simp only[WOT,List.map_cons,List.map_nil,List.getD_cons_zero,List.getD_cons_succ];simp only[id,seval,Qb,WOT,qb52]);refine Qd (cmpAC F x.a y.a) rfl (by rintro _ rfl;exact Qh rfl) ?_;rintro r rfl;simp only[id,seval,Qb,qb52];refine Qd (cmpAC F x.b y.b) rfl (by rintro _ rfl;exact Qh rfl) ?_;rintro r rfl;simp only[id,seval,Qb,qb52];refine Qd (QW (args:=[.agg 3 fun j=>(Exc.cs x).getD (2+j) default,.agg 3 fun j=>(Exc.cs y).getD (2+j) default]) (Xg F x.f y.f) ⟨sim_idn rfl rfl rfl,sim_idn rfl rfl rfl,trivial⟩) rfl (by rintro _ rfl;exact Qh rfl) ?_;rintro r rfl;simp only[id,seval,Qb,qb52];refine Qd (QW (args:=[.agg 3 fun j=>(Exc.cs x).getD (5+j) default,.agg 3 fun j=>(Exc.cs y).getD (5+j) default]) (Xg F x.s y.s) ⟨sim_idn rfl rfl rfl,sim_idn rfl rfl rfl,trivial⟩) rfl (by rintro _ rfl;exact Qh rfl) ?_;rintro r rfl;simp only[id,seval,Qb,qb52];intro blk3;refine Qd (orC F (some ⟨blk3,0,none⟩) 4 [Zq x.a y.a,Zq x.b y.b,QP x.f y.f,QP x.s y.s] (by simp)) (by simp only[id,seval,Qb,intsRd,qb52]) (by rintro _ rfl;exact Qh rfl) ?_;rintro r rfl;simp only[id,seval,Qb,qb52];(refine hk _ ?_;clear hk k;try show Sat _ _ _ _ _);refine Sat.ret ?_;simp only[Tryz.results24,id,seval,Int.reduceToNat,Qb,qb53]
theorem excCmp1:excCmp 24 excLt:=fun x y=>⟨XI x y,rfl,fun F=>compareExC F x y⟩
def exKey (X:List Exc) (i:Nat):List Int:=(X.getD i default).pr.keys
def exVal (X:List Exc) (i:Nat):SV:=excAg (X.getD i default)
theorem seen_permA {α:Type} [Inhabited α] {ps:List α} {seen:List Nat} (hn:seen.Nodup) (hl:∀ i∈seen,i<ps.length) (ha:∀ i,i<ps.length→i∈seen):(seen.map fun i=>ps.getD i default).Perm ps:=by
 have h1:seen.Perm (List.range ps.length):=(List.perm_ext_iff_of_nodup hn List.nodup_range).2 fun i=>by
  rw[List.mem_range];exact⟨hl i,ha i⟩
 refine (h1.map _).trans ?_
 have:(List.range ps.length).map (fun i=>ps.getD i default)=ps:=by
  apply List.ext_getElem
  ·simp
  ·intro i h1 h2;simp only[List.length_map,List.length_range] at h1;simp [List.getD,h1]
 rw[this]
theorem seen_lenA {n:Nat} {seen:List Nat} (hn:seen.Nodup) (hl:∀ i∈seen,i<n):seen.length≤n:=by
 have:seen.length≤(List.range n).length:=hn.length_le_of_subset fun i hi=>List.mem_range.2 (hl i hi)
 simpa using this
theorem best_len {α:Type} {key:α→Par} {lt:α→α→Bool} {C:α→Prop} {X:List α} (h:BestI key lt C X) {la lb:List Int} (hc:∀ x,C x→(key x).a∈la∧(key x).b∈lb):X.length≤la.length * lb.length:=by
 have h1:(X.map key).length≤(la.flatMap fun a=>lb.map fun b=>(⟨a,b⟩:Par)).length:=h.nodup.length_le_of_subset fun p hp=>by
  obtain⟨e,he,rfl⟩:=List.mem_map.1 hp;obtain⟨h2,h3⟩:=hc e (h.each e he).1;exact List.mem_flatMap.2 ⟨_,h2,List.mem_map.2 ⟨_,h3,rfl⟩⟩
 have h2:(la.flatMap fun a=>lb.map fun b=>(⟨a,b⟩:Par)).length=la.length * lb.length:=by
  clear h1 hc
  induction la with
  | nil=>simp
  | cons a la ih=>rw[List.flatMap_cons,List.length_append,ih,List.length_map,List.length_cons,Nat.succ_mul];omega
 rw[List.length_map] at h1;omega
theorem exc_app {ys:List Exc} {x:Exc} {cs:List SV} (h:cs=Exc.cs x):rdEq (ys.length+1) 8 (Zb ys.length (Zi ys.toArray) (rdL cs 8)) (Zi (ys ++ [x]).toArray):=by
 subst h;refine Xm (fun i j hi hj=>?_) (fun j hj=>?_)
 ·unfold Zi;simp [getElem!_def,List.getElem?_append,hi]
 ·unfold Zi;simp [getElem!_def]
theorem exc_par {x y:Exc} (h:ZK x.pr y.pr=true):excLt x y=true:=by
 unfold ZK parCmpI at h;unfold excLt XI;rw[decide_eq_true_eq] at *;simp only[Par.keys,Exc.pr,Exc.keys,Xq] at h ⊢;split at h
 ·rename_i e1;split at h
  ·simp [cmpL,orL] at h
  ·rename_i e2;rw[if_pos e1,if_neg e2];exact h
 ·rename_i e1;rw[if_neg e1];exact h
theorem exc_sorted {L:List Exc} {d':Array Exc} (hd:d'.size=L.length) (hp:PermIn 0 L.length L.toArray d') (hs:SortedIn excLt 0 L.length d'):d'.toList.Perm L∧d'.toList.Pairwise fun a b=>ZK b.pr a.pr=false:=by
 have h:=hp.2.2;have e1:(d'.extract 0 L.length)=d':=by rw[← hd];simp
 have e2:(L.toArray.extract 0 L.length)=L.toArray:=by simp
 rw[e1,e2] at h;refine⟨by simpa using h,?_⟩;rw[List.pairwise_iff_getElem];intro i j hi hj hij;have hi':i<d'.size:=by simpa using hi
 have hj':j<d'.size:=by simpa using hj
 have:=hs i j (Nat.zero_le _) hij (by omega);have h9:excLt d'.toList[j] d'.toList[i]=false:=by simpa [getElem!_def,hi',hj'] using this
 cases hc:ZK (d'.toList[j]).pr (d'.toList[i]).pr with
 | false=>rfl
 | true=>rw[exc_par hc] at h9;cases h9
theorem excC_len {xs:List Res} {X:List Exc} (hl:xs.length≤512) (h:BestI Exc.pr excB (ExcC xs) X):X.length≤262144:=by
 have h1:=best_len (la:=xs.map Res.from_) (lb:=xs.map Res.from_) h (fun x hx=>by
  obtain⟨p,hp,a,ha,b,hb,_,_,_,_,rfl⟩:=hx
  exact⟨List.mem_map.2 ⟨a,(hp.sub a ha).1,rfl⟩,List.mem_map.2 ⟨b,(hp.sub b hb).1,rfl⟩⟩)
 rw[List.length_map] at h1;exact Nat.le_trans h1 (Nat.le_trans (Nat.mul_le_mul hl hl) (by decide))
def qb54:=And.intro @evr (And.intro @QY (And.intro @Qm (And.intro @fg_one (And.intro @Qu (And.intro @Qv (And.intro @Qq (And.intro @Qj (And.intro @evl (@evn)))))))))
set_option maxHeartbeats 2000000 in
set_option maxRecDepth 100000 in
theorem exPairsC (F:Frm) (ad:Option Addr) (cap:Nat) (xs:List Res) (hl:xs.length≤512) (hin:∀ r∈xs,RgR r) :
  Contract F Tryz.prog 12 [.sl ad xs.length cap 17 (Qk xs.toArray)] (fun r=>(xs.any (fun x=>!QH x)=true∧∃ rd,r=Xh [.sl none 0 0 0 rd,.i .i64 1]) ∨
   (xs.any (fun x=>!QH x)=false∧∃ a cap es,ExcOf xs es∧es.length≤1000000000000∧r=Xh [.sl a es.length cap 8 (Zi es.toArray),.i .i64 0])):=by
 refine Qi Tryz.func12 rfl (by kernel_rfl) ?_;simp only[Tryz.ntmps12,Qt];(repeat refine Qc ?_);(refine Qa fun k hk=>?_;simp only[id,seval,Qb,qb52];refine hk _ ?_;clear hk k;try show Sat _ _ _ _ _);(repeat refine Qc ?_);(refine Qa fun k hk=>?_;simp only[id,seval,Qb,qb52]);refine Qd (exCheckC F ad cap xs hl hin) rfl (by rintro _ rfl;exact Qh rfl) ?_;rintro _ rfl;simp only[id,seval,Qb,qb52];(refine hk _ ?_;clear hk k;try show Sat _ _ _ _ _);(repeat refine Qc ?_);(refine Qa fun k hk=>?_;simp only[id,seval,Qb,qb52];refine hk _ ?_;clear hk k;try show Sat _ _ _ _ _);(repeat refine Qc ?_);refine Qe rfl (fun h=>?_) (fun h=>?_)
 ·have hb:xs.any (fun x=>!QH x)=true:=by
   cases hx:xs.any (fun x=>!QH x) with
   | true=>rfl
   | false=>rw[hx] at h;cases h
  rw[hb];(repeat refine Qc ?_);(refine Qa fun k hk=>?_;simp only[id,seval,Qb,qb52];refine hk _ ?_;clear hk k;try show Sat _ _ _ _ _);refine Sat.ret ?_;simp only[Tryz.results12,id,seval,Int.reduceToNat,Qb,qb53];exact .inl ⟨_,rfl⟩
 have hb:xs.any (fun x=>!QH x)=false:=by
  cases hx:xs.any (fun x=>!QH x) with
  | false=>rfl
  | true=>rw[hx] at h;cases h
 refine Sat.skip ?_;simp only[Qf];(repeat refine Qc ?_);have hT:mqT Tryz.prog 87=some (false,[.u32,.u32],29):=by kernel_rfl
 (refine Qa fun k hk=>?_;simp only[id,seval,Qb,qb52]);refine makeMq hT (show 24<116 by decide) fun mb=>?_;simp only[id,seval,Qb,qb52];(refine hk _ ?_;clear hk k;try show Sat _ _ _ _ _);(repeat refine Qc ?_);(refine Qa fun k hk=>?_;simp only[id,seval,Qb,qb52]);refine Q2 (flowsC F ad cap xs hl hin) rfl rfl ?_;rintro _ ⟨ga,gc,gs,hfl,hgl,hgr,rfl⟩;simp only[id,seval,Qb,qb52];(refine hk _ ?_;clear hk k;try show Sat _ _ _ _ _);(repeat refine Qc ?_);refine Sat.block ?_;refine Qo (ι:=Nat×List Exc) (fun z=>⟨116,[(28,.i .i64 z.1),(27,.i .i64 gs.length),(26,.sl ga gs.length gc 1 (fgS gs)),(5,.mp 0 mb)],[.mq mb false [.u32,.u32] z.2.length (exKey z.2) (exVal z.2)]⟩)
  (fun z=>z.1≤gs.length∧BestI Exc.pr excB (fun x=>∃ g∈gs.take z.1,∃ a∈g.rs,∃ b∈g.rs,ExcR a b∧x=XF a b) z.2) (fun z=>gs.length - z.1) (0,[])
  ⟨Nat.zero_le _,BestI.start.congr fun x=>⟨fun h=>h.elim,fun⟨g,hg,_⟩=>(by cases hg)⟩⟩ (by simp only[id,seval,Qb,qb54];try exact fun i hi=>absurd hi (Nat.not_lt_zero _)) ?_
 rintro⟨i,X⟩ ⟨hi,hB⟩;simp only at hi hB ⊢;(repeat refine Qc ?_);(refine Qa fun k hk=>?_;simp only[id,seval,Qb,qb52];refine hk _ ?_;clear hk k;try show Sat _ _ _ _ _);(repeat refine Qc ?_);refine Qe rfl (fun h=>?_) (fun h=>?_)
 ·have h1:i<gs.length:=by simp only[decide_eq_true_eq] at h;omega
  have e1:IntKind.i64.wrap ((i:Int)+1)=((i+1:Nat):Int):=by rw[w64 (by omega)];omega
  obtain⟨g,hg⟩:∃ g,g=gs.getD i default:=⟨_,rfl⟩;have hgi:gs[i]=g:=by rw[hg,List.getD_eq_getElem?_getD,List.getElem?_eq_getElem h1];rfl
  have hgm:g∈gs:=by rw[← hgi];exact List.getElem_mem h1
  have hgl2:=hgr g hgm;have q0:fgS gs i 0=.sl g.a g.rs.length g.cap 17 (Qk g.rs.toArray):=by rw[hg];rfl
  have htk:gs.take (i+1)=gs.take i ++ [g]:=by rw[List.take_succ_eq_append_getElem h1,hgi]
  refine Sat.skip ?_;simp only[Qf];(repeat refine Qc ?_);refine Sat.block ?_;(repeat refine Qc ?_);(refine Qa fun k hk=>?_;simp only[id,seval,Qb,qb52]);simp only[q0];refine⟨by omega,?_⟩;(refine hk _ ?_;clear hk k;try show Sat _ _ _ _ _);(repeat refine Qc ?_);(refine Qa fun k hk=>?_;simp only[id,seval,Qb,qb52];refine hk _ ?_;clear hk k;try show Sat _ _ _ _ _);(repeat refine Qc ?_);refine Sat.block ?_;refine Qo (ι:=Nat×List Exc) (fun z=>⟨116,[(34,.i .i64 z.1),(33,.i .i64 g.rs.length),(32,.sl g.a g.rs.length g.cap 17 (Qk g.rs.toArray)),(7,.sl g.a g.rs.length g.cap 17 (Qk g.rs.toArray)),(28,.i .i64 i),(27,.i .i64 gs.length),(26,.sl ga gs.length gc 1 (fgS gs)),(5,.mp 0 mb)],[.mq mb false [.u32,.u32] z.2.length (exKey z.2) (exVal z.2)]⟩)
   (fun z=>z.1≤g.rs.length∧BestI Exc.pr excB (fun x=>(∃ g∈gs.take i,∃ a∈g.rs,∃ b∈g.rs,ExcR a b∧x=XF a b)∨∃ a∈g.rs.take z.1,∃ b∈g.rs,ExcR a b∧x=XF a b) z.2) (fun z=>g.rs.length - z.1) (0,X)
   ⟨Nat.zero_le _,hB.congr fun x=>⟨.inl,fun h=>h.elim id fun⟨a,ha,_⟩=>(by cases ha)⟩⟩ (by simp only[id,seval,Qb,qb54];try exact fun i hi=>⟨rfl,rfl⟩) ?_
  clear hB;rintro⟨j,X⟩ ⟨hj,hB⟩;simp only at hj hB ⊢;(repeat refine Qc ?_);(refine Qa fun k hk=>?_;simp only[id,seval,Qb,qb52];refine hk _ ?_;clear hk k;try show Sat _ _ _ _ _);(repeat refine Qc ?_);refine Qe rfl (fun h=>?_) (fun h=>?_)
  ·have h2:j<g.rs.length:=by simp only[decide_eq_true_eq] at h;omega
   have e2:IntKind.i64.wrap ((j:Int)+1)=((j+1:Nat):Int):=by rw[w64 (by omega)];omega
   obtain⟨a,ha⟩:∃ a,a=g.rs.toArray[j]! := ⟨_,rfl⟩;have haj:g.rs[j]=a:=by rw[ha,getB h2]
   have htk2:g.rs.take (j+1)=g.rs.take j ++ [a]:=by rw[List.take_succ_eq_append_getElem h2,haj]
   refine Sat.skip ?_;simp only[Qf];(repeat refine Qc ?_);refine Sat.block ?_;(repeat refine Qc ?_);(refine Qa fun k hk=>?_;simp only[id,seval,Qb,qb52]);refine⟨by omega,fun b9=>?_⟩;(refine hk _ ?_;clear hk k;try show Sat _ _ _ _ _);refine Qs [.mq mb false [.u32,.u32] X.length (exKey X) (exVal X)] 9 rfl ?_;simp only[List.length_cons,List.length_nil];(repeat refine Qc ?_);(refine Qa fun k hk=>?_;simp only[id,seval,Qb,qb52];refine hk _ ?_;clear hk k;try show Sat _ _ _ _ _);(repeat refine Qc ?_);refine Sat.block ?_;refine Qo (ι:=Nat×List Exc) (fun z=>⟨116,[(40,.i .i64 z.1),(39,.i .i64 g.rs.length),(38,.sl g.a g.rs.length g.cap 17 (Qk g.rs.toArray)),(9,.el ⟨b9,0,none⟩ 17 fun j=>(Res.cs a).getD j default),(34,.i .i64 j),(33,.i .i64 g.rs.length),(32,.sl g.a g.rs.length g.cap 17 (Qk g.rs.toArray)),(7,.sl g.a g.rs.length g.cap 17 (Qk g.rs.toArray)),(28,.i .i64 i),(27,.i .i64 gs.length),(26,.sl ga gs.length gc 1 (fgS gs)),(5,.mp 0 mb)],[.mq mb false [.u32,.u32] z.2.length (exKey z.2) (exVal z.2)]⟩)
    (fun z=>z.1≤g.rs.length∧BestI Exc.pr excB (fun x=>((∃ g∈gs.take i,∃ a∈g.rs,∃ b∈g.rs,ExcR a b∧x=XF a b)∨∃ a∈g.rs.take j,∃ b∈g.rs,ExcR a b∧x=XF a b)∨∃ b∈g.rs.take z.1,ExcR a b∧x=XF a b) z.2) (fun z=>g.rs.length - z.1) (0,X)
    ⟨Nat.zero_le _,hB.congr fun x=>⟨.inl,fun h=>h.elim id fun⟨a,ha,_⟩=>(by cases ha)⟩⟩ (by
     simp only[id,seval,Qb,qb54]
     rw[ha];rfl) ?_
   clear hB;rintro⟨k,X⟩ ⟨hk2,hB⟩;simp only at hk2 hB ⊢;(repeat refine Qc ?_);(refine Qa fun k hk=>?_;simp only[id,seval,Qb,qb52];refine hk _ ?_;clear hk k;try show Sat _ _ _ _ _);(repeat refine Qc ?_);refine Qe rfl (fun h=>?_) (fun h=>?_)
   ·have h3:k<g.rs.length:=by simp only[decide_eq_true_eq] at h;omega
    have e3:IntKind.i64.wrap ((k:Int)+1)=((k+1:Nat):Int):=by rw[w64 (by omega)];omega
    obtain⟨b,hb2⟩:∃ b,b=g.rs.toArray[k]! := ⟨_,rfl⟩;have hbk:g.rs[k]=b:=by rw[hb2,getB h3]
    have htk3:g.rs.take (k+1)=g.rs.take k ++ [b]:=by rw[List.take_succ_eq_append_getElem h3,hbk]
    refine Sat.skip ?_;simp only[Qf];(repeat refine Qc ?_);refine Sat.block ?_;(repeat refine Qc ?_);(refine Qa fun k hk=>?_;simp only[id,seval,Qb,qb52]);refine⟨by omega,fun b11=>?_⟩;(refine hk _ ?_;clear hk k;try show Sat _ _ _ _ _);refine Qs [.mq mb false [.u32,.u32] X.length (exKey X) (exVal X)] 11 rfl ?_
    refine Sat.le (st':=⟨116,[(11,.el ⟨b11,0,none⟩ 17 fun j=>(Res.cs b).getD j default),(9,.el ⟨b9,0,none⟩ 17 fun j=>(Res.cs a).getD j default),(40,.i .i64 k),(39,.i .i64 g.rs.length),(38,.sl g.a g.rs.length g.cap 17 (Qk g.rs.toArray)),(34,.i .i64 j),(33,.i .i64 g.rs.length),(32,.sl g.a g.rs.length g.cap 17 (Qk g.rs.toArray)),(7,.sl g.a g.rs.length g.cap 17 (Qk g.rs.toArray)),(28,.i .i64 i),(27,.i .i64 gs.length),(26,.sl ga gs.length gc 1 (fgS gs)),(5,.mp 0 mb)],[.mq mb false [.u32,.u32] X.length (exKey X) (exVal X)]⟩) ?_ (by
     simp only[List.length_cons,List.length_nil];simp only[id,seval,Qb,qb54]
     rw[hb2];rfl)
    simp only[Res.cs];(repeat refine Qc ?_);refine Zg (ι:=Bool) (fun q=>⟨116,[(57,.b q),(11,.el ⟨b11,0,none⟩ 17 fun j=>(Res.cs b).getD j default),(9,.el ⟨b9,0,none⟩ 17 fun j=>(Res.cs a).getD j default),(40,.i .i64 k),(39,.i .i64 g.rs.length),(38,.sl g.a g.rs.length g.cap 17 (Qk g.rs.toArray)),(34,.i .i64 j),(33,.i .i64 g.rs.length),(32,.sl g.a g.rs.length g.cap 17 (Qk g.rs.toArray)),(7,.sl g.a g.rs.length g.cap 17 (Qk g.rs.toArray)),(28,.i .i64 i),(27,.i .i64 gs.length),(26,.sl ga gs.length gc 1 (fgS gs)),(5,.mp 0 mb)],[.mq mb false [.u32,.u32] X.length (exKey X) (exVal X)]⟩) (fun q=>q=!decide (a.ttl≠b.ttl∧a.from_<b.from_)) (fun hrest=>?_) ?_
    ·(refine Qa fun k hk=>?_;simp only[id,seval,Qb,qb52]);refine⟨fun q1=>hk _ ?_,fun q1=>hk _ ?_⟩
     ·simp only[Qf]
      have e9:(!decide (a.ttl≠b.ttl∧a.from_<b.from_))=true:=by
       have:a.ttl=b.ttl:=by simpa using q1
       simp [this]
      refine (hrest _ rfl).le ?_;rw[e9];simp only[Res.cs];simp only[id,seval,Qb,qb54]
     ·simp only[Qf]
      have e9:(!decide (a.ttl≠b.ttl∧a.from_<b.from_))=decide (b.from_≤a.from_):=by
       have h7:a.ttl≠b.ttl:=by simpa using q1
       apply Bool.eq_iff_iff.2;simp only[Bool.not_eq_true',decide_eq_false_iff_not,decide_eq_true_eq,not_and];exact⟨fun h=>by have:=h h7;omega,fun h _=>by omega⟩
      refine (hrest _ rfl).le ?_;rw[e9];simp only[Res.cs];simp only[id,seval,Qb,qb54]
    rintro q rfl;simp only[Res.cs];refine Qe rfl (fun h4=>?_) (fun h4=>?_)
    ·have hno:¬ ExcR a b:=by unfold ExcR;simpa only[Bool.not_eq_true',decide_eq_false_iff_not] using h4
     refine Sat.exit ?_;simp only[Qf,Qg,reduceIte];refine Qa fun kk hk=>?_;simp only[id,seval,Qb,e3,qb52];refine hk _ ?_;simp only[Qf,Qg];refine⟨(k+1,X),⟨by simp only;omega,hB.congr fun x=>?_⟩,by simp only;omega,?_⟩
     ·simp only;rw[htk3];refine or_congr Iff.rfl ⟨fun⟨b',h8,h9⟩=>⟨b',List.mem_append.2 (.inl h8),h9⟩,fun⟨b',h8,h9⟩=>?_⟩;rcases List.mem_append.1 h8 with h8|h8
      ·exact⟨b',h8,h9⟩
      ·rw[List.mem_singleton] at h8;subst h8;exact absurd h9.1 hno
     ·simp only[id,seval,Qb,qb54]
      trace_state
      try exact fun i hi=>⟨rfl,rfl⟩
    have hyes:ExcR a b:=by unfold ExcR;simpa only[Bool.not_eq_false',decide_eq_true_eq] using h4
    refine Sat.skip ?_;simp only[Qf];(repeat refine Qc ?_);(refine Qa fun k hk=>?_;simp only[id,seval,Qb,qb52]);intro b12;(refine hk _ ?_;clear hk k;try show Sat _ _ _ _ _);refine Qs [.mq mb false [.u32,.u32] X.length (exKey X) (exVal X)] 12 rfl ?_;simp only[List.length_cons,List.length_nil,Nat.reduceAdd]
    have hlast:∀ x,((((∃ g∈gs.take i,∃ a∈g.rs,∃ b∈g.rs,ExcR a b∧x=XF a b)∨∃ a∈g.rs.take j,∃ b∈g.rs,ExcR a b∧x=XF a b)∨∃ b∈g.rs.take k,ExcR a b∧x=XF a b)∨x=XF a b) ↔ ((∃ g∈gs.take i,∃ a∈g.rs,∃ b∈g.rs,ExcR a b∧x=XF a b)∨∃ a∈g.rs.take j,∃ b∈g.rs,ExcR a b∧x=XF a b)∨∃ b∈g.rs.take (k+1),ExcR a b∧x=XF a b:=fun x=>by
     rw[htk3,or_assoc];refine or_congr Iff.rfl ⟨fun h=>?_,fun⟨b',h8,h9⟩=>?_⟩
     ·rcases h with ⟨b',h8,h9⟩|h
      ·exact⟨b',List.mem_append.2 (.inl h8),h9⟩
      ·exact⟨b,List.mem_append.2 (.inr (List.mem_singleton.2 rfl)),hyes,h⟩
     ·rcases List.mem_append.1 h8 with h8|h8
      ·exact .inl ⟨b',h8,h9⟩
      ·rw[List.mem_singleton] at h8;subst h8;exact .inr h9.2
    obtain⟨x,hx⟩:∃ x,x=XF a b:=⟨_,rfl⟩;have hxc:Exc.cs x=[.i .u32 a.from_,.i .u32 b.from_,.i .i64 a.vantage,.i .i64 a.run,.i .i64 a.number,.i .i64 b.vantage,.i .i64 b.run,.i .i64 b.number]:=by rw[hx];rfl
    rw[← hx] at hlast;(repeat refine Qc ?_);refine QT (ι:=Nat) (fun b13=>⟨116,[(13,.op 1 b13 0),(12,.el ⟨b12,0,none⟩ 2 fun j=>[SV.i .u32 a.from_,.i .u32 b.from_].getD j default),(11,.el ⟨b11,0,none⟩ 17 fun j=>(Res.cs b).getD j default),(9,.el ⟨b9,0,none⟩ 17 fun j=>(Res.cs a).getD j default),(40,.i .i64 k),(39,.i .i64 g.rs.length),(38,.sl g.a g.rs.length g.cap 17 (Qk g.rs.toArray)),(34,.i .i64 j),(33,.i .i64 g.rs.length),(32,.sl g.a g.rs.length g.cap 17 (Qk g.rs.toArray)),(7,.sl g.a g.rs.length g.cap 17 (Qk g.rs.toArray)),(28,.i .i64 i),(27,.i .i64 gs.length),(26,.sl ga gs.length gc 1 (fgS gs)),(5,.mp 0 mb)],[.mq mb false [.u32,.u32] X.length (exKey X) (exVal X),.box b13 29 (Exc.cs x)]⟩) (fun _=>True) ?_ ?_
    ·rw[hxc];(refine Qp (.keep [0,2,1,3,4,6] [5,7,8,9] (.alt 5 (.alt 7 (.free 8 (.one 9 (.one 10 .done))) (.alt 9 (.one 7 (.one 8 (.one 10 .done))) .none)) (.alt 9 (.one 5 (.one 7 (.one 8 (.one 10 .done)))) .none))) (by kernel_rfl) (by kernel_rfl) (fun _ _ h=>h) fun k hk=>?_;simp only[WOT,List.map_cons,List.map_nil,List.getD_cons_zero,List.getD_cons_succ];simp only[id,seval,Qb,WOT,qb52])
     repeat' (first
      | (with_reducible refine And.intro ?_ ?_)
      | rfl
      | (refine Qd (identC F a) rfl (by rintro _ rfl;exact idAg_ok _) ?_;rintro r rfl;simp only[Z7,id,seval,Int.reduceToNat,Qb,qb53])
      | (refine Qd (identC F b) rfl (by rintro _ rfl;exact idAg_ok _) ?_;rintro r rfl;simp only[Z7,id,seval,Int.reduceToNat,Qb,qb53])
      | (with_reducible intro b13))
     all_goals
      refine hk _ ?_;simp only[Qf,Res.cs];refine⟨b13,trivial,?_⟩;simp only[id,seval,Qb,qb54]
    rintro b13 -;simp only[Qf];refine Qs [.mq mb false [.u32,.u32] X.length (exKey X) (exVal X)] 13 rfl ?_;rw[hxc];simp only[List.length_cons,List.length_nil,Nat.reduceAdd,Res.cs];(repeat refine Qc ?_);(refine Qa fun k hk=>?_;simp only[id,seval,Qb,qb52]);refine lookMq (l:=x.pr.keys) hT (mqIn_own (id:=0) (m:=.tmp 75) rfl rfl) rfl (by rw[hx];rfl) (excAg default) (by kernel_rfl) (fun R w j hj=>by rcases (show j=0∨j=1∨j=2∨j=3∨j=4∨j=5∨j=6∨j=7 by omega) with rfl|rfl|rfl|rfl|rfl|rfl|rfl|rfl<;>trivial) (show 77<116 by decide) (fun n hn hkn=>?_) (fun hno=>?_)
    ·obtain⟨y,hy⟩:∃ y,y=X.getD n default:=⟨_,rfl⟩;have hyv:exVal X n=.agg 8 fun j=>(Exc.cs y).getD j default:=by rw[hy];rfl
     have hXn:X[n]=y:=by rw[hy,List.getD_eq_getElem?_getD,List.getElem?_eq_getElem hn];rfl
     have hyk:y.pr=x.pr:=by
      have:exKey X n=x.pr.keys:=hkn
      unfold exKey at this;rw[← hy] at this;exact parKeys_inj this
     rw[hyv];simp only[Exc.cs,id,seval,Int.reduceToNat,Qb,qb53];intro b14;(refine hk _ ?_;clear hk k;try show Sat _ _ _ _ _);refine Qs [.mq mb false [.u32,.u32] X.length (exKey X) (exVal X)] 14 rfl ?_;simp only[List.length_cons,List.length_nil,Nat.reduceAdd];(repeat refine Qc ?_);refine Zg (ι:=Bool) (fun q=>⟨116,[(96,.b q),(13,.el ⟨b13,0,none⟩ 8 fun j=>(Exc.cs x).getD j default),(12,.el ⟨b12,0,none⟩ 2 fun j=>[SV.i .u32 a.from_,.i .u32 b.from_].getD j default),(9,.el ⟨b9,0,none⟩ 17 fun j=>(Res.cs a).getD j default),(40,.i .i64 k),(39,.i .i64 g.rs.length),(38,.sl g.a g.rs.length g.cap 17 (Qk g.rs.toArray)),(34,.i .i64 j),(33,.i .i64 g.rs.length),(32,.sl g.a g.rs.length g.cap 17 (Qk g.rs.toArray)),(7,.sl g.a g.rs.length g.cap 17 (Qk g.rs.toArray)),(28,.i .i64 i),(27,.i .i64 gs.length),(26,.sl ga gs.length gc 1 (fgS gs)),(5,.mp 0 mb)],[.mq mb false [.u32,.u32] X.length (exKey X) (exVal X)]⟩) (fun q=>q=excB x y) (fun hrest=>?_) ?_
     ·(refine Qp (.keep [0,1,2,3,5,8,10,4,6,9,11] [7] (.one 7 (.one 12 (.one 13 (.one 14 (.one 15 (.one 16 .done))))))) (by kernel_rfl) (by kernel_rfl) (fun _ _ h=>h) fun k hk=>?_;simp only[WOT,List.map_cons,List.map_nil,List.getD_cons_zero,List.getD_cons_succ];simp only[id,seval,Qb,WOT,qb52]);refine Qd (QW (args:=[.agg 3 fun j=>(Exc.cs (XF a b)).getD (5+j) default,.agg 3 fun j=>(Exc.cs y).getD (5+j) default]) (Xg F b.idn y.s) ⟨sim_idn rfl rfl rfl,sim_idn rfl rfl rfl,trivial⟩) rfl (by rintro _ rfl;exact Qh rfl) ?_;rintro r rfl;simp only[id,seval,Qb,qb52];refine Qd (QW (args:=[.agg 3 fun j=>(Exc.cs (XF a b)).getD (2+j) default,.agg 3 fun j=>(Exc.cs y).getD (2+j) default]) (Xg F a.idn y.f) ⟨sim_idn rfl rfl rfl,sim_idn rfl rfl rfl,trivial⟩) rfl (by rintro _ rfl;exact Qh rfl) ?_;rintro r rfl;simp only[id,seval,Qb,qb52];intro bs;refine Qd (orC F (some ⟨bs,0,none⟩) 2 [QP b.idn y.s,QP a.idn y.f] (by simp)) (by simp only[id,seval,Qb,intsRd,qb52]) (by rintro _ rfl;exact Qh rfl) ?_;rintro r rfl;simp only[id,seval,Qb,qb52];have e9:excB x y=decide (orL [QP b.idn y.s,QP a.idn y.f]<0):=by rw[hx];rfl
      refine hk _ ((hrest _ rfl).le ?_);rw[e9,hxc];simp only[Res.cs];simp only[id,seval,Qb,qb54]
     rintro q rfl;rw[hxc];simp only[Res.cs];refine Qe rfl (fun h5=>?_) (fun h5=>?_)
     ·(repeat refine Qc ?_);refine Qa fun kk hk=>?_;simp only[id,seval,Qb,qb52];refine updMq (l:=x.pr.keys) hT rfl rfl rfl (by rw[hx];rfl) rfl trivial (fun n2 hn2 hk2=>?_) (fun hno=>absurd hkn (hno n hn))
      have hn9:n2=n:=by
       refine hB.inj hn2 hn ?_;have e9:exKey X n2=exKey X n:=hk2.trans hkn.symm;unfold exKey at e9;have:=parKeys_inj e9
       rwa [List.getD_eq_getElem?_getD,List.getElem?_eq_getElem hn2,List.getD_eq_getElem?_getD,List.getElem?_eq_getElem hn] at this
      subst hn9;simp only[id,seval,Qb,qb52];refine hk _ ?_;clear hk kk;simp only[Qf,Qg];obtain⟨X2,hX2⟩:∃ X2,X2=X.set n2 x:=⟨_,rfl⟩;have hB2:=(hB.set excB_irrefl excB_trans (y:=x) hn2 (by rw[hXn];exact hyk) (by rw[hXn];exact h5)).congr hlast;rw[← hX2] at hB2;refine Sat.leOwn (own':=[.mq mb false [.u32,.u32] X2.length (exKey X2) (exVal X2)]) ⟨⟨rfl,rfl,rfl,by rw[hX2,List.length_set],fun q hq=>?_⟩,trivial⟩ ?_
      ·unfold exKey exVal;rw[hX2];simp only[];by_cases h9:q=n2
       ·subst h9;rw[ZU hn2,if_pos rfl,← hy,hyk,excAg,hxc];exact⟨rfl,rfl⟩
       ·rw[getD_set_ne (Ne.symm h9),if_neg h9];exact⟨rfl,rfl⟩
      refine Qa fun kk hk=>?_;simp only[id,seval,Qb,e3,qb52];refine hk _ ?_;simp only[Qf,Qg];refine⟨(k+1,X2),⟨by simp only;omega,hB2⟩,by simp only;omega,?_⟩;simp only[Res.cs];simp only[id,seval,Qb,qb54];try exact fun i hi=>⟨rfl,rfl⟩
     ·refine Sat.skip ?_;simp only[Qf,Qg];obtain⟨X2,hX2⟩:∃ X2,X2=X:=⟨_,rfl⟩;have hB2:=(hB.keep (y:=x) hn (by rw[hXn];exact hyk) (by rw[hXn];exact h5)).congr hlast;rw[← hX2] at hB2 ⊢;refine Qa fun kk hk=>?_;simp only[id,seval,Qb,e3,qb52];refine hk _ ?_;simp only[Qf,Qg];refine⟨(k+1,X2),⟨by simp only;omega,hB2⟩,by simp only;omega,?_⟩;simp only[Res.cs];simp only[id,seval,Qb,qb54];try exact fun i hi=>⟨rfl,rfl⟩
    ·simp only[excAg,Exc.cs,id,seval,Int.reduceToNat,Qb,qb53];intro b14;(refine hk _ ?_;clear hk k;try show Sat _ _ _ _ _);refine Qs [.mq mb false [.u32,.u32] X.length (exKey X) (exVal X)] 14 rfl ?_;simp only[List.length_cons,List.length_nil,Nat.reduceAdd];(repeat refine Qc ?_);refine Zg (ι:=Bool) (fun q=>⟨116,[(96,.b q),(13,.el ⟨b13,0,none⟩ 8 fun j=>(Exc.cs x).getD j default),(12,.el ⟨b12,0,none⟩ 2 fun j=>[SV.i .u32 a.from_,.i .u32 b.from_].getD j default),(9,.el ⟨b9,0,none⟩ 17 fun j=>(Res.cs a).getD j default),(40,.i .i64 k),(39,.i .i64 g.rs.length),(38,.sl g.a g.rs.length g.cap 17 (Qk g.rs.toArray)),(34,.i .i64 j),(33,.i .i64 g.rs.length),(32,.sl g.a g.rs.length g.cap 17 (Qk g.rs.toArray)),(7,.sl g.a g.rs.length g.cap 17 (Qk g.rs.toArray)),(28,.i .i64 i),(27,.i .i64 gs.length),(26,.sl ga gs.length gc 1 (fgS gs)),(5,.mp 0 mb)],[.mq mb false [.u32,.u32] X.length (exKey X) (exVal X)]⟩) (fun q=>q=true) (fun hrest=>?_) ?_
     ·(refine Qp (.keep [0,1,2,3,5,8,10,4,6,9,11] [7] (.one 7 (.one 12 (.one 13 (.one 14 (.one 15 (.one 16 .done))))))) (by kernel_rfl) (by kernel_rfl) (fun _ _ h=>h) fun k hk=>?_;simp only[WOT,List.map_cons,List.map_nil,List.getD_cons_zero,List.getD_cons_succ];simp only[id,seval,Qb,WOT,qb52]);refine hk _ ((hrest _ rfl).le ?_);rw[hxc];simp only[Res.cs];simp only[id,seval,Qb,qb54]
     rintro q rfl;rw[hxc];simp only[Res.cs];refine Qe rfl (fun _=>?_) (fun h5=>absurd h5 (by decide));(repeat refine Qc ?_);refine Qa fun kk hk=>?_;simp only[id,seval,Qb,qb52];have hno2:∀ n2,n2<X.length→exKey X n2≠x.pr.keys:=hno;refine updMq (l:=x.pr.keys) hT rfl rfl rfl (by rw[hx];rfl) rfl trivial (fun n2 hn2 hk2=>absurd hk2 (hno2 n2 hn2)) (fun _=>?_);simp only[id,seval,Qb,qb52];refine hk _ ?_;clear hk kk;simp only[Qf,Qg];obtain⟨X2,hX2⟩:∃ X2,X2=X ++ [x]:=⟨_,rfl⟩
     have hB2:=(hB.new excB_irrefl (y:=x) (fun e he h9=>by
      obtain⟨q,hq,rfl⟩:=List.getElem_of_mem he;refine hno2 q hq ?_;unfold exKey;rw[List.getD_eq_getElem?_getD,List.getElem?_eq_getElem hq]
      exact congrArg Par.keys h9)).congr hlast
     rw[← hX2] at hB2;have hX2l:X2.length=X.length+1:=by rw[hX2,List.length_append];rfl
     refine Sat.leOwn (own':=[.mq mb false [.u32,.u32] X2.length (exKey X2) (exVal X2)]) ⟨⟨rfl,rfl,rfl,hX2l.symm,fun q hq=>?_⟩,trivial⟩ ?_
     ·unfold exKey exVal;rw[hX2];simp only[];by_cases h9:q=X.length
      ·subst h9;have e9:(X ++ [x]).getD X.length default=x:=by rw[List.getD_eq_getElem?_getD,List.getElem?_concat_length];rfl
       rw[e9,if_pos rfl,if_pos rfl,excAg,hxc];exact⟨rfl,rfl⟩
      ·have e9:(X ++ [x]).getD q default=X.getD q default:=by
        rw[List.getD_eq_getElem?_getD,List.getElem?_append_left (by omega),List.getD_eq_getElem?_getD]
       rw[e9,if_neg h9,if_neg h9];exact⟨rfl,rfl⟩
     refine Qa fun kk hk=>?_;simp only[id,seval,Qb,e3,qb52];refine hk _ ?_;simp only[Qf,Qg];refine⟨(k+1,X2),⟨by simp only;omega,hB2⟩,by simp only;omega,?_⟩;simp only[Res.cs];simp only[id,seval,Qb,qb54];try exact fun i hi=>⟨rfl,rfl⟩
   have h3:k=g.rs.length:=by simp only[decide_eq_false_iff_not] at h;omega
   subst h3;refine Sat.exit ?_;simp only[Qf,Qg,reduceIte];refine Qa fun kk hk=>?_;simp only[id,seval,Qb,e2,qb52];refine hk _ ?_;simp only[Qf,Qg];refine⟨(j+1,X),⟨by simp only;omega,hB.congr fun x=>?_⟩,by simp only;omega,?_⟩
   ·simp only;rw[htk2,List.take_length,or_assoc];refine or_congr Iff.rfl ⟨fun h=>?_,fun⟨a',h8,h9⟩=>?_⟩
    ·rcases h with ⟨a',h8,h9⟩|h
     ·exact⟨a',List.mem_append.2 (.inl h8),h9⟩
     ·exact⟨a,List.mem_append.2 (.inr (List.mem_singleton.2 rfl)),h⟩
    ·rcases List.mem_append.1 h8 with h8|h8
     ·exact .inl ⟨a',h8,h9⟩
     ·rw[List.mem_singleton] at h8;subst h8;exact .inr h9
   ·simp only[id,seval,Qb,qb54];try exact fun i hi=>⟨rfl,rfl⟩
  have h2:j=g.rs.length:=by simp only[decide_eq_false_iff_not] at h;omega
  subst h2;refine Sat.exit ?_;simp only[Qf,Qg,reduceIte];refine Qa fun kk hk=>?_;simp only[id,seval,Qb,e1,qb52];refine hk _ ?_;simp only[Qf,Qg];refine⟨(i+1,X),⟨by simp only;omega,hB.congr fun x=>?_⟩,by simp only;omega,?_⟩
  ·simp only;rw[htk,List.take_length];refine⟨fun h=>?_,fun⟨g',h8,h9⟩=>?_⟩
   ·rcases h with ⟨g',h8,h9⟩|h
    ·exact⟨g',List.mem_append.2 (.inl h8),h9⟩
    ·exact⟨g,List.mem_append.2 (.inr (List.mem_singleton.2 rfl)),h⟩
   ·rcases List.mem_append.1 h8 with h8|h8
    ·exact .inl ⟨g',h8,h9⟩
    ·rw[List.mem_singleton] at h8;subst h8;exact .inr h9
  ·simp only[id,seval,Qb,qb54];try exact fun i hi=>⟨rfl,rfl⟩
 have h1:i=gs.length:=by simp only[decide_eq_false_iff_not] at h;omega
 subst h1;rw[List.take_length] at hB;refine Sat.exit ?_;simp only[Qf,Qg,reduceIte]
 have hB2:BestI Exc.pr excB (ExcC xs) X:=hB.congr fun x=>by
  rw[← flows_exc hfl]
  exact⟨fun⟨g,h8,h9⟩=>⟨g.rs,List.mem_map.2 ⟨g,h8,rfl⟩,h9⟩,fun⟨g,h8,h9⟩=>by
   obtain⟨g',h7,rfl⟩:=List.mem_map.1 h8
   exact⟨g',h7,h9⟩⟩
 have hXl:=excC_len hl hB2;clear hB;refine Sat.settleMap 5 rfl rfl ?_;simp only[List.set_cons_zero];(repeat refine Qc ?_);(refine Qa fun k hk=>?_;simp only[id,seval,Qb,qb52];refine hk _ ?_;clear hk k;try show Sat _ _ _ _ _);(repeat refine Qc ?_);refine Qa fun kk hk=>?_;simp only[id,seval,Qb,qb52];refine rangeMq hT (mqIn_rm rfl) (show 104<116 by decide) fun it=>?_;simp only[id,seval,Qb,qb52];refine hk _ ?_;clear hk kk;simp only[Qf];refine Q1 16 29 8 (Zi #[]) rfl ?_;have hkv:∀ i,(parAg (X.getD i default).pr).den=Xv false [.u32,.u32] (exKey X i):=fun i=>par_den _;refine Sat.block ?_;refine Qo (ι:=List Nat×Option Addr×Nat) (fun z=>⟨116,[(104,.v (.pointer (some ⟨it,0,none⟩))),(16,.os 2 z.2.1 z.1.length z.2.2),(5,.rm mb false [.u32,.u32] X.length (exKey X) (exVal X))],[.gone,.res it (ZS it mb X.length z.1),.row z.2.1 29 z.1.length z.2.2 8 (Zi (z.1.map fun i=>X.getD i default).toArray)]⟩)
  (fun z=>z.1.Nodup∧∀ i∈z.1,i<X.length) (fun z=>X.length - z.1.length) ([],none,0) ⟨List.nodup_nil,fun i hi=>(by cases hi)⟩ (by
   simp only[List.map_nil,List.length_nil];simp only[id,seval,Qb,qb54]
   try exact own_le _) ?_
 rintro⟨seen,oa,oc⟩ ⟨hnd,hsl⟩;simp only at hnd hsl ⊢;have hsln:=seen_lenA hnd hsl;(repeat refine Qc ?_);refine Qa fun kk hk=>?_;simp only[id,seval,Qb,qb52];refine nextMq (oid:=1) rfl rfl rfl (mqIn_rm (m:=.tmp 5) rfl) (fun i=>parAg (X.getD i default).pr) (fun i _=>hkv i) (fun i R w=>par_ok _ R w) (show 105<116 by decide) (fun i hi hs=>?_) (fun ha=>?_)
 ·simp only[id,seval,Qb,qb52];refine hk _ ?_;clear hk kk
  have hnd2:(seen ++ [i]).Nodup:=by
   rw[List.nodup_append];exact⟨hnd,by simp,fun a ha b hb=>by rw[List.mem_singleton] at hb;subst hb;exact fun e=>hs (e ▸ ha)⟩
  have hsl2:∀ j∈seen ++ [i],j<X.length:=fun j hj=>by
   rcases List.mem_append.1 hj with hj|hj
   ·exact hsl j hj
   ·rw[List.mem_singleton] at hj;subst hj;exact hi
  have hlen:=seen_lenA hnd2 hsl2;rw[List.length_append,List.length_singleton] at hlen;obtain⟨y,hy⟩:∃ y,y=X.getD i default:=⟨_,rfl⟩;have hmap:(seen ++ [i]).map (fun i=>X.getD i default)=seen.map (fun i=>X.getD i default) ++ [y]:=by rw[List.map_append,hy];rfl
  simp only[Qf];(repeat refine Qc ?_);refine Sat.cond_tt rfl ?_;refine Sat.skip ?_;simp only[Qf];(repeat refine Qc ?_);refine Sat.block ?_;(repeat refine Qc ?_);refine Qa fun kk hk=>?_;simp only[id,seval,Qb,qb52];refine entryIterMq (oid:=1) (seen:=seen) rfl rfl hi (mqIn_rm (m:=.tmp 5) rfl) (fun i=>parAg (X.getD i default).pr) (hkv i) (fun R w=>par_ok _ R w) (show 107<116 by decide) ?_;have hyv:exVal X i=.agg 8 fun j=>(Exc.cs y).getD j default:=by rw[hy];rfl
  rw[hyv];simp only[parAg,Par.cs,Exc.cs,id,seval,Int.reduceToNat,Qb,qb53];intro b18;refine hk _ ?_;clear hk kk;simp only[Qf];refine Qs [.gone,.res it (ZS it mb X.length (seen ++ [i])),.row oa 29 seen.length oc 8 (Zi (seen.map fun i=>X.getD i default).toArray)] 18 rfl ?_;simp only[List.length_cons,List.length_nil,Nat.reduceAdd];refine Qa fun kk hk=>?_;simp only[id,seval,Qb,qb52];refine fun b0=>⟨⟨by unfold maxLen;omega,by omega⟩,fun a2 c2=>hk _ ?_⟩;clear hk kk;simp only[Qf,Qg];refine⟨(seen ++ [i],a2,c2),⟨hnd2,hsl2⟩,by simp only[List.length_append,List.length_singleton];omega,?_⟩;simp only[hmap,List.length_append,List.length_singleton];simp only[id,seval,Qb,qb54];have h9:=exc_app (ys:=seen.map fun i=>X.getD i default) (x:=y) rfl;rw[List.length_map] at h9;first|exact h9|exact⟨own_le _,h9⟩
 ·simp only[id,seval,Qb,qb52];refine hk _ ?_;clear hk kk;simp only[Qf];(repeat refine Qc ?_);refine Sat.cond_ff rfl ?_;refine Sat.exit ?_;simp only[Qf,Qg,reduceIte];obtain⟨L,hL⟩:∃ L,L=seen.map fun i=>X.getD i default:=⟨_,rfl⟩;have hLp:L.Perm X:=by rw[hL];exact seen_permA hnd hsl ha
  have hLl:seen.length=L.length:=by rw[hL,List.length_map]
  rw[← hL,hLl];have hLl2:L.length≤262144:=by omega
  (repeat refine Qc ?_);refine Qa fun kk hk=>?_;simp only[id,seval,Qb,qb52];refine Xl 2 (excSortC F excLt_swo excCmp1 oa oc L.length (by omega) L.toArray (by simp)) rfl rfl ?_;rintro r o1 ⟨rfl,d',hd',⟨hperm,hsort⟩,rfl⟩;simp only[excRow,id,seval,Int.reduceToNat,Qb,qb53];refine hk _ ?_;clear hk kk;simp only[Qf];obtain⟨hp2,hs2⟩:=exc_sorted hd' hperm hsort;have hes:ExcOf xs d'.toList:=hB2.sorted (hp2.trans hLp) hs2;have hdl:L.length=d'.toList.length:=by rw[Array.length_toList];exact hd'.symm
  (repeat refine Qc ?_);(refine Qa fun k hk=>?_;simp only[id,seval,Qb,qb52];refine hk _ ?_;clear hk k;try show Sat _ _ _ _ _);refine Sat.ret ?_;simp only[Tryz.results12,id,seval,Int.reduceToNat,Qb,qb53];exact .inr ⟨hb,_,_,d'.toList,hes,by omega,by rw[hdl]⟩
end

section
open Eng Go.Sort
structure Sg where
 k:Int
 ids:List Idn
 a:Option Addr
 cap:Nat
instance:Inhabited Sg:=⟨⟨0,[],none,0⟩⟩
def sKey (X:List Sg) (i:Nat):List Int:=[(X.getD i default).k]
structure SeenOk (xs:List Res) (X:List Sg):Prop where
 nodup:(X.map Sg.k).Nodup
 mem:∀ k d,(∃ g∈X,g.k=k∧d∈g.ids) ↔ ∃ r∈xs,Xu r=true∧r.from_=k∧r.idn=d
 len:∀ g∈X,g.ids.length≤xs.length
 num:X.length≤xs.length
theorem SeenOk.nil:SeenOk [] []:=⟨List.nodup_nil,fun k d=>⟨fun⟨g,hg,_⟩=>(by cases hg),fun⟨r,hr,_⟩=>(by cases hr)⟩,fun g hg=>(by cases hg),Nat.le_refl _⟩
theorem SeenOk.skip {xs:List Res} {X:List Sg} {r:Res} (h:SeenOk xs X) (hr:Xu r=false):SeenOk (xs ++ [r]) X:=by
 refine⟨h.nodup,fun k d=>(h.mem k d).trans ⟨fun⟨s,hs,h1⟩=>⟨s,List.mem_append.2 (.inl hs),h1⟩,fun⟨s,hs,h1⟩=>?_⟩,fun g hg=>?_,?_⟩
 ·rcases List.mem_append.1 hs with hs|hs
  ·exact⟨s,hs,h1⟩
  ·rw[List.mem_singleton] at hs;subst hs;rw[hr] at h1;cases h1.1
 ·have:=h.len g hg;rw[List.length_append];omega
 ·have:=h.num;rw[List.length_append];omega
theorem sKey_inj {X:List Sg} (hn:(X.map Sg.k).Nodup) {i j:Nat} (hi:i<X.length) (hj:j<X.length) (e:sKey X i=sKey X j):i=j:=by
 unfold sKey at e;rw[List.getD_eq_getElem?_getD,List.getElem?_eq_getElem hi,List.getD_eq_getElem?_getD,List.getElem?_eq_getElem hj] at e;refine (List.getElem?_inj (by simpa using hi) hn).1 ?_;rw[List.getElem?_map,List.getElem?_map,List.getElem?_eq_getElem hi,List.getElem?_eq_getElem hj]
 simpa using e
theorem SeenOk.hit {xs:List Res} {X:List Sg} {r:Res} (h:SeenOk xs X) (hr:Xu r=true) {n:Nat} (hn:n<X.length) (hk:(X[n]).k=r.from_) (g':Sg) (hg1:g'.k=r.from_) (hg2:g'.ids=(X[n]).ids ++ [r.idn]):SeenOk (xs ++ [r]) (X.set n g'):=by
 refine⟨?_,fun k d=>⟨fun⟨g,hg,h1,h2⟩=>?_,fun⟨s,hs,h1,h2,h3⟩=>?_⟩,fun g hg=>?_,?_⟩
 ·have e:(X.set n g').map Sg.k=X.map Sg.k:=by
   rw[List.map_set,hg1,← hk];apply List.ext_getElem?;intro j;rw[List.getElem?_set];split
   ·rename_i e;subst e;simp [hn]
   ·rfl
  rw[e];exact h.nodup
 ·rcases List.mem_or_eq_of_mem_set hg with hg|hg
  ·obtain⟨s,hs,h3⟩:=(h.mem k d).1 ⟨g,hg,h1,h2⟩;exact⟨s,List.mem_append.2 (.inl hs),h3⟩
  ·rw[hg,hg1] at h1;rw[hg,hg2] at h2;rcases List.mem_append.1 h2 with h2|h2
   ·obtain⟨s,hs,h3⟩:=(h.mem k d).1 ⟨X[n],List.getElem_mem hn,by rw[hk,h1],h2⟩;exact⟨s,List.mem_append.2 (.inl hs),h3⟩
   ·rw[List.mem_singleton] at h2;exact⟨r,List.mem_append.2 (.inr (List.mem_singleton.2 rfl)),hr,h1,h2.symm⟩
 ·have hgm:g'∈X.set n g':=List.mem_of_getElem? (List.getElem?_set_self hn);rcases List.mem_append.1 hs with hs|hs
  ·obtain⟨g,hg,h4,h5⟩:=(h.mem k d).2 ⟨s,hs,h1,h2,h3⟩;obtain⟨j,hj,rfl⟩:=List.getElem_of_mem hg;by_cases e:n=j
   ·subst e;exact⟨g',hgm,by rw[hg1,← hk,h4],by rw[hg2];exact List.mem_append.2 (.inl h5)⟩
   ·exact⟨X[j],List.mem_of_getElem? (i:=j) (by rw[List.getElem?_set_ne e,List.getElem?_eq_getElem hj]),h4,h5⟩
  ·rw[List.mem_singleton] at hs;subst hs;exact⟨g',hgm,by rw[hg1,h2],by rw[hg2,h3];exact List.mem_append.2 (.inr (List.mem_singleton.2 rfl))⟩
 ·rcases List.mem_or_eq_of_mem_set hg with hg|hg
  ·have:=h.len g hg;rw[List.length_append];omega
  ·have:=h.len X[n] (List.getElem_mem hn);rw[hg,hg2,List.length_append,List.length_append,List.length_singleton,List.length_singleton];omega
 ·have:=h.num;rw[List.length_set,List.length_append];omega
theorem SeenOk.miss {xs:List Res} {X:List Sg} {r:Res} (h:SeenOk xs X) (hr:Xu r=true) (hno:∀ g∈X,g.k≠r.from_) (g':Sg) (hg1:g'.k=r.from_) (hg2:g'.ids=[r.idn]):SeenOk (xs ++ [r]) (X ++ [g']):=by
 refine⟨?_,fun k d=>⟨fun⟨g,hg,h1,h2⟩=>?_,fun⟨s,hs,h1,h2,h3⟩=>?_⟩,fun g hg=>?_,?_⟩
 ·rw[List.map_append,List.nodup_append];refine⟨h.nodup,by simp,fun a ha b hb e=>?_⟩;obtain⟨x,hx,rfl⟩:=List.mem_map.1 ha;rw[List.map_singleton,List.mem_singleton] at hb;exact hno x hx (by rw[e,hb,hg1])
 ·rcases List.mem_append.1 hg with hg|hg
  ·obtain⟨s,hs,h3⟩:=(h.mem k d).1 ⟨g,hg,h1,h2⟩;exact⟨s,List.mem_append.2 (.inl hs),h3⟩
  ·rw[List.mem_singleton] at hg;rw[hg,hg1] at h1;rw[hg,hg2,List.mem_singleton] at h2;exact⟨r,List.mem_append.2 (.inr (List.mem_singleton.2 rfl)),hr,h1,h2.symm⟩
 ·rcases List.mem_append.1 hs with hs|hs
  ·obtain⟨g,hg,h4⟩:=(h.mem k d).2 ⟨s,hs,h1,h2,h3⟩;exact⟨g,List.mem_append.2 (.inl hg),h4⟩
  ·rw[List.mem_singleton] at hs;subst hs;exact⟨g',List.mem_append.2 (.inr (List.mem_singleton.2 rfl)),by rw[hg1,h2],by rw[hg2,h3];exact List.mem_singleton.2 rfl⟩
 ·rw[List.length_append,List.length_singleton];rcases List.mem_append.1 hg with hg|hg
  ·have:=h.len g hg;omega
  ·rw[List.mem_singleton] at hg;rw[hg,hg2];simp
 ·have:=h.num;rw[List.length_append,List.length_append,List.length_singleton,List.length_singleton];omega
def SortSome (X Y:List Sg) (seen:List Nat):Prop:=
 Y.length=X.length∧∀ i,i<X.length→(Y.getD i default).k=(X.getD i default).k∧(Y.getD i default).a=(X.getD i default).a∧(Y.getD i default).cap=(X.getD i default).cap∧(Y.getD i default).ids.Perm (X.getD i default).ids ∧
  (i∈seen→(Y.getD i default).ids.Pairwise fun x y=>Za y x=false)
def seenV (Y:List Sg) (k:Int):List Idn:=match Y.find? (fun g=>g.k == k) with
 | some g=>g.ids
 | none=>[]
theorem seenV_at {Y:List Sg} (hn:(Y.map Sg.k).Nodup) {i:Nat} (hi:i<Y.length):seenV Y (Y[i]).k=(Y[i]).ids:=by
 unfold seenV;cases hf:Y.find? (fun g=>g.k == (Y[i]).k) with
 | none=>
  have:=List.find?_eq_none.1 hf Y[i] (List.getElem_mem hi);simp at this
 | some g=>
  have h1:=List.mem_of_find?_eq_some hf;have h2:g.k=(Y[i]).k:=by simpa using List.find?_some hf
  obtain⟨j,hj,rfl⟩:=List.getElem_of_mem h1
  have hij:j=i:=(List.getElem?_inj (by simpa using hj) hn).1 (by
   rw[List.getElem?_map,List.getElem?_map,List.getElem?_eq_getElem hi,List.getElem?_eq_getElem hj]
   simp [h2])
  subst hij;rfl
theorem seenV_none {Y:List Sg} {k:Int} (h:∀ i,(hi:i<Y.length)→(Y[i]).k≠k):seenV Y k=[]:=by
 unfold seenV;cases hf:Y.find? (fun g=>g.k == k) with
 | none=>rfl
 | some g=>
  have h1:=List.mem_of_find?_eq_some hf;have h2:g.k=k:=by simpa using List.find?_some hf
  obtain⟨j,hj,rfl⟩:=List.getElem_of_mem h1;exact absurd h2 (h j hj)
theorem seenV_mem {xs:List Res} {X Y:List Sg} (h:SeenOk xs X) {s:List Nat} (hs:SortSome X Y s) (k:Int) (d:Idn):d∈seenV Y k ↔ ∃ r∈xs,Xu r=true∧r.from_=k∧r.idn=d:=by
 have hk:Y.map Sg.k=X.map Sg.k:=by
  apply List.ext_getElem
  ·simp [hs.1]
  ·intro i h1 h2;rw[List.length_map] at h1 h2;have:=(hs.2 i h2).1;rw[List.getD_eq_getElem?_getD,List.getElem?_eq_getElem h1,List.getD_eq_getElem?_getD,List.getElem?_eq_getElem h2] at this
   simpa using this
 have hn:(Y.map Sg.k).Nodup:=by rw[hk];exact h.nodup
 have hp:∀ i,(h1:i<Y.length)→(h2:i<X.length)→(Y[i]).k=(X[i]).k∧(Y[i]).ids.Perm (X[i]).ids:=fun i h1 h2=>by
  obtain⟨a1,_,_,a2,_⟩:=hs.2 i h2;rw[List.getD_eq_getElem?_getD,List.getElem?_eq_getElem h1,List.getD_eq_getElem?_getD,List.getElem?_eq_getElem h2] at a1 a2;exact⟨a1,a2⟩
 rw[← h.mem k d];constructor
 ·intro hd;by_cases hex:∃ i,∃ hi:i<Y.length,(Y[i]).k=k
  ·obtain⟨i,hi,rfl⟩:=hex;rw[seenV_at hn hi] at hd;have hiX:i<X.length:=by have:=hs.1;omega
   obtain⟨b1,b2⟩:=hp i hi hiX;exact⟨X[i],List.getElem_mem hiX,b1.symm,b2.mem_iff.1 hd⟩
  ·rw[seenV_none fun i hi e=>hex ⟨i,hi,e⟩] at hd;cases hd
 ·rintro⟨g,hg,rfl,hd⟩;obtain⟨i,hi,rfl⟩:=List.getElem_of_mem hg;have hiY:i<Y.length:=by have:=hs.1;omega
  obtain⟨b1,b2⟩:=hp i hiY hi;rw[← b1,seenV_at hn hiY];exact b2.mem_iff.2 hd
def MatC (xs:List Res) (e:Evd):Prop:=∃ p,IsPart xs p∧∃ a∈p,∃ b∈p,folR a b=true∧∃ c∈xs,Xu c=true∧c.from_∈msV b.from_∧c.from_≠a.from_∧MatE a.idn b.idn c.idn a.from_ c.from_ e
structure MatOf (xs:List Res) (es:List Evd):Prop where
 best:BestOf Evd.pr evB (MatC xs) es
 len:∀ e∈es,e.ids.length≤3
theorem togR_iff {a b:Res}:togR a b=true ↔ a.ttl≠b.ttl∧a.flow=b.flow∧a.tre=b.tre∧Xu a=true∧Xu b=true:=by
 unfold togR;simp only[Bool.and_eq_true,bne_iff_ne,ne_eq,beq_iff_eq,decide_eq_true_eq]
theorem folR_iff {a b:Res}:folR a b=true ↔ togR a b=true∧b.ttl=a.ttl+1∧a.from_≠b.from_:=by
 unfold folR;simp only[Bool.and_eq_true,bne_iff_ne,ne_eq,beq_iff_eq]
theorem flows_mat {xs:List Res} {gs:List (List Res)} (h:FlowsOf xs gs) {V:Int→List Idn} (hV:∀ k d,d∈V k ↔ ∃ r∈xs,Xu r=true∧r.from_=k∧r.idn=d) (e:Evd) :
  (∃ g∈gs,∃ a∈g,∃ b∈g,folR a b=true∧∃ m∈msV b.from_,m≠a.from_∧∃ d∈V m,MatE a.idn b.idn d a.from_ m e) ↔ MatC xs e:=by
 constructor
 ·rintro⟨g,hg,a,ha,b,hb,h1,m,hm,hma,d,hd,h2⟩;obtain⟨p,hp,fl,h3⟩:=h.snd g hg;obtain⟨c,hc,wc,rfl,rfl⟩:=(hV _ _).1 hd;exact⟨p,hp,a,(h3 a ha).1,b,(h3 b hb).1,h1,c,hc,wc,hm,hma,h2⟩
 ·rintro⟨p,hp,a,ha,b,hb,h1,c,hc,wc,hm,hma,h2⟩;obtain⟨_,hf,_,wa,wb⟩:=togR_iff.1 (folR_iff.1 h1).1;obtain⟨g,hg,g1,g2⟩:=h.cmp p hp a ha b hb wa wb hf;exact⟨g,hg,a,g1,b,g2,h1,c.from_,hm,hma,c.idn,(hV _ _).2 ⟨c,hc,wc,rfl,rfl⟩,h2⟩
theorem matC_len {xs:List Res} {X:List Evd} (hl:xs.length≤512) (h:BestI Evd.pr evB (MatC xs) X):X.length≤262144:=by
 have h1:=best_len (la:=xs.map Res.from_) (lb:=xs.map Res.from_) h (fun x hx=>by
  obtain⟨p,hp,a,ha,b,hb,_,c,hc,_,_,_,he⟩:=hx;have h1:a.from_∈xs.map Res.from_:=List.mem_map.2 ⟨a,(hp.sub a ha).1,rfl⟩;have h2:c.from_∈xs.map Res.from_:=List.mem_map.2 ⟨c,hc,rfl⟩;rw[he.pr];refine⟨?_,?_⟩
  ·rcases Int.le_total a.from_ c.from_ with h3|h3
   ·simp only[Int.min_eq_left h3];exact h1
   ·simp only[Int.min_eq_right h3];exact h2
  ·rcases Int.le_total a.from_ c.from_ with h3|h3
   ·simp only[Int.max_eq_right h3];exact h2
   ·simp only[Int.max_eq_left h3];exact h1)
 rw[List.length_map] at h1;exact Nat.le_trans h1 (Nat.le_trans (Nat.mul_le_mul hl hl) (by decide))
end

section
open Go.Sort Eng
def qb55:=And.intro @evr (And.intro @Qm (And.intro @Qv (And.intro @Qu (And.intro @Zm (And.intro @Zl (And.intro @Zk (And.intro @Qq (And.intro @Qj (@evn)))))))))
def qb57:=And.intro @evr (And.intro @Qm (And.intro @Qv (And.intro @Qu (And.intro @Zm (And.intro @Zl (And.intro @Zk (And.intro @List.append_nil.{0} (And.intro @Int.toNat_zero (And.intro @Nat.sub_self (And.intro @Qq (@Qj)))))))))))
def qb56:=And.intro @evr (And.intro @Qm (And.intro @Qv (And.intro @Qu (And.intro @Zm (And.intro @Zl (And.intro @Zk (And.intro @Qq (And.intro @Qj (And.intro @evl (@evn))))))))))
set_option maxHeartbeats 1000000 in
set_option maxRecDepth 100000 in
theorem ZF (F:Frm) (x y:Idn):Contract F Tryz.prog 72 [idnAg x,idnAg y] (fun r=>r=.i .i64 (QP x y)):=by
 refine Qi Tryz.func72 rfl (by kernel_rfl) ?_;simp only[Tryz.ntmps72,Qt,idnAg,Idn.cs];(repeat refine Qc ?_);(refine Qa fun k hk=>?_;simp only[id,seval,Qb,qb55]);intro b2 b3;(refine hk _ ?_;clear hk k;try show Sat _ _ _ _ _);(repeat refine Qc ?_);(refine Qa fun k hk=>?_;simp only[id,seval,Qb,qb55]);(refine hk _ ?_;clear hk k;try show Sat _ _ _ _ _);(repeat refine Qc ?_);refine Sat.block ?_;obtain⟨L,hL⟩:∃ L,L=[SV.i .i64 x.van,.i .i64 y.van,.i .i64 x.run,.i .i64 y.run,.i .i64 x.num,.i .i64 y.num]:=⟨_,rfl⟩;refine Qo (ι:=Nat) (fun i=>⟨37,[(23,.i .i64 i),(22,.agg 6 fun j=>L.getD j default)],[]⟩)
  (fun i=>i≤3∧orL ([Zq x.van y.van,Zq x.run y.run,Zq x.num y.num].drop i)=QP x y) (fun i=>3 - i) 0 ⟨by omega,rfl⟩ (by subst hL;simp only[id,seval,Qb,qb56];try rfl) ?_
 rintro i ⟨hi,hq⟩;(repeat refine Qc ?_);(refine Qa fun k hk=>?_;simp only[id,seval,Qb,qb55];refine hk _ ?_;clear hk k;try show Sat _ _ _ _ _);(repeat refine Qc ?_);refine Qe rfl (fun h=>?_) (fun h=>?_)
 ·have h1:i<3:=by simp only[decide_eq_true_eq] at h;omega
  have e1:IntKind.i64.wrap ((i:Int)+1)=((i+1:Nat):Int):=by rw[w64 (by omega)];omega
  obtain⟨p,q,hp0,hp1,hst⟩:∃ p q,L.getD (i * 2) default=.i .i64 p∧L.getD (i * 2+1) default=.i .i64 q ∧
    orL ([Zq x.van y.van,Zq x.run y.run,Zq x.num y.num].drop i)=if Zq p q≠0 then Zq p q else orL ([Zq x.van y.van,Zq x.run y.run,Zq x.num y.num].drop (i+1)):=by
   subst hL;rcases (show i=0∨i=1∨i=2 by omega) with rfl|rfl|rfl<;>exact⟨_,_,rfl,rfl,rfl⟩
  clear hL;rw[hq] at hst;refine Sat.skip ?_;simp only[Qf];(repeat refine Qc ?_);refine Sat.block ?_;(repeat refine Qc ?_);(refine Qa fun k hk=>?_;simp only[id,seval,Qb,qb55]);refine⟨by omega,by omega,fun blk=>?_⟩;simp only[hp0,hp1,id,seval,Int.reduceToNat,Qb,qb57];(refine hk _ ?_;clear hk k;try show Sat _ _ _ _ _);(repeat refine Qc ?_);(refine Qa fun k hk=>?_;simp only[id,seval,Qb,qb55]);(refine hk _ ?_;clear hk k;try show Sat _ _ _ _ _);refine Qe rfl (fun h2=>?_) (fun h2=>?_)
  ·have h3:p<q:=by simpa using h2
   have h4:Zq p q=-1:=by unfold Zq;rw[if_pos h3]
   rw[h4,if_pos (by decide)] at hst;(repeat refine Qc ?_);(refine Qa fun k hk=>?_;simp only[id,seval,Qb,qb55];refine hk _ ?_;clear hk k;try show Sat _ _ _ _ _);refine Sat.ret ?_;simp only[Qg,Tryz.results72,id,seval,Int.reduceToNat,Qb,qb57];rw[hst]
  have h3:¬ p<q:=by simpa using h2
  refine Sat.skip ?_;simp only[Qf];(repeat refine Qc ?_);(refine Qa fun k hk=>?_;simp only[id,seval,Qb,qb55]);(refine hk _ ?_;clear hk k;try show Sat _ _ _ _ _);refine Qe rfl (fun h4=>?_) (fun h4=>?_)
  ·have h5:q<p:=by simpa using h4
   have h6:Zq p q=1:=by unfold Zq;rw[if_neg h3,if_pos h5]
   rw[h6,if_pos (by decide)] at hst;(repeat refine Qc ?_);(refine Qa fun k hk=>?_;simp only[id,seval,Qb,qb55];refine hk _ ?_;clear hk k;try show Sat _ _ _ _ _);refine Sat.ret ?_;simp only[Qg,Tryz.results72,id,seval,Int.reduceToNat,Qb,qb57];rw[hst]
  have h5:¬ q<p:=by simpa using h4
  have h6:Zq p q=0:=by unfold Zq;rw[if_neg h3,if_neg h5]
  rw[h6,if_neg (by decide)] at hst;refine Sat.skip ?_;simp only[Qf,Qg,reduceIte];refine Qa fun k hk=>?_;simp only[id,seval,Qb,e1,qb55];refine hk _ ?_;simp only[Qf,Qg];refine⟨i+1,⟨by omega,hst.symm⟩,by omega,?_⟩;simp only[id,seval,Qb,qb56]
 have h1:i=3:=by simp only[decide_eq_false_iff_not] at h;omega
 subst h1;refine Sat.exit ?_;simp only[Qf,Qg,reduceIte];(repeat refine Qc ?_);(refine Qa fun k hk=>?_;simp only[id,seval,Qb,qb55];refine hk _ ?_;clear hk k;try show Sat _ _ _ _ _);refine Sat.ret ?_;simp only[Tryz.results72,id,seval,Int.reduceToNat,Qb,qb57];rw[← hq];rfl
set_option maxHeartbeats 1000000 in
set_option maxRecDepth 100000 in
theorem refCompareEvC (F:Frm) (e f:Evd) (he:e.ids.length≤1000000000) (hf:f.ids.length≤1000000000) (wa:IntKind.i64.wrap e.a=e.a) (wb:IntKind.i64.wrap e.b=e.b) (wc:IntKind.i64.wrap f.a=f.a) (wd:IntKind.i64.wrap f.b=f.b) :
  Contract F Tryz.prog 67 [evAg e,evAg f] (fun r=>r=.i .i64 (evCmp e f)):=by
 refine Qi Tryz.func67 rfl (by kernel_rfl) ?_;simp only[Tryz.ntmps67,Qt,evAg,Evd.cs];(repeat refine Qc ?_);(refine Qa fun k hk=>?_;simp only[id,seval,Qb,qb55]);intro b2 b3;(refine hk _ ?_;clear hk k;try show Sat _ _ _ _ _);(repeat refine Qc ?_);(refine Qa fun k hk=>?_;simp only[id,seval,Qb,qb55]);simp only[wa,wb,wc,wd];(refine hk _ ?_;clear hk k;try show Sat _ _ _ _ _);(repeat refine Qc ?_);refine Sat.block ?_;obtain⟨L,hL⟩:∃ L,L=[SV.i .i64 e.kind,.i .i64 f.kind,.i .i64 e.a,.i .i64 f.a,.i .i64 e.b,.i .i64 f.b]:=⟨_,rfl⟩;have hev:evCmp e f=orL [Zq e.kind f.kind,Zq e.a f.a,Zq e.b f.b,Q4 e.ids f.ids]:=rfl;refine Qo (ι:=Nat) (fun i=>⟨87,[(29,.i .i64 i),(28,.agg 6 fun j=>L.getD j default),(2,.op 0 b2 0),(3,.op 1 b3 0)],[.box b2 32 (Evd.cs e),.box b3 32 (Evd.cs f)]⟩)
  (fun i=>i≤3∧orL ([Zq e.kind f.kind,Zq e.a f.a,Zq e.b f.b,Q4 e.ids f.ids].drop i)=evCmp e f) (fun i=>3 - i) 0 ⟨by omega,rfl⟩ (by subst hL;simp only[Evd.cs];simp only[id,seval,Qb,qb56];try rfl) ?_
 rintro i ⟨hi,hq⟩;simp only[Evd.cs];(repeat refine Qc ?_);(refine Qa fun k hk=>?_;simp only[id,seval,Qb,qb55];refine hk _ ?_;clear hk k;try show Sat _ _ _ _ _);(repeat refine Qc ?_);refine Qe rfl (fun h=>?_) (fun h=>?_)
 ·have h1:i<3:=by simp only[decide_eq_true_eq] at h;omega
  have e1:IntKind.i64.wrap ((i:Int)+1)=((i+1:Nat):Int):=by rw[w64 (by omega)];omega
  obtain⟨p,q,hp0,hp1,hst⟩:∃ p q,L.getD (i * 2) default=.i .i64 p∧L.getD (i * 2+1) default=.i .i64 q ∧
    orL ([Zq e.kind f.kind,Zq e.a f.a,Zq e.b f.b,Q4 e.ids f.ids].drop i)=if Zq p q≠0 then Zq p q else orL ([Zq e.kind f.kind,Zq e.a f.a,Zq e.b f.b,Q4 e.ids f.ids].drop (i+1)):=by
   subst hL;rcases (show i=0∨i=1∨i=2 by omega) with rfl|rfl|rfl<;>exact⟨_,_,rfl,rfl,rfl⟩
  clear hL;rw[hq] at hst;refine Sat.skip ?_;simp only[Qf];(repeat refine Qc ?_);refine Sat.block ?_;(repeat refine Qc ?_);(refine Qa fun k hk=>?_;simp only[id,seval,Qb,qb55]);refine⟨by omega,by omega,fun blk=>?_⟩;simp only[hp0,hp1,id,seval,Int.reduceToNat,Qb,qb57];(refine hk _ ?_;clear hk k;try show Sat _ _ _ _ _);(repeat refine Qc ?_);(refine Qa fun k hk=>?_;simp only[id,seval,Qb,qb55]);(refine hk _ ?_;clear hk k;try show Sat _ _ _ _ _);refine Qe rfl (fun h2=>?_) (fun h2=>?_)
  ·have h3:p<q:=by simpa using h2
   have h4:Zq p q=-1:=by unfold Zq;rw[if_pos h3]
   rw[h4,if_pos (by decide)] at hst;(repeat refine Qc ?_);(refine Qa fun k hk=>?_;simp only[id,seval,Qb,qb55];refine hk _ ?_;clear hk k;try show Sat _ _ _ _ _);refine Sat.ret ?_;simp only[Qg,Tryz.results67,id,seval,Int.reduceToNat,Qb,qb57];rw[hst]
  have h3:¬ p<q:=by simpa using h2
  refine Sat.skip ?_;simp only[Qf];(repeat refine Qc ?_);(refine Qa fun k hk=>?_;simp only[id,seval,Qb,qb55]);(refine hk _ ?_;clear hk k;try show Sat _ _ _ _ _);refine Qe rfl (fun h4=>?_) (fun h4=>?_)
  ·have h5:q<p:=by simpa using h4
   have h6:Zq p q=1:=by unfold Zq;rw[if_neg h3,if_pos h5]
   rw[h6,if_pos (by decide)] at hst;(repeat refine Qc ?_);(refine Qa fun k hk=>?_;simp only[id,seval,Qb,qb55];refine hk _ ?_;clear hk k;try show Sat _ _ _ _ _);refine Sat.ret ?_;simp only[Qg,Tryz.results67,id,seval,Int.reduceToNat,Qb,qb57];rw[hst]
  have h5:¬ q<p:=by simpa using h4
  have h6:Zq p q=0:=by unfold Zq;rw[if_neg h3,if_neg h5]
  rw[h6,if_neg (by decide)] at hst;refine Sat.skip ?_;simp only[Qf,Qg,reduceIte];refine Qa fun k hk=>?_;simp only[id,seval,Qb,e1,qb55];refine hk _ ?_;simp only[Qf,Qg];refine⟨i+1,⟨by omega,hst.symm⟩,by omega,?_⟩;try simp only[Evd.cs]
  simp only[id,seval,Qb,qb56]
 have h1:i=3:=by simp only[decide_eq_false_iff_not] at h;omega
 subst h1
 have hq2:Q4 e.ids f.ids=evCmp e f:=by
  rw[← hq];show _=orL [Q4 e.ids f.ids];unfold orL orL;split<;>omega
 clear hq hL;refine Sat.exit ?_;simp only[Qf,Qg,reduceIte];(repeat refine Qc ?_);(refine Qa fun k hk=>?_;simp only[id,seval,Qb,qb55];refine hk _ ?_;clear hk k;try show Sat _ _ _ _ _);(repeat refine Qc ?_);refine Sat.block ?_;refine Qo (ι:=Nat) (fun i=>⟨87,[(7,.i .i64 i),(2,.op 0 b2 0),(3,.op 1 b3 0)],[.box b2 32 (Evd.cs e),.box b3 32 (Evd.cs f)]⟩)
  (fun i=>i≤e.ids.length∧i≤f.ids.length∧Q4 (e.ids.drop i) (f.ids.drop i)=evCmp e f) (fun i=>e.ids.length - i) 0 ⟨Nat.zero_le _,Nat.zero_le _,hq2⟩ (by (try simp only[Evd.cs]);simp only[id,seval,Qb,qb56];try rfl) ?_
 rintro i ⟨hi1,hi2,hc⟩;simp only[Evd.cs];(repeat refine Qc ?_);refine Sat.at ⟨87,[(54,.b (decide (i<e.ids.length∧i<f.ids.length))),(7,.i .i64 i),(2,.op 0 b2 0),(3,.op 1 b3 0)],[.box b2 32 (Evd.cs e),.box b3 32 (Evd.cs f)]⟩ ?_ ?_
 ·(refine Qa fun k hk=>?_;simp only[id,seval,Qb,qb55]);refine⟨fun g1=>?_,fun g1=>?_⟩
  ·refine hk _ ?_;simp only[Qf,Evd.cs];have e5:decide (i<e.ids.length∧i<f.ids.length)=decide ((i:Int)<(f.ids.length:Int)):=Bool.eq_iff_iff.2 (by simp only[decide_eq_true_eq] at g1 ⊢;omega);rw[e5];simp only[id,seval,Qb,qb56]
  ·refine hk _ ?_;simp only[Qf,Evd.cs];have e5:decide (i<e.ids.length∧i<f.ids.length)=false:=decide_eq_false (by omega);rw[e5];simp only[id,seval,Qb,qb56]
 simp only[Qf,Evd.cs];(repeat refine Qc ?_);refine Qe rfl (fun h=>?_) (fun h=>?_)
 ·obtain⟨h1,h2⟩:=of_decide_eq_true h;have e1:IntKind.i64.wrap ((i:Int)+1)=((i+1:Nat):Int):=by rw[w64 (by omega)];omega
  have hst:=cmpIds_step h1 h2;rw[hc] at hst;refine Sat.skip ?_;simp only[Qf];(repeat refine Qc ?_);refine Sat.block ?_;(repeat refine Qc ?_);(refine Qr (by kernel_rfl) (by kernel_rfl) fun k hk=>?_;simp only[id,seval,Qb,qb55]);refine⟨by omega,by omega,?_⟩;refine ZV (ZF Frm.nil e.ids.toArray[i]! f.ids.toArray[i]!) rfl (Qh rfl) ?_;rw[idnGet h1,idnGet h2];simp only[id,seval,Qb,qb55];refine hk _ ?_;simp only[Qf];(repeat refine Qc ?_);(refine Qa fun k hk=>?_;simp only[id,seval,Qb,qb55];refine hk _ ?_;clear hk k;try show Sat _ _ _ _ _);(repeat refine Qc ?_);refine Qe rfl (fun h4=>?_) (fun h4=>?_)
  ·have hne:QP e.ids[i] f.ids[i]≠0:=by simpa using h4
   rw[if_pos hne] at hst;(repeat refine Qc ?_);(refine Qa fun k hk=>?_;simp only[id,seval,Qb,qb55];refine hk _ ?_;clear hk k;try show Sat _ _ _ _ _);refine Sat.ret ?_;simp only[Qg,Tryz.results67,id,seval,Int.reduceToNat,Qb,qb57];rw[hst]
  have hz:QP e.ids[i] f.ids[i]=0:=by simpa using h4
  rw[if_neg (by simpa using hz)] at hst;refine Sat.skip ?_;simp only[Qf,Qg,reduceIte];refine Qa fun k hk=>?_;simp only[id,seval,Qb,e1,qb55];refine hk _ ?_;simp only[Qf,Qg];refine⟨i+1,⟨h1,h2,hst.symm⟩,by omega,?_⟩;try simp only[Evd.cs]
  simp only[id,seval,Qb,qb56]
 have h9:¬ (i<e.ids.length∧i<f.ids.length):=of_decide_eq_false h;refine Sat.exit ?_;simp only[Qf,Qg,reduceIte];(repeat refine Qc ?_);refine Sat.block ?_;(repeat refine Qc ?_);(refine Qa fun k hk=>?_;simp only[id,seval,Qb,qb55]);(refine hk _ ?_;clear hk k;try show Sat _ _ _ _ _);(repeat refine Qc ?_);refine Qe rfl (fun h2=>?_) (fun h2=>?_)
 ·have h3:e.ids.length<f.ids.length:=by simpa using h2
  have hie:i=e.ids.length:=by omega
  subst hie;(repeat refine Qc ?_);(refine Qa fun k hk=>?_;simp only[id,seval,Qb,qb55];refine hk _ ?_;clear hk k;try show Sat _ _ _ _ _);refine Sat.ret ?_;simp only[Qg,Tryz.results67,id,seval,Int.reduceToNat,Qb,qb57];rw[← hc,List.drop_length,List.drop_eq_getElem_cons h3,Q4]
 have h3:¬ e.ids.length<f.ids.length:=by simpa using h2
 (repeat refine Qc ?_);(refine Qa fun k hk=>?_;simp only[id,seval,Qb,qb55]);(refine hk _ ?_;clear hk k;try show Sat _ _ _ _ _);(repeat refine Qc ?_);refine Qe rfl (fun h4=>?_) (fun h4=>?_)
 ·have h5:f.ids.length<e.ids.length:=by simpa using h4
  have hie:i=f.ids.length:=by omega
  subst hie;(repeat refine Qc ?_);(refine Qa fun k hk=>?_;simp only[id,seval,Qb,qb55];refine hk _ ?_;clear hk k;try show Sat _ _ _ _ _);refine Sat.ret ?_;simp only[Qg,Tryz.results67,id,seval,Int.reduceToNat,Qb,qb57];rw[← hc,List.drop_length,List.drop_eq_getElem_cons h5,Q4]
 have h5:¬ f.ids.length<e.ids.length:=by simpa using h4
 have hie:i=e.ids.length:=by omega
 have hif:i=f.ids.length:=by omega
 refine Sat.skip ?_;simp only[Qf,Qg];(repeat refine Qc ?_);(refine Qa fun k hk=>?_;simp only[id,seval,Qb,qb55];refine hk _ ?_;clear hk k;try show Sat _ _ _ _ _);refine Sat.ret ?_;simp only[Tryz.results67,id,seval,Int.reduceToNat,Qb,qb57];rw[← hc,List.drop_eq_nil_of_le (by omega),List.drop_eq_nil_of_le (by omega),Q4]
end

section
open Go.Sort Eng
def findP (o:Option Res) (r:Res) (d:Idn):Bool:=decide (r.idn=d) && ((match o with|none=>true|some b=>decide (QL r b<0)) && QH r)
def XJ (d:Idn) (o:Option Res) (r:Res):Option Res:=if findP o r d=true then some r else o
def findV (xs:List Res) (d:Idn):Option Res:=xs.foldl (XJ d) none
theorem findP_1 {o:Option Res} {r:Res} {d:Idn} (h:(⟨r.vantage,r.run,r.number⟩:Idn)=⟨d.van,d.run,d.num⟩) (ho:(!o.isSome)=true):QH r=findP o r d:=by
  have e:r.idn=d:=h;cases o with
  | none=>unfold findP;rw[decide_eq_true e];rfl
  | some b=>cases ho
theorem findP_2 {o:Option Res} {r:Res} {d:Idn} (h:(⟨r.vantage,r.run,r.number⟩:Idn)=⟨d.van,d.run,d.num⟩) (ho:(!o.isSome)=false) (hc:QL r (o.getD default)<0):QH r=findP o r d:=by
  have e:r.idn=d:=h;cases o with
  | none=>cases ho
  | some b=>unfold findP;rw[decide_eq_true e];simp only[decide_eq_true (show QL r b<0 from hc)];rfl
theorem findP_3 {o:Option Res} {r:Res} {d:Idn} (ho:(!o.isSome)=false) (hc:¬ QL r (o.getD default)<0):false=findP o r d:=by
  cases o with
  | none=>cases ho
  | some b=>unfold findP;simp only[decide_eq_false (show ¬ QL r b<0 from hc),Bool.false_and,Bool.and_false]
theorem findP_4 {o:Option Res} {r:Res} {d:Idn} (h:¬ (⟨r.vantage,r.run,r.number⟩:Idn)=⟨d.van,d.run,d.num⟩):false=findP o r d:=by
  have e:¬ r.idn=d:=h;unfold findP;rw[decide_eq_false e];rfl
theorem findV_take (xs:List Res) (d:Idn) (i:Nat) (h:i<xs.length):findV (xs.take (i+1)) d=XJ d (findV (xs.take i) d) xs[i]:=by
  unfold findV;rw[List.take_succ_eq_append_getElem h,List.foldl_append];rfl
theorem findV_some {d:Idn}:∀ {xs:List Res} {o:Option Res} {r:Res},xs.foldl (XJ d) o=some r→(r∈xs∧QH r=true∧r.idn=d)∨o=some r
  | [],o,r,h=>.inr h
  | x :: xs,o,r,h=>by
    rcases findV_some (xs:=xs) h with ⟨h1,h2⟩|h1
    · exact .inl ⟨by simp [h1],h2⟩
    · unfold XJ at h1
      split at h1
      · rename_i hp
        cases h1
        simp only[findP,Bool.and_eq_true,decide_eq_true_eq] at hp;exact .inl ⟨by simp,hp.2.2,hp.1⟩
      · exact .inr h1
theorem findV_none {d:Idn}:∀ {xs:List Res} {o:Option Res},xs.foldl (XJ d) o=none→o=none∧∀ r∈xs,QH r=true→r.idn≠d
  | [],o,h=>⟨h,fun r hr=>by cases hr⟩
  | x :: xs,o,h=>by
    obtain⟨h1,h2⟩:=findV_none (xs:=xs) h;unfold XJ at h1;split at h1
    · cases h1
    · rename_i hp
      subst h1;refine⟨rfl,fun r hr hv he=>?_⟩;rcases List.mem_cons.1 hr with rfl|hr
      · exact hp (by simp [findP,he,hv])
      · exact h2 r hr hv he
def findS:Option Res→SV
  | some r=>Xh [Q0 r,.b true]
  | none=>Xh [Q0 default,.b false]
theorem findS_ok (o:Option Res) (R:Nat→Prop) (w:World):(findS o).ok R w:=by
  cases o <;>
  · intro j hj
    have hj2:j<2:=hj;rcases (show j=0∨j=1 by omega) with rfl|rfl
    · exact ok_aggL (l:=Res.cs _) rfl R w
    · trivial
theorem id_eqs (a b c a' b' c':Int):aggEq Tryz.prog 27 3 (fun j=>[SV.i .i64 a,.i .i64 b,.i .i64 c].getD j default) 3 (fun j=>[SV.i .i64 a',.i .i64 b',.i .i64 c'].getD j default)=some ([a == a',b == b',c == c'].all id):=by kernel_rfl
theorem id_eq (a b c a' b' c':Int):aggEq Tryz.prog 27 3 (fun j=>[SV.i .i64 a,.i .i64 b,.i .i64 c].getD j default) 3 (fun j=>[SV.i .i64 a',.i .i64 b',.i .i64 c'].getD j default)=some (decide ((⟨a,b,c⟩:Idn)=⟨a',b',c'⟩)):=by
  rw[id_eqs]
  congr 1
  apply Bool.eq_iff_iff.2;simp
def qb58:=And.intro @evr (And.intro @Qm (And.intro @Qv (And.intro @Qu (And.intro @Zm (And.intro @Zl (And.intro @Zk (And.intro @Qq (And.intro @Qj (@evn)))))))))
def qb59:=And.intro @evr (And.intro @Qm (And.intro @Qv (And.intro @Qu (And.intro @Zm (And.intro @Zl (And.intro @Zk (And.intro @Qq (And.intro @Qj (And.intro @evl (@evn))))))))))
set_option maxHeartbeats 1000000 in
set_option maxRecDepth 100000 in
theorem findC (F:Frm) (ad:Option Addr) (cap:Nat) (xs:List Res) (d:Idn) (hl:xs.length≤1000000000) :
    Contract F Tryz.prog 68 [.sl ad xs.length cap 17 (Qk xs.toArray),idnAg d] (fun r=>r=findS (findV xs d)):=by
  refine Qi Tryz.func68 rfl (by kernel_rfl) ?_;simp only[Tryz.ntmps68,Qt,idnAg,Idn.cs];(repeat refine Qc ?_);(refine Qa fun k hk=>?_;simp only[id,seval,Qb,id_eq,Z7,qb58]);intro b3 b4;(refine hk _ ?_;clear hk k;try show Sat _ _ _ _ _);(repeat refine Qc ?_);(refine Qa fun k hk=>?_;simp only[id,seval,Qb,id_eq,Z7,qb58]);intro b6;(refine hk _ ?_;clear hk k;try show Sat _ _ _ _ _);(repeat refine Qc ?_);(refine Qa fun k hk=>?_;simp only[id,seval,Qb,id_eq,Z7,qb58];refine hk _ ?_;clear hk k;try show Sat _ _ _ _ _);(repeat refine Qc ?_);(refine Qa fun k hk=>?_;simp only[id,seval,Qb,id_eq,Z7,qb58];refine hk _ ?_;clear hk k;try show Sat _ _ _ _ _);(repeat refine Qc ?_);refine Sat.block ?_
  refine Qo (ι:=Nat×Option Res) (fun z=>⟨38,[(12,.i .i64 z.1),(11,.i .i64 xs.length),(10,.sl ad xs.length cap 17 (Qk xs.toArray)),(7,.b z.2.isSome),(6,.op 2 b6 0),(4,.op 1 b4 0),(3,.op 0 b3 0)],
      [.box b3 27 [.i .i64 d.van,.i .i64 d.run,.i .i64 d.num],.box b4 62 (Res.cs default),.box b6 62 (Res.cs (z.2.getD default))]⟩)
    (fun z=>z.1≤xs.length∧z.2=findV (xs.take z.1) d) (fun z=>xs.length - z.1) (0,none) ⟨Nat.zero_le _,rfl⟩ (by
      simp only[Option.getD_none,Option.isSome_none,Res.cs];simp only[id,seval,Qb,id_eq,Z7,qb59]
      first|done|rfl|exact⟨rfl,rfl⟩|trace_state) ?_
  rintro⟨i,o⟩ ⟨hi,ho⟩;simp only[Res.cs] at hi ho ⊢;(repeat refine Qc ?_);(refine Qa fun k hk=>?_;simp only[id,seval,Qb,id_eq,Z7,qb58];refine hk _ ?_;clear hk k;try show Sat _ _ _ _ _);(repeat refine Qc ?_);refine Qe rfl (fun h=>?_) (fun h=>?_)
  · have h1:i<xs.length:=by simp only[decide_eq_true_eq] at h;omega
    have e1:IntKind.i64.wrap ((i:Int)+1)=((i+1:Nat):Int):=by rw[w64 (by omega)];omega
    have hst:=findV_take xs d i h1;rw[← ho] at hst;refine Sat.skip ?_;simp only[Qf];(repeat refine Qc ?_);refine Sat.block ?_;(repeat refine Qc ?_);(refine Qa fun k hk=>?_;simp only[id,seval,Qb,id_eq,Z7,qb58]);refine⟨by omega,fun b9=>?_⟩;(refine hk _ ?_;clear hk k;try show Sat _ _ _ _ _);obtain⟨r,hr⟩:∃ r,r=xs.toArray[i]! := ⟨_,rfl⟩;have hrx:xs[i]=r:=by rw[hr];simp [getElem!_def,h1]
    rw[hrx] at hst;(repeat refine Qc ?_);refine Zg (ι:=Bool) (fun q=>⟨38,[(33,.b q),(9,.op 3 b9 0),(12,.i .i64 i),(11,.i .i64 xs.length),(10,.sl ad xs.length cap 17 (Qk xs.toArray)),(7,.b o.isSome),(6,.op 2 b6 0),(4,.op 1 b4 0),(3,.op 0 b3 0)],[.box b3 27 [.i .i64 d.van,.i .i64 d.run,.i .i64 d.num],.box b4 62 (Res.cs default),.box b6 62 (Res.cs (o.getD default)),.box b9 62 [Qk xs.toArray i 0,Qk xs.toArray i 1,Qk xs.toArray i 2,Qk xs.toArray i 3,Qk xs.toArray i 4,Qk xs.toArray i 5,Qk xs.toArray i 6,Qk xs.toArray i 7,Qk xs.toArray i 8,Qk xs.toArray i 9,Qk xs.toArray i 10,Qk xs.toArray i 11,Qk xs.toArray i 12,Qk xs.toArray i 13,Qk xs.toArray i 14,Qk xs.toArray i 15,Qk xs.toArray i 16]]⟩) (fun q=>q=findP o r d) (fun hrest=>?_) ?_
    · (refine Qp (.keep [0,2] [1] (.one 1 (.one 3 (.one 4 (.one 5 (.one 6 (.one 7 (.alt 8 (.one 9 (.one 10 (.one 11 (.one 12 (.one 13 (.one 14 (.one 15 (.one 16 (.one 17 .done))))))))) (.alt 9 (.one 8 (.one 10 (.one 11 (.one 12 (.one 13 (.one 14 (.one 15 (.one 16 (.one 17 .done))))))))) .none))))))))) (by kernel_rfl) (by kernel_rfl) (fun _ _ h=>h) fun k hk=>?_;simp only[WOT,List.map_cons,List.map_nil,List.getD_cons_zero,List.getD_cons_succ];simp only[id,seval,Qb,id_eq,Z7,WOT,qb58])
      refine Qd (identC F xs.toArray[i]!) rfl (by rintro _ rfl;exact ok_aggL (l:=[SV.i .i64 _,.i .i64 _,.i .i64 _]) rfl) ?_;rintro _ rfl;rw[← hr];simp only[id,seval,Qb,id_eq,Z7,qb58]
      repeat' (first
        | (with_reducible refine And.intro ?_ ?_)
        | (with_reducible intro _)
        | (refine Qd (validC F xs.toArray[i]!) rfl (by rintro _ rfl;exact Qh rfl) ?_
           rintro _ rfl;rw[← hr]
           simp only[id,seval,Qb,id_eq,Z7,qb58])
        | (refine Qd (pcompareC F xs.toArray[i]! (o.getD default)) rfl (by rintro _ rfl;exact Qh rfl) ?_
           rintro _ rfl;rw[← hr]
           simp only[id,seval,Qb,id_eq,Z7,qb58])
        | (refine hk _ ?_
           simp only[Qf];first
           | (refine (hrest _ (findP_1 (by assumption) (by assumption))).le ?_
              simp only[Res.cs];simp only[id,seval,Qb,id_eq,Z7,qb59]
              done)
           | (refine (hrest _ (findP_2 (by assumption) (by assumption) (by assumption))).le ?_
              simp only[Res.cs];simp only[id,seval,Qb,id_eq,Z7,qb59]
              done)
           | (refine (hrest _ (findP_3 (by assumption) (by assumption))).le ?_
              simp only[Res.cs];simp only[id,seval,Qb,id_eq,Z7,qb59]
              done)
           | (refine (hrest _ (findP_4 (by assumption))).le ?_
              simp only[Res.cs];simp only[id,seval,Qb,id_eq,Z7,qb59]
              done)))
    rintro q rfl;simp only[Res.cs]
    refine QT (ι:=Option Res) (fun z=>⟨38,[(12,.i .i64 i),(11,.i .i64 xs.length),(10,.sl ad xs.length cap 17 (Qk xs.toArray)),(7,.b z.isSome),(6,.op 2 b6 0),(4,.op 1 b4 0),(3,.op 0 b3 0)],
      [.box b3 27 [.i .i64 d.van,.i .i64 d.run,.i .i64 d.num],.box b4 62 (Res.cs default),.box b6 62 (Res.cs (z.getD default))]⟩) (fun z=>z=XJ d o r) ?_ ?_
    · refine Qe rfl (fun h2=>?_) (fun h2=>?_)
      · (refine Qa fun k hk=>?_;simp only[id,seval,Qb,id_eq,Z7,qb58];refine hk _ ?_;clear hk k;try show Sat _ _ _ _ _)
        simp only[Qf];refine⟨some r,by unfold XJ;rw[if_pos h2],?_⟩;simp only[Res.cs,Option.getD_some,Option.isSome_some];simp only[id,seval,Qb,id_eq,Z7,qb59];rw[hr];rfl
      · refine Sat.skip ?_
        simp only[Qf];refine⟨o,by unfold XJ;rw[if_neg (by rw[h2];decide)],?_⟩;simp only[Res.cs];simp only[id,seval,Qb,id_eq,Z7,qb59]
    rintro z hz;simp only[Qf,Qg,Res.cs];refine Qa fun k hk=>?_;simp only[id,seval,Qb,id_eq,Z7,e1,qb58];refine hk _ ?_;simp only[Qf,Qg];refine⟨(i+1,z),⟨h1,by rw[hz,← hst]⟩,by simp only;omega,?_⟩;simp only[Res.cs];simp only[id,seval,Qb,id_eq,Z7,qb59]
  · have h1:i=xs.length:=by simp only[decide_eq_false_iff_not] at h;omega
    subst h1;rw[List.take_length] at ho;refine Sat.exit ?_;simp only[Qf,Qg,reduceIte];(repeat refine Qc ?_);(refine Qa fun k hk=>?_;simp only[id,seval,Qb,id_eq,Z7,qb58];refine hk _ ?_;clear hk k;try show Sat _ _ _ _ _);refine Sat.ret ?_;simp only[Tryz.results68,evr,id,seval,Qm,Qv,Qu,Zm,Zl,Zk,List.append_nil,Int.toNat_zero,Nat.sub_self,Int.reduceToNat,Qb,Qq,Qj,id_eq,Z7];rw[← ho];cases o<;>rfl
end
end Go.Proofs.YtfeiiadligkamaaGreat
