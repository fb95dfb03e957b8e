import Derived.Test.YtfeiiadligkamaaGreatPk4
import Derived.Test.YtfeiiadligkamaaGreatPk3
import Derived.Test.YtfeiiadligkamaaGreatR24H
import Derived.Test.YtfeiiadligkamaaGreatEpiC
import Derived.Test.YtfeiiadligkamaaGreatR24F
import Derived.Test.YtfeiiadligkamaaGreatR24G
import Derived.Test.YtfeiiadligkamaaGreatInsM
import Derived.Test.YtfeiiadligkamaaGreatEv
import Derived.Test.YtfeiiadligkamaaGreatDraw
import Derived.Test.YtfeiiadligkamaaGreatPk2
namespace Go.Proofs.YtfeiiadligkamaaGreat
set_option linter.unusedSimpArgs false
set_option linter.unusedVariables false
set_option linter.defProp false
section
open Go.Sort Eng
theorem par_eqs (a b a' b':Int):aggEq Tryz.prog 90 2 (fun j=>[SV.i .u32 a,.i .u32 b].getD j default) 2 (fun j=>[SV.i .u32 a',.i .u32 b'].getD j default)=some ([a == a',b == b'].all id):=by kernel_rfl
theorem Xk (a b a' b':Int):aggEq Tryz.prog 90 2 (fun j=>[SV.i .u32 a,.i .u32 b].getD j default) 2 (fun j=>[SV.i .u32 a',.i .u32 b'].getD j default)=some (decide ((⟨a,b⟩:Par)=⟨a',b'⟩)):=by
 rw[par_eqs]
 congr 1
 apply Bool.eq_iff_iff.2;simp
def evPre (e:Evd):Bool:=decide ((1≤e.kind∧e.kind≤3)∧e.a≠0∧e.a<e.b∧e.ids.length≠0)
def idsAsc (l:List Idn):Bool:=decide (∀ i,i<l.length - 1→Za (l.getD i default) (l.getD (i+1) default)=true)
def Xa (e:Evd):Bool:=evPre e && idsAsc e.ids
theorem idsAsc_iff {l:List Idn}:idsAsc l=true ↔ l.Pairwise fun x y=>Za x y=true:=by
 unfold idsAsc;rw[decide_eq_true_eq];constructor
 ·intro h
  induction l with
  | nil=>exact .nil
  | cons x l ih=>
   have h2:∀ i,i<l.length - 1→Za (l.getD i default) (l.getD (i+1) default)=true:=fun i hi=>h (i+1) (by simp only[List.length_cons];omega);refine List.pairwise_cons.2 ⟨?_,ih h2⟩;have ihp:=ih h2;cases l with
   | nil=>intro y hy;cases hy
   | cons z l=>
    have h0:Za x z=true:=h 0 (by simp);intro y hy;rcases List.mem_cons.1 hy with rfl|hy
    ·exact h0
    ·exact Xy _ _ _ h0 ((List.pairwise_cons.1 ihp).1 y hy)
 ·intro h i hi
  replace hi:i+1<l.length:=by omega
  have:=List.pairwise_iff_getElem.1 h i (i+1) (by omega) hi (by omega)
  rwa [List.getD_eq_getElem?_getD,List.getElem?_eq_getElem (show i<l.length by omega),List.getD_eq_getElem?_getD,List.getElem?_eq_getElem hi]
def qb60:=And.intro @evr (And.intro @Qm (And.intro @Qv (And.intro @Qu (And.intro @Zm (And.intro @Zl (And.intro @Zk (And.intro @Qq (And.intro @Qj (And.intro @Xk (@evn))))))))))
def qb61:=And.intro @evr (And.intro @Qm (And.intro @Qv (And.intro @Qu (And.intro @Zm (And.intro @Zl (And.intro @Zk (And.intro @Qq (And.intro @Qj (And.intro @Xk (And.intro @evl (@evn)))))))))))
def qb62:=And.intro @evr (And.intro @Qm (And.intro @Qv (And.intro @Qu (And.intro @Zm (And.intro @Zl (And.intro @Zk (And.intro @List.append_nil.{0} (And.intro @Int.toNat_zero (And.intro @Nat.sub_self (And.intro @Qq (And.intro @Qj (@Xk))))))))))))
set_option maxHeartbeats 1000000 in
set_option maxRecDepth 100000 in
theorem validEvC (F:Frm) (e:Evd) (he:e.ids.length≤1000000000):Contract F Tryz.prog 73 [evAg e] (fun r=>r=.b (Xa e)):=by
 refine Qi Tryz.func73 rfl (by kernel_rfl) ?_;simp only[Tryz.ntmps73,Qt,evAg,Evd.cs];(repeat refine Qc ?_);(refine Qa fun k hk=>?_;simp only[id,seval,Qb,qb60]);intro b1;(refine hk _ ?_;clear hk k;try show Sat _ _ _ _ _);(repeat refine Qc ?_);refine QT (ι:=Bool) (fun q=>⟨50,[(29,.b q),(1,.op 0 b1 0),(2,.ff)],[.box b1 32 (Evd.cs e)]⟩) (fun q=>q=!evPre e) ?_ ?_
 ·(refine Qa fun k hk=>?_;simp only[id,seval,Qb,qb60]);refine⟨fun h1=>?_,fun h1=>⟨fun h2=>?_,fun h2=>⟨fun h3=>?_,fun h3=>⟨fun h4=>?_,fun h4=>?_⟩⟩⟩⟩
  ·refine hk _ ?_;simp only[Qf];refine⟨true,by unfold evPre;symm;rw[Bool.not_eq_true',decide_eq_false_iff_not];omega,?_⟩;simp only[Evd.cs];simp only[id,seval,Qb,qb61]
  ·refine hk _ ?_;simp only[Qf];refine⟨true,by unfold evPre;symm;rw[Bool.not_eq_true',decide_eq_false_iff_not];omega,?_⟩;simp only[Evd.cs];simp only[id,seval,Qb,qb61]
  ·refine hk _ ?_;simp only[Qf];refine⟨true,by unfold evPre;symm;rw[Bool.not_eq_true',decide_eq_false_iff_not];(rw[beq_iff_eq] at h3;exact fun hh=>hh.2.1 h3),?_⟩;simp only[Evd.cs];simp only[id,seval,Qb,qb61]
  ·refine hk _ ?_;simp only[Qf];refine⟨true,by unfold evPre;symm;rw[Bool.not_eq_true',decide_eq_false_iff_not];omega,?_⟩;simp only[Evd.cs];simp only[id,seval,Qb,qb61]
  ·refine hk _ ?_;simp only[Qf];refine⟨((e.ids.length:Int) == 0),?_,?_⟩;rotate_left
   ·simp only[Evd.cs];simp only[id,seval,Qb,qb61]
   ·rw[beq_eq_false_iff_ne] at h3;unfold evPre;by_cases h5:e.ids.length=0
    ·simp [h5]
    ·have a1:((e.ids.length:Int) == 0)=false:=by rw[beq_eq_false_iff_ne];omega
     rw[a1,decide_eq_true ⟨⟨by omega,by omega⟩,h3,by omega,h5⟩];rfl
 rintro q rfl;simp only[Evd.cs];(repeat refine Qc ?_);refine Qe rfl (fun h=>?_) (fun h=>?_)
 ·have hp:evPre e=false:=by simpa using h
  (repeat refine Qc ?_);(refine Qa fun k hk=>?_;simp only[id,seval,Qb,qb60];refine hk _ ?_;clear hk k;try show Sat _ _ _ _ _);refine Sat.ret ?_;simp only[Tryz.results73,id,seval,Int.reduceToNat,Qb,qb62];unfold Xa;rw[hp];rfl
 have hp:evPre e=true:=by simpa using h
 refine Sat.skip ?_;simp only[Qf]
 have hlen:e.ids.length≠0:=by
  unfold evPre at hp;exact (of_decide_eq_true hp).2.2.2
 (repeat refine Qc ?_);(refine Qa fun k hk=>?_;simp only[id,seval,Qb,qb60];refine hk _ ?_;clear hk k;try show Sat _ _ _ _ _);(repeat refine Qc ?_);refine Sat.block ?_;refine Qo (ι:=Nat) (fun i=>⟨50,[(3,.i .i64 i),(1,.op 0 b1 0),(2,.ff)],[.box b1 32 [.i .i64 e.kind,.i .u32 e.a,.i .u32 e.b,.sl e.ad e.ids.length e.cap 3 (QX e.ids.toArray)]]⟩)
  (fun i=>1≤i∧i≤e.ids.length∧∀ q,q+1<i→Za (e.ids.getD q default) (e.ids.getD (q+1) default)=true) (fun i=>e.ids.length - i) 1 ⟨Nat.le_refl _,by omega,fun q hq=>by omega⟩ (by simp only[id,seval,Qb,qb61];try rfl) ?_
 rintro i ⟨hi1,hi,hq⟩;(repeat refine Qc ?_);(refine Qa fun k hk=>?_;simp only[id,seval,Qb,qb60];refine hk _ ?_;clear hk k;try show Sat _ _ _ _ _);(repeat refine Qc ?_);refine Qe rfl (fun h2=>?_) (fun h2=>?_)
 ·have hlt:i<e.ids.length:=by simp only[decide_eq_true_eq] at h2;omega
  have e1:IntKind.i64.wrap ((i:Int)+1)=((i+1:Nat):Int):=by rw[w64 (by omega)];omega
  have e2:IntKind.i64.wrap ((i:Int) - 1)=((i - 1:Nat):Int):=by rw[w64 (by omega)];omega
  refine Sat.skip ?_;simp only[Qf];(repeat refine Qc ?_);refine Sat.block ?_;(repeat refine Qc ?_);(refine Sat.region_rows [⟨0,38,2,0⟩,⟨1,39,137438953472,1⟩,⟨0,40,8,0⟩,⟨4,41,549755813888,0⟩,⟨10,42,1374389534720,0⟩,⟨16,43,2199023255552,1⟩,⟨0,44,2,0⟩,⟨64,45,8796093022208,1⟩,⟨0,46,8,0⟩,⟨384,47,52776558133248,0⟩,⟨512,48,70368744177664,1⟩,⟨1056,49,145135534866432,2⟩,⟨2048,50,281474976710656,0⟩] [0,2,3,6,8,1,7,4,9,5,10] [(11,false),(12,false)] [] (by kernel_rfl) (by kernel_rfl) (fun _ _ h=>h) fun k hk=>?_;simp only[List.map_cons,List.map_nil,List.getD_cons_zero,List.getD_cons_succ,btseq_cons,btseq_free,btseq_nil];simp only[id,seval,Qb,qb60]);simp only[e2,Int.toNat_natCast];refine⟨⟨by omega,by omega⟩,by omega,?_⟩;refine Qd (Xg F e.ids.toArray[i - 1]! e.ids.toArray[i]!) rfl (by rintro _ rfl;exact Qh rfl) ?_;rintro _ rfl;simp only[id,seval,Qb,qb60];(refine hk _ ?_;clear hk k;try show Sat _ _ _ _ _);have g1:e.ids.toArray[i - 1]! = e.ids.getD (i - 1) default:=by simp [getElem!_def,List.getD,show i - 1<e.ids.length by omega]
  have g2:e.ids.toArray[i]! = e.ids.getD i default:=by simp [getElem!_def,List.getD,hlt]
  rw[g1,g2];(repeat refine Qc ?_);refine Qe rfl (fun h3=>?_) (fun h3=>?_)
  ·have hno:Za (e.ids.getD (i - 1) default) (e.ids.getD i default)=false:=by
    unfold Za;simp only[decide_eq_true_eq,ge_iff_le] at h3;rw[decide_eq_false_iff_not];omega
   (repeat refine Qc ?_);(refine Qa fun k hk=>?_;simp only[id,seval,Qb,qb60];refine hk _ ?_;clear hk k;try show Sat _ _ _ _ _);refine Sat.ret ?_;simp only[Qg,Tryz.results73,id,seval,Int.reduceToNat,Qb,qb62]
   have:idsAsc e.ids=false:=by
    cases hA:idsAsc e.ids with
    | false=>rfl
    | true=>
     unfold idsAsc at hA;have:=of_decide_eq_true hA (i - 1) (by omega);rw[show i - 1+1=i by omega,hno] at this;cases this
   unfold Xa;rw[this,Bool.and_false]
  have hyes:Za (e.ids.getD (i - 1) default) (e.ids.getD i default)=true:=by
   unfold Za;simp only[decide_eq_false_iff_not,ge_iff_le] at h3;rw[decide_eq_true_eq];omega
  refine Sat.skip ?_;simp only[Qf,Qg];refine Qa fun k hk=>?_;simp only[id,seval,Qb,e1,qb60];refine hk _ ?_;simp only[Qf,Qg];refine⟨i+1,⟨by omega,by omega,fun q hq2=>?_⟩,by omega,?_⟩
  ·by_cases hqi:q+1<i
   ·exact hq q hqi
   ·obtain rfl:q=i - 1:=by omega
    rw[show i - 1+1=i by omega];exact hyes
  ·simp only[id,seval,Qb,qb61]
 ·have hie:i=e.ids.length:=by simp only[decide_eq_false_iff_not] at h2;omega
  refine Sat.exit ?_;simp only[Qf,Qg,reduceIte];(repeat refine Qc ?_);(refine Qa fun k hk=>?_;simp only[id,seval,Qb,qb60];refine hk _ ?_;clear hk k;try show Sat _ _ _ _ _);refine Sat.ret ?_;simp only[Tryz.results73,id,seval,Int.reduceToNat,Qb,qb62]
  have:idsAsc e.ids=true:=by
   unfold idsAsc;rw[decide_eq_true_eq];intro q hq2;exact hq q (by omega)
  unfold Xa;rw[hp,this];rfl
end

section
open Eng
def OneEach (xs:List Res):Prop:=∀ r∈xs,∀ s∈xs,r.idn=s.idn→r=s
theorem findV_one {xs:List Res} (hu:OneEach xs) {r:Res} (hr:r∈xs) (hv:QH r=true):findV xs r.idn=some r:=by
 cases hf:findV xs r.idn with
 | none=>exact absurd rfl ((findV_none hf).2 r hr hv)
 | some s=>
  rcases findV_some hf with ⟨h1,_,h3⟩|h
  ·rw[hu s h1 r hr h3]
  ·cases h
def Evd.cut (e:Evd) (n:Nat):Evd:=⟨e.kind,e.a,e.b,e.ids.take n,e.ad,e.cap⟩
end

section
open Go.Sort Eng
def Evd.say (e:Evd):Int×Par×List Idn:=(e.kind,e.pr,e.ids)
theorem PairsOf.one {xs:List Res} {es:List Evd} (h:PairsOf xs es) {e f:Evd} (he:e∈es) (hf:f∈es) (hp:e.pr=f.pr):e=f:=by
 have key:∀ {l:List Evd},(l.Pairwise fun x y=>ZK x.pr y.pr=true)→∀ e∈l,∀ f∈l,e.pr=f.pr→e=f:=by
  intro l
  induction l with
  | nil=>intro _ e he;cases he
  | cons x l ih=>
   intro hl e he f hf hp;obtain⟨l1,l2⟩:=List.pairwise_cons.1 hl;rcases List.mem_cons.1 he with g1|g1<;>rcases List.mem_cons.1 hf with g2|g2
   ·rw[g1,g2]
   ·have:=l1 f g2;rw[← g1,hp,Zp] at this;cases this
   ·have:=l1 e g1;rw[← g2,hp,Zp] at this;cases this
   ·exact ih l2 e g1 f g2 hp
 exact key h.asc e he f hf hp
end

section
open Go.Sort Eng
def EvIn (e:Evd):Prop:=IntKind.i64.wrap e.a=e.a∧IntKind.i64.wrap e.b=e.b∧e.ids.length≤1000000000
theorem evCmp_say (e f:Evd):evCmp e f=0 ↔ e.say=f.say:=by
 rw[evCmp_zero];unfold Evd.say Evd.pr;simp only[Prod.mk.injEq,Par.mk.injEq,and_assoc]
theorem say_take {es fs:List Evd} {i:Nat} (h1:i<es.length) (h2:i<fs.length) (h:(es.take i).map Evd.say=(fs.take i).map Evd.say) (hs:(es.getD i default).say=(fs.getD i default).say):(es.take (i+1)).map Evd.say=(fs.take (i+1)).map Evd.say:=by
 rw[List.take_add_one,List.take_add_one,List.getElem?_eq_getElem h1,List.getElem?_eq_getElem h2,List.map_append,List.map_append,h];rw[List.getD_eq_getElem?_getD,List.getD_eq_getElem?_getD,List.getElem?_eq_getElem h1,List.getElem?_eq_getElem h2] at hs;simp only[Option.getD_some] at hs;simp only[Option.toList_some,List.map_cons,List.map_nil,hs]
theorem say_ne {es fs:List Evd} {i:Nat} (h1:i<es.length) (h2:i<fs.length) (hs:(es.getD i default).say≠(fs.getD i default).say):es.map Evd.say≠fs.map Evd.say:=fun h=>hs (by
 have:=congrArg (fun l=>l[i]?) h;simp only[List.getElem?_map,List.getElem?_eq_getElem h1,List.getElem?_eq_getElem h2,Option.map_some,Option.some.injEq] at this;rw[List.getD_eq_getElem?_getD,List.getD_eq_getElem?_getD,List.getElem?_eq_getElem h1,List.getElem?_eq_getElem h2]
 exact this)
def qb63:=And.intro @evr (And.intro @Qm (And.intro @Qv (And.intro @Qu (And.intro @Zm (And.intro @Zl (And.intro @Zk (And.intro @Qq (And.intro @Qj (@evn)))))))))
def qb64:=And.intro @evr (And.intro @Qm (And.intro @Qv (And.intro @Qu (And.intro @Zm (And.intro @Zl (And.intro @Zk (And.intro @List.append_nil.{0} (And.intro @Int.toNat_zero (And.intro @Nat.sub_self (And.intro @Qq (@Qj)))))))))))
def qb65:=And.intro @evr (And.intro @Qm (And.intro @Qv (And.intro @Qu (And.intro @Zm (And.intro @Zl (And.intro @Zk (And.intro @Qq (And.intro @Qj (And.intro @evl (@evn))))))))))
set_option maxRecDepth 100000 in
theorem sameEvC (F:Frm) (a b:Option Addr) (c d:Nat) (es fs:List Evd) (hl:es.length≤1000000000) (he:∀ e∈es,EvIn e) (hf:∀ f∈fs,EvIn f) :
  Contract F Tryz.prog 17 [.sl a es.length c 4 (Xi es),.sl b fs.length d 4 (Xi fs)] (fun r=>r=.b (decide (es.map Evd.say=fs.map Evd.say))):=by
 refine Qi Tryz.func17 rfl (by kernel_rfl) ?_;simp only[Tryz.ntmps17,Qt];(repeat refine Qc ?_);(refine Qa fun k hk=>?_;simp only[id,seval,Qb,qb63];refine hk _ ?_;clear hk k;try show Sat _ _ _ _ _);(repeat refine Qc ?_);(refine Qa fun k hk=>?_;simp only[id,seval,Qb,qb63];refine hk _ ?_;clear hk k;try show Sat _ _ _ _ _);(repeat refine Qc ?_);refine Qe rfl (fun h=>?_) (fun h=>?_)
 ·have h1:es.length≠fs.length:=by simp at h;omega
  (repeat refine Qc ?_);(refine Qa fun k hk=>?_;simp only[id,seval,Qb,qb63];refine hk _ ?_;clear hk k;try show Sat _ _ _ _ _);refine Sat.ret ?_;simp only[Tryz.results17,id,seval,Int.reduceToNat,Qb,qb64];rw[decide_eq_false fun e=>h1 (by have:=congrArg List.length e;simpa using this)]
 have hlen:es.length=fs.length:=by simp at h;omega
 refine Sat.skip ?_;simp only[Qf];(repeat refine Qc ?_);(refine Qa fun k hk=>?_;simp only[id,seval,Qb,qb63];refine hk _ ?_;clear hk k;try show Sat _ _ _ _ _);(repeat refine Qc ?_);refine Sat.block ?_;refine Qo (ι:=Nat) (fun i=>⟨27,[(5,.i .i64 i),(0,.sl a es.length c 4 (Xi es)),(1,.sl b fs.length d 4 (Xi fs))],[]⟩)
  (fun i=>i≤es.length∧(es.take i).map Evd.say=(fs.take i).map Evd.say) (fun i=>es.length - i) 0 ⟨Nat.zero_le _,rfl⟩ (by simp only[id,seval,Qb,qb65];try rfl) ?_
 rintro i ⟨hi,hq⟩;(repeat refine Qc ?_);(refine Qa fun k hk=>?_;simp only[id,seval,Qb,qb63];refine hk _ ?_;clear hk k;try show Sat _ _ _ _ _);(repeat refine Qc ?_);refine Qe rfl (fun h=>?_) (fun h=>?_)
 ·have h1:i<es.length:=by simp only[decide_eq_true_eq] at h;omega
  have e1:IntKind.i64.wrap ((i:Int)+1)=((i+1:Nat):Int):=by rw[w64 (by omega)];omega
  obtain⟨k1,k2,k3⟩:=he (es.getD i default) (Q3 h1);obtain⟨m1,m2,m3⟩:=hf (fs.getD i default) (Q3 (by omega));refine Sat.skip ?_;simp only[Qf];(repeat refine Qc ?_);refine Sat.block ?_;(repeat refine Qc ?_);(refine Qr (by kernel_rfl) (by kernel_rfl) fun k hk=>?_;simp only[id,seval,Qb,qb63]);refine⟨by omega,by omega,?_⟩;refine ZV (refCompareEvC Frm.nil (es.getD i default) (fs.getD i default) k3 m3 k1 k2 m1 m2) rfl (Qh rfl) ?_;simp only[id,seval,Qb,qb63];refine hk _ ?_;simp only[Qf];(repeat refine Qc ?_);refine Qe rfl (fun h4=>?_) (fun h4=>?_)
  ·have hne:evCmp (es.getD i default) (fs.getD i default)≠0:=by simpa using h4
   (repeat refine Qc ?_);(refine Qa fun k hk=>?_;simp only[id,seval,Qb,qb63];refine hk _ ?_;clear hk k;try show Sat _ _ _ _ _);refine Sat.ret ?_;simp only[Qg,Tryz.results17,id,seval,Int.reduceToNat,Qb,qb64];rw[decide_eq_false (say_ne h1 (by omega) fun e=>hne ((evCmp_say _ _).2 e))]
  have hz:evCmp (es.getD i default) (fs.getD i default)=0:=by simpa using h4
  refine Sat.skip ?_;simp only[Qf,Qg,reduceIte];refine Qa fun k hk=>?_;simp only[id,seval,Qb,e1,qb63];refine hk _ ?_;simp only[Qf,Qg];refine⟨i+1,⟨h1,say_take h1 (by omega) hq ((evCmp_say _ _).1 hz)⟩,by omega,?_⟩;simp only[id,seval,Qb,qb65]
 have h1:i=es.length:=by simp only[decide_eq_false_iff_not] at h;omega
 subst h1;refine Sat.exit ?_;simp only[Qf,Qg,reduceIte];(repeat refine Qc ?_);(refine Qa fun k hk=>?_;simp only[id,seval,Qb,qb63];refine hk _ ?_;clear hk k;try show Sat _ _ _ _ _);refine Sat.ret ?_;simp only[Tryz.results17,id,seval,Int.reduceToNat,Qb,qb64];rw[List.take_length,hlen,List.take_length] at hq;rw[decide_eq_true hq]
end

section
open Eng Go.Sort
/-! ### bits -/
theorem x32_def (a b:Int):x32 a b=((BitVec.ofInt 32 a ^^^ BitVec.ofInt 32 b).toNat:Int):=by
 show IntKind.u32.wrap ((BitVec.ofInt 32 a ^^^ BitVec.ofInt 32 b).toNat:Int)=_;have:=(BitVec.ofInt 32 a ^^^ BitVec.ofInt 32 b).isLt;rw[IntKind.wrap_u32];omega
theorem x32_bv (a b:Int):BitVec.ofInt 32 (x32 a b)=BitVec.ofInt 32 a ^^^ BitVec.ofInt 32 b:=by
 rw[x32_def];apply BitVec.eq_of_toNat_eq;rw[BitVec.ofInt_natCast,BitVec.toNat_ofNat,Nat.mod_eq_of_lt (BitVec.isLt _)]
theorem x32_oth {f m p q:Int} (h:m=x32 p q):x32 (x32 f m) f=m∧x32 (x32 m f) f=m:=by
 have hm:m=((BitVec.ofInt 32 m).toNat:Int):=by
  conv=>lhs;rw[h,x32_def,← x32_bv,← h]
 have e1:BitVec.ofInt 32 f ^^^ BitVec.ofInt 32 m ^^^ BitVec.ofInt 32 f=BitVec.ofInt 32 m:=by
  rw[BitVec.xor_comm (BitVec.ofInt 32 f) (BitVec.ofInt 32 m),BitVec.xor_assoc,BitVec.xor_self,BitVec.xor_zero]
 have e2:BitVec.ofInt 32 m ^^^ BitVec.ofInt 32 f ^^^ BitVec.ofInt 32 f=BitVec.ofInt 32 m:=by
  rw[BitVec.xor_assoc,BitVec.xor_self,BitVec.xor_zero]
 refine⟨?_,?_⟩
 ·rw[x32_def,x32_bv,e1,← hm]
 ·rw[x32_def,x32_bv,e2,← hm]
/-! ### the same results -/
theorem OrdOf.congr {xs ys zs:List Res} (h:∀ r,r∈ys ↔ r∈xs):OrdOf ys zs ↔ OrdOf xs zs:=
 ⟨fun g=>⟨g.1,fun r=>(g.2 r).trans (and_congr (h r) Iff.rfl)⟩,fun g=>⟨g.1,fun r=>(g.2 r).trans (and_congr (h r).symm Iff.rfl)⟩⟩
theorem isPart_congr {xs ys:List Res} (h:∀ r,r∈ys ↔ r∈xs) (p:List Res):IsPart ys p ↔ IsPart xs p:=by
 unfold IsPart IsPartT;simp only[OrdOf.congr h]
theorem matC_congr {xs ys:List Res} (h:∀ r,r∈ys ↔ r∈xs) (e:Evd):MatC xs e ↔ MatC ys e:=by
 unfold MatC;simp only[isPart_congr h,h]
theorem MatOf.same {xs ys:List Res} {l m:List Evd} (h:MatOf xs l) (k:MatOf ys m) (hm:∀ r,r∈ys ↔ r∈xs):l.map Evd.say=m.map Evd.say:=by
 obtain⟨h1,h2⟩:=BestOf.unique h.best k.best (matC_congr hm);refine List.ext_getElem (by simpa using h1) fun i g1 g2=>?_;rw[List.length_map] at g1 g2;rw[List.getElem_map,List.getElem_map];obtain⟨_,e2,e3⟩:=h2 i g1 g2;refine (evCmp_say _ _).1 ?_;unfold evB at e2 e3;rw[decide_eq_false_iff_not] at e2 e3;have:=evCmp_neg l[i] m[i];omega
/-! ### what holds -/
theorem wayR_iff {r:Res}:Xu r=true ↔ r.answered=true∧r.kind=1∧Zx r=true:=by
 unfold Xu;simp only[Bool.and_eq_true,beq_iff_eq]
theorem ZW {r:Res} (h:Xu r=true):QH r=true:=by
 have:=(wayR_iff.1 h).2.2;unfold Zx at this;rw[Bool.and_eq_true] at this;exact this.2
theorem wayR_from {r:Res} (h:Xu r=true):r.from_≠0:=by
 have h1:=ZW h;unfold QH at h1;simp only[Bool.and_eq_true,Bool.or_eq_true,Bool.not_eq_true',bne_iff_ne,ne_eq] at h1;rcases h1.2.2 with h2|h2
 ·rw[(wayR_iff.1 h).1] at h2;cases h2
 ·exact h2
def Zs (xs:List Res) (x:Exc):Bool:=match findV xs x.f,findV xs x.s with
 | some a,some b=>decide (x.a≠0) && (decide (x.a<x.b) && (togR a b && ((a.from_ == x.a) && (b.from_ == x.b))))
 | _,_=>false
theorem IsPart.tre {xs p:List Res} (h:IsPart xs p) {a b:Res} (ha:a∈p) (hb:b∈p):a.tre=b.tre:=by
 obtain⟨t,ht⟩:=h;rw[ht.tre a ha,ht.tre b hb]
theorem exc_holds {xs:List Res} (hu:OneEach xs) {x:Exc} (h:ExcC xs x):Zs xs x=true:=by
 obtain⟨p,hp,a,ha,b,hb,wa,wb,hf,⟨h1,h2⟩,rfl⟩:=h;have ht:=hp.tre ha hb;have fa:findV xs a.idn=some a:=findV_one hu (hp.sub a ha).1 (ZW wa);have fb:findV xs b.idn=some b:=findV_one hu (hp.sub b hb).1 (ZW wb);have tg:togR a b=true:=togR_iff.2 ⟨h1,hf,ht,wa,wb⟩;unfold Zs;simp only[XF,fa,fb,tg,Bool.true_and,beq_self_eq_true,Bool.and_true,Bool.and_eq_true,decide_eq_true_eq];exact⟨decide_eq_true (wayR_from wa),decide_eq_true h2⟩
def othV (e:Evd) (a:Res):Int:=x32 (x32 e.a e.b) a.from_
def hmOwn (xs:List Res) (ids:List Idn):List Res:=(ids.filterMap (findV xs)).filter Xu
def hmP (xs:List Res) (e:Evd) (a b:Res):Bool:=folR a b && (((hmOwn xs e.ids).any fun c=>c.from_ == othV e a) && (msV b.from_).any fun m=>m == othV e a)
def hmV (xs:List Res) (e:Evd):Bool:=(Xa e && decide (e.kind=2)) && ((e.ids.all fun d=>(findV xs d).isSome) && (hmOwn xs e.ids).any fun a=>((a.from_ == e.a) || (a.from_ == e.b)) && (hmOwn xs e.ids).any fun b=>hmP xs e a b)
theorem msV_x32 {a m:Int} (h:m∈msV a):∃ q,m=x32 a q:=by
 unfold msV at h;rcases List.mem_cons.1 h with h|h
 ·exact⟨1,h⟩
 ·split at h
  ·cases h
  ·rw[List.mem_singleton] at h;exact⟨3,h⟩
theorem MatE.pre {a b c:Idn} {fr mt:Int} {e:Evd} (h:MatE a b c fr mt e) (h1:fr≠0) (h2:mt≠0) (h3:fr≠mt):Xa e=true:=by
 obtain⟨e1,e2,e3,e4⟩:=h;unfold Xa evPre;rw[Bool.and_eq_true];refine⟨decide_eq_true ⟨by omega,by omega,by omega,fun h9=>?_⟩,idsAsc_iff.2 e4.1⟩;have:=(e4.2 a).2 (by simp);rw[List.length_eq_zero_iff.1 h9] at this;cases this
theorem mat_valid {xs:List Res} {e:Evd} (h:MatC xs e):Xa e=true:=by
 obtain⟨p,hp,a,ha,b,hb,h1,c,hc,wc,hm,hn,he⟩:=h;exact he.pre (wayR_from (togR_iff.1 (folR_iff.1 h1).1).2.2.2.1) (wayR_from wc) (Ne.symm hn)
theorem mat_holds {xs:List Res} (hu:OneEach xs) {e:Evd} (h:MatC xs e):hmV xs e=true:=by
 have hv:=mat_valid h;obtain⟨p,hp,a,ha,b,hb,h1,c,hc,wc,hm,hn,he⟩:=h;obtain⟨_,_,_,wa,wb⟩:=togR_iff.1 (folR_iff.1 h1).1;obtain⟨e1,e2,e3,e4⟩:=he;have fa:findV xs a.idn=some a:=findV_one hu (hp.sub a ha).1 (ZW wa);have fb:findV xs b.idn=some b:=findV_one hu (hp.sub b hb).1 (ZW wb);have fc:findV xs c.idn=some c:=findV_one hu hc (ZW wc);have ow:∀ {r:Res},Xu r=true→findV xs r.idn=some r→r.idn∈e.ids→r∈hmOwn xs e.ids:=fun w f h=>List.mem_filter.2 ⟨List.mem_filterMap.2 ⟨_,h,f⟩,w⟩;have oa:=ow wa fa ((e4.2 _).2 (by simp));have ob:=ow wb fb ((e4.2 _).2 (by simp));have oc:=ow wc fc ((e4.2 _).2 (by simp))
 have hoth:othV e a=c.from_:=by
  obtain⟨q,hq⟩:=msV_x32 hm;have hx:=x32_oth (f:=a.from_) hq;unfold othV;rw[e2,e3];rcases Int.le_total a.from_ c.from_ with h5|h5
  ·rw[Int.min_eq_left h5,Int.max_eq_right h5];exact hx.1
  ·rw[Int.min_eq_right h5,Int.max_eq_left h5];exact hx.2
 unfold hmV;rw[hv,decide_eq_true e1];simp only[Bool.true_and,Bool.and_eq_true];refine⟨List.all_eq_true.2 fun d hd=>?_,List.any_eq_true.2 ⟨a,oa,?_⟩⟩
 ·have:=(e4.2 d).1 hd;simp only[List.mem_cons,List.not_mem_nil,or_false] at this;rcases this with rfl|rfl|rfl
  ·rw[fa];rfl
  ·rw[fb];rfl
  ·rw[fc];rfl
 ·rw[Bool.and_eq_true];refine⟨?_,List.any_eq_true.2 ⟨b,ob,?_⟩⟩
  ·rw[Bool.or_eq_true,beq_iff_eq,beq_iff_eq,e2,e3];rcases Int.le_total a.from_ c.from_ with h5|h5
   ·left;rw[Int.min_eq_left h5]
   ·right;rw[Int.max_eq_left h5]
  ·unfold hmP;rw[hoth,h1,Bool.true_and,Bool.and_eq_true];exact⟨List.any_eq_true.2 ⟨c,oc,by simp⟩,List.any_eq_true.2 ⟨_,hm,by simp⟩⟩
end

section
open Go.Sort Eng
theorem exc_eqs (a b c d e f g h a' b' c' d' e' f' g' h':Int):aggEq Tryz.prog 29 8 (fun j=>[SV.i .u32 a,.i .u32 b,.i .i64 c,.i .i64 d,.i .i64 e,.i .i64 f,.i .i64 g,.i .i64 h].getD j default) 8 (fun j=>[SV.i .u32 a',.i .u32 b',.i .i64 c',.i .i64 d',.i .i64 e',.i .i64 f',.i .i64 g',.i .i64 h'].getD j default)=some ([a == a',b == b',[c == c',d == d',e == e'].all id,[f == f',g == g',h == h'].all id].all id):=by kernel_rfl
set_option maxRecDepth 10000 in
theorem exc_eql (xs ys:Array Exc) (i k:Nat):aggEq Tryz.prog 29 8 (fun j=>Zi xs i j) 8 (fun j=>Zi ys k j)=some (decide (xs[i]! = ys[k]!)):=by
 have e:=exc_eqs xs[i]!.a xs[i]!.b xs[i]!.f.van xs[i]!.f.run xs[i]!.f.num xs[i]!.s.van xs[i]!.s.run xs[i]!.s.num ys[k]!.a ys[k]!.b ys[k]!.f.van ys[k]!.f.run ys[k]!.f.num ys[k]!.s.van ys[k]!.s.run ys[k]!.s.num;refine Eq.trans e ?_;clear e;generalize xs[i]! = x;generalize ys[k]! = y
 congr 1
 apply Bool.eq_iff_iff.2;obtain⟨a,b,⟨c,d,e⟩,⟨f,g,h⟩⟩:=x;obtain⟨a',b',⟨c',d',e'⟩,⟨f',g',h'⟩⟩:=y;simp
def qb66:=And.intro @evr (And.intro @exc_eql (And.intro @QY (And.intro @Qm (And.intro @Qv (And.intro @Qu (And.intro @Zm (And.intro @Zl (And.intro @Zk (And.intro @Qq (And.intro @Qj (@evn)))))))))))
def qb67:=And.intro @evr (And.intro @exc_eql (And.intro @QY (And.intro @Qm (And.intro @Qv (And.intro @Qu (And.intro @Zm (And.intro @Zl (And.intro @Zk (And.intro @List.append_nil.{0} (And.intro @Int.toNat_zero (And.intro @Nat.sub_self (And.intro @Qq (@Qj)))))))))))))
def qb68:=And.intro @evr (And.intro @exc_eql (And.intro @QY (And.intro @Qm (And.intro @Qv (And.intro @Qu (And.intro @Zm (And.intro @Zl (And.intro @Zk (And.intro @Qq (And.intro @Qj (And.intro @evl (@evn))))))))))))
set_option maxRecDepth 100000 in
theorem sameExC (F:Frm) (a b:Option Addr) (c d:Nat) (es fs:List Exc) (hl:es.length≤1000000000000) :
  Contract F Tryz.prog 16 [.sl a es.length c 8 (Zi es.toArray),.sl b fs.length d 8 (Zi fs.toArray)] (fun r=>r=.b (decide (es=fs))):=by
 refine Qi Tryz.func16 rfl (by kernel_rfl) ?_;simp only[Tryz.ntmps16,Qt];(repeat refine Qc ?_);(refine Qa fun k hk=>?_;simp only[id,seval,Qb,qb66];refine hk _ ?_;clear hk k;try show Sat _ _ _ _ _);(repeat refine Qc ?_);(refine Qa fun k hk=>?_;simp only[id,seval,Qb,qb66];refine hk _ ?_;clear hk k;try show Sat _ _ _ _ _);(repeat refine Qc ?_);refine Qe rfl (fun h=>?_) (fun h=>?_)
 ·have h1:es.length≠fs.length:=by simp at h;omega
  (repeat refine Qc ?_);(refine Qa fun k hk=>?_;simp only[id,seval,Qb,qb66];refine hk _ ?_;clear hk k;try show Sat _ _ _ _ _);refine Sat.ret ?_;simp only[Tryz.results16,id,seval,Int.reduceToNat,Qb,qb67];rw[decide_eq_false fun e=>h1 (by rw[e])]
 have hlen:es.length=fs.length:=by simp at h;omega
 refine Sat.skip ?_;simp only[Qf];(repeat refine Qc ?_);(refine Qa fun k hk=>?_;simp only[id,seval,Qb,qb66];refine hk _ ?_;clear hk k;try show Sat _ _ _ _ _);(repeat refine Qc ?_);refine Sat.block ?_;refine Qo (ι:=Nat) (fun i=>⟨26,[(5,.i .i64 i),(0,.sl a es.length c 8 (Zi es.toArray)),(1,.sl b fs.length d 8 (Zi fs.toArray))],[]⟩)
  (fun i=>i≤es.length∧es.take i=fs.take i) (fun i=>es.length - i) 0 ⟨Nat.zero_le _,rfl⟩ (by simp only[id,seval,Qb,qb68];try rfl) ?_
 rintro i ⟨hi,hq⟩;(repeat refine Qc ?_);(refine Qa fun k hk=>?_;simp only[id,seval,Qb,qb66];refine hk _ ?_;clear hk k;try show Sat _ _ _ _ _);(repeat refine Qc ?_);refine Qe rfl (fun h=>?_) (fun h=>?_)
 ·have h1:i<es.length:=by simp only[decide_eq_true_eq] at h;omega
  have h2:i<fs.length:=by omega
  have e1:IntKind.i64.wrap ((i:Int)+1)=((i+1:Nat):Int):=by rw[w64 (by omega)];omega
  have g1:es.toArray[i]! = es[i]:=by simp [getElem!_def,h1]
  have g2:fs.toArray[i]! = fs[i]:=by simp [getElem!_def,h2]
  refine Sat.skip ?_;simp only[Qf];(repeat refine Qc ?_);refine Sat.block ?_;(repeat refine Qc ?_);(refine Qr (by kernel_rfl) (by kernel_rfl) fun k hk=>?_;simp only[id,seval,Qb,qb66]);refine⟨by omega,by omega,?_⟩;rw[g1,g2];refine hk _ ?_;simp only[Qf];(repeat refine Qc ?_);refine Qe rfl (fun h4=>?_) (fun h4=>?_)
  ·have hne:es[i]≠fs[i]:=by simpa using h4
   (repeat refine Qc ?_);(refine Qa fun k hk=>?_;simp only[id,seval,Qb,qb66];refine hk _ ?_;clear hk k;try show Sat _ _ _ _ _);refine Sat.ret ?_;simp only[Qg,Tryz.results16,id,seval,Int.reduceToNat,Qb,qb67];rw[decide_eq_false fun e=>hne (by subst e;rfl)]
  have hz:es[i]=fs[i]:=by simpa using h4
  refine Sat.skip ?_;simp only[Qf,Qg,reduceIte];refine Qa fun k hk=>?_;simp only[id,seval,Qb,e1,qb66];refine hk _ ?_;simp only[Qf,Qg];refine⟨i+1,⟨h1,by rw[List.take_succ_eq_append_getElem h1,List.take_succ_eq_append_getElem h2,hq,hz]⟩,by omega,?_⟩;simp only[id,seval,Qb,qb68]
 have h1:i=es.length:=by simp only[decide_eq_false_iff_not] at h;omega
 subst h1;refine Sat.exit ?_;simp only[Qf,Qg,reduceIte];(repeat refine Qc ?_);(refine Qa fun k hk=>?_;simp only[id,seval,Qb,qb66];refine hk _ ?_;clear hk k;try show Sat _ _ _ _ _);refine Sat.ret ?_;simp only[Tryz.results16,id,seval,Int.reduceToNat,Qb,qb67];rw[List.take_length,hlen,List.take_length] at hq;rw[decide_eq_true hq]
end

section
open Go.Sort Eng
def qb69:=And.intro @evr (And.intro @QY (And.intro @Qm (And.intro @Qv (And.intro @Qu (And.intro @Zm (And.intro @Zl (And.intro @Zk (And.intro @u32_one (And.intro @Qq (And.intro @Qj (@evn)))))))))))
def qb71:=And.intro @evr (And.intro @QY (And.intro @Qm (And.intro @Qv (And.intro @Qu (And.intro @Zm (And.intro @Zl (And.intro @Zk (And.intro @u32_one (And.intro @List.append_nil.{0} (And.intro @Int.toNat_zero (And.intro @Nat.sub_self (And.intro @Qq (@Qj)))))))))))))
def qb70:=And.intro @evr (And.intro @QY (And.intro @Qm (And.intro @Qv (And.intro @Qu (And.intro @Zm (And.intro @Zl (And.intro @Zk (And.intro @u32_one (And.intro @Qq (And.intro @Qj (And.intro @evl (@evn))))))))))))
set_option maxRecDepth 100000 in
theorem indexAdC (F:Frm) (a:Option Addr) (cap:Nat) (l:List Int) (v:Int) (hl:l.length≤1000000000) :
  Contract F Tryz.prog 109 [.sl a l.length cap 1 (u32Rd l),.i .u32 v] (fun r=>(r=.i .i64 (-1)∧∀ q,q<l.length→l.getD q 0≠v)∨∃ i:Nat,i<l.length∧l.getD i 0=v∧r=.i .i64 i):=by
 refine Qi Tryz.func109 rfl (by kernel_rfl) ?_;simp only[Tryz.ntmps109,Qt];(repeat refine Qc ?_);(refine Qa fun k hk=>?_;simp only[id,seval,Qb,qb69];refine hk _ ?_;clear hk k;try show Sat _ _ _ _ _);(repeat refine Qc ?_);(refine Qa fun k hk=>?_;simp only[id,seval,Qb,qb69];refine hk _ ?_;clear hk k;try show Sat _ _ _ _ _);(repeat refine Qc ?_);refine Sat.block ?_;refine Qo (ι:=Nat) (fun i=>⟨19,[(8,.i .i64 i),(7,.i .i64 l.length),(0,.sl a l.length cap 1 (u32Rd l)),(1,.i .u32 v)],[]⟩)
  (fun i=>i≤l.length∧∀ q,q<i→l.getD q 0≠v) (fun i=>l.length - i) 0 ⟨Nat.zero_le _,fun q h=>by omega⟩ (by simp only[id,seval,Qb,qb70];first|rfl|trace_state) ?_
 rintro i ⟨hi,hq⟩;(repeat refine Qc ?_);(refine Qa fun k hk=>?_;simp only[id,seval,Qb,qb69];refine hk _ ?_;clear hk k;try show Sat _ _ _ _ _);(repeat refine Qc ?_);refine Qe rfl (fun h=>?_) (fun h=>?_)
 ·have h1:i<l.length:=by simp only[decide_eq_true_eq] at h;omega
  have e3:IntKind.i64.wrap ((i:Int)+1)=((i+1:Nat):Int):=by rw[w64 (by omega)];omega
  have q8:u32Rd l i 0=.i .u32 (l.getD i 0):=rfl;refine Sat.skip ?_;simp only[Qf];(repeat refine Qc ?_);refine Sat.block ?_;(repeat refine Qc ?_);(refine Qa fun k hk=>?_;simp only[id,seval,Qb,qb69];refine hk _ ?_;clear hk k;try show Sat _ _ _ _ _);(repeat refine Qc ?_);(refine Qa fun k hk=>?_;simp only[id,seval,Qb,qb69]);simp only[q8,id,seval,Int.reduceToNat,Qb,qb71];refine⟨by omega,?_⟩;(refine hk _ ?_;clear hk k;try show Sat _ _ _ _ _);refine Qe rfl (fun h2=>?_) (fun h2=>?_)
  ·(repeat refine Qc ?_);(refine Qa fun k hk=>?_;simp only[id,seval,Qb,qb69];refine hk _ ?_;clear hk k;try show Sat _ _ _ _ _);refine Sat.ret ?_;simp only[Qg,Tryz.results109,id,seval,Int.reduceToNat,Qb,qb71];exact .inr ⟨i,h1,by simpa using Eq.symm (by simpa using h2),rfl⟩
  ·refine Sat.skip ?_;simp only[Qf,Qg];refine Qa fun k hk=>?_;simp only[id,seval,Qb,e3,qb69];refine hk _ ?_;simp only[Qf,Qg];refine⟨i+1,⟨h1,fun q hq2=>?_⟩,by omega,?_⟩
   ·by_cases e:q=i
    ·subst e;exact fun e9=>by rw[e9] at h2;simp at h2
    ·exact hq q (by omega)
   ·simp only[id,seval,Qb,qb70]
 ·have h1:i=l.length:=by simp only[decide_eq_false_iff_not] at h;omega
  subst h1;refine Sat.exit ?_;simp only[Qf,Qg,reduceIte];(repeat refine Qc ?_);(refine Qa fun k hk=>?_;simp only[id,seval,Qb,qb69];refine hk _ ?_;clear hk k;try show Sat _ _ _ _ _);refine Sat.ret ?_;simp only[Tryz.results109,id,seval,Int.reduceToNat,Qb,qb71];exact .inl hq
set_option maxRecDepth 100000 in
theorem containsAdC (F:Frm) (a:Option Addr) (cap:Nat) (l:List Int) (v:Int) (hl:l.length≤1000000000) :
  Contract F Tryz.prog 74 [.sl a l.length cap 1 (u32Rd l),.i .u32 v] (fun r=>r=.b (l.any fun m=>m == v)):=by
 refine Qi Tryz.func74 rfl (by kernel_rfl) ?_;simp only[Tryz.ntmps74,Qt];(repeat refine Qc ?_);(refine Qa fun k hk=>?_;simp only[id,seval,Qb,qb69];refine hk _ ?_;clear hk k;try show Sat _ _ _ _ _);(repeat refine Qc ?_);(refine Qa fun k hk=>?_;simp only[id,seval,Qb,qb69]);refine Qd (indexAdC F a cap l v hl) rfl (by rintro _ (⟨rfl,_⟩|⟨i,_,_,rfl⟩)<;>exact Qh rfl) ?_;rintro r (⟨rfl,hno⟩|⟨i,hi,hp,rfl⟩)
 ·simp only[id,seval,Qb,qb69];(refine hk _ ?_;clear hk k;try show Sat _ _ _ _ _);refine Sat.ret ?_;simp only[Tryz.results74,id,seval,Int.reduceToNat,Qb,qb71]
  have:l.any (fun m=>m == v)=false:=by
   rw[List.any_eq_false];intro x hx;obtain⟨q,hq,rfl⟩:=List.getElem_of_mem hx;have:=hno q hq;rw[List.getD_eq_getElem?_getD,List.getElem?_eq_getElem hq] at this
   simpa using this
  rw[this];rfl
 ·simp only[id,seval,Qb,qb69];(refine hk _ ?_;clear hk k;try show Sat _ _ _ _ _);refine Sat.ret ?_;simp only[Tryz.results74,id,seval,Int.reduceToNat,Qb,qb71]
  have:l.any (fun m=>m == v)=true:=by
   rw[List.any_eq_true];refine⟨l[i],List.getElem_mem hi,?_⟩;rw[List.getD_eq_getElem?_getD,List.getElem?_eq_getElem hi] at hp
   simpa using hp
  rw[this]
theorem findS_eq (o:Option Res):findS o=Xh [Q0 (o.getD default),.b o.isSome]:=by cases o<;>rfl
theorem exHolds_eq (xs:List Res) (x:Exc):Zs xs x=((findV xs x.f).isSome && ((findV xs x.s).isSome && (decide (x.a≠0) && (decide (x.a<x.b) && (togR ((findV xs x.f).getD default) ((findV xs x.s).getD default) && ((((findV xs x.f).getD default).from_ == x.a) && (((findV xs x.s).getD default).from_ == x.b))))))):=by
 unfold Zs;cases findV xs x.f<;>cases findV xs x.s<;>simp
set_option maxRecDepth 100000 in
theorem exHoldsC (F:Frm) (ad:Option Addr) (cap:Nat) (xs:List Res) (x:Exc) (hl:xs.length≤1000000000) :
  Contract F Tryz.prog 21 [.sl ad xs.length cap 17 (Qk xs.toArray),excAg x] (fun r=>r=.b (Zs xs x)):=by
 have key:=exHolds_eq xs x;refine Qi Tryz.func21 rfl (by kernel_rfl) ?_;simp only[Tryz.ntmps21,Qt,excAg,Exc.cs];(repeat refine Qc ?_);(refine Qa fun k hk=>?_;simp only[id,seval,Qb,qb69]);intro b3;(refine hk _ ?_;clear hk k;try show Sat _ _ _ _ _);refine Qs [] 3 rfl ?_;(repeat refine Qc ?_);(refine Qa fun k hk=>?_;simp only[id,seval,Qb,qb69]);refine Qd (QW (args:=[.sl ad xs.length cap 17 (Qk xs.toArray),.agg 3 fun j=>(Exc.cs x).getD (2+j) default]) (findC F ad cap xs x.f hl) ⟨QE _,sim_idn rfl rfl rfl,trivial⟩) rfl (by rintro _ rfl;exact findS_ok _) ?_;rintro _ rfl;rw[findS_eq];obtain⟨a,ha⟩:∃ a,a=(findV xs x.f).getD default:=⟨_,rfl⟩;obtain⟨p,hp⟩:∃ p,p=(findV xs x.f).isSome:=⟨_,rfl⟩;rw[← ha,← hp] at key ⊢;simp only[Xh,Q0,Res.cs,id,seval,Int.reduceToNat,Qb,qb71];intro b5;(refine hk _ ?_;clear hk k;try show Sat _ _ _ _ _);refine Qs [] 5 rfl ?_;(repeat refine Qc ?_);(refine Qa fun k hk=>?_;simp only[id,seval,Qb,qb69]);refine Qd (QW (args:=[.sl ad xs.length cap 17 (Qk xs.toArray),.agg 3 fun j=>(Exc.cs x).getD (5+j) default]) (findC F ad cap xs x.s hl) ⟨QE _,sim_idn rfl rfl rfl,trivial⟩) rfl (by rintro _ rfl;exact findS_ok _) ?_;rintro _ rfl;rw[findS_eq];obtain⟨b,hb⟩:∃ b,b=(findV xs x.s).getD default:=⟨_,rfl⟩;obtain⟨q,hq⟩:∃ q,q=(findV xs x.s).isSome:=⟨_,rfl⟩;rw[← hb,← hq] at key ⊢;simp only[Xh,Q0,Res.cs,id,seval,Int.reduceToNat,Qb,qb71];intro b7;(refine hk _ ?_;clear hk k;try show Sat _ _ _ _ _);refine Qs [] 7 rfl ?_;(repeat refine Qc ?_);refine Sat.at ⟨60,[(4,.b (Zs xs x))],[]⟩ ?_ ?_
 ·(refine Qa fun k hk=>?_;simp only[id,seval,Qb,qb69]);refine⟨fun h1=>⟨fun h2=>⟨fun h3=>⟨fun h4=>?_,fun h4=>?_⟩,fun h3=>?_⟩,fun h2=>?_⟩,fun h1=>?_⟩
  ·refine Qd (togC F a b) rfl (by rintro _ rfl;exact Qh rfl) ?_;rintro _ rfl;simp only[id,seval,Qb,qb69];refine⟨fun h5=>⟨fun h6=>?_,fun h6=>?_⟩,fun h5=>?_⟩;all_goals
    refine hk _ ?_;simp only[Qf]
   ·have e:Zs xs x=(b.from_ == x.b):=by
     rw[key,h1,h2,h5,decide_eq_true (bne_iff_ne.1 h3),decide_eq_true h4];simp only[Bool.true_and];rw[show (a.from_ == x.a)=true by simpa using h6,Bool.true_and]
    rw[e];simp only[id,seval,Qb,qb70]
   ·have e:Zs xs x=false:=by
     rw[key];rw[show (a.from_ == x.a)=false by simpa using h6];simp
    rw[e];simp only[id,seval,Qb,qb70]
   ·have e:Zs xs x=false:=by
     rw[key,h5];simp
    rw[e];simp only[id,seval,Qb,qb70]
  ·have e:Zs xs x=false:=by
    rw[key,decide_eq_false h4];simp
   refine hk _ ?_;simp only[Qf,e];simp only[id,seval,Qb,qb70]
  ·have e:Zs xs x=false:=by
    rw[key,decide_eq_false (fun h9=>by simp at h3;exact h9 h3)];simp
   refine hk _ ?_;simp only[Qf,e];simp only[id,seval,Qb,qb70]
  ·have e:Zs xs x=false:=by
    rw[key,h2];simp
   refine hk _ ?_;simp only[Qf,e];simp only[id,seval,Qb,qb70]
  ·have e:Zs xs x=false:=by
    rw[key,h1];simp
   refine hk _ ?_;simp only[Qf,e];simp only[id,seval,Qb,qb70]
 simp only[Qf,Qg];refine Sat.ret ?_;simp only[Tryz.results21,id,seval,Int.reduceToNat,Qb,qb71]
end

section
open Go.Sort Eng
namespace Eng
theorem simA_mem:∀ {l l':List SV},simA l l'→∀ s'∈l',∃ s∈l,sim s s'
 | [],[],_,s',h=>by cases h
 | [],_ :: _,h,_,_=>h.elim
 | _ :: _,[],h,_,_=>h.elim
 | s :: l,t :: l',h,s',hs=>by
  rcases List.mem_cons.1 hs with rfl|hs
  ·exact⟨s,by simp,h.1⟩
  ·obtain⟨x,hx,h2⟩:=simA_mem h.2 s' hs;exact⟨x,by simp [hx],h2⟩
theorem Sat.rebox {P:Program} {F:Frm} {n:Nat} {env:List (Nat×SV)} {own:List Own} {c:Code} {K:Exit→St→Prop} (id:Nat) {blk ty:Nat} {cs:List SV} (cs':List SV) (hid:own[id]? = some (.box blk ty cs)) (hs:simA cs cs')
  (h:Sat P F c ⟨n,env,own.set id (.box blk ty cs')⟩ K):Sat P F c ⟨n,env,own⟩ K:=by
 rintro R0 w0 a w ⟨ob,R,hr⟩;obtain⟨b1,b2,b3,b4⟩:=hr.own id _ hid;have hset:=hr.setOwn (o':=.box blk ty cs') (g:=blk) hid rfl (fun b hb=>by simpa [Own.blk] using hb.symm) (w':=w) rfl rfl rfl (Nat.le_refl _) (fun _ _ _=>rfl)
  ⟨b1,b2,by rw[← simA_den hs];exact b3,fun x hx=>by
   obtain⟨y,hy,hxy⟩:=simA_mem hs x hx;have:=b4 y hy
   exact⟨by rw[← hxy.1];exact this.1,hxy.2 R w this.2⟩⟩
 exact h R0 w0 a w ⟨ob,R,hset⟩
end Eng
theorem ev_0 (es:List Evd) (i:Nat):Xi es i 0=.i .i64 (es.getD i default).kind:=rfl
theorem ev_1 (es:List Evd) (i:Nat):Xi es i 1=.i .u32 (es.getD i default).a:=rfl
theorem ev_2 (es:List Evd) (i:Nat):Xi es i 2=.i .u32 (es.getD i default).b:=rfl
theorem ev_3 (es:List Evd) (i:Nat):Xi es i 3=.sl (es.getD i default).ad (es.getD i default).ids.length (es.getD i default).cap 3 (QX (es.getD i default).ids.toArray):=rfl
theorem sim_tt:sim .tt (.b true):=⟨rfl,fun _ _ _=>trivial⟩
end

section
open Go.Sort Eng
def qb72:=And.intro @evr (And.intro @Qm (And.intro @Qq (And.intro @ZM (@evn))))
set_option maxRecDepth 100000 in
theorem usableG (F:Frm) (x:Res):Contract F Tryz.prog 153 [Q0 x] (fun r=>r=.b (Zx x)):=by
 refine Qi Tryz.func153 rfl (by kernel_rfl) ?_;simp only[Tryz.ntmps153,Qt,Q0,Res.cs];(repeat refine Qc ?_);(refine Qa fun k hk=>?_;simp only[id,seval,Qb,qb72]);intro blk1;(refine hk _ ?_;clear hk k;try show Sat _ _ _ _ _);(repeat refine Qc ?_);refine Sat.at ⟨10,[(2,.b (Zx x))],[]⟩ ?_ ?_
 ·(refine Qa fun k hk=>?_;simp only[id,seval,Qb,qb72]);refine Qd (validG F x) rfl (by rintro _ rfl;exact Qh rfl) ?_;rintro r rfl;simp only[id,seval,Qb,qb72];refine⟨fun h1=>hk _ ?_,fun h1=>hk _ ?_⟩
  ·have e:Zx x=!x.doubled:=by simp only[Zx,h1,Bool.and_true]
   simp only[Qf,e];simp only[id,seval,Qb,evl,qb72]
  ·have e:Zx x=false:=by simp only[Zx,h1,Bool.and_false]
   simp only[Qf,e];simp only[id,seval,Qb,evl,qb72]
 simp only[Qf,Qg];refine Sat.ret ?_;simp only[Tryz.results153,evr,id,seval,Qm,Qq,List.append_nil,Int.toNat_zero,Nat.sub_self,Int.reduceToNat,ZM,Qb]
end

section
open Go.Sort Eng
def qb73:=And.intro @evr (And.intro @Qm (And.intro @Qv (And.intro @Qu (And.intro @Zm (And.intro @Zl (And.intro @Zk (And.intro @Qq (And.intro @Qj (And.intro @Xk (@evn))))))))))
def qb75:=And.intro @evr (And.intro @Qm (And.intro @Qv (And.intro @Qu (And.intro @Zm (And.intro @Zl (And.intro @Zk (And.intro @List.append_nil.{0} (And.intro @Int.toNat_zero (And.intro @Nat.sub_self (And.intro @Qq (And.intro @Qj (@Xk))))))))))))
def qb74:=And.intro @evr (And.intro @Qm (And.intro @Qv (And.intro @Qu (And.intro @Zm (And.intro @Zl (And.intro @Zk (And.intro @Qq (And.intro @Qj (And.intro @Xk (And.intro @evl (@evn)))))))))))
set_option maxRecDepth 100000 in
set_option maxHeartbeats 1000000 in
set_option maxRecDepth 100000 in
set_option maxHeartbeats 1000000 in
set_option maxRecDepth 100000 in
theorem refValidEvC (F:Frm) (e:Evd) (he:e.ids.length≤1000000000):Contract F Tryz.prog 33 [evAg e] (fun r=>r=.b (Xa e)):=by
 refine Qi Tryz.func33 rfl (by kernel_rfl) ?_;simp only[Tryz.ntmps33,Qt,evAg,Evd.cs];(repeat refine Qc ?_);(refine Qa fun k hk=>?_;simp only[id,seval,Qb,qb73]);intro b1;(refine hk _ ?_;clear hk k;try show Sat _ _ _ _ _);(repeat refine Qc ?_);refine QT (ι:=Bool) (fun q=>⟨50,[(29,.b q),(1,.op 0 b1 0),(2,.ff)],[.box b1 32 (Evd.cs e)]⟩) (fun q=>q=!evPre e) ?_ ?_
 ·(refine Qa fun k hk=>?_;simp only[id,seval,Qb,qb73]);refine⟨fun h1=>?_,fun h1=>⟨fun h2=>?_,fun h2=>⟨fun h3=>?_,fun h3=>⟨fun h4=>?_,fun h4=>?_⟩⟩⟩⟩
  ·refine hk _ ?_;simp only[Qf];refine⟨true,by unfold evPre;symm;rw[Bool.not_eq_true',decide_eq_false_iff_not];omega,?_⟩;simp only[Evd.cs];simp only[id,seval,Qb,qb74]
  ·refine hk _ ?_;simp only[Qf];refine⟨true,by unfold evPre;symm;rw[Bool.not_eq_true',decide_eq_false_iff_not];omega,?_⟩;simp only[Evd.cs];simp only[id,seval,Qb,qb74]
  ·refine hk _ ?_;simp only[Qf];refine⟨true,by unfold evPre;symm;rw[Bool.not_eq_true',decide_eq_false_iff_not];(rw[beq_iff_eq] at h3;exact fun hh=>hh.2.1 h3),?_⟩;simp only[Evd.cs];simp only[id,seval,Qb,qb74]
  ·refine hk _ ?_;simp only[Qf];refine⟨true,by unfold evPre;symm;rw[Bool.not_eq_true',decide_eq_false_iff_not];omega,?_⟩;simp only[Evd.cs];simp only[id,seval,Qb,qb74]
  ·refine hk _ ?_;simp only[Qf];refine⟨((e.ids.length:Int) == 0),?_,?_⟩;rotate_left
   ·simp only[Evd.cs];simp only[id,seval,Qb,qb74]
   ·rw[beq_eq_false_iff_ne] at h3;unfold evPre;by_cases h5:e.ids.length=0
    ·simp [h5]
    ·have a1:((e.ids.length:Int) == 0)=false:=by rw[beq_eq_false_iff_ne];omega
     rw[a1,decide_eq_true ⟨⟨by omega,by omega⟩,h3,by omega,h5⟩];rfl
 rintro q rfl;simp only[Evd.cs];(repeat refine Qc ?_);refine Qe rfl (fun h=>?_) (fun h=>?_)
 ·have hp:evPre e=false:=by simpa using h
  (repeat refine Qc ?_);(refine Qa fun k hk=>?_;simp only[id,seval,Qb,qb73];refine hk _ ?_;clear hk k;try show Sat _ _ _ _ _);refine Sat.ret ?_;simp only[Tryz.results33,id,seval,Int.reduceToNat,Qb,qb75];unfold Xa;rw[hp];rfl
 have hp:evPre e=true:=by simpa using h
 refine Sat.skip ?_;simp only[Qf]
 have hlen:e.ids.length≠0:=by
  unfold evPre at hp;exact (of_decide_eq_true hp).2.2.2
 (repeat refine Qc ?_);(refine Qa fun k hk=>?_;simp only[id,seval,Qb,qb73];refine hk _ ?_;clear hk k;try show Sat _ _ _ _ _);(repeat refine Qc ?_);refine Sat.block ?_;refine Qo (ι:=Nat) (fun i=>⟨50,[(3,.i .i64 i),(1,.op 0 b1 0),(2,.ff)],[.box b1 32 [.i .i64 e.kind,.i .u32 e.a,.i .u32 e.b,.sl e.ad e.ids.length e.cap 3 (QX e.ids.toArray)]]⟩)
  (fun i=>1≤i∧i≤e.ids.length∧∀ q,q+1<i→Za (e.ids.getD q default) (e.ids.getD (q+1) default)=true) (fun i=>e.ids.length - i) 1 ⟨Nat.le_refl _,by omega,fun q hq=>by omega⟩ (by simp only[id,seval,Qb,qb74];try rfl) ?_
 rintro i ⟨hi1,hi,hq⟩;(repeat refine Qc ?_);(refine Qa fun k hk=>?_;simp only[id,seval,Qb,qb73];refine hk _ ?_;clear hk k;try show Sat _ _ _ _ _);(repeat refine Qc ?_);refine Qe rfl (fun h2=>?_) (fun h2=>?_)
 ·have hlt:i<e.ids.length:=by simp only[decide_eq_true_eq] at h2;omega
  have e1:IntKind.i64.wrap ((i:Int)+1)=((i+1:Nat):Int):=by rw[w64 (by omega)];omega
  have e2:IntKind.i64.wrap ((i:Int) - 1)=((i - 1:Nat):Int):=by rw[w64 (by omega)];omega
  refine Sat.skip ?_;simp only[Qf];(repeat refine Qc ?_);refine Sat.block ?_;(repeat refine Qc ?_);(refine Sat.region_rows [⟨0,38,2,0⟩,⟨1,39,137438953472,1⟩,⟨0,40,8,0⟩,⟨4,41,549755813888,0⟩,⟨10,42,1374389534720,0⟩,⟨16,43,2199023255552,1⟩,⟨0,44,2,0⟩,⟨64,45,8796093022208,1⟩,⟨0,46,8,0⟩,⟨384,47,52776558133248,0⟩,⟨512,48,70368744177664,1⟩,⟨1056,49,145135534866432,2⟩,⟨2048,50,281474976710656,0⟩] [0,2,3,6,8,1,7,4,9,5,10] [(11,false),(12,false)] [] (by kernel_rfl) (by kernel_rfl) (fun _ _ h=>h) fun k hk=>?_;simp only[List.map_cons,List.map_nil,List.getD_cons_zero,List.getD_cons_succ,btseq_cons,btseq_free,btseq_nil];simp only[id,seval,Qb,qb73]);simp only[e2,Int.toNat_natCast];refine⟨⟨by omega,by omega⟩,by omega,?_⟩;refine Qd (ZF F e.ids.toArray[i - 1]! e.ids.toArray[i]!) rfl (by rintro _ rfl;exact Qh rfl) ?_;rintro _ rfl;simp only[id,seval,Qb,qb73];(refine hk _ ?_;clear hk k;try show Sat _ _ _ _ _);have g1:e.ids.toArray[i - 1]! = e.ids.getD (i - 1) default:=by simp [getElem!_def,List.getD,show i - 1<e.ids.length by omega]
  have g2:e.ids.toArray[i]! = e.ids.getD i default:=by simp [getElem!_def,List.getD,hlt]
  rw[g1,g2];(repeat refine Qc ?_);refine Qe rfl (fun h3=>?_) (fun h3=>?_)
  ·have hno:Za (e.ids.getD (i - 1) default) (e.ids.getD i default)=false:=by
    unfold Za;simp only[decide_eq_true_eq,ge_iff_le] at h3;rw[decide_eq_false_iff_not];omega
   (repeat refine Qc ?_);(refine Qa fun k hk=>?_;simp only[id,seval,Qb,qb73];refine hk _ ?_;clear hk k;try show Sat _ _ _ _ _);refine Sat.ret ?_;simp only[Qg,Tryz.results33,id,seval,Int.reduceToNat,Qb,qb75]
   have:idsAsc e.ids=false:=by
    cases hA:idsAsc e.ids with
    | false=>rfl
    | true=>
     unfold idsAsc at hA;have:=of_decide_eq_true hA (i - 1) (by omega);rw[show i - 1+1=i by omega,hno] at this;cases this
   unfold Xa;rw[this,Bool.and_false]
  have hyes:Za (e.ids.getD (i - 1) default) (e.ids.getD i default)=true:=by
   unfold Za;simp only[decide_eq_false_iff_not,ge_iff_le] at h3;rw[decide_eq_true_eq];omega
  refine Sat.skip ?_;simp only[Qf,Qg];refine Qa fun k hk=>?_;simp only[id,seval,Qb,e1,qb73];refine hk _ ?_;simp only[Qf,Qg];refine⟨i+1,⟨by omega,by omega,fun q hq2=>?_⟩,by omega,?_⟩
  ·by_cases hqi:q+1<i
   ·exact hq q hqi
   ·obtain rfl:q=i - 1:=by omega
    rw[show i - 1+1=i by omega];exact hyes
  ·simp only[id,seval,Qb,qb74]
 ·have hie:i=e.ids.length:=by simp only[decide_eq_false_iff_not] at h2;omega
  refine Sat.exit ?_;simp only[Qf,Qg,reduceIte];(repeat refine Qc ?_);(refine Qa fun k hk=>?_;simp only[id,seval,Qb,qb73];refine hk _ ?_;clear hk k;try show Sat _ _ _ _ _);refine Sat.ret ?_;simp only[Tryz.results33,id,seval,Int.reduceToNat,Qb,qb75]
  have:idsAsc e.ids=true:=by
   unfold idsAsc;rw[decide_eq_true_eq];intro q hq2;exact hq q (by omega)
  unfold Xa;rw[hp,this];rfl
theorem wCompare_tr {a b c:Res} (h:QL a b<0) (g:QL b c<0):QL a c<0:=ZO a.wkeys b.wkeys c.wkeys rfl rfl h g
theorem wCompare_tot (a b:Res):QL a b<0∨QL a b=0∨QL b a<0:=by
 unfold QL;have h1:=cmpL_neg a.wkeys b.wkeys;rcases cmpL_vals a.wkeys b.wkeys with h|h|h<;>omega
theorem wCompare_lt_of_eq {a b c:Res} (h:QL a b=0) (g:QL a c<0):QL b c<0:=by
 have e:a.wkeys=b.wkeys:=(Xo a.wkeys b.wkeys rfl).1 h;unfold QL at g ⊢;rw[← e];exact g
theorem findV_min {d:Idn}:∀ {xs:List Res} {o:Option Res} {r:Res},xs.foldl (XJ d) o=some r→(∀ s∈xs,QH s=true→s.idn=d→¬ QL s r<0)∧(∀ b,o=some b→¬ QL b r<0)
 | [],o,r,h=>⟨fun s hs=>(by cases hs),fun b hb=>by
  have e:o=some r:=h;rw[hb] at e;cases e
  unfold QL;rw[Xp]
  decide⟩
 | x :: xs,o,r,h=>by
  obtain⟨h1,h2⟩:=findV_min (xs:=xs) h
  have key:(QH x=true→x.idn=d→¬ QL x r<0)∧(∀ b,o=some b→¬ QL b r<0):=by
   unfold XJ at h2;split at h2
   ·rename_i hp;have hx:=h2 x rfl;refine⟨fun _ _=>hx,fun b hb hlt=>?_⟩;subst hb;simp only[findP,Bool.and_eq_true,decide_eq_true_eq] at hp;exact hx (wCompare_tr hp.2.1 hlt)
   ·rename_i hp;refine⟨fun hv hd hlt=>?_,h2⟩
    match o,h2,hp with
    | none,_,hp=>exact hp (by simp [findP,hv,hd])
    | some b,h2,hp=>
     have hb:=h2 b rfl
     have:¬ QL x b<0:=fun h9=>hp (by simp [findP,hv,hd,h9])
     rcases wCompare_tot x b with h9|h9|h9
     ·exact this h9
     ·exact hb (wCompare_lt_of_eq h9 hlt)
     ·exact hb (wCompare_tr h9 hlt)
  refine⟨fun s hs hv hd=>?_,key.2⟩;rcases List.mem_cons.1 hs with rfl|hs
  ·exact key.1 hv hd
  ·exact h1 s hs hv hd
theorem ord_lt {a b:Res} (ha:RgR a) (hb:RgR b) (h:Xb a b=true):QL a b<0:=by
 unfold Xb at h;have h2:=of_decide_eq_true h;unfold QL;rw[wkeys_in ha.1 ha.2,wkeys_in hb.1 hb.2];exact h2
theorem findV_ord {xs ys:List Res} {d:Idn} (h:OrdOf xs ys) (hin:∀ r∈xs,RgR r) {i:Nat} (hi:i<ys.length) (hd:(ys.getD i default).idn=d) (hq:∀ q,q<i→(ys.getD q default).idn≠d):findV xs d=some (ys.getD i default):=by
 have hat:∀ q,q<ys.length→ys.getD q default=ys[q]! := fun q h=>by simp [getElem!_def,List.getD,h]
 have hgi:ys.getD i default=ys[i]:=by rw[List.getD_eq_getElem?_getD,List.getElem?_eq_getElem hi];rfl
 rw[hgi] at hd ⊢;have hm:=(h.2 ys[i]).1 (List.getElem_mem _);cases hf:findV xs d with
 | none=>exact absurd hd ((findV_none hf).2 _ hm.1 hm.2)
 | some r=>
  rcases findV_some hf with ⟨h1,h2,h3⟩|h1
  ·obtain⟨j,hj,rfl⟩:=List.getElem_of_mem ((h.2 r).2 ⟨h1,h2⟩);rcases Nat.lt_trichotomy j i with g|g|g
   ·exact absurd h3 (by have:=hq j g;rwa [List.getD_eq_getElem?_getD,List.getElem?_eq_getElem hj] at this)
   ·subst g;rfl
   ·have hlt:=ord_lt (hin _ hm.1) (hin _ h1) (List.pairwise_iff_getElem.1 h.1 i j hi hj g);exact absurd hlt ((findV_min hf).1 _ hm.1 hm.2 hd)
  ·cases h1
theorem findV_ordN {xs ys:List Res} {d:Idn} (h:OrdOf xs ys) (hq:∀ q,q<ys.length→(ys.getD q default).idn≠d):findV xs d=none:=by
 cases hf:findV xs d with
 | none=>rfl
 | some r=>
  rcases findV_some hf with ⟨h1,h2,h3⟩|h1
  ·obtain⟨j,hj,rfl⟩:=List.getElem_of_mem ((h.2 r).2 ⟨h1,h2⟩);exact absurd h3 (by have:=hq j hj;rwa [List.getD_eq_getElem?_getD,List.getElem?_eq_getElem hj] at this)
  ·cases h1
set_option maxHeartbeats 1000000 in
set_option maxRecDepth 100000 in
theorem findG (F:Frm) (ad:Option Addr) (cap:Nat) (xs:List Res) (d:Idn) (hl:xs.length≤1000000000) (hin:∀ r∈xs,RgR r) :
  Contract F Tryz.prog 70 [.sl ad xs.length cap 17 (Qk xs.toArray),idnAg d] (fun r=>r=findS (findV xs d)):=by
 refine Qi Tryz.func70 rfl (by kernel_rfl) ?_;simp only[Tryz.ntmps70,Qt,idnAg,Idn.cs];(repeat refine Qc ?_);(refine Qa fun k hk=>?_;simp only[id,seval,Qb,qb73]);intro b3 b4;(refine hk _ ?_;clear hk k;try show Sat _ _ _ _ _);(repeat refine Qc ?_);(refine Qa fun k hk=>?_;simp only[id,seval,Qb,qb73]);refine Q8 (orderG F ad cap xs hl hin) rfl (by simp only[id,seval,Qb,qb73];try rfl) ?_;rintro ya ty len yc sz rrd ⟨a1,c1,ys,hord,hyl,e⟩;simp only[Qb,Own.row.injEq] at e;obtain⟨rfl,rfl,rfl,rfl,rfl,rfl⟩:=e;simp only[id,seval,Qb,qb73];(refine hk _ ?_;clear hk k;try show Sat _ _ _ _ _);refine Zo 6 rfl rfl ?_;simp only[id,seval,Qb,qb73];(repeat refine Qc ?_);(refine Qa fun k hk=>?_;simp only[id,seval,Qb,qb73];refine hk _ ?_;clear hk k;try show Sat _ _ _ _ _);(repeat refine Qc ?_);refine Sat.block ?_;refine Qo (ι:=Nat) (fun i=>⟨28,[(7,.i .i64 i),(6,.sl ya ys.length yc 17 (Qk ys.toArray)),(5,.b false),(4,.op 1 b4 0),(3,.op 0 b3 0)],[.box b3 27 [.i .i64 d.van,.i .i64 d.run,.i .i64 d.num],.box b4 62 (Res.cs default)]⟩)
  (fun i=>i≤ys.length∧∀ q,q<i→(ys.getD q default).idn≠d) (fun i=>ys.length - i) 0 ⟨Nat.zero_le _,fun q hq=>by omega⟩ (by simp only[Res.cs];simp only[id,seval,Qb,qb74];try rfl) ?_
 rintro i ⟨hi,hq⟩;simp only[Res.cs];(repeat refine Qc ?_);(refine Qa fun k hk=>?_;simp only[id,seval,Qb,qb73];refine hk _ ?_;clear hk k;try show Sat _ _ _ _ _);(repeat refine Qc ?_);refine Qe rfl (fun h=>?_) (fun h=>?_)
 ·have h1:i<ys.length:=by simp only[decide_eq_true_eq] at h;omega
  have e1:IntKind.i64.wrap ((i:Int)+1)=((i+1:Nat):Int):=by rw[w64 (by omega)];omega
  obtain⟨x,hx⟩:∃ x,x=ys.toArray[i]! := ⟨_,rfl⟩;have hxg:ys.getD i default=x:=by rw[hx];simp [getElem!_def,List.getD,h1]
  refine Sat.skip ?_;simp only[Qf];(repeat refine Qc ?_);refine Sat.block ?_;(repeat refine Qc ?_);(refine Qr (by kernel_rfl) (by kernel_rfl) fun k hk=>?_;simp only[id,seval,Qb,qb73]);refine⟨by omega,?_⟩;refine ZV (identG Frm.nil ys.toArray[i]!) rfl (ok_aggL (l:=[SV.i .i64 _,.i .i64 _,.i .i64 _]) rfl) ?_;rw[← hx];simp only[Z7,id_eq,id,seval,Int.reduceToNat,Qb,qb75];refine hk _ ?_;clear hk k;try show Sat _ _ _ _ _
  (repeat refine Qc ?_);refine Qe rfl (fun h2=>?_) (fun h2=>?_)
  ·have hid:(ys.getD i default).idn=d:=by rw[hxg];exact of_decide_eq_true h2
   (repeat refine Qc ?_);(refine Qa fun k hk=>?_;simp only[id,seval,Qb,qb73]);refine⟨by omega,?_⟩;(refine hk _ ?_;clear hk k;try show Sat _ _ _ _ _);refine Sat.ret ?_;simp only[Qg,Tryz.results70,id,seval,Int.reduceToNat,Qb,qb75];rw[findV_ord hord hin h1 hid hq,hxg,hx];rfl
  have hid:(ys.getD i default).idn≠d:=by rw[hxg];exact of_decide_eq_false h2
  refine Sat.skip ?_;simp only[Qf,Qg,reduceIte];refine Qa fun k hk=>?_;simp only[id,seval,Qb,e1,qb73];refine hk _ ?_;simp only[Qf,Qg];refine⟨i+1,⟨by omega,fun q hq2=>?_⟩,by omega,?_⟩
  ·by_cases e:q<i
   ·exact hq q e
   ·obtain rfl:q=i:=by omega
    exact hid
  try simp only[Res.cs]
  simp only[id,seval,Qb,qb74]
 have h1:i=ys.length:=by simp only[decide_eq_false_iff_not] at h;omega
 subst h1;refine Sat.exit ?_;simp only[Qf,Qg,reduceIte];(repeat refine Qc ?_);(refine Qa fun k hk=>?_;simp only[id,seval,Qb,qb73]);(refine hk _ ?_;clear hk k;try show Sat _ _ _ _ _);refine Sat.ret ?_;simp only[Tryz.results70,id,seval,Int.reduceToNat,Qb,qb75];rw[findV_ordN hord hq];rfl
set_option maxRecDepth 100000 in
theorem refLimitedC (F:Frm) (ad:Option Addr) (cap:Nat) (xs:List Res) (hl:xs.length≤512) (hin:∀ r∈xs,RgR r) :
  Contract F Tryz.prog 50 [.sl ad xs.length cap 17 (Qk xs.toArray)] (fun r=>r=.i .i64 (if xs.any (fun x=>!QH x)=true then 1 else 0)):=by
 refine Qi Tryz.func50 rfl (by kernel_rfl) ?_;simp only[Tryz.ntmps50,Qt];(repeat refine Qc ?_);(refine Qa fun k hk=>?_;simp only[id,seval,Qb,qb73];refine hk _ ?_;clear hk k;try show Sat _ _ _ _ _);(repeat refine Qc ?_);(refine Qa fun k hk=>?_;simp only[id,seval,Qb,qb73];refine hk _ ?_;clear hk k;try show Sat _ _ _ _ _);(repeat refine Qc ?_);refine Sat.block ?_;refine Qo (ι:=Nat) (fun i=>⟨20,[(3,.i .i64 i),(0,.sl ad xs.length cap 17 (Qk xs.toArray))],[]⟩)
  (fun i=>i≤xs.length∧∀ q,q<i→QH (xs.getD q default)=true) (fun i=>xs.length - i) 0 ⟨Nat.zero_le _,fun q hq=>by omega⟩ (by simp only[id,seval,Qb,qb74];try rfl) ?_
 rintro i ⟨hi,hq⟩;(repeat refine Qc ?_);(refine Qa fun k hk=>?_;simp only[id,seval,Qb,qb73];refine hk _ ?_;clear hk k;try show Sat _ _ _ _ _);(repeat refine Qc ?_);refine Qe rfl (fun h=>?_) (fun h=>?_)
 ·have h1:i<xs.length:=by simp only[decide_eq_true_eq] at h;omega
  have e1:IntKind.i64.wrap ((i:Int)+1)=((i+1:Nat):Int):=by rw[w64 (by omega)];omega
  have hxg:xs.toArray[i]! = xs.getD i default:=by simp [getElem!_def,List.getD,h1]
  refine Sat.skip ?_;simp only[Qf];(repeat refine Qc ?_);refine Sat.block ?_;(repeat refine Qc ?_);(refine Qa fun k hk=>?_;simp only[id,seval,Qb,qb73]);refine⟨by omega,?_⟩;refine Qd (validG F xs.toArray[i]!) rfl (by rintro _ rfl;exact Qh rfl) ?_;rintro _ rfl;rw[hxg];simp only[id,seval,Qb,qb73];(refine hk _ ?_;clear hk k;try show Sat _ _ _ _ _);(repeat refine Qc ?_);refine Qe rfl (fun h2=>?_) (fun h2=>?_)
  ·(repeat refine Qc ?_);(refine Qa fun k hk=>?_;simp only[id,seval,Qb,qb73];refine hk _ ?_;clear hk k;try show Sat _ _ _ _ _);refine Sat.ret ?_;simp only[Qg,Tryz.results50,id,seval,Int.reduceToNat,Qb,qb75];rw[if_pos (List.any_eq_true.2 ⟨xs.getD i default,Q3 h1,h2⟩)]
  have hv:QH (xs.getD i default)=true:=by simpa using h2
  refine Sat.skip ?_;simp only[Qf,Qg,reduceIte];refine Qa fun k hk=>?_;simp only[id,seval,Qb,e1,qb73];refine hk _ ?_;simp only[Qf,Qg];refine⟨i+1,⟨by omega,fun q hq2=>?_⟩,by omega,?_⟩
  ·by_cases e:q<i
   ·exact hq q e
   ·obtain rfl:q=i:=by omega
    exact hv
  simp only[id,seval,Qb,qb74]
 have h1:i=xs.length:=by simp only[decide_eq_false_iff_not] at h;omega
 subst h1
 have hall:xs.any (fun x=>!QH x)=false:=by
  rw[List.any_eq_false];intro x hx;obtain⟨q,hq2,rfl⟩:=List.getElem_of_mem hx;have:=hq q hq2;rw[List.getD_eq_getElem?_getD,List.getElem?_eq_getElem hq2] at this
  simpa using this
 refine Sat.exit ?_;simp only[Qf,Qg,reduceIte];(repeat refine Qc ?_);(refine Qa fun k hk=>?_;simp only[id,seval,Qb,qb73]);refine Q8 (orderG F ad cap xs (by omega) hin) rfl (by simp only[id,seval,Qb,qb73];try rfl) ?_;rintro ya ty len yc sz rrd ⟨a1,c1,ys,hord,hyl,e⟩;simp only[Qb,Own.row.injEq] at e;obtain⟨rfl,rfl,rfl,rfl,rfl,rfl⟩:=e;simp only[id,seval,Qb,qb73];(refine hk _ ?_;clear hk k;try show Sat _ _ _ _ _);refine Qe rfl (fun h2=>?_) (fun h2=>?_)
 ·simp at h2;omega
 refine Sat.skip ?_;simp only[Qf];(repeat refine Qc ?_);(refine Qa fun k hk=>?_;simp only[id,seval,Qb,qb73];refine hk _ ?_;clear hk k;try show Sat _ _ _ _ _);refine Sat.ret ?_;simp only[Tryz.results50,id,seval,Int.reduceToNat,Qb,qb75];rw[hall];rfl
end

section
open Go.Sort Eng
def qb76:=And.intro @evr (And.intro @treEqs (And.intro @Qm (And.intro @QY (And.intro @Qu (And.intro @Zm (And.intro @Zl (And.intro @Zk (And.intro @Qv (And.intro @Qq (And.intro @Qj (@evn)))))))))))
def qb77:=And.intro @evr (And.intro @treEqs (And.intro @Qm (And.intro @QY (And.intro @Qu (And.intro @Zm (And.intro @Zl (And.intro @Zk (And.intro @Qv (And.intro @Qq (And.intro @Qj (And.intro @evl (@evn))))))))))))
def qb78:=And.intro @evr (And.intro @treEqs (And.intro @Qm (And.intro @QY (And.intro @Qu (And.intro @Zm (And.intro @Zl (And.intro @Zk (And.intro @Qv (And.intro @List.append_nil.{0} (And.intro @Int.toNat_zero (And.intro @Nat.sub_self (And.intro @Qq (@Qj)))))))))))))
set_option maxRecDepth 100000 in
theorem rfWayC (F:Frm) (x:Res):Contract F Tryz.prog 105 [Q0 x] (fun r=>r=.b (Xu x)):=by
 have key:Xu x=(Zx x && (x.answered && (x.kind == 1))):=by
  unfold Xu;cases x.answered<;>cases Zx x<;>cases (x.kind == 1)<;>rfl
 refine Qi Tryz.func105 rfl (by kernel_rfl) ?_;simp only[Tryz.ntmps105,Qt,Q0,Res.cs];(repeat refine Qc ?_);(refine Qa fun k hk=>?_;simp only[id,seval,Qb,qb76]);intro b1;(refine hk _ ?_;clear hk k;try show Sat _ _ _ _ _);(repeat refine Qc ?_);refine Sat.at ⟨15,[(2,.b (Xu x))],[]⟩ ?_ ?_
 ·(refine Qa fun k hk=>?_;simp only[id,seval,Qb,qb76]);refine Qd (usableG F x) rfl (by rintro _ rfl;exact Qh rfl) ?_;rintro r rfl;simp only[id,seval,Qb,qb76];refine⟨fun h1=>⟨fun h2=>?_,fun h2=>?_⟩,fun h1=>?_⟩
  ·have e:Xu x=(x.kind == 1):=by rw[key,h1,h2];rfl
   refine hk _ ?_;simp only[Qf,e];simp only[id,seval,Qb,qb77]
  ·have e:Xu x=false:=by rw[key,h1,h2];rfl
   refine hk _ ?_;simp only[Qf,e];simp only[id,seval,Qb,qb77]
  ·have e:Xu x=false:=by rw[key,h1];rfl
   refine hk _ ?_;simp only[Qf,e];simp only[id,seval,Qb,qb77]
 simp only[Qf,Qg];refine Sat.ret ?_;simp only[Tryz.results105,id,seval,Int.reduceToNat,Qb,qb78]
theorem tog_key (x y:Res):togR x y=(Xu x && (Xu y && (decide (x.tre=y.tre) && ((x.flow == y.flow) && (x.ttl != y.ttl))))):=by
 unfold togR;cases Xu x<;>cases Xu y<;>cases (x.flow == y.flow)<;>cases (x.ttl != y.ttl)<;>simp
set_option maxRecDepth 100000 in
theorem rfTogC (F:Frm) (x y:Res):Contract F Tryz.prog 75 [Q0 x,Q0 y] (fun r=>r=.b (togR x y)):=by
 have key:=tog_key x y;refine Qi Tryz.func75 rfl (by kernel_rfl) ?_;simp only[Tryz.ntmps75,Qt,Q0,Res.cs];(repeat refine Qc ?_);(refine Qa fun k hk=>?_;simp only[id,seval,Qb,qb76]);intro b2 b3;(refine hk _ ?_;clear hk k;try show Sat _ _ _ _ _);refine Q9 2 rfl rfl ?_;refine Q9 3 rfl rfl ?_;refine Sat.le (st':=⟨32,[(2,.el ⟨b2,0,none⟩ 17 fun j=>(Res.cs x).getD j default),(3,.el ⟨b3,0,none⟩ 17 fun j=>(Res.cs y).getD j default)],[]⟩) ?_ (by simp only[Res.cs];simp only[id,seval,Qb,qb77];first|done|exact⟨rfl,rfl⟩);simp only[Res.cs];(repeat refine Qc ?_);refine Sat.at ⟨32,[(4,.b (togR x y))],[]⟩ ?_ ?_
 ·(refine Qr (by kernel_rfl) (by kernel_rfl) fun k hk=>?_;simp only[id,seval,Qb,qb76]);refine ZV (rfWayC Frm.nil x) rfl (Qh rfl) ?_;simp only[id,seval,Qb,qb76];refine⟨fun h1=>?_,fun h1=>?_⟩
  ·refine ZV (rfWayC Frm.nil y) rfl (Qh rfl) ?_;simp only[id,seval,Qb,qb76];refine⟨fun h2=>?_,fun h2=>?_⟩
   ·refine ZV (traceOfG Frm.nil x) rfl (Xs _) ?_;simp only[QZ,id,seval,Int.reduceToNat,Qb,qb78];refine ZV (traceOfG Frm.nil y) rfl (Xs _) ?_;simp only[QZ,id,seval,Int.reduceToNat,Qb,qb78];rw[treEq_dec];refine⟨fun h3=>⟨fun h4=>?_,fun h4=>?_⟩,fun h3=>?_⟩
    ·have e:togR x y=(x.ttl != y.ttl):=by rw[key,h1,h2,h3,h4];rfl
     refine hk _ ?_;simp only[Qf,e];simp only[id,seval,Qb,qb77]
    ·have e:togR x y=false:=by rw[key,h4];simp
     refine hk _ ?_;simp only[Qf,e];simp only[id,seval,Qb,qb77]
    ·have e:togR x y=false:=by rw[key,h3];simp
     refine hk _ ?_;simp only[Qf,e];simp only[id,seval,Qb,qb77]
   ·have e:togR x y=false:=by rw[key,h2];simp
    refine hk _ ?_;simp only[Qf,e];simp only[id,seval,Qb,qb77]
  ·have e:togR x y=false:=by rw[key,h1];rfl
   refine hk _ ?_;simp only[Qf,e];simp only[id,seval,Qb,qb77]
 simp only[Qf,Qg];refine Sat.ret ?_;simp only[Tryz.results75,id,seval,Int.reduceToNat,Qb,qb78]
set_option maxRecDepth 100000 in
theorem rfFolC (F:Frm) (x y:Res):Contract F Tryz.prog 31 [Q0 x,Q0 y] (fun r=>r=.b (folR x y)):=by
 refine Qi Tryz.func31 rfl (by kernel_rfl) ?_;simp only[Tryz.ntmps31,Qt,Q0,Res.cs];(repeat refine Qc ?_);(refine Qa fun k hk=>?_;simp only[id,seval,Qb,qb76]);intro blk1 blk2;(refine hk _ ?_;clear hk k;try show Sat _ _ _ _ _);(repeat refine Qc ?_);refine Sat.at ⟨25,[(4,.b (folR x y))],[]⟩ ?_ ?_
 ·(refine Qa fun k hk=>?_;simp only[id,seval,Qb,qb76]);refine Qd (rfTogC F x y) rfl (by rintro _ rfl;exact Qh rfl) ?_;rintro r rfl;simp only[id,seval,Qb,qb76];refine⟨fun h1=>?_,fun h1=>?_⟩
  ·have hw:IntKind.i64.wrap (x.ttl+1)=x.ttl+1:=by
    have:=wayR_ttl (x:=x) (by simp only[togR,Bool.and_eq_true] at h1;exact h1.2.2.2.1);exact w64 (by omega)
   rw[hw];refine⟨fun h2=>hk _ ?_,fun h2=>hk _ ?_⟩
   ·have e:folR x y=(x.from_ != y.from_):=by simp only[folR,h1,h2];rfl
    simp only[Qf,e];simp only[id,seval,Qb,qb77]
   ·have e:folR x y=false:=by simp only[folR,h1,h2];rfl
    simp only[Qf,e];simp only[id,seval,Qb,qb77]
  ·have e:folR x y=false:=by simp only[folR,h1];rfl
   refine hk _ ?_;simp only[Qf,e];simp only[id,seval,Qb,qb77]
 simp only[Qf,Qg];refine Sat.ret ?_;simp only[Tryz.results31,id,seval,Int.reduceToNat,Qb,qb78]
def provR (x y:Res) (a b:Int):Bool:=decide (a<b) && (togR x y && ((x.from_ == a) && (y.from_ == b)))
set_option maxRecDepth 100000 in
theorem rfProvC (F:Frm) (x y:Res) (a b:Int):Contract F Tryz.prog 52 [Q0 x,Q0 y,.i .u32 a,.i .u32 b] (fun r=>r=.b (provR x y a b)):=by
 refine Qi Tryz.func52 rfl (by kernel_rfl) ?_;simp only[Tryz.ntmps52,Qt,Q0,Res.cs];(repeat refine Qc ?_);(refine Qa fun k hk=>?_;simp only[id,seval,Qb,qb76]);intro blk1 blk2;(refine hk _ ?_;clear hk k;try show Sat _ _ _ _ _);(repeat refine Qc ?_);refine Sat.at ⟨31,[(8,.b (provR x y a b))],[]⟩ ?_ ?_
 ·(refine Qa fun k hk=>?_;simp only[id,seval,Qb,qb76]);refine⟨fun h1=>?_,fun h1=>?_⟩
  ·refine Qd (rfTogC F x y) rfl (by rintro _ rfl;exact Qh rfl) ?_;rintro r rfl;simp only[id,seval,Qb,qb76];refine⟨fun h2=>⟨fun h3=>?_,fun h3=>?_⟩,fun h2=>?_⟩
   ·have e:provR x y a b=(y.from_ == b):=by
     unfold provR;rw[decide_eq_true h1,h2,show (x.from_ == a)=true by simpa using h3];rfl
    refine hk _ ?_;simp only[Qf,e];simp only[id,seval,Qb,qb77]
   ·have e:provR x y a b=false:=by
     unfold provR;rw[show (x.from_ == a)=false by simpa using h3];simp
    refine hk _ ?_;simp only[Qf,e];simp only[id,seval,Qb,qb77]
   ·have e:provR x y a b=false:=by
     unfold provR;rw[h2];simp
    refine hk _ ?_;simp only[Qf,e];simp only[id,seval,Qb,qb77]
  ·have e:provR x y a b=false:=by
    unfold provR;rw[decide_eq_false h1];rfl
   refine hk _ ?_;simp only[Qf,e];simp only[id,seval,Qb,qb77]
 simp only[Qf,Qg];refine Sat.ret ?_;simp only[Tryz.results52,id,seval,Int.reduceToNat,Qb,qb78]
theorem sim_ids (x:Exc):sim (.agg 3 fun j=>(Exc.cs x).getD (2+j) default) (idnAg x.f)∧sim (.agg 3 fun j=>(Exc.cs x).getD (5+j) default) (idnAg x.s):=⟨sim_idn rfl rfl rfl,sim_idn rfl rfl rfl⟩
set_option maxRecDepth 100000 in
theorem rfBetterC (F:Frm) (x y:Exc):Contract F Tryz.prog 95 [excAg x,excAg y] (fun r=>r=.b (excB x y)):=by
 have key:excB x y=decide ((if QP x.s y.s≠0 then QP x.s y.s else QP x.f y.f)<0):=by
  unfold excB;rw[← excB_or];unfold orL orL;split
  ·rfl
  ·congr 1
   unfold orL;split
   ·rfl
   ·rename_i h;simp at h;rw[h]
 refine Qi Tryz.func95 rfl (by kernel_rfl) ?_;simp only[Tryz.ntmps95,Qt,excAg,Exc.cs];(repeat refine Qc ?_);(refine Qa fun k hk=>?_;simp only[id,seval,Qb,qb76]);intro blk1 blk2;(refine hk _ ?_;clear hk k;try show Sat _ _ _ _ _);(repeat refine Qc ?_);(refine Qa fun k hk=>?_;simp only[id,seval,Qb,qb76]);refine Qd (QW (args:=[.agg 3 fun j=>(Exc.cs x).getD (5+j) default,.agg 3 fun j=>(Exc.cs y).getD (5+j) default]) (ZF F x.s y.s) ⟨(sim_ids x).2,(sim_ids y).2,trivial⟩) rfl (by rintro _ rfl;exact Qh rfl) ?_;rintro r rfl;simp only[id,seval,Qb,qb76];(refine hk _ ?_;clear hk k;try show Sat _ _ _ _ _);(repeat refine Qc ?_);(refine Qa fun k hk=>?_;simp only[id,seval,Qb,qb76];refine hk _ ?_;clear hk k;try show Sat _ _ _ _ _);(repeat refine Qc ?_);refine Qe rfl (fun h=>?_) (fun h=>?_)
 ·(repeat refine Qc ?_);(refine Qa fun k hk=>?_;simp only[id,seval,Qb,qb76];refine hk _ ?_;clear hk k;try show Sat _ _ _ _ _);refine Sat.ret ?_;simp only[Tryz.results95,id,seval,Int.reduceToNat,Qb,qb78];rw[key,if_pos (by simpa using h)]
 ·refine Sat.skip ?_;simp only[Qf];(repeat refine Qc ?_);(refine Qa fun k hk=>?_;simp only[id,seval,Qb,qb76]);refine Qd (QW (args:=[.agg 3 fun j=>(Exc.cs x).getD (2+j) default,.agg 3 fun j=>(Exc.cs y).getD (2+j) default]) (ZF F x.f y.f) ⟨(sim_ids x).1,(sim_ids y).1,trivial⟩) rfl (by rintro _ rfl;exact Qh rfl) ?_;rintro r rfl;simp only[id,seval,Qb,qb76];(refine hk _ ?_;clear hk k;try show Sat _ _ _ _ _);refine Sat.ret ?_;simp only[Tryz.results95,id,seval,Int.reduceToNat,Qb,qb78];rw[key,if_neg (by simpa using h)]
end

section
open Go.Sort Eng
theorem excCmp_key (x y:Exc):XI x y=if x.a<y.a∨(x.a=y.a∧x.b<y.b) then -1 else if x.a≠y.a∨x.b≠y.b then 1 else if QP x.f y.f≠0 then QP x.f y.f else QP x.s y.s:=by
 rw[excCmp_or];rcases Zv x.a y.a with ⟨k1,h3⟩|⟨k1,h3⟩|⟨k1,h3⟩<;>rcases Zv x.b y.b with ⟨k2,h4⟩|⟨k2,h4⟩|⟨k2,h4⟩<;>simp only[orL,h3,h4]
 all_goals (repeat' split)<;>first|rfl|omega|simp_all
def qb79:=And.intro @evr (And.intro @treEqs (And.intro @Qm (And.intro @QY (And.intro @Qu (And.intro @Zm (And.intro @Zl (And.intro @Zk (And.intro @Qv (And.intro @Qq (And.intro @Qj (@evn)))))))))))
def qb80:=And.intro @evr (And.intro @treEqs (And.intro @Qm (And.intro @QY (And.intro @Qu (And.intro @Zm (And.intro @Zl (And.intro @Zk (And.intro @Qv (And.intro @Qq (And.intro @Qj (And.intro @evl (@evn))))))))))))
def qb81:=And.intro @evr (And.intro @treEqs (And.intro @Qm (And.intro @QY (And.intro @Qu (And.intro @Zm (And.intro @Zl (And.intro @Zk (And.intro @Qv (And.intro @List.append_nil.{0} (And.intro @Int.toNat_zero (And.intro @Nat.sub_self (And.intro @Qq (@Qj)))))))))))))
set_option maxRecDepth 100000 in
theorem rfCompareExC (F:Frm) (x y:Exc):Contract F Tryz.prog 25 [excAg x,excAg y] (fun r=>r=.i .i64 (XI x y)):=by
 have key:=excCmp_key x y;refine Qi Tryz.func25 rfl (by kernel_rfl) ?_;simp only[Tryz.ntmps25,Qt,excAg,Exc.cs];(repeat refine Qc ?_);(refine Qa fun k hk=>?_;simp only[id,seval,Qb,qb79]);intro b2 b3;(refine hk _ ?_;clear hk k;try show Sat _ _ _ _ _);refine Q9 2 rfl rfl ?_;refine Q9 3 rfl rfl ?_;refine Sat.le (st':=⟨59,[(2,.el ⟨b2,0,none⟩ 8 fun j=>(Exc.cs x).getD j default),(3,.el ⟨b3,0,none⟩ 8 fun j=>(Exc.cs y).getD j default)],[]⟩) ?_ (by simp only[Exc.cs];simp only[id,seval,Qb,qb80];first|done|exact⟨rfl,rfl⟩);simp only[Exc.cs];(repeat refine Qc ?_);refine Sat.block ?_;(repeat refine Qc ?_);refine QT (ι:=Bool) (fun q=>⟨59,[(6,.b q),(2,.el ⟨b2,0,none⟩ 8 fun j=>(Exc.cs x).getD j default),(3,.el ⟨b3,0,none⟩ 8 fun j=>(Exc.cs y).getD j default)],[]⟩) (fun q=>q=decide (x.a<y.a∨(x.a=y.a∧x.b<y.b))) ?_ ?_
 ·(refine Qa fun k hk=>?_;simp only[id,seval,Qb,qb79]);refine⟨fun h1=>⟨fun h2=>?_,fun h2=>⟨fun h3=>?_,fun h3=>?_⟩⟩,fun h1=>⟨fun h3=>?_,fun h3=>?_⟩⟩
  ·refine hk _ ?_;simp only[Qf];refine⟨true,(decide_eq_true (.inl h2)).symm,?_⟩;simp only[Exc.cs];simp only[id,seval,Qb,qb80]
  ·refine hk _ ?_;simp only[Qf];refine⟨decide (x.b<y.b),by rw[beq_iff_eq] at h3;simp [h3] at h1,?_⟩;simp only[Exc.cs];simp only[id,seval,Qb,qb80]
  ·refine hk _ ?_;simp only[Qf]
   refine⟨false,by
    rw[beq_eq_false_iff_ne] at h3
    exact (decide_eq_false (by omega)).symm,?_⟩
   simp only[Exc.cs];simp only[id,seval,Qb,qb80]
  ·refine hk _ ?_;simp only[Qf]
   refine⟨decide (x.b<y.b),by
    rw[beq_iff_eq] at h3;apply Bool.eq_iff_iff.2;rw[decide_eq_true_eq,decide_eq_true_eq]
    omega,?_⟩
   simp only[Exc.cs];simp only[id,seval,Qb,qb80]
  ·refine hk _ ?_;simp only[Qf]
   refine⟨false,by
    rw[beq_eq_false_iff_ne] at h3
    exact absurd (by simpa using h1) h3,?_⟩
   simp only[Exc.cs];simp only[id,seval,Qb,qb80]
 rintro q rfl;simp only[Qf,Exc.cs];refine Qe rfl (fun h=>?_) (fun h=>?_)
 ·have h1:=of_decide_eq_true h;(repeat refine Qc ?_);(refine Qa fun k hk=>?_;simp only[id,seval,Qb,qb79];refine hk _ ?_;clear hk k;try show Sat _ _ _ _ _);refine Sat.ret ?_;simp only[Qg,Tryz.results25,id,seval,Int.reduceToNat,Qb,qb81];rw[key,if_pos h1]
 have h1:=of_decide_eq_false h;rw[if_neg h1] at key;(repeat refine Qc ?_);refine QT (ι:=Bool) (fun q=>⟨59,[(33,.b q),(2,.el ⟨b2,0,none⟩ 8 fun j=>(Exc.cs x).getD j default),(3,.el ⟨b3,0,none⟩ 8 fun j=>(Exc.cs y).getD j default)],[]⟩) (fun q=>q=decide (x.a≠y.a∨x.b≠y.b)) ?_ ?_
 ·(refine Qa fun k hk=>?_;simp only[id,seval,Qb,qb79]);refine⟨fun h2=>?_,fun h2=>?_⟩
  ·refine hk _ ?_;simp only[Qf];refine⟨true,(decide_eq_true (.inl (by simpa using h2))).symm,?_⟩;simp only[Exc.cs];simp only[id,seval,Qb,qb80]
  ·refine hk _ ?_;simp only[Qf]
   refine⟨(x.b != y.b),by
    apply Bool.eq_iff_iff.2;have h3:x.a=y.a:=by simpa using h2
    rw[decide_eq_true_eq,bne_iff_ne]
    simp [h3],?_⟩
   simp only[Exc.cs];simp only[id,seval,Qb,qb80]
 rintro q rfl;simp only[Qf,Exc.cs];refine Qe rfl (fun h=>?_) (fun h=>?_)
 ·have h2:=of_decide_eq_true h;(repeat refine Qc ?_);(refine Qa fun k hk=>?_;simp only[id,seval,Qb,qb79];refine hk _ ?_;clear hk k;try show Sat _ _ _ _ _);refine Sat.ret ?_;simp only[Qf,Qg,Tryz.results25,id,seval,Int.reduceToNat,Qb,qb81];rw[key,if_pos h2]
 have h2:=of_decide_eq_false h;rw[if_neg h2] at key;refine Sat.skip ?_;simp only[Qf,Qg,reduceIte];(repeat refine Qc ?_);(refine Qa fun k hk=>?_;simp only[id,seval,Qb,qb79]);refine Qd (QW (args:=[.agg 3 fun j=>(Exc.cs x).getD (2+j) default,.agg 3 fun j=>(Exc.cs y).getD (2+j) default]) (ZF F x.f y.f) ⟨(sim_ids x).1,(sim_ids y).1,trivial⟩) rfl (by rintro _ rfl;exact Qh rfl) ?_;rintro r rfl;simp only[id,seval,Qb,qb79];(refine hk _ ?_;clear hk k;try show Sat _ _ _ _ _);(repeat refine Qc ?_);(refine Qa fun k hk=>?_;simp only[id,seval,Qb,qb79];refine hk _ ?_;clear hk k;try show Sat _ _ _ _ _);(repeat refine Qc ?_);refine Qe rfl (fun h=>?_) (fun h=>?_)
 ·(repeat refine Qc ?_);(refine Qa fun k hk=>?_;simp only[id,seval,Qb,qb79];refine hk _ ?_;clear hk k;try show Sat _ _ _ _ _);refine Sat.ret ?_;simp only[Tryz.results25,id,seval,Int.reduceToNat,Qb,qb81];rw[key,if_pos (by simpa using h)]
 ·refine Sat.skip ?_;simp only[Qf];(repeat refine Qc ?_);(refine Qa fun k hk=>?_;simp only[id,seval,Qb,qb79]);refine Qd (QW (args:=[.agg 3 fun j=>(Exc.cs x).getD (5+j) default,.agg 3 fun j=>(Exc.cs y).getD (5+j) default]) (ZF F x.s y.s) ⟨(sim_ids x).2,(sim_ids y).2,trivial⟩) rfl (by rintro _ rfl;exact Qh rfl) ?_;rintro r rfl;simp only[id,seval,Qb,qb79];(refine hk _ ?_;clear hk k;try show Sat _ _ _ _ _);refine Sat.ret ?_;simp only[Tryz.results25,id,seval,Int.reduceToNat,Qb,qb81];rw[key,if_neg (by simpa using h)]
theorem exHolds_prov (xs:List Res) (x:Exc):Zs xs x=(decide (x.a≠0) && (decide (x.a<x.b) && ((findV xs x.f).isSome && ((findV xs x.s).isSome && provR ((findV xs x.f).getD default) ((findV xs x.s).getD default) x.a x.b)))):=by
 rw[exHolds_eq];unfold provR;cases (findV xs x.f).isSome<;>cases (findV xs x.s).isSome<;>simp
set_option maxRecDepth 100000 in
theorem rfHoldsC (F:Frm) (ad:Option Addr) (cap:Nat) (xs:List Res) (x:Exc) (hl:xs.length≤1000000000) (hin:∀ r∈xs,RgR r) :
  Contract F Tryz.prog 22 [.sl ad xs.length cap 17 (Qk xs.toArray),excAg x] (fun r=>r=.b (Zs xs x)):=by
 have key:=exHolds_prov xs x;refine Qi Tryz.func22 rfl (by kernel_rfl) ?_;simp only[Tryz.ntmps22,Qt,excAg,Exc.cs];(repeat refine Qc ?_);(refine Qa fun k hk=>?_;simp only[id,seval,Qb,qb79]);intro b3;(refine hk _ ?_;clear hk k;try show Sat _ _ _ _ _);refine Qs [] 3 rfl ?_;(repeat refine Qc ?_);refine QT (ι:=Bool) (fun q=>⟨46,[(18,.b q),(3,.el ⟨b3,0,none⟩ 8 fun j=>(Exc.cs x).getD j default),(0,.sl ad xs.length cap 17 (Qk xs.toArray))],[]⟩) (fun q=>q=!(decide (x.a≠0) && decide (x.a<x.b))) ?_ ?_
 ·(refine Qa fun k hk=>?_;simp only[id,seval,Qb,qb79]);refine⟨fun h2=>?_,fun h2=>?_⟩
  ·refine hk _ ?_;simp only[Qf]
   refine⟨true,by
    have h3:x.a=0:=by simpa using h2
    simp [h3],?_⟩
   simp only[Exc.cs];simp only[id,seval,Qb,qb80];try rfl
  ·refine hk _ ?_;simp only[Qf]
   refine⟨decide (x.b≤x.a),by
    have h3:x.a≠0:=by simpa using h2
    rw[decide_eq_true h3,Bool.true_and];apply Bool.eq_iff_iff.2
    simp,?_⟩
   simp only[Exc.cs];simp only[id,seval,Qb,qb80];try rfl
 rintro q rfl;simp only[Qf,Exc.cs];(repeat refine Qc ?_);refine Qe rfl (fun h=>?_) (fun h=>?_)
 ·(repeat refine Qc ?_);(refine Qa fun k hk=>?_;simp only[id,seval,Qb,qb79];refine hk _ ?_;clear hk k;try show Sat _ _ _ _ _);refine Sat.ret ?_;simp only[Tryz.results22,id,seval,Int.reduceToNat,Qb,qb81]
  have e:Zs xs x=false:=by
   rw[key];simp only[Bool.not_eq_true'] at h;rw[← Bool.and_assoc,h];rfl
  rw[e]
 have h9:decide (x.a≠0)=true∧decide (x.a<x.b)=true:=by
  simp only[Bool.not_eq_false'] at h;exact Bool.and_eq_true_iff.1 h
 rw[h9.1,h9.2,Bool.true_and,Bool.true_and] at key;refine Sat.skip ?_;simp only[Qf];(repeat refine Qc ?_);(refine Qa fun k hk=>?_;simp only[id,seval,Qb,qb79]);refine Qd (QW (args:=[.sl ad xs.length cap 17 (Qk xs.toArray),.agg 3 fun j=>(Exc.cs x).getD (2+j) default]) (findG F ad cap xs x.f hl hin) ⟨QE _,(sim_ids x).1,trivial⟩) rfl (by rintro _ rfl;exact findS_ok _) ?_;rintro _ rfl;rw[findS_eq];obtain⟨a,ha⟩:∃ a,a=(findV xs x.f).getD default:=⟨_,rfl⟩;obtain⟨p,hp⟩:∃ p,p=(findV xs x.f).isSome:=⟨_,rfl⟩;rw[← ha,← hp] at key ⊢;simp only[Xh,Q0,Res.cs,id,seval,Int.reduceToNat,Qb,qb81];intro b5;(refine hk _ ?_;clear hk k;try show Sat _ _ _ _ _);refine Qs [] 5 rfl ?_;(repeat refine Qc ?_);(refine Qa fun k hk=>?_;simp only[id,seval,Qb,qb79]);refine Qd (QW (args:=[.sl ad xs.length cap 17 (Qk xs.toArray),.agg 3 fun j=>(Exc.cs x).getD (5+j) default]) (findG F ad cap xs x.s hl hin) ⟨QE _,(sim_ids x).2,trivial⟩) rfl (by rintro _ rfl;exact findS_ok _) ?_;rintro _ rfl;rw[findS_eq];obtain⟨b,hb⟩:∃ b,b=(findV xs x.s).getD default:=⟨_,rfl⟩;obtain⟨q,hq⟩:∃ q,q=(findV xs x.s).isSome:=⟨_,rfl⟩;rw[← hb,← hq] at key ⊢;simp only[Xh,Q0,Res.cs,id,seval,Int.reduceToNat,Qb,qb81];intro b7;(refine hk _ ?_;clear hk k;try show Sat _ _ _ _ _);refine Qs [] 7 rfl ?_;(repeat refine Qc ?_);refine Sat.at ⟨46,[(4,.b (Zs xs x))],[]⟩ ?_ ?_
 ·(refine Qa fun k hk=>?_;simp only[id,seval,Qb,qb79]);refine⟨fun h1=>⟨fun h2=>?_,fun h2=>?_⟩,fun h1=>?_⟩
  ·refine Qd (rfProvC F a b x.a x.b) rfl (by rintro _ rfl;exact Qh rfl) ?_;rintro _ rfl;simp only[id,seval,Qb,qb79];refine hk _ ?_;have e:Zs xs x=provR a b x.a x.b:=by rw[key,h1,h2];rfl
   simp only[Qf,e];simp only[id,seval,Qb,qb80]
  ·have e:Zs xs x=false:=by rw[key,h2];simp
   refine hk _ ?_;simp only[Qf,e];simp only[id,seval,Qb,qb80]
  ·have e:Zs xs x=false:=by rw[key,h1];rfl
   refine hk _ ?_;simp only[Qf,e];simp only[id,seval,Qb,qb80]
 simp only[Qf,Qg];refine Sat.ret ?_;simp only[Tryz.results22,id,seval,Int.reduceToNat,Qb,qb81]
end

section
open Go.Sort Eng
theorem getB_mem {xs:List Res} {i:Nat} (h:i<xs.length):xs.toArray[i]!∈xs:=by rw[getB h];exact List.getElem_mem h
theorem contra_parts (x y:Res):ZH x y=(Zx x && (Zx y && (x.answered && (y.answered && (decide ((⟨x.vantage,x.dst,x.proto⟩:Tre)=⟨y.vantage,y.dst,y.proto⟩) && ((x.flow == y.flow) && ((x.ttl == y.ttl) && (x.from_ != y.from_)))))))):=by
 rw[Bool.eq_iff_iff,contraR_iff];simp only[Z4,Res.spot,Bool.and_eq_true,decide_eq_true_eq,beq_iff_eq,bne_iff_ne,Tre.mk.injEq,List.cons.injEq,and_true];constructor
 ·rintro⟨⟨h1,h2⟩,⟨h3,h4⟩,⟨h5,h6,h7,h8,h9⟩,h10⟩;exact⟨h2,h4,h1,h3,⟨h5,h6,h7⟩,h8,h9,h10⟩
 ·rintro⟨h2,h4,h1,h3,⟨h5,h6,h7⟩,h8,h9,h10⟩;exact⟨⟨h1,h2⟩,⟨h3,h4⟩,⟨h5,h6,h7,h8,h9⟩,h10⟩
def qb84:=And.intro @evr (And.intro @Qm (And.intro @Qq (And.intro @ZM (And.intro @evl (@evn)))))
def qb82:=And.intro @evr (And.intro @Qm (And.intro @Qq (And.intro @ZM (@evn))))
def qb83:=And.intro @evr (And.intro @Qm (And.intro @Qq (And.intro @List.append_nil.{0} (And.intro @Int.toNat_zero (And.intro @Nat.sub_self (@ZM))))))
set_option maxHeartbeats 1000000 in
set_option maxRecDepth 100000 in
theorem contradictG (F:Frm) (x y:Res):Contract F Tryz.prog 110 [Q0 x,Q0 y] (fun r=>r=.b (ZH x y)):=by
 refine Qi Tryz.func110 rfl (by kernel_rfl) ?_;simp only[Tryz.ntmps110,Qt,Q0,Res.cs];have e0:=contra_parts x y;(repeat refine Qc ?_);(refine Qa fun k hk=>?_;simp only[id,seval,Qb,qb82]);intro blk1 blk2;(refine hk _ ?_;clear hk k;try show Sat _ _ _ _ _);(repeat refine Qc ?_);refine Sat.at ⟨49,[(4,.b (ZH x y))],[]⟩ ?_ ?_
 ·(refine Qr (by kernel_rfl) (by kernel_rfl) fun k hk=>?_;simp only[id,seval,Qb,qb82]);refine ZV (usableG Frm.nil x) rfl (Qh rfl) ?_;simp only[id,seval,Qb,qb82];refine⟨fun h1=>?_,fun h1=>hk _ ?_⟩
  ·refine ZV (usableG Frm.nil y) rfl (Qh rfl) ?_;simp only[id,seval,Qb,qb82];refine⟨fun h2=>⟨fun h3=>⟨fun h4=>?_,fun h4=>hk _ ?_⟩,fun h3=>hk _ ?_⟩,fun h2=>hk _ ?_⟩
   ·refine ZV (traceOfG Frm.nil x) rfl (Xs _) ?_;simp only[id,seval,Qb,qb82];refine ZV (traceOfG Frm.nil y) rfl (Xs _) ?_;simp only[QZ,id,seval,Int.reduceToNat,Qb,qb83];refine⟨fun h5=>⟨fun h6=>⟨fun h7=>hk _ ?_,fun h7=>hk _ ?_⟩,fun h6=>hk _ ?_⟩,fun h5=>hk _ ?_⟩
    ·have e:ZH x y=(x.from_ != y.from_):=by rw[e0,h1,h2,h3,h4,decide_eq_true h5,h6,h7];rfl
     simp only[Qf,e];simp only[id,seval,Qb,qb84]
    ·have e:ZH x y=false:=by rw[e0,h1,h2,h3,h4,decide_eq_true h5,h6,h7];rfl
     simp only[Qf,e];simp only[id,seval,Qb,qb84]
    ·have e:ZH x y=false:=by rw[e0,h1,h2,h3,h4,decide_eq_true h5,h6];rfl
     simp only[Qf,e];simp only[id,seval,Qb,qb84]
    ·have e:ZH x y=false:=by rw[e0,h1,h2,h3,h4,decide_eq_false h5];rfl
     simp only[Qf,e];simp only[id,seval,Qb,qb84]
   ·have e:ZH x y=false:=by rw[e0,h1,h2,h3,h4];rfl
    simp only[Qf,e];simp only[id,seval,Qb,qb84]
   ·have e:ZH x y=false:=by rw[e0,h1,h2,h3];rfl
    simp only[Qf,e];simp only[id,seval,Qb,qb84]
   ·have e:ZH x y=false:=by rw[e0,h1,h2];rfl
    simp only[Qf,e];simp only[id,seval,Qb,qb84]
  ·have e:ZH x y=false:=by rw[e0,h1];rfl
   simp only[Qf,e];simp only[id,seval,Qb,qb84]
 simp only[Qf,Qg];refine Sat.ret ?_;simp only[Tryz.results110,id,seval,Int.reduceToNat,Qb,qb83]
end

section
open Go.Sort Eng
theorem ep_0 (l:List (Nat×Nat)) (i:Nat):epRd l i 0=.i .i64 ((l.getD i (0,0)).1:Nat):=rfl
theorem ep_1 (l:List (Nat×Nat)) (i:Nat):epRd l i 1=.i .i64 ((l.getD i (0,0)).2:Nat):=rfl
def ChkRes (xs:List Res) (e:Int):Prop:=
 (e=1∧∃ x∈xs,QH x=false)∨((∀ x∈xs,QH x=true)∧∃ ys,OrdOf xs ys∧((e=5∧512<ys.length)∨(e=35∧ys.length≤512∧¬ oneT ys)∨(e=0∧ys.length≤512∧oneT ys)))
def qb85:=And.intro @evr (And.intro @Qm (And.intro @Qq (And.intro @ZM (And.intro @ep_one (And.intro @ep_0 (And.intro @ep_1 (@evn)))))))
def qb86:=And.intro @evr (And.intro @Qm (And.intro @Qq (And.intro @ZM (And.intro @ep_one (And.intro @ep_0 (And.intro @ep_1 (And.intro @evl (@evn))))))))
def qb87:=And.intro @evr (And.intro @Qm (And.intro @Qq (And.intro @List.append_nil.{0} (And.intro @Int.toNat_zero (And.intro @Nat.sub_self (And.intro @ZM (And.intro @ep_one (And.intro @ep_0 (@ep_1)))))))))
set_option maxRecDepth 100000 in
theorem checkAllG (F:Frm) (ad:Option Addr) (cap:Nat) (xs:List Res) (hl:xs.length≤1000000000) (hin:∀ r∈xs,RgR r) :
  Contract F Tryz.prog 132 [.sl ad xs.length cap 17 (Qk xs.toArray)] (fun r=>∃ e,ChkRes xs e∧r=.i .i64 e):=by
 refine Qi Tryz.func132 rfl (by kernel_rfl) ?_;simp only[Tryz.ntmps132,Qt];(repeat refine Qc ?_);(refine Qa fun k hk=>?_;simp only[id,seval,Qb,QZ,Qx,qb85];refine hk _ ?_;clear hk k;try show Sat _ _ _ _ _);(repeat refine Qc ?_);(refine Qa fun k hk=>?_;simp only[id,seval,Qb,QZ,Qx,qb85];refine hk _ ?_;clear hk k;try show Sat _ _ _ _ _);(repeat refine Qc ?_);refine Sat.block ?_;refine Qo (ι:=Nat) (fun i=>⟨39,[(3,.i .i64 i),(0,.sl ad xs.length cap 17 (Qk xs.toArray))],[]⟩)
  (fun i=>i≤xs.length∧∀ j,j<i→QH xs.toArray[j]! = true) (fun i=>xs.length - i) 0 ⟨Nat.zero_le _,fun j h=>absurd h (Nat.not_lt_zero _)⟩ (by simp only[id,seval,Qb,QZ,Qx,qb86];try rfl) ?_
 rintro i ⟨hi,hv⟩;(repeat refine Qc ?_);(refine Qa fun k hk=>?_;simp only[id,seval,Qb,QZ,Qx,qb85];refine hk _ ?_;clear hk k;try show Sat _ _ _ _ _);(repeat refine Qc ?_);refine Qe rfl (fun h=>?_) (fun h=>?_)
 ·have h1:i<xs.length:=by simp only[decide_eq_true_eq] at h;omega
  have e2:IntKind.i64.wrap ((i:Int)+1)=((i+1:Nat):Int):=by rw[w64 (by omega)];omega
  refine Sat.skip ?_;simp only[Qf];(repeat refine Qc ?_);refine Sat.block ?_;(repeat refine Qc ?_);(refine Qa fun k hk=>?_;simp only[id,seval,Qb,QZ,Qx,qb85]);refine⟨by omega,?_⟩;refine Qd (validG F xs.toArray[i]!) rfl (by rintro _ rfl;exact Qh rfl) ?_;rintro r rfl;simp only[id,seval,Qb,QZ,Qx,qb85];(refine hk _ ?_;clear hk k;try show Sat _ _ _ _ _);refine Qe rfl (fun h3=>?_) (fun h3=>?_)
  ·(repeat refine Qc ?_);(refine Qa fun k hk=>?_;simp only[id,seval,Qb,QZ,Qx,qb85];refine hk _ ?_;clear hk k;try show Sat _ _ _ _ _);refine Sat.ret ?_;simp only[Qf,Qg,Tryz.results132,id,seval,Int.reduceToNat,Qb,QZ,Qx,qb87];exact⟨1,.inl ⟨rfl,_,getB_mem h1,by simpa using h3⟩,rfl⟩
  ·refine Sat.skip ?_;simp only[Qf,Qg,reduceIte];(repeat refine Qc ?_);refine Qa fun k2 hk=>?_;simp only[id,seval,Qb,QZ,Qx,e2,qb85];refine hk _ ?_;simp only[Qf,Qg];refine⟨i+1,⟨by omega,fun j hj=>?_⟩,by omega,?_⟩
   ·rcases (show j<i∨j=i by omega) with h4|rfl
    ·exact hv j h4
    ·simpa using h3
   ·simp only[id,seval,Qb,QZ,Qx,qb86]
 have h1:i=xs.length:=by simp only[decide_eq_false_iff_not] at h;omega
 subst h1
 have hval:∀ x∈xs,QH x=true:=fun x hx=>by
  obtain⟨j,hj,rfl⟩:=List.mem_iff_getElem.1 hx;rw[← getB hj];exact hv j hj
 refine Sat.exit ?_;simp only[Qf,Qg,reduceIte];(repeat refine Qc ?_);(refine Qa fun k hk=>?_;simp only[id,seval,Qb,QZ,Qx,qb85]);refine Q8 (orderG F ad cap xs hl hin) rfl rfl ?_;rintro ra ty len rc sz rrd ⟨a,c,ys,ho,hyl,e⟩;simp only[Qb,Own.row.injEq] at e;obtain⟨rfl,rfl,rfl,rfl,rfl,rfl⟩:=e;simp only[id,seval,Qb,QZ,Qx,qb85];(refine hk _ ?_;clear hk k;try show Sat _ _ _ _ _);refine Zo 4 rfl rfl ?_;simp only[id,seval,Qb,QZ,Qx,qb85];(repeat refine Qc ?_);(refine Qa fun k hk=>?_;simp only[id,seval,Qb,QZ,Qx,qb85];refine hk _ ?_;clear hk k;try show Sat _ _ _ _ _);(repeat refine Qc ?_);refine Qe rfl (fun h=>?_) (fun h=>?_)
 ·(repeat refine Qc ?_);(refine Qa fun k hk=>?_;simp only[id,seval,Qb,QZ,Qx,qb85];refine hk _ ?_;clear hk k;try show Sat _ _ _ _ _);refine Sat.ret ?_;simp only[Qf,Qg,Tryz.results132,id,seval,Int.reduceToNat,Qb,QZ,Qx,qb87];exact⟨5,.inr ⟨hval,ys,ho,.inl ⟨rfl,by simp only[decide_eq_true_eq] at h;omega⟩⟩,rfl⟩
 have hn:ys.length≤512:=by simp only[decide_eq_false_iff_not] at h;omega
 refine Sat.skip ?_;simp only[Qf];(repeat refine Qc ?_);(refine Qa fun k hk=>?_;simp only[id,seval,Qb,QZ,Qx,qb85];refine hk _ ?_;clear hk k;try show Sat _ _ _ _ _);(repeat refine Qc ?_);refine Sat.block ?_;refine Qo (ι:=Nat) (fun i=>⟨39,[(5,.i .i64 i),(4,.sl ra ys.length rc 17 (Qk ys.toArray))],[]⟩)
  (fun i=>1≤i∧∀ j,j<i→j<ys.length→ys.toArray[j]!.tre=ys.toArray[0]!.tre) (fun i=>ys.length - i) 1 ⟨Nat.le_refl _,fun j h _=>by rw[show j=0 by omega]⟩ (by simp only[id,seval,Qb,QZ,Qx,qb86];try rfl) ?_
 rintro i ⟨hi,ht⟩;(repeat refine Qc ?_);(refine Qa fun k hk=>?_;simp only[id,seval,Qb,QZ,Qx,qb85];refine hk _ ?_;clear hk k;try show Sat _ _ _ _ _);(repeat refine Qc ?_);refine Qe rfl (fun h=>?_) (fun h=>?_)
 ·have h1:i<ys.length:=by simp only[decide_eq_true_eq] at h;omega
  have e2:IntKind.i64.wrap ((i:Int)+1)=((i+1:Nat):Int):=by rw[w64 (by omega)];omega
  refine Sat.skip ?_;simp only[Qf];(repeat refine Qc ?_);refine Sat.block ?_;(repeat refine Qc ?_);refine Qr (by kernel_rfl) (by kernel_rfl) fun k2 hk=>?_;simp only[id,seval,Qb,QZ,Qx,qb85];refine⟨by omega,?_⟩;refine ZV (traceOfG Frm.nil ys.toArray[i]!) rfl (Xs _) ?_;simp only[id,seval,Qb,QZ,Qx,qb85];refine⟨by omega,?_⟩;refine ZV (traceOfG Frm.nil ys.toArray[0]!) rfl (Xs _) ?_;simp only[QZ,id,seval,Int.reduceToNat,Qb,QZ,Qx,qb87];refine hk _ ?_;clear hk k2;try show Sat _ _ _ _ _
  refine Qe rfl (fun h3=>?_) (fun h3=>?_)
  ·(repeat refine Qc ?_);(refine Qa fun k hk=>?_;simp only[id,seval,Qb,QZ,Qx,qb85];refine hk _ ?_;clear hk k;try show Sat _ _ _ _ _);refine Sat.ret ?_;simp only[Qf,Qg,Tryz.results132,id,seval,Int.reduceToNat,Qb,QZ,Qx,qb87];refine⟨35,.inr ⟨hval,ys,ho,.inr (.inl ⟨rfl,hn,fun h4=>?_⟩)⟩,rfl⟩;have h5:=h4 _ (getB_mem h1) _ (getB_mem (show 0<ys.length by omega));rw[show (⟨ys.toArray[i]!.vantage,ys.toArray[i]!.dst,ys.toArray[i]!.proto⟩:Tre)=⟨ys.toArray[0]!.vantage,ys.toArray[0]!.dst,ys.toArray[0]!.proto⟩ from h5] at h3;simp at h3
  ·refine Sat.skip ?_;simp only[Qf,Qg,reduceIte];(repeat refine Qc ?_);refine Qa fun k2 hk=>?_;simp only[id,seval,Qb,QZ,Qx,e2,qb85];refine hk _ ?_;simp only[Qf,Qg];refine⟨i+1,⟨by omega,fun j hj hj2=>?_⟩,by omega,?_⟩
   ·rcases (show j<i∨j=i by omega) with h4|rfl
    ·exact ht j h4 hj2
    ·show (⟨_,_,_⟩:Tre)=⟨_,_,_⟩
     simpa using h3
   ·simp only[id,seval,Qb,QZ,Qx,qb86]
 have h1:ys.length≤i:=by simp only[decide_eq_false_iff_not] at h;omega
 refine Sat.exit ?_;simp only[Qf,Qg,reduceIte];(repeat refine Qc ?_);(refine Qa fun k hk=>?_;simp only[id,seval,Qb,QZ,Qx,qb85];refine hk _ ?_;clear hk k;try show Sat _ _ _ _ _);refine Sat.ret ?_;simp only[Tryz.results132,id,seval,Int.reduceToNat,Qb,QZ,Qx,qb87];refine⟨0,.inr ⟨hval,ys,ho,.inr (.inr ⟨rfl,hn,fun r hr s hs=>?_⟩)⟩,rfl⟩;obtain⟨j,hj,rfl⟩:=List.mem_iff_getElem.1 hr;obtain⟨q,hq,rfl⟩:=List.mem_iff_getElem.1 hs;rw[← getB hj,← getB hq,ht j (by omega) hj,ht q (by omega) hq]
theorem chk_cases {xs:List Res} {e:Int} (h:ChkRes xs e):(e≠0∧CutRes xs [] e)∨(e=0∧(∀ x∈xs,QH x=true)∧∃ ys,OrdOf xs ys∧ys.length≤512∧oneT ys):=by
 rcases h with ⟨rfl,h1⟩|⟨hv,ys,ho,⟨rfl,h1⟩|⟨rfl,h1,h2⟩|⟨rfl,h1,h2⟩⟩
 ·exact .inl ⟨by decide,.inl ⟨rfl,rfl,h1⟩⟩
 ·exact .inl ⟨by decide,.inr ⟨hv,ys,ho,.inl ⟨rfl,rfl,h1⟩⟩⟩
 ·exact .inl ⟨by decide,.inr ⟨hv,ys,ho,.inr (.inl ⟨rfl,rfl,h1,h2⟩)⟩⟩
 ·exact .inr ⟨rfl,hv,ys,ho,h1,h2⟩
def FitP (g:Nat→Res) (i:Nat) (l:List (Nat×Nat)) (b:Bool):Prop:=
 (b=true∧∃ m a,Pre g m a∧a<i∧Seg g a i∧l=m ++ [(a,i)]∧¬ Bad g a i)∨(b=false∧((i=0∧l=[])∨∃ m a,Pre g m a∧a<i∧Seg g a i∧l=m ++ [(a,i)]∧Bad g a i))
theorem FitP.more {g:Nat→Res} {i:Nat} {l:List (Nat×Nat)} (h:FitP g i l true):∃ m a,l=m ++ [(a,i)]∧Cuts g (i+1) (m ++ [(a,i+1)]):=by
 rcases h with ⟨_,m,a,h1,h2,h3,rfl,h4⟩|⟨h,_⟩
 ·exact⟨m,a,rfl,Cuts.more h1 h2 h3 h4⟩
 ·cases h
theorem FitP.new {g:Nat→Res} {i:Nat} {l:List (Nat×Nat)} (h:FitP g i l false):Cuts g (i+1) (l ++ [(i,i+1)]):=by
 rcases h with ⟨h,_⟩|⟨_,⟨rfl,rfl⟩|⟨m,a,h1,h2,h3,rfl,h4⟩⟩
 ·cases h
 ·exact Cuts.one g
 ·exact Cuts.new h1 h2 h3 h4
theorem ep_set {m:List (Nat×Nat)} {a i:Nat} {x:Int} (hx:x=((i+1:Nat):Int)) {ix:Nat} (hix:ix=m.length):rdEq (m ++ [(a,i)]).length 2 (Z8 (epRd (m ++ [(a,i)])) ix 1 [.i .i64 x]) (epRd (m ++ [(a,i+1)])):=by
 subst hx;subst hix;intro p c hp hc;unfold Z8;by_cases h:p=m.length
 ·subst h;rcases (show c=0∨c=1 by omega) with rfl|rfl<;>simp [epRd,List.getD]
 ·have h2:p<m.length:=by simp at hp;omega
  show (if _ then _ else epRd (m ++ [(a,i)]) p c)=_;rw[if_neg (fun g=>h g.1)];unfold epRd;rw[show (m ++ [(a,i)]).getD p (0,0)=(m ++ [(a,i+1)]).getD p (0,0) by simp [List.getD,List.getElem?_append,h2]]
set_option maxHeartbeats 1000000 in
set_option maxRecDepth 100000 in
theorem cutG (F:Frm) (ad:Option Addr) (cap:Nat) (xs:List Res) (hl:xs.length≤1000000000) (hin:∀ r∈xs,RgR r) :
  Contract F Tryz.prog 93 [.sl ad xs.length cap 17 (Qk xs.toArray)] (fun r=>∃ (a:Option Addr) (cap:Nat) (l:List (Nat×Nat)) (e:Int),CutRes xs l e∧l.length≤1000∧r=Xh [.sl a l.length cap 2 (epRd l),.i .i64 e]):=by
 refine Qi Tryz.func93 rfl (by kernel_rfl) ?_;simp only[Tryz.ntmps93,Qt];(repeat refine Qc ?_);(refine Qa fun k hk=>?_;simp only[id,seval,Qb,QZ,Qx,qb85];refine hk _ ?_;clear hk k;try show Sat _ _ _ _ _);(repeat refine Qc ?_);(refine Qa fun k hk=>?_;simp only[id,seval,Qb,QZ,Qx,qb85]);refine Qd (checkAllG F ad cap xs hl hin) rfl (by rintro _ ⟨e,_,rfl⟩;exact Qh rfl) ?_;rintro r ⟨e,hchk,rfl⟩;simp only[id,seval,Qb,QZ,Qx,qb85];(refine hk _ ?_;clear hk k;try show Sat _ _ _ _ _);rcases chk_cases hchk with ⟨he,hcr⟩|⟨rfl,hval,zs,hoz,hnz,honez⟩
 ·have en:(e != 0)=true:=by simpa using he
  (repeat refine Qc ?_);(refine Qa fun k hk=>?_;simp only[id,seval,Qb,QZ,Qx,qb85];refine hk _ ?_;clear hk k;try show Sat _ _ _ _ _);refine Qe rfl (fun _=>?_) (fun h=>by rw[en] at h;cases h);(repeat refine Qc ?_);(refine Qa fun k hk=>?_;simp only[id,seval,Qb,QZ,Qx,qb85];refine hk _ ?_;clear hk k;try show Sat _ _ _ _ _);refine Q1 2 130 2 (epRd []) rfl ?_;refine Sat.ret ?_;simp only[Qf,Tryz.results93,id,seval,Int.reduceToNat,Qb,QZ,Qx,qb87];exact⟨none,0,[],e,hcr,by simp,rfl⟩
 (repeat refine Qc ?_);(refine Qa fun k hk=>?_;simp only[id,seval,Qb,QZ,Qx,qb85];refine hk _ ?_;clear hk k;try show Sat _ _ _ _ _);refine Qe rfl (fun h=>absurd h (by decide)) (fun _=>?_);refine Sat.skip ?_;simp only[Qf];(repeat refine Qc ?_);(refine Qa fun k hk=>?_;simp only[id,seval,Qb,QZ,Qx,qb85]);refine Q8 (orderG F ad cap xs hl hin) rfl rfl ?_;rintro ra ty len rc sz rrd ⟨a,c,ys,ho,hyl,e⟩;simp only[Qb,Own.row.injEq] at e;obtain⟨rfl,rfl,rfl,rfl,rfl,rfl⟩:=e;obtain rfl:=ho.unique hoz;simp only[id,seval,Qb,QZ,Qx,qb85];(refine hk _ ?_;clear hk k;try show Sat _ _ _ _ _);refine Zo 5 rfl rfl ?_;simp only[id,seval,Qb,QZ,Qx,qb85];(repeat refine Qc ?_);(refine Qa fun k hk=>?_;simp only[id,seval,Qb,QZ,Qx,qb85];refine hk _ ?_;clear hk k;try show Sat _ _ _ _ _);refine Q1 6 130 2 (epRd []) rfl ?_;(repeat refine Qc ?_);(refine Qa fun k hk=>?_;simp only[id,seval,Qb,QZ,Qx,qb85];refine hk _ ?_;clear hk k;try show Sat _ _ _ _ _);refine Sat.block ?_;refine Qo (ι:=Nat×List (Nat×Nat)×Option Addr×Nat) (fun z=>⟨69,[(7,.i .i64 z.1),(6,.os 1 z.2.2.1 z.2.1.length z.2.2.2),(5,.sl ra ys.length rc 17 (Qk ys.toArray))],[.gone,Qx z.2.2.1 z.2.2.2 z.2.1]⟩)
  (fun z=>z.1≤ys.length∧Cuts (fun i=>ys.toArray[i]!) z.1 z.2.1) (fun z=>ys.length - z.1) (0,[],none,0) ⟨Nat.zero_le _,Cuts.zero _⟩ (by simp only[id,seval,Qb,QZ,Qx,qb86];first|exact⟨rfl,rfl⟩|rfl|trace_state) ?_
 rintro⟨i,l,la,lc⟩ ⟨hi,hcu⟩;simp only[Qx] at hi hcu ⊢;have hlb:=hcu.bound;(repeat refine Qc ?_);(refine Qa fun k hk=>?_;simp only[id,seval,Qb,QZ,Qx,qb85];refine hk _ ?_;clear hk k;try show Sat _ _ _ _ _);(repeat refine Qc ?_);refine Qe rfl (fun h=>?_) (fun h=>?_)
 ·have h1:i<ys.length:=by simp only[decide_eq_true_eq] at h;omega
  have e2:IntKind.i64.wrap ((i:Int)+1)=((i+1:Nat):Int):=by rw[w64 (by omega)];omega
  have e5:IntKind.i64.wrap ((l.length:Int) - 1)=(l.length:Int) - 1:=w64 (by omega);refine Sat.skip ?_;simp only[Qf];(repeat refine Qc ?_);refine Sat.block ?_;(repeat refine Qc ?_);(refine Qa fun k hk=>?_;simp only[id,seval,Qb,QZ,Qx,qb85];refine hk _ ?_;clear hk k;try show Sat _ _ _ _ _);(repeat refine Qc ?_);(refine Qa fun k hk=>?_;simp only[id,seval,Qb,QZ,Qx,qb85];refine hk _ ?_;clear hk k;try show Sat _ _ _ _ _);(repeat refine Qc ?_);(refine Qa fun k hk=>?_;simp only[id,seval,Qb,QZ,Qx,qb85];refine hk _ ?_;clear hk k;try show Sat _ _ _ _ _);refine QT (ι:=Bool) (fun b=>⟨69,[(9,.b b),(8,.i .i64 l.length),(7,.i .i64 i),(6,.os 1 la l.length lc),(5,.sl ra ys.length rc 17 (Qk ys.toArray))],[.gone,Qx la lc l]⟩) (fun b=>FitP (fun i=>ys.toArray[i]!) i l b) ?_ ?_
  ·refine Qe rfl (fun h2=>?_) (fun h2=>?_)
   ·have hl0:0<l.length:=by simp only[decide_eq_true_eq] at h2;omega
    have hi0:0<i:=by
     have:=hcu.len0;omega
    obtain⟨m,a0,hp,ha0,hsg,hlm,hgl⟩:=hcu.last hi0;(repeat refine Qc ?_);refine Qa fun k2 hk=>?_;simp only[id,seval,Qb,QZ,Qx,e5,qb85];refine⟨by omega,by omega,?_⟩;rw[show ((l.length:Int) - 1).toNat=l.length - 1 by omega,hgl];refine hk _ ?_;clear hk k2;simp only[Qf];(repeat refine Qc ?_);refine Sat.block ?_;refine Qo (ι:=Nat×Bool) (fun z=>⟨69,[(10,.i .i64 z.1),(9,.b z.2),(8,.i .i64 l.length),(7,.i .i64 i),(6,.os 1 la l.length lc),(5,.sl ra ys.length rc 17 (Qk ys.toArray))],[.gone,Qx la lc l]⟩)
     (fun z=>a0≤z.1∧z.1≤i∧(z.2=true ↔ ∀ j,a0≤j→j<z.1→ZH ys.toArray[j]! ys.toArray[i]! = false)) (fun z=>i - z.1) (a0,true) ⟨Nat.le_refl _,Nat.le_of_lt ha0,⟨fun _ j h3 h4=>by omega,fun _=>rfl⟩⟩ (by simp only[h2,Qx];simp only[id,seval,Qb,QZ,Qx,qb86];first|rfl|trace_state) ?_
    rintro⟨q,b⟩ ⟨hq1,hq2,hb⟩;simp only[Qx] at hq1 hq2 hb ⊢;(repeat refine Qc ?_);(refine Qa fun k hk=>?_;simp only[id,seval,Qb,QZ,Qx,qb85];refine hk _ ?_;clear hk k;try show Sat _ _ _ _ _);(repeat refine Qc ?_);refine Qe rfl (fun h3=>?_) (fun h3=>?_)
    ·have hqi:q<i:=by simp only[decide_eq_true_eq] at h3;omega
     have e3:IntKind.i64.wrap ((q:Int)+1)=((q+1:Nat):Int):=by rw[w64 (by omega)];omega
     refine Sat.skip ?_;simp only[Qf];(repeat refine Qc ?_);refine Sat.block ?_;refine Sat.at ⟨69,[(10,.i .i64 q),(9,.b (b && !ZH ys.toArray[q]! ys.toArray[i]!)),(8,.i .i64 l.length),(7,.i .i64 i),(6,.os 1 la l.length lc),(5,.sl ra ys.length rc 17 (Qk ys.toArray))],[.gone,Qx la lc l]⟩ ?_ ?_
     ·cases b with
      | true=>
       refine Qr (by kernel_rfl) (by kernel_rfl) fun k2 hk=>?_;simp only[id,seval,Qb,QZ,Qx,qb85];refine⟨by omega,by omega,?_⟩;refine ZV (contradictG Frm.nil ys.toArray[q]! ys.toArray[i]!) rfl (Qh rfl) ?_;simp only[id,seval,Qb,QZ,Qx,qb85];refine hk _ ?_;simp only[Qf,Qx,Bool.true_and];simp only[id,seval,Qb,QZ,Qx,qb86]
      | false=>
       refine Qr (by kernel_rfl) (by kernel_rfl) fun k2 hk=>?_;simp only[id,seval,Qb,QZ,Qx,qb85];refine hk _ ?_;simp only[Qf,Qx,Bool.false_and];simp only[id,seval,Qb,QZ,Qx,qb86]
     simp only[Qf,Qg,reduceIte,Qx];(repeat refine Qc ?_);refine Qa fun k2 hk=>?_;simp only[id,seval,Qb,QZ,Qx,e3,qb85];refine hk _ ?_;simp only[Qf,Qg];refine⟨(q+1,b && !ZH ys.toArray[q]! ys.toArray[i]!),⟨by show a0≤q+1;omega,by show q+1≤i;omega,?_⟩,by show i - (q+1)<i - q;omega,?_⟩
     ·show (b && !ZH ys.toArray[q]! ys.toArray[i]!)=true ↔ _;rw[Bool.and_eq_true,hb,Bool.not_eq_true'];constructor
      ·rintro⟨g1,g2⟩ j g3 g4;rcases (show j<q∨j=q by have:j<q+1:=g4;omega) with g5|rfl
       ·exact g1 j g3 g5
       ·exact g2
      ·intro g;exact⟨fun j g3 g4=>g j g3 (by show j<q+1;omega),g q hq1 (by show q<q+1;omega)⟩
     ·simp only[Qx];simp only[id,seval,Qb,QZ,Qx,qb86]
    ·obtain rfl:q=i:=by simp only[decide_eq_false_iff_not] at h3;omega
     refine Sat.exit ?_;simp only[Qf,Qg,reduceIte];refine⟨b,?_,?_⟩
     ·cases b with
      | true=>exact .inl ⟨rfl,m,a0,hp,ha0,hsg,hlm,fun⟨j,g1,g2,g3⟩=>by rw[hb.1 rfl j g1 g2] at g3;cases g3⟩
      | false=>
       refine .inr ⟨rfl,.inr ⟨m,a0,hp,ha0,hsg,hlm,?_⟩⟩;refine Classical.byContradiction fun hno=>?_
       have:=hb.2 fun j g1 g2=>by
        cases g3:ZH ys.toArray[j]! ys.toArray[q]! with
        | false=>rfl
        | true=>exact absurd ⟨j,g1,g2,g3⟩ hno
       cases this
     ·simp only[id,seval,Qb,QZ,Qx,qb86]
   ·have hl0:l.length=0:=by simp only[decide_eq_false_iff_not] at h2;omega
    refine Sat.skip ?_;simp only[Qf];refine⟨false,.inr ⟨rfl,.inl ⟨hcu.len0.1 hl0,List.eq_nil_of_length_eq_zero hl0⟩⟩,?_⟩;simp only[h2];simp only[id,seval,Qb,QZ,Qx,qb86]
  ·intro b hb;simp only[Qf,Qx];(repeat refine Qc ?_);(refine Qa fun k hk=>?_;simp only[id,seval,Qb,QZ,Qx,qb85];refine hk _ ?_;clear hk k;try show Sat _ _ _ _ _);cases b with
   | true=>
    obtain⟨m,a0,rfl,hcu2⟩:=FitP.more hb;have hml:(m ++ [(a0,i)]).length=m.length+1:=by simp
    have hml2:(m ++ [(a0,i+1)]).length=(m ++ [(a0,i)]).length:=by simp
    refine Qe rfl (fun _=>?_) (fun h=>by cases h);(repeat refine Qc ?_);refine Qa fun k2 hk=>?_;simp only[id,seval,Qb,QZ,Qx,e2,e5,qb85];refine⟨by omega,by omega,?_⟩;refine hk _ ?_;clear hk k2;simp only[Qf,Qg,reduceIte];(repeat refine Qc ?_);refine Qa fun k2 hk=>?_;simp only[id,seval,Qb,QZ,Qx,e2,qb85];refine hk _ ?_;simp only[Qf,Qg];refine⟨(i+1,m ++ [(a0,i+1)],la,lc),⟨by show i+1≤ys.length;omega,hcu2⟩,by show ys.length - (i+1)<ys.length - i;omega,?_⟩;simp only[Qx,hml2];simp only[id,seval,Qb,QZ,Qx,qb86];try exact ep_set rfl (by omega)
   | false=>
    have hcu2:=FitP.new hb;have hml2:(l ++ [(i,i+1)]).length=l.length+1:=by simp
    refine Qe rfl (fun h=>by cases h) (fun _=>?_);(repeat refine Qc ?_);refine Qa fun k2 hk=>?_;simp only[id,seval,Qb,QZ,Qx,e2,qb85];intro blk;refine⟨⟨by unfold maxLen;omega,by omega⟩,fun la2 lc2=>?_⟩;refine hk _ ?_;clear hk k2;simp only[Qf,Qg,reduceIte];(repeat refine Qc ?_);refine Qa fun k2 hk=>?_;simp only[id,seval,Qb,QZ,Qx,e2,qb85];refine hk _ ?_;simp only[Qf,Qg];refine⟨(i+1,l ++ [(i,i+1)],la2,lc2),⟨by show i+1≤ys.length;omega,hcu2⟩,by show ys.length - (i+1)<ys.length - i;omega,?_⟩;simp only[Qx,hml2];simp only[id,seval,Qb,QZ,Qx,qb86];try exact ep_app rfl
 ·have h1:i=ys.length:=by simp only[decide_eq_false_iff_not] at h;omega
  subst h1;refine Sat.exit ?_;simp only[Qf,Qg,reduceIte];(repeat refine Qc ?_);(refine Qa fun k hk=>?_;simp only[id,seval,Qb,QZ,Qx,qb85];refine hk _ ?_;clear hk k;try show Sat _ _ _ _ _);refine Sat.ret ?_;simp only[Tryz.results93,id,seval,Int.reduceToNat,Qb,QZ,Qx,qb87];exact⟨la,lc,l,0,.inr ⟨hval,ys,ho,.inr (.inr ⟨rfl,hnz,honez,hcu⟩)⟩,by omega,rfl⟩
end

section
open Go.Sort Eng
def qb88:=And.intro @evr (And.intro @Qm (And.intro @Qq (And.intro @ep_one (And.intro @ep_0 (And.intro @ep_1 (And.intro @res_eqr (@evn)))))))
def qb90:=And.intro @evr (And.intro @Qm (And.intro @Qq (And.intro @List.append_nil.{0} (And.intro @Int.toNat_zero (And.intro @Nat.sub_self (And.intro @ep_one (And.intro @ep_0 (And.intro @ep_1 (@res_eqr)))))))))
def qb89:=And.intro @evr (And.intro @Qm (And.intro @Qq (And.intro @ep_one (And.intro @ep_0 (And.intro @ep_1 (And.intro @res_eqr (And.intro @evl (@evn))))))))
set_option maxRecDepth 100000 in
theorem partG (F:Frm) (ad:Option Addr) (cap:Nat) (xs:List Res) (hl:xs.length≤1000000000) (hin:∀ r∈xs,RgR r) (a b:Int) :
  ContractN F Tryz.prog 94 [.sl ad xs.length cap 17 (Qk xs.toArray),.agg 2 fun j=>[SV.i .i64 a,.i .i64 b].getD j default] (fun o=>∃ a' cap ys,OrdOf xs ys∧o=Qb a' (partL ys a b).length cap (partL ys a b).toArray):=by
 refine Zh Tryz.func94 rfl (by kernel_rfl) ?_;simp only[Tryz.ntmps94,Qt];(repeat refine Qc ?_);(refine Qa fun k hk=>?_;simp only[id,seval,Qb,Qx,qb88]);intro b1;(refine hk _ ?_;clear hk k;try show Sat _ _ _ _ _);(repeat refine Qc ?_);(refine Qa fun k hk=>?_;simp only[id,seval,Qb,Qx,qb88]);refine Q8 (orderG F ad cap xs hl hin) rfl rfl ?_;rintro ra ty len rc sz rrd ⟨a1,c,ys,ho,hyl,e⟩;simp only[Qb,Own.row.injEq] at e;obtain⟨rfl,rfl,rfl,rfl,rfl,rfl⟩:=e;simp only[id,seval,Qb,Qx,qb88];(refine hk _ ?_;clear hk k;try show Sat _ _ _ _ _);refine Zo 5 rfl rfl ?_;simp only[id,seval,Qb,Qx,qb88];(repeat refine Qc ?_);refine Sat.at ⟨32,[(24,.b (!decide (0≤a∧a≤b∧b≤ys.length))),(5,.sl ra ys.length rc 17 (Qk ys.toArray)),(3,.op 0 b1 0),(4,.sl none 0 0 0 (fun _ _=>.v undef))],[.box b1 130 [.i .i64 a,.i .i64 b]]⟩ ?_ ?_
 ·(refine Qa fun k hk=>?_;simp only[id,seval,Qb,Qx,qb88]);refine⟨fun q1=>hk _ ?_,fun q1=>⟨fun q2=>hk _ ?_,fun q2=>hk _ ?_⟩⟩
  ·have e:decide (0≤a∧a≤b∧b≤(ys.length:Int))=false:=decide_eq_false (by omega);simp only[Qf,e,Bool.not_false];simp only[id,seval,Qb,Qx,qb89]
  ·have e:decide (0≤a∧a≤b∧b≤(ys.length:Int))=false:=decide_eq_false (by omega);simp only[Qf,e,Bool.not_false];simp only[id,seval,Qb,Qx,qb89]
  ·have e:decide ((ys.length:Int)<b)=!decide (0≤a∧a≤b∧b≤(ys.length:Int)):=by
    by_cases h:(ys.length:Int)<b
    ·rw[decide_eq_true h,decide_eq_false (by omega)];rfl
    ·rw[decide_eq_false h,decide_eq_true (by omega)];rfl
   simp only[Qf,e];simp only[id,seval,Qb,Qx,qb89]
 simp only[Qf];(repeat refine Qc ?_);refine Qe rfl (fun h=>?_) (fun h=>?_)
 ·have hno:¬ (0≤a∧a≤b∧b≤ys.length):=by
   intro hh;rw[decide_eq_true hh] at h;cases h
  (repeat refine Qc ?_);(refine Qa fun k hk=>?_;simp only[id,seval,Qb,Qx,qb88];refine hk _ ?_;clear hk k;try show Sat _ _ _ _ _);refine Q1 4 62 17 (Qk #[]) rfl ?_;refine Sat.ret ?_;simp only[Tryz.results94,id,seval,Int.reduceToNat,Qb,Qx,retN,retNK,newRow,qb90];have e0:partL ys a b=[]:=if_neg hno;exact⟨⟨rfl,rfl,rfl⟩,_,_,ys,ho,by rw[e0];rfl⟩
 ·have hyes:0≤a∧a≤b∧b≤ys.length:=by
   apply Classical.byContradiction;intro hh;rw[decide_eq_false hh] at h;cases h
  have hlen:(partL ys a b).length=b.toNat - a.toNat:=by
   unfold partL;rw[if_pos hyes,List.length_drop,List.length_take];omega
  refine Sat.skip ?_;simp only[Qf];(repeat refine Qc ?_);(refine Qa fun k hk=>?_;simp only[id,seval,Qb,Qx,qb88]);refine⟨hyes,⟨by unfold maxLen;omega,by omega⟩,fun ax cx=>?_⟩;(refine hk _ ?_;clear hk k;try show Sat _ _ _ _ _);refine Sat.reread 1 (Qk (partL ys a b).toArray) rfl (fun i j hi hj=>by have h9:=part_rd hyes i j hi hj;simp only at h9;rw[h9];exact QE _) ?_;simp only[id,seval,Qb,Qx,qb88];refine Sat.ret ?_;simp only[Tryz.results94,id,seval,Int.reduceToNat,Qb,Qx,retN,retNK,newRow,qb90];exact⟨⟨rfl,rfl,rfl⟩,_,_,ys,ho,by rw[hlen]⟩
end

section
open Go.Sort Eng
def qb91:=And.intro @evr (And.intro @Qm (And.intro @Qq (And.intro @Z3 (And.intro @tre_ro (And.intro @tre_eqr (@evn))))))
def qb92:=And.intro @evr (And.intro @Qm (And.intro @Qq (And.intro @Z3 (And.intro @tre_ro (And.intro @tre_eqr (And.intro @evl (@evn)))))))
def qb93:=And.intro @evr (And.intro @Qm (And.intro @List.append_nil.{0} (And.intro @Int.toNat_zero (And.intro @Nat.sub_self (And.intro @Qq (And.intro @Z3 (And.intro @tre_ro (@tre_eqr))))))))
set_option maxRecDepth 100000 in
theorem tracesI (F:Frm) (ad:Option Addr) (cap:Nat) (xs:List Res) (hl:xs.length≤1000000000) :
  ContractN F Tryz.prog 91 [.sl ad xs.length cap 17 (Qk xs.toArray)] (fun o=>∃ (a:Option Addr) (cap:Nat) (ts:List Tre),(∀ r∈xs,QH r=true→r.tre∈ts)∧ts.length≤xs.length∧o=Ql a ts.length cap ts.toArray):=by
 refine Zh Tryz.func91 rfl (by kernel_rfl) ?_;simp only[Tryz.ntmps91,Qt];(repeat refine Qc ?_);(refine Qa fun k hk=>?_;simp only[id,seval,Qb,Ql,qb91];refine hk _ ?_;clear hk k;try show Sat _ _ _ _ _);(repeat refine Qc ?_);(refine Qa fun k hk=>?_;simp only[id,seval,Qb,Ql,qb91];refine hk _ ?_;clear hk k;try show Sat _ _ _ _ _);(repeat refine Qc ?_);(refine Qa fun k hk=>?_;simp only[id,seval,Qb,Ql,qb91];refine hk _ ?_;clear hk k;try show Sat _ _ _ _ _);refine Q1 3 68 3 (Xw #[]) rfl ?_;(repeat refine Qc ?_);refine Sat.block ?_;refine Qo (ι:=Nat×Option Addr×Nat×List Tre) (fun z=>⟨68,[(4,.i .i64 z.1),(0,.sl ad xs.length cap 17 (Qk xs.toArray)),(3,.os 0 z.2.1 z.2.2.2.length z.2.2.1)],[Ql z.2.1 z.2.2.2.length z.2.2.1 z.2.2.2.toArray]⟩)
  (fun z=>z.1≤xs.length∧z.2.2.2.length≤z.1∧∀ r∈xs.take z.1,QH r=true→r.tre∈z.2.2.2) (fun z=>xs.length - z.1) (0,none,0,[]) ⟨Nat.zero_le _,Nat.le_refl _,fun r hr=>by simp at hr⟩ (by simp only[id,seval,Qb,Ql,qb92];first|rfl|trace_state) ?_
 rintro⟨i,a,c,ts⟩ ⟨hi,hyl,hcm⟩;simp only[Ql] at hi hyl hcm ⊢;(repeat refine Qc ?_);(refine Qa fun k hk=>?_;simp only[id,seval,Qb,Ql,qb91];refine hk _ ?_;clear hk k;try show Sat _ _ _ _ _);(repeat refine Qc ?_);refine Qe rfl (fun h=>?_) (fun h=>?_)
 ·have h1:i<xs.length:=by simp only[decide_eq_true_eq] at h;omega
  have e2:IntKind.i64.wrap ((i:Int)+1)=((i+1:Nat):Int):=by rw[w64 (by omega)];omega
  obtain⟨t,ht⟩:∃ t,t=(xs.toArray[i]!).tre:=⟨_,rfl⟩
  have hnx:∀ ts2:List Tre,(∀ t2∈ts,t2∈ts2)→(QH xs.toArray[i]! = true→t∈ts2)→∀ r∈xs.take (i+1),QH r=true→r.tre∈ts2:=fun ts2 h8 h9 r hr hv=>by
   rw[List.take_succ_eq_append_getElem h1] at hr;rcases List.mem_append.1 hr with hr|hr
   ·exact h8 _ (hcm r hr hv)
   ·rw[List.mem_singleton] at hr;have e9:xs.toArray[i]! = xs[i]:=by simp [getElem!_def,h1]
    rw[hr,← e9] at hv ⊢;rw[← ht];exact h9 hv
  refine Sat.skip ?_;simp only[Qf];(repeat refine Qc ?_);refine Sat.block ?_;(repeat refine Qc ?_);(refine Qa fun k hk=>?_;simp only[id,seval,Qb,Ql,qb91]);refine⟨by omega,?_⟩;refine Qd (validG F xs.toArray[i]!) rfl (by rintro _ rfl;exact Qh rfl) ?_;rintro r0 rfl;simp only[id,seval,Qb,Ql,qb91];(refine hk _ ?_;clear hk k;try show Sat _ _ _ _ _);(repeat refine Qc ?_);refine Qe rfl (fun h2=>?_) (fun h2=>?_)
  ·refine Sat.exit ?_;simp only[Qg,Qf,reduceIte];refine Qa fun k hk=>?_;simp only[id,seval,Qb,Ql,e2,qb91];refine hk _ ?_;simp only[Qf,Qg];refine⟨(i+1,a,c,ts),⟨by simp only;omega,by simp only;omega,hnx ts (fun _ h=>h) (fun h8=>by rw[h8] at h2;cases h2)⟩,by simp only;omega,?_⟩;simp only[id,seval,Qb,Ql,qb92]
  refine Sat.skip ?_;simp only[Qf];(repeat refine Qc ?_);(refine Qa fun k hk=>?_;simp only[id,seval,Qb,Ql,qb91]);refine⟨by omega,?_⟩;refine Qd (traceOfG F xs.toArray[i]!) rfl (by rintro _ rfl;exact Xs _) ?_;rintro r0 rfl;simp only[QZ,id,seval,Qb,Ql,qb93];intro b5;(refine hk _ ?_;clear hk k;try show Sat _ _ _ _ _);(repeat refine Qc ?_);(refine Qa fun k hk=>?_;simp only[id,seval,Qb,Ql,qb91];refine hk _ ?_;clear hk k;try show Sat _ _ _ _ _);(repeat refine Qc ?_);refine Sat.block ?_;refine Qo (ι:=Nat) (fun k=>⟨68,[(6,.i .i64 k),(5,.op 1 b5 0),(4,.i .i64 i),(0,.sl ad xs.length cap 17 (Qk xs.toArray)),(3,.os 0 a ts.length c)],[Ql a ts.length c ts.toArray,.box b5 68 (Tre.cs t)]⟩)
   (fun k=>k≤ts.length) (fun k=>ts.length - k) 0 (Nat.zero_le _) (by subst ht;simp only[id,seval,Qb,Ql,qb92];first|exact⟨rfl,rfl⟩|rfl|trace_state) ?_
  rintro k0 hk0;simp only[Ql,Tre.cs];(repeat refine Qc ?_);refine QT (ι:=Bool) (fun b=>⟨68,[(36,.b b),(6,.i .i64 k0),(5,.op 1 b5 0),(4,.i .i64 i),(0,.sl ad xs.length cap 17 (Qk xs.toArray)),(3,.os 0 a ts.length c)],[Ql a ts.length c ts.toArray,.box b5 68 (Tre.cs t)]⟩) (fun b=>b=true→k0<ts.length) ?_ ?_
  ·(refine Qr (by kernel_rfl) (by kernel_rfl) fun k hk=>?_;simp only[id,seval,Qb,Ql,qb91]);refine⟨fun h3=>⟨by omega,by omega,?_⟩,fun h3=>hk _ ?_⟩
   ·refine ZV (ctraceG Frm.nil ts.toArray[k0]! t) rfl (Qh rfl) ?_;simp only[id,seval,Qb,Ql,qb91];refine hk _ ?_;simp only[Qf,Ql,Tre.cs];refine⟨decide (ctI ts.toArray[k0]! t<0),fun _=>by omega,?_⟩;simp only[id,seval,Qb,Ql,qb92]
   ·simp only[Qf,Ql,Tre.cs];refine⟨false,fun h=>(by cases h),?_⟩;simp only[id,seval,Qb,Ql,qb92]
  rintro b hb;simp only[Qf,Ql,Tre.cs];refine Qe rfl (fun h3=>?_) (fun h3=>?_)
  ·have hk1:=hb h3;have e3:IntKind.i64.wrap ((k0:Int)+1)=((k0+1:Nat):Int):=by rw[w64 (by omega)];omega
   refine Sat.skip ?_;simp only[Qf];(repeat refine Qc ?_);refine Sat.block ?_;refine Qa fun k hk=>?_;simp only[id,seval,Qb,Ql,e3,qb91];refine hk _ ?_;simp only[Qf,Qg];refine⟨k0+1,by omega,by omega,?_⟩;simp only[id,seval,Qb,Ql,qb92]
  refine Sat.exit ?_;simp only[Qf,Qg,reduceIte];(repeat refine Qc ?_);refine QT (ι:=Bool) (fun b=>⟨68,[(50,.b b),(6,.i .i64 k0),(5,.op 1 b5 0),(4,.i .i64 i),(0,.sl ad xs.length cap 17 (Qk xs.toArray)),(3,.os 0 a ts.length c)],[Ql a ts.length c ts.toArray,.box b5 68 (Tre.cs t)]⟩) (fun b=>b=true→t∈ts) ?_ ?_
  ·(refine Qr (by kernel_rfl) (by kernel_rfl) fun k hk=>?_;simp only[id,seval,Qb,Ql,qb91]);simp only[id,seval,Qb,Ql,tre_eqb,qb91];refine⟨fun h3=>⟨by omega,by omega,hk _ ?_⟩,fun h3=>hk _ ?_⟩
   ·simp only[Qf,Ql,Tre.cs];refine⟨decide (ts.toArray[k0]! = (⟨t.van,t.dst,t.pro⟩:Tre)),fun h8=>?_,?_⟩
    ·have h7:k0<ts.length:=by omega
     have h6:ts.toArray[k0]! = ts[k0]:=by simp [getElem!_def,h7]
     have h5:=of_decide_eq_true h8;rw[h6] at h5;rw[show t=ts[k0] from h5.symm];exact List.getElem_mem h7
    simp only[id,seval,Qb,Ql,qb92]
   ·simp only[Qf,Ql,Tre.cs];refine⟨false,fun h=>(by cases h),?_⟩;simp only[id,seval,Qb,Ql,qb92]
  rintro b4 hb4;simp only[Qf,Ql,Tre.cs];refine Qe rfl (fun h3=>?_) (fun h3=>?_)
  ·refine Sat.exit ?_;simp only[Qg,Qf,reduceIte];refine Qa fun k hk=>?_;simp only[id,seval,Qb,Ql,e2,qb91];refine hk _ ?_;simp only[Qf,Qg];refine⟨(i+1,a,c,ts),⟨by simp only;omega,by simp only;omega,hnx ts (fun _ h=>h) (fun _=>hb4 h3)⟩,by simp only;omega,?_⟩;simp only[id,seval,Qb,Ql,qb92]
  refine Sat.skip ?_;simp only[Qf];(repeat refine Qc ?_);(refine Qa fun k hk=>?_;simp only[id,seval,Qb,Ql,qb91]);intro b6;refine⟨⟨by unfold maxLen;omega,by omega⟩,fun a2 cap2=>?_⟩;(refine hk _ ?_;clear hk k;try show Sat _ _ _ _ _);refine ZE 0 rfl fun hcap=>?_;have e6:IntKind.i64.wrap ((k0:Int)+1)=((k0+1:Nat):Int):=by rw[w64 (by omega)];omega
  (repeat refine Qc ?_)
  refine Sat.at ⟨68,[(6,.i .i64 k0),(5,.op 1 b5 0),(4,.i .i64 i),(0,.sl ad xs.length cap 17 (Qk xs.toArray)),(3,.os 0 a2 (ts.length+1) cap2)],
   [.row a2 68 (ts.length+1) cap2 3 (Xj (k0+1) k0 (ts.length - k0) (Zb ts.length (Xw ts.toArray) (rdL (Tre.cs t) 3))),.box b5 68 (Tre.cs t)]⟩ ?_ ?_
  ·(refine Qp (.keep [0,1,2,4,5] [] (.alt 3 (.one 6 (.one 7 .done)) (.alt 6 (.one 3 (.one 7 .done)) .none))) (by kernel_rfl) (by kernel_rfl) (fun _ _ h=>h) fun k hk=>?_;simp only[WOT,List.map_cons,List.map_nil,List.getD_cons_zero,List.getD_cons_succ];simp only[id,seval,Qb,Ql,WOT,qb91]);simp only[id,seval,Qb,Ql,e6,qb91]
   repeat' (with_reducible refine And.intro ?_ ?_)
   all_goals first|omega|skip
   all_goals
    refine hk _ ?_;simp only[Qf,show min (ts.length+1 - k0) (ts.length+1 - (k0+1))=ts.length - k0 by omega,show min (ts.length+1 - k0) (ts.length - k0)=ts.length - k0 by omega,Tre.cs];simp only[id,seval,Qb,Ql,qb92]
  simp only[Qf,Tre.cs];(refine Qa fun k hk=>?_;simp only[id,seval,Qb,Ql,qb91]);refine⟨by omega,by omega,?_⟩;(refine hk _ ?_;clear hk k;try show Sat _ _ _ _ _);refine Qa fun k hk=>?_;simp only[id,seval,Qb,Ql,e2,qb91];refine hk _ ?_;simp only[Qf,Qg];have hil:=insL_len (ys:=ts) (r:=t) hk0;refine⟨(i+1,a2,cap2,insL ts k0 t),⟨by simp only;omega,by simp only;omega,hnx _ (fun _ h8=>insL_mem.2 (.inl h8)) (fun _=>insL_mem.2 (.inr rfl))⟩,by simp only;omega,?_⟩;simp only[hil];simp only[id,seval,Qb,Ql,qb92];exact ins_rd Tre.cs 3 (fun _=>rfl) hk0 rfl
 ·have h1:i=xs.length:=by simp only[decide_eq_false_iff_not] at h;omega
  subst h1;refine Sat.exit ?_;simp only[Qf,Qg,reduceIte];(repeat refine Qc ?_);(refine Qa fun k hk=>?_;simp only[id,seval,Qb,Ql,qb91];refine hk _ ?_;clear hk k;try show Sat _ _ _ _ _);refine Sat.ret ?_;simp only[Tryz.results91,id,seval,Qb,Ql,retN,retNK,newRow,qb93];rw[List.take_length] at hcm;exact⟨⟨rfl,rfl,rfl⟩,a,c,ts,hcm,hyl,rfl⟩
end

section
open Go.Sort Eng
def PartsOf (xs:List Res) (gs:List Fg):Prop:=(∀ g∈gs,IsPart xs g.rs)∧∀ p,IsPart xs p→∃ g∈gs,g.rs=p
theorem partL_cut {zs:List Res} {c:Nat×Nat} (h1:c.1<c.2) (h2:c.2≤zs.length):partL zs (c.1:Nat) (c.2:Nat)=cutL zs c:=by
 unfold partL cutL;rw[if_pos (by omega)];simp
def qb94:=And.intro @evr (And.intro @ZM (And.intro @Qm (And.intro @Z3 (And.intro @tre_ro (And.intro @Qq (And.intro @ep_one (@evn)))))))
def qb95:=And.intro @evr (And.intro @ZM (And.intro @Qm (And.intro @Z3 (And.intro @tre_ro (And.intro @Qq (And.intro @ep_one (And.intro @evl (@evn))))))))
def qb96:=And.intro @evr (And.intro @ZM (And.intro @Qm (And.intro @Z3 (And.intro @tre_ro (And.intro @List.append_nil.{0} (And.intro @Int.toNat_zero (And.intro @Nat.sub_self (And.intro @Qq (@ep_one)))))))))
set_option maxHeartbeats 2000000 in
set_option maxRecDepth 100000 in
theorem rfPartsC (F:Frm) (ad:Option Addr) (cap:Nat) (xs:List Res) (hl:xs.length≤512) (hin:∀ r∈xs,RgR r) :
  Contract F Tryz.prog 51 [.sl ad xs.length cap 17 (Qk xs.toArray)] (fun r=>∃ a cap gs,PartsOf xs gs∧gs.length≤1000000∧(∀ g∈gs,g.rs.length≤512)∧r=.sl a gs.length cap 1 (fgS gs)):=by
 refine Qi Tryz.func51 rfl (by kernel_rfl) ?_;simp only[Tryz.ntmps51,Qt];(repeat refine Qc ?_);(refine Qa fun k hk=>?_;simp only[id,seval,Ql,Qb,qb94];refine hk _ ?_;clear hk k;try show Sat _ _ _ _ _);(repeat refine Qc ?_);(refine Qa fun k hk=>?_;simp only[id,seval,Ql,Qb,qb94];refine hk _ ?_;clear hk k;try show Sat _ _ _ _ _);(repeat refine Qc ?_);(refine Qa fun k hk=>?_;simp only[id,seval,Ql,Qb,qb94]);refine Q8 (tracesI F ad cap xs (by omega)) rfl rfl ?_;rintro ra ty len rc sz rrd ⟨ta,tc,ts,hts,htl,e⟩;simp only[Ql,Eng.Own.row.injEq] at e;obtain⟨rfl,rfl,rfl,rfl,rfl,rfl⟩:=e;simp only[id,seval,Ql,Qb,qb94];(refine hk _ ?_;clear hk k;try show Sat _ _ _ _ _);refine QQ [] 4 rfl ?_;refine Q1 3 23 1 (fgS []) rfl ?_;(repeat refine Qc ?_);(refine Qa fun k hk=>?_;simp only[id,seval,Ql,Qb,qb94];refine hk _ ?_;clear hk k;try show Sat _ _ _ _ _);(repeat refine Qc ?_);refine Sat.block ?_
 refine Qo (ι:=Nat×List Fg×Option Addr×Nat) (fun z=>⟨45,[(5,.i .i64 z.1),(3,.os 0 z.2.2.1 z.2.1.length z.2.2.2),(4,.sl ra ts.length rc 3 (Xw ts.toArray)),(0,.sl ad xs.length cap 17 (Qk xs.toArray))],
   [.row z.2.2.1 23 z.2.1.length z.2.2.2 1 (fgS z.2.1)]⟩)
  (fun z=>z.1≤ts.length∧(∀ g∈z.2.1,IsPart xs g.rs)∧(∀ t∈ts.take z.1,∀ p,IsPartT xs t p→∃ g∈z.2.1,g.rs=p)∧z.2.1.length≤1000 * z.1∧∀ g∈z.2.1,g.rs.length≤512) (fun z=>ts.length - z.1) (0,[],none,0)
  ⟨Nat.zero_le _,fun g hg=>(by cases hg),fun t ht=>by simp at ht,Nat.zero_le _,fun g hg=>(by cases hg)⟩ (by
   simp only[List.length_nil];simp only[id,seval,Ql,Qb,qb95]
   first|done|rfl|exact⟨rfl,rfl⟩|trace_state) ?_
 rintro⟨i,gs,oa,oc⟩ ⟨hi,hS,hC,hgl,hgr⟩;simp only at hi hS hC hgl hgr ⊢;(repeat refine Qc ?_);(refine Qa fun k hk=>?_;simp only[id,seval,Ql,Qb,qb94];refine hk _ ?_;clear hk k;try show Sat _ _ _ _ _);(repeat refine Qc ?_);refine Qe rfl (fun h=>?_) (fun h=>?_)
 ·have h1:i<ts.length:=by simp only[decide_eq_true_eq] at h;omega
  have e1:IntKind.i64.wrap ((i:Int)+1)=((i+1:Nat):Int):=by rw[w64 (by omega)];omega
  obtain⟨t,ht⟩:∃ t,t=ts.toArray[i]! := ⟨_,rfl⟩;have hti:ts[i]=t:=by rw[ht];simp [getElem!_def,h1]
  have htk:ts.take (i+1)=ts.take i ++ [t]:=by rw[List.take_succ_eq_append_getElem h1,hti]
  refine Sat.skip ?_;simp only[Qf];(repeat refine Qc ?_);refine Sat.block ?_;(repeat refine Qc ?_);(refine Qa fun k hk=>?_;simp only[id,seval,Ql,Qb,qb94]);refine⟨by omega,?_⟩;refine Q8 (ofG F ad cap xs t (by omega) hin) rfl (by rw[ht];rfl) ?_;rintro ra1 ty1 len1 rc1 sz1 rrd1 ⟨za,zc,ys,ho,hyl,e⟩;obtain⟨zs,hzs⟩:∃ zs,zs=ofT ys t:=⟨_,rfl⟩;have hzs2:ys.filter (isTre t)=zs:=hzs.symm;rw[hzs2] at e;simp only[Qb,Eng.Own.row.injEq] at e;obtain⟨rfl,rfl,rfl,rfl,rfl,rfl⟩:=e;simp only[id,seval,Ql,Qb,qb94];(refine hk _ ?_;clear hk k;try show Sat _ _ _ _ _);refine QQ [.row oa 23 gs.length oc 1 (fgS gs)] 6 rfl ?_;have hzl:zs.length≤512:=by rw[hzs];unfold ofT;have:=List.length_filter_le (isTre t) ys;omega
  have hzv:∀ r∈zs,r∈xs∧QH r=true∧r.tre=t:=fun r hr=>by
   rw[hzs] at hr;obtain⟨h1,h2⟩:=List.mem_filter.1 hr;obtain⟨h3,h4⟩:=(ho.2 r).1 h1;unfold isTre at h2;exact⟨h3,h4,of_decide_eq_true h2⟩
  have hzasc:Asc zs:=by rw[hzs];exact ho.1.filter _
  have hself:OrdOf zs zs:=OrdOf.self hzasc fun r hr=>(hzv r hr).2.1;(repeat refine Qc ?_);(refine Qa fun k hk=>?_;simp only[id,seval,Ql,Qb,qb94]);refine Q2 (cutG F ra1 rc1 zs (by omega) (fun r hr=>hin r (hzv r hr).1)) rfl rfl ?_;rintro _ ⟨ca,cc,l,e,hcr,hll,rfl⟩
  have hcut:cutsOf zs l:=by
   rcases hcr with ⟨_,_,x,hx,hv⟩|⟨_,ys',ho',hcr⟩
   ·rw[(hzv x hx).2.1] at hv;cases hv
   ·obtain rfl:=hself.unique ho';rcases hcr with ⟨_,_,h9⟩|⟨_,_,_,h9⟩|⟨_,_,_,h9⟩
    ·omega
    ·exact absurd (fun r hr s hs=>by rw[(hzv r hr).2.2,(hzv s hs).2.2]) h9
    ·exact h9
  have hpart:∀ p,IsPartT xs t p ↔ ∃ c∈l,p=cutL zs c:=fun p=>by rw[hzs];exact IsPartT.iff ho (by rw[← hzs];exact hcut)
  simp only[Xh,id,seval,Ql,Int.reduceToNat,Qb,qb96];(refine hk _ ?_;clear hk k;try show Sat _ _ _ _ _);(repeat refine Qc ?_);(refine Qa fun k hk=>?_;simp only[id,seval,Ql,Qb,qb94];refine hk _ ?_;clear hk k;try show Sat _ _ _ _ _);(repeat refine Qc ?_);refine Sat.block ?_
  refine Qo (ι:=Nat×List Fg×Option Addr×Nat) (fun z=>⟨45,[(9,.i .i64 z.1),(3,.os 0 z.2.2.1 z.2.1.length z.2.2.2),(7,.sl ca l.length cc 2 (epRd l)),(6,.sl ra1 zs.length rc1 17 (Qk zs.toArray)),(5,.i .i64 i),(4,.sl ra ts.length rc 3 (Xw ts.toArray)),(0,.sl ad xs.length cap 17 (Qk xs.toArray))],
    [.row z.2.2.1 23 z.2.1.length z.2.2.2 1 (fgS z.2.1)]⟩)
   (fun z=>z.1≤l.length∧(∀ g∈z.2.1,IsPart xs g.rs)∧((∀ t∈ts.take i,∀ p,IsPartT xs t p→∃ g∈z.2.1,g.rs=p)∧∀ c∈l.take z.1,∃ g∈z.2.1,g.rs=cutL zs c)∧z.2.1.length≤1000 * i+z.1∧∀ g∈z.2.1,g.rs.length≤512) (fun z=>l.length - z.1) (0,gs,oa,oc)
   ⟨Nat.zero_le _,hS,⟨hC,fun c hc=>by simp at hc⟩,hgl,hgr⟩ (by simp only[id,seval,Ql,Qb,qb95];first|done|rfl|exact⟨rfl,rfl⟩|trace_state) ?_
  clear hS hC hgl hgr;rintro⟨q,gs,oa,oc⟩ ⟨hq,hS,⟨hC,hC2⟩,hgl,hgr⟩;simp only at hq hS hC hC2 hgl hgr ⊢;(repeat refine Qc ?_);(refine Qa fun k hk=>?_;simp only[id,seval,Ql,Qb,qb94];refine hk _ ?_;clear hk k;try show Sat _ _ _ _ _);(repeat refine Qc ?_);refine Qe rfl (fun h2=>?_) (fun h2=>?_)
  ·have h3:q<l.length:=by simp only[decide_eq_true_eq] at h2;omega
   have e2:IntKind.i64.wrap ((q:Int)+1)=((q+1:Nat):Int):=by rw[w64 (by omega)];omega
   obtain⟨c,hc⟩:∃ c,c=l.getD q (0,0):=⟨_,rfl⟩;have hcq:l[q]=c:=by rw[hc,List.getD_eq_getElem?_getD,List.getElem?_eq_getElem h3];rfl
   have hcl:c∈l:=by rw[← hcq];exact List.getElem_mem h3
   have hlk:l.take (q+1)=l.take q ++ [c]:=by rw[List.take_succ_eq_append_getElem h3,hcq]
   obtain⟨hc1,hc2⟩:=hcut.bounds hcl;refine Sat.skip ?_;simp only[Qf];(repeat refine Qc ?_);refine Sat.block ?_;(repeat refine Qc ?_);(refine Qa fun k hk=>?_;simp only[id,seval,Ql,Qb,qb94]);refine⟨by omega,?_⟩;refine Q8 (partG F ra1 rc1 zs (by omega) (fun r hr=>hin r (hzv r hr).1) (c.1:Nat) (c.2:Nat)) rfl (by rw[hc];rfl) ?_;rintro ra2 ty2 len2 rc2 sz2 rrd2 ⟨pa,pc,ys2,ho2,e⟩;obtain rfl:=hself.unique ho2;rw[partL_cut hc1 hc2] at e;obtain⟨p,hp⟩:∃ p,p=cutL zs c:=⟨_,rfl⟩;rw[← hp] at e;simp only[Qb,Eng.Own.row.injEq] at e;obtain⟨rfl,rfl,rfl,rfl,rfl,rfl⟩:=e;simp only[id,seval,Ql,Qb,qb94];refine fun blk=>⟨⟨by unfold maxLen;omega,by omega⟩,fun a2 c2=>hk _ ?_⟩;clear hk k;simp only[Qf,Qg,reduceIte];obtain⟨g,hg⟩:∃ g:Fg,g=⟨p,ra2,rc2⟩:=⟨_,rfl⟩;have hgr2:g.rs=cutL zs c:=by rw[hg,hp]
   have hgp:IsPart xs g.rs:=⟨t,(hpart _).2 ⟨c,hcl,hgr2⟩⟩;have hpl:p.length≤512:=by rw[hp];unfold cutL;rw[List.length_drop,List.length_take];omega
   refine Sat.le (st':=⟨45,[(9,.i .i64 q),(3,.os 0 a2 (gs.length+1) c2),(7,.sl ca l.length cc 2 (epRd l)),(6,.sl ra1 zs.length rc1 17 (Qk zs.toArray)),(5,.i .i64 i),(4,.sl ra ts.length rc 3 (Xw ts.toArray)),(0,.sl ad xs.length cap 17 (Qk xs.toArray))],
    [.row a2 23 (gs.length+1) c2 1 (Zb gs.length (fgS gs) (rdL [SV.os 1 ra2 p.length rc2] 1)),.row ra2 62 p.length rc2 17 (Qk p.toArray)]⟩) ?_ (by simp only[id,seval,Ql,Qb,qb95];try rfl)
   refine Sat.settleCell 0 1 (fgS (gs ++ [g])) rfl rfl (by decide) (fun p1 c1 hp1 hc1=>?_) ?_
   ·obtain rfl:c1=0:=by omega
    by_cases h9:p1<gs.length
    ·left
     have e9:fgS (gs ++ [g]) p1 0=fgS gs p1 0:=by
      unfold fgS;rw[List.getD_eq_getElem?_getD,List.getElem?_append_left h9,List.getD_eq_getElem?_getD]
     rw[e9];unfold Zb;rw[if_pos h9];exact QE _
    ·right;obtain rfl:p1=gs.length:=by omega
     refine⟨by unfold Zb rdL;rw[if_neg h9];simp,?_⟩;unfold fgS;have e9:(gs ++ [g]).getD gs.length default=g:=by rw[List.getD_eq_getElem?_getD,List.getElem?_concat_length];rfl
     rw[e9,hg]
   simp only[List.set_cons_succ,List.set_cons_zero];refine Qa fun kk hk=>?_;simp only[id,seval,Ql,Qb,e2,qb94];refine hk _ ?_;simp only[Qf,Qg];refine⟨(q+1,gs ++ [g],a2,c2),⟨h3,fun f hf=>?_,⟨fun t2 ht2 p2 hp2=>?_,fun c2' hc2'=>?_⟩,by simp only[List.length_append,List.length_singleton];omega,fun f hf=>?_⟩,by simp only;omega,?_⟩
   ·rcases List.mem_append.1 hf with hf|hf
    ·exact hS f hf
    ·rw[List.mem_singleton] at hf;rw[hf];exact hgp
   ·obtain⟨f,hf,e⟩:=hC t2 ht2 p2 hp2;exact⟨f,List.mem_append.2 (.inl hf),e⟩
   ·simp only at hc2';rw[hlk] at hc2';rcases List.mem_append.1 hc2' with hc2'|hc2'
    ·obtain⟨f,hf,e⟩:=hC2 c2' hc2';exact⟨f,List.mem_append.2 (.inl hf),e⟩
    ·rw[List.mem_singleton] at hc2';exact⟨g,List.mem_append.2 (.inr (List.mem_singleton.2 rfl)),by rw[hc2',hgr2]⟩
   ·rcases List.mem_append.1 hf with hf|hf
    ·exact hgr f hf
    ·rw[List.mem_singleton] at hf;rw[hf,hg];exact hpl
   ·simp only[List.length_append,List.length_singleton];simp only[id,seval,Ql,Qb,qb95];try rfl
  have h3:q=l.length:=by simp only[decide_eq_false_iff_not] at h2;omega
  subst h3;rw[List.take_length] at hC2;refine Sat.exit ?_;simp only[Qf,Qg,reduceIte];refine Qa fun kk hk=>?_;simp only[id,seval,Ql,Qb,e1,qb94];refine hk _ ?_;simp only[Qf,Qg];refine⟨(i+1,gs,oa,oc),⟨h1,hS,fun t2 ht2 p2 hp2=>?_,by simp only;omega,hgr⟩,by simp only;omega,?_⟩
  ·simp only at ht2;rw[htk] at ht2;rcases List.mem_append.1 ht2 with ht2|ht2
   ·exact hC t2 ht2 p2 hp2
   ·rw[List.mem_singleton] at ht2;rw[ht2] at hp2;obtain⟨c,hc,e⟩:=(hpart p2).1 hp2;rw[e];exact hC2 c hc
  ·simp only[id,seval,Ql,Qb,qb95]
 have h1:i=ts.length:=by simp only[decide_eq_false_iff_not] at h;omega
 subst h1;rw[List.take_length] at hC;refine Sat.exit ?_;simp only[Qf,Qg,reduceIte];refine QQ [] 3 rfl ?_;(repeat refine Qc ?_);(refine Qa fun k hk=>?_;simp only[id,seval,Ql,Qb,qb94];refine hk _ ?_;clear hk k;try show Sat _ _ _ _ _);refine Sat.ret ?_;simp only[Tryz.results51,id,seval,Ql,Int.reduceToNat,Qb,qb96];refine⟨oa,oc,gs,⟨hS,fun p ⟨t,hp⟩=>?_⟩,by omega,hgr,rfl⟩;by_cases hex:∃ r∈p,True
 ·obtain⟨r,hr,_⟩:=hex;have h8:=IsPart.sub ⟨t,hp⟩ r hr;have h9:=hts r h8.1 h8.2;rw[hp.tre r hr] at h9;exact hC t h9 p hp
 ·exfalso;obtain⟨ys,l,c,h2,h3,h4,h5⟩:=hp;obtain⟨h6,h7⟩:=h3.bounds h4;obtain⟨h8,h9⟩:=cut_get (Nat.le_of_lt h6) h7;rw[← h5] at h8
  match p,h8 with
  | [],h8=>simp at h8;omega
  | r :: p,_=>exact hex ⟨r,List.mem_cons_self,trivial⟩
end

section
open Go.Sort Eng
theorem insL_pairwise {α:Type} {R:α→α→Prop} {l:List α} {k:Nat} {x:α} (h:l.Pairwise R) (hk:k≤l.length) (h1:∀ q,(hq:q<k)→R (l[q]'(by omega)) x) (h2:∀ q,(hq:q<l.length)→k≤q→R x l[q]):(insL l k x).Pairwise R:=by
 unfold insL;refine List.pairwise_append.2 ⟨h.sublist (List.take_sublist k l),List.pairwise_cons.2 ⟨fun y hy=>?_,h.sublist (List.drop_sublist k l)⟩,fun a ha b hb=>?_⟩
 ·obtain⟨i,hi,rfl⟩:=List.getElem_of_mem hy;rw[List.getElem_drop];exact h2 _ (by simp at hi;omega) (by omega)
 ·obtain⟨i,hi,rfl⟩:=List.getElem_of_mem ha;have hi2:i<k:=by simp at hi;omega
  rw[List.getElem_take];rcases List.mem_cons.1 hb with rfl|hb
  ·exact h1 i hi2
  ·obtain⟨j,hj,rfl⟩:=List.getElem_of_mem hb;rw[List.getElem_drop];exact List.pairwise_iff_getElem.1 h i (k+j) (by omega) (by simp at hj;omega) (by omega)
def PutR (ids:List Idn) (x:Idn) (ids':List Idn):Prop:=
 ∃ k,k≤ids.length∧(∀ q,q<k→Za (ids.getD q default) x=true)∧((k<ids.length∧ids.getD k default=x∧ids'=ids)∨((k<ids.length→Za x (ids.getD k default)=true)∧ids'=insL ids k x))
theorem getD_at {α:Type} {l:List α} {i:Nat} {d:α} (h:i<l.length):l.getD i d=l[i]:=by rw[List.getD_eq_getElem?_getD,List.getElem?_eq_getElem h];rfl
theorem putR_law {ids ids':List Idn} {x:Idn} (hs:ids.Pairwise fun a b=>Za a b=true) (h:PutR ids x ids') :
  (ids'.Pairwise fun a b=>Za a b=true)∧(∀ d,d∈ids' ↔ d∈ids∨d=x)∧ids'.length≤ids.length+1∧ids'≠[]:=by
 obtain⟨k,hk,h1,h2⟩:=h;rcases h2 with ⟨h3,h4,rfl⟩|⟨h3,rfl⟩
 ·have hm:x∈ids':=by rw[← h4,getD_at h3];exact List.getElem_mem _
  refine⟨hs,fun d=>⟨.inl,fun h=>h.elim id (fun e=>e ▸ hm)⟩,by omega,fun e=>by subst e;cases hm⟩
 ·refine⟨insL_pairwise hs hk (fun q hq=>?_) (fun q hq hkq=>?_),fun d=>insL_mem,by rw[insL_len hk];omega,fun e=>?_⟩
  ·have:=h1 q hq
   rwa [getD_at (by omega)] at this
  ·have h5:=h3 (by omega);rw[getD_at (by omega)] at h5;by_cases e:q=k
   ·subst e;exact h5
   ·exact Xy _ _ _ h5 (List.pairwise_iff_getElem.1 hs k q (by omega) hq (by omega))
  ·have:=insL_len (r:=x) hk;rw[e] at this;simp at this
end

section
open Go.Sort Eng
theorem idnAt {ids:List Idn} {i:Nat} (h:i<ids.length):ids.toArray[i]! = ids.getD i default:=by simp [getElem!_def,List.getD,h]
theorem idn_eqR (ids:List Idn) (i:Nat) (x:Idn):aggEq Tryz.prog 27 3 (fun j=>QX ids.toArray i j) 3 (fun j=>[SV.i .i64 x.van,.i .i64 x.run,.i .i64 x.num].getD j default)=some (decide (ids.toArray[i]! = x)):=id_eq _ _ _ _ _ _
theorem parLt_iff {x y:Par}:ZK x y=true ↔ x.a<y.a∨(x.a=y.a∧x.b<y.b):=by
 unfold ZK parCmpI Par.keys;rw[decide_eq_true_eq,Xq,Xq];unfold cmpL Zq;simp only[List.zipWith,orL];split<;>split<;>(try split)<;>omega
end

section
open Go.Sort Eng
theorem excP_0 (d:Array Exc) (i:Nat):Zi d i 0=.i .u32 d[i]!.a:=rfl
theorem excP_1 (d:Array Exc) (i:Nat):Zi d i 1=.i .u32 d[i]!.b:=rfl
theorem excAt {es:List Exc} {i:Nat} (h:i<es.length):es.toArray[i]! = es.getD i default:=by simp [getElem!_def,List.getD,h]
theorem exc_set {es:List Exc} {k:Nat} {x:Exc} {cs:List SV} (h:cs=Exc.cs x) (hk:k<es.length):rdEq es.length 8 (Z8 (Zi es.toArray) k 0 cs) (Zi (es.set k x).toArray):=by
 subst h;intro p q hp hq;unfold Z8 Zi;by_cases e:p=k
 ·subst e;rw[if_pos ⟨rfl,by omega,by show q<0+8;omega⟩]
  have:(es.set p x).toArray[p]! = x:=by simp [getElem!_def,hk]
  rw[this,Nat.sub_zero]
 ·rw[if_neg (fun g=>e g.1)]
  have:(es.set k x).toArray[p]! = es.toArray[p]! := by simp [getElem!_def,Ne.symm e]
  rw[this]
def PutX (es:List Exc) (x:Exc) (es':List Exc):Prop:=
 ∃ k,k≤es.length∧(∀ q,q<k→ZK (es.getD q default).pr x.pr=true)∧((k<es.length∧(es.getD k default).pr=x.pr∧es'=if excB x (es.getD k default)=true then es.set k x else es) ∨
  ((k<es.length→ZK x.pr (es.getD k default).pr=true)∧es'=insL es k x))
def qb98:=And.intro @evr (And.intro @excP_0 (And.intro @excP_1 (And.intro @Qm (And.intro @QY (And.intro @Qv (And.intro @Qu (And.intro @Qq (And.intro @Qj (And.intro @evl (@evn))))))))))
def qb97:=And.intro @evr (And.intro @excP_0 (And.intro @excP_1 (And.intro @Qm (And.intro @QY (And.intro @Qv (And.intro @Qu (And.intro @Qq (And.intro @Qj (@evn)))))))))
def qb99:=And.intro @evr (And.intro @excP_0 (And.intro @excP_1 (And.intro @Qm (And.intro @QY (And.intro @Qv (And.intro @Qu (And.intro @List.append_nil.{0} (And.intro @Int.toNat_zero (And.intro @Nat.sub_self (And.intro @Qq (@Qj)))))))))))
set_option maxHeartbeats 2000000 in
set_option maxRecDepth 100000 in
theorem putXC (F:Frm) (a:Option Addr) (cap:Nat) (es:List Exc) (x:Exc) (hl:es.length≤1000000) :
  ContractL F Tryz.prog 53 [.os 0 a es.length cap,excAg x] [.row a 29 es.length cap 8 (Zi es.toArray)]
   (fun r os=>∃ a' c' es',PutX es x es'∧r=.os 0 a' es'.length c'∧os=[.row a' 29 es'.length c' 8 (Zi es'.toArray)]):=by
 refine contractL_of Tryz.func53 rfl (by kernel_rfl) ?_;simp only[Tryz.ntmps53,Qt,excAg,Exc.cs];(repeat refine Qc ?_);(refine Qa fun k hk=>?_;simp only[id,seval,Qb,qb97]);intro b3;(refine hk _ ?_;clear hk k;try show Sat _ _ _ _ _);(repeat refine Qc ?_);(refine Qa fun k hk=>?_;simp only[id,seval,Qb,qb97];refine hk _ ?_;clear hk k;try show Sat _ _ _ _ _);(repeat refine Qc ?_);refine Sat.block ?_;refine Qo (ι:=Nat) (fun i=>⟨94,[(5,.i .i64 i),(0,.os 0 a es.length cap),(3,.op 1 b3 0)],[.row a 29 es.length cap 8 (Zi es.toArray),.box b3 29 (Exc.cs x)]⟩)
  (fun i=>i≤es.length∧∀ q,q<i→ZK (es.getD q default).pr x.pr=true) (fun i=>es.length - i) 0 ⟨Nat.zero_le _,fun q hq=>by omega⟩ (by simp only[Exc.cs];simp only[id,seval,Qb,qb98];try rfl) ?_
 rintro i ⟨hi,hq⟩;simp only[Exc.cs];(repeat refine Qc ?_);refine Zg (ι:=Bool) (fun q=>⟨94,[(39,.b q),(5,.i .i64 i),(0,.os 0 a es.length cap),(3,.op 1 b3 0)],[.row a 29 es.length cap 8 (Zi es.toArray),.box b3 29 (Exc.cs x)]⟩)
  (fun q=>q=(decide (i<es.length) && ZK (es.getD i default).pr x.pr)) (fun hrest=>?_) ?_
 ·(refine Qr (by kernel_rfl) (by kernel_rfl) fun k hk=>?_;simp only[id,seval,Qb,qb97]);refine⟨fun g1=>?_,fun g1=>?_⟩
  ·have hlt:i<es.length:=by omega
   simp only[excAt hlt];refine⟨by omega,by omega,fun g2=>?_,fun g2=>⟨by omega,by omega,fun g3=>⟨by omega,by omega,?_⟩,fun g3=>?_⟩⟩
   ·refine hk _ ?_;simp only[Qf];refine (hrest true (by rw[decide_eq_true hlt,Bool.true_and];exact (parLt_iff.2 (.inl g2)).symm)).le ?_;simp only[Exc.cs];simp only[id,seval,Qb,qb98]
   ·have g4:(es.getD i default).a=x.a:=by simpa using g3
    refine hk _ ?_;simp only[Qf]
    refine (hrest (decide ((es.getD i default).b<x.b)) (by
     rw[decide_eq_true hlt,Bool.true_and];apply Bool.eq_iff_iff.2;rw[parLt_iff,decide_eq_true_eq];show _ ↔ (es.getD i default).a<x.a∨((es.getD i default).a=x.a∧(es.getD i default).b<x.b)
     omega)).le ?_
    simp only[Exc.cs];simp only[id,seval,Qb,qb98]
   ·have g4:(es.getD i default).a≠x.a:=by simpa using g3
    refine hk _ ?_;simp only[Qf]
    refine (hrest false (by
     rw[decide_eq_true hlt,Bool.true_and]
     symm
     rw[Bool.eq_false_iff,ne_eq,parLt_iff];show ¬ ((es.getD i default).a<x.a∨((es.getD i default).a=x.a∧(es.getD i default).b<x.b))
     omega)).le ?_
    simp only[Exc.cs];simp only[id,seval,Qb,qb98]
  ·refine hk _ ?_;simp only[Qf];refine (hrest false (by rw[decide_eq_false (by omega)];rfl)).le ?_;simp only[Exc.cs];simp only[id,seval,Qb,qb98]
 rintro q rfl;simp only[Exc.cs];(repeat refine Qc ?_);refine Qe rfl (fun h=>?_) (fun h=>?_)
 ·rw[Bool.and_eq_true,decide_eq_true_eq] at h;obtain⟨hlt,hx⟩:=h;have e1:IntKind.i64.wrap ((i:Int)+1)=((i+1:Nat):Int):=by rw[w64 (by omega)];omega
  refine Sat.skip ?_;simp only[Qf];(repeat refine Qc ?_);refine Sat.block ?_;refine Qa fun k hk=>?_;simp only[id,seval,Qb,e1,qb97];refine hk _ ?_;simp only[Qf,Qg];refine⟨i+1,⟨by omega,fun q hq2=>?_⟩,by omega,?_⟩
  ·by_cases e:q<i
   ·exact hq q e
   ·obtain rfl:q=i:=by omega
    exact hx
  simp only[id,seval,Qb,qb98]
 have hno:i<es.length→ZK (es.getD i default).pr x.pr=false:=fun g1=>by
  rw[decide_eq_true g1,Bool.true_and] at h;exact h
 have e6:IntKind.i64.wrap ((i:Int)+1)=((i+1:Nat):Int):=by rw[w64 (by omega)];omega
 refine Sat.exit ?_;simp only[Qf,Qg,reduceIte];(repeat refine Qc ?_);refine Zg (ι:=Bool) (fun q=>⟨94,[(65,.b q),(5,.i .i64 i),(0,.os 0 a es.length cap),(3,.op 1 b3 0)],[.row a 29 es.length cap 8 (Zi es.toArray),.box b3 29 (Exc.cs x)]⟩)
  (fun q=>q=(decide (i<es.length) && decide ((es.getD i default).pr=x.pr))) (fun hrest=>?_) ?_
 ·(refine Qr (by kernel_rfl) (by kernel_rfl) fun k hk=>?_;simp only[id,seval,Qb,qb97]);refine⟨fun g1=>?_,fun g1=>?_⟩
  ·have hlt:i<es.length:=by omega
   simp only[excAt hlt];refine⟨by omega,by omega,fun g3=>⟨by omega,by omega,?_⟩,fun g3=>?_⟩
   ·have g4:(es.getD i default).a=x.a:=by simpa using g3
    refine hk _ ?_;simp only[Qf]
    refine (hrest ((es.getD i default).b == x.b) (by
     rw[decide_eq_true hlt,Bool.true_and];apply Bool.eq_iff_iff.2;unfold Exc.pr;rw[beq_iff_eq,decide_eq_true_eq,Par.mk.injEq]
     exact⟨fun h9=>⟨g4,h9⟩,fun h9=>h9.2⟩)).le ?_
    simp only[Exc.cs];simp only[id,seval,Qb,qb98]
   ·have g4:(es.getD i default).a≠x.a:=by simpa using g3
    refine hk _ ?_;simp only[Qf]
    refine (hrest false (by
     rw[decide_eq_true hlt,Bool.true_and]
     exact (decide_eq_false fun h9=>g4 (congrArg Par.a h9)).symm)).le ?_
    simp only[Exc.cs];simp only[id,seval,Qb,qb98]
  ·refine hk _ ?_;simp only[Qf];refine (hrest false (by rw[decide_eq_false (by omega)];rfl)).le ?_;simp only[Exc.cs];simp only[id,seval,Qb,qb98]
 rintro q rfl;simp only[Exc.cs];(repeat refine Qc ?_);refine Qe rfl (fun h2=>?_) (fun h2=>?_)
 ·rw[Bool.and_eq_true,decide_eq_true_eq,decide_eq_true_eq] at h2;obtain⟨hlt,hpr⟩:=h2;obtain⟨y,hy⟩:∃ y,y=es.getD i default:=⟨_,rfl⟩;have hyi:es.toArray[i]! = y:=by rw[excAt hlt,hy]
  have hbc:Contract Frm.nil Tryz.prog 95 [.agg 8 fun j=>(Exc.cs x).getD j default,.agg 8 fun j=>Zi es.toArray i j] (fun r=>r=.b (excB x y)):=by
   have h9:=rfBetterC Frm.nil x y;rw[← hyi] at h9 ⊢;exact h9
  (repeat refine Qc ?_);refine Sat.at ⟨94,[(71,.b (excB x y)),(5,.i .i64 i),(0,.os 0 a es.length cap),(3,.op 1 b3 0)],[.row a 29 es.length cap 8 (Zi es.toArray),.box b3 29 (Exc.cs x)]⟩ ?_ ?_
  ·(refine Qr (by kernel_rfl) (by kernel_rfl) fun k hk=>?_;simp only[id,seval,Qb,qb97]);refine⟨by omega,by omega,?_⟩;refine ZV hbc rfl (Qh rfl) ?_;simp only[id,seval,Qb,qb97];refine hk _ ?_;simp only[Qf,Exc.cs];simp only[id,seval,Qb,qb98]
  simp only[Qf,Exc.cs];refine QT (ι:=List Exc) (fun es'=>⟨94,[(0,.os 0 a es.length cap)],[.row a 29 es.length cap 8 (Zi es'.toArray),.box b3 29 (Exc.cs x)]⟩) (fun es'=>es'=if excB x y=true then es.set i x else es) ?_ ?_
  ·refine Qe rfl (fun h3=>?_) (fun h3=>?_)
   ·(refine Qa fun k hk=>?_;simp only[id,seval,Qb,qb97]);refine⟨by omega,by omega,?_⟩;refine hk _ ?_;simp only[Qf];refine⟨es.set i x,by rw[if_pos h3],?_⟩;simp only[Exc.cs];simp only[id,seval,Qb,qb98];exact exc_set rfl hlt
   ·refine Sat.skip ?_;simp only[Qf];refine⟨es,by rw[if_neg (by rw[h3];decide)],?_⟩;simp only[Exc.cs];simp only[id,seval,Qb,qb98]
  rintro es' hes';simp only[Qf];have hlen:es'.length=es.length:=by rw[hes'];split<;>simp
  (repeat refine Qc ?_);(refine Qa fun k hk=>?_;simp only[id,seval,Qb,qb97];refine hk _ ?_;clear hk k;try show Sat _ _ _ _ _);refine Sat.ret ?_;simp only[Qf,Tryz.results53,id,seval,Int.reduceToNat,Qb,retL,retLK,resL,lfA,lf,qb99];refine⟨[_],[_],rfl,by simp,a,cap,es',⟨i,hi,hq,.inl ⟨hlt,hpr,by rw[hes',hy]⟩⟩,by rw[hlen],by rw[hlen]⟩
 have hgt:i<es.length→ZK x.pr (es.getD i default).pr=true:=fun g1=>by
  rw[decide_eq_true g1,Bool.true_and] at h2;rcases parLt_total (es.getD i default).pr x.pr with g|g|g
  ·rw[hno g1] at g;cases g
  ·exact absurd g (of_decide_eq_false h2)
  ·exact g
 refine Sat.skip ?_;simp only[Qf];(repeat refine Qc ?_);(refine Qa fun k hk=>?_;simp only[id,seval,Qb,qb97]);intro b6;refine⟨⟨by unfold maxLen;omega,by omega⟩,fun a2 cap2=>?_⟩;(refine hk _ ?_;clear hk k;try show Sat _ _ _ _ _);refine ZE 0 rfl fun hcap=>?_;(repeat refine Qc ?_)
 refine Sat.at ⟨94,[(5,.i .i64 i),(0,.os 0 a2 (es.length+1) cap2),(3,.op 1 b3 0)],
  [.row a2 29 (es.length+1) cap2 8 (Xj (i+1) i (es.length - i) (Zb es.length (Zi es.toArray) (rdL (Exc.cs x) 8))),.box b3 29 (Exc.cs x)]⟩ ?_ ?_
 ·(refine Qp (.keep [0,1,2,4,5] [] (.alt 3 (.one 6 (.one 7 .done)) (.alt 6 (.one 3 (.one 7 .done)) .none))) (by kernel_rfl) (by kernel_rfl) (fun _ _ h=>h) fun k hk=>?_;simp only[WOT,List.map_cons,List.map_nil,List.getD_cons_zero,List.getD_cons_succ];simp only[id,seval,Qb,WOT,qb97]);simp only[id,seval,Qb,e6,qb97]
  repeat' (with_reducible refine And.intro ?_ ?_)
  all_goals first|omega|skip
  all_goals
   refine hk _ ?_;simp only[Qf,show min (es.length+1 - i) (es.length+1 - (i+1))=es.length - i by omega,show min (es.length+1 - i) (es.length - i)=es.length - i by omega,Exc.cs];simp only[id,seval,Qb,qb98];try exact fun _ _ _ _=>rfl
 simp only[Qf,Exc.cs];(repeat refine Qc ?_);(refine Qa fun k hk=>?_;simp only[id,seval,Qb,qb97]);refine⟨by omega,by omega,?_⟩;(refine hk _ ?_;clear hk k;try show Sat _ _ _ _ _);have hil:=insL_len (ys:=es) (r:=x) hi;refine Sat.le (st':=⟨94,[(0,.os 0 a2 (insL es i x).length cap2)],[.row a2 29 (insL es i x).length cap2 8 (Zi (insL es i x).toArray)]⟩) ?_ ?_
 ·(repeat refine Qc ?_);(refine Qa fun k hk=>?_;simp only[id,seval,Qb,qb97];refine hk _ ?_;clear hk k;try show Sat _ _ _ _ _);refine Sat.ret ?_;simp only[Tryz.results53,id,seval,Int.reduceToNat,Qb,retL,retLK,resL,lfA,lf,qb99];exact⟨[_],[],rfl,by simp,a2,cap2,insL es i x,⟨i,hi,hq,.inr ⟨hgt,rfl⟩⟩,rfl,rfl⟩
 ·simp only[hil];simp only[id,seval,Qb,qb98];exact ins_rd Exc.cs 8 (fun _=>rfl) hi rfl
end

section
open Eng Go.Sort
section
variable {α:Type} {key:α→Par} {lt:α→α→Bool}
theorem getD_eq [Inhabited α] {es:List α} {i:Nat} (h:i<es.length):es.getD i default=es[i]:=by rw[List.getD_eq_getElem?_getD,List.getElem?_eq_getElem h];rfl
theorem asc_one {es:List α} (h:es.Pairwise fun x y=>ZK (key x) (key y)=true) {i j:Nat} (hi:i<es.length) (hj:j<es.length) (e:key es[i]=key es[j]):i=j:=by
 rw[List.pairwise_iff_getElem] at h;rcases Nat.lt_trichotomy i j with h1|h1|h1
 ·have:=h i j hi hj h1;rw[e,Zp] at this;cases this
 ·exact h1
 ·have:=h j i hj hi h1;rw[e,Zp] at this;cases this
theorem BestOf.start:BestOf key lt (fun _=>False) []:=⟨.nil,fun e he=>(by cases he),fun x hx=>hx.elim⟩
theorem BestOf.congr {C C':α→Prop} {X:List α} (h:BestOf key lt C X) (hc:∀ x,C x ↔ C' x):BestOf key lt C' X:=
 ⟨h.asc,fun e he=>⟨(hc e).1 (h.each e he).1,fun x hx=>(h.each e he).2 x ((hc x).2 hx)⟩,fun x hx=>h.all x ((hc x).2 hx)⟩
variable [Inhabited α]
theorem BestOf.ins {C:α→Prop} {es:List α} {x:α} {k:Nat} (hi:∀ x,lt x x=false) (h:BestOf key lt C es) (hk:k≤es.length) (h1:∀ q,q<k→ZK (key (es.getD q default)) (key x)=true) (h2:k<es.length→ZK (key x) (key (es.getD k default))=true) :
  BestOf key lt (fun y=>C y∨y=x) (insL es k x):=by
 have g1:∀ q,(hq:q<k)→ZK (key (es[q]'(by omega))) (key x)=true:=fun q hq=>by have:=h1 q hq;rwa [getD_eq (by omega)] at this
 have g2:∀ q,(hq:q<es.length)→k≤q→ZK (key x) (key es[q])=true:=fun q hq hkq=>by
  have h3:=h2 (by omega);rw[getD_eq (by omega)] at h3;by_cases e:k=q
  ·subst e;exact h3
  ·exact parLt_trans _ _ _ h3 (List.pairwise_iff_getElem.1 h.asc k q (by omega) hq (by omega))
 have hne:∀ e∈es,key e≠key x:=fun e he hk2=>by
  obtain⟨q,hq,rfl⟩:=List.getElem_of_mem he;by_cases hqk:q<k
  ·have:=g1 q hqk;rw[hk2,Zp] at this;cases this
  ·have:=g2 q hq (by omega);rw[hk2,Zp] at this;cases this
 refine⟨insL_pairwise h.asc hk g1 g2,fun e he=>?_,fun y hy=>?_⟩
 ·rcases insL_mem.1 he with he2|rfl
  ·refine⟨.inl (h.each e he2).1,fun y hy hky=>?_⟩;rcases hy with hy|hyx
   ·exact (h.each e he2).2 y hy hky
   ·rw[hyx] at hky;exact absurd hky.symm (hne e he2)
  ·refine⟨.inr rfl,fun y hy hky=>?_⟩;rcases hy with hy|rfl
   ·obtain⟨f,hf,hkf⟩:=h.all y hy;exact absurd (hkf.trans hky) (hne f hf)
   ·exact hi _
 ·rcases hy with hy|rfl
  ·obtain⟨f,hf,hkf⟩:=h.all y hy;exact⟨f,insL_mem.2 (.inl hf),hkf⟩
  ·exact⟨y,insL_mem.2 (.inr rfl),rfl⟩
theorem BestOf.rep {C:α→Prop} {es:List α} {x:α} {k:Nat} (hi:∀ x,lt x x=false) (ht:∀ x y z,lt x y=true→lt y z=true→lt x z=true) (h:BestOf key lt C es) (hk:k<es.length) (hkey:key (es.getD k default)=key x) (hb:lt x (es.getD k default)=true) :
  BestOf key lt (fun y=>C y∨y=x) (es.set k x):=by
 rw[getD_eq hk] at hkey hb
 have hmap:∀ i,(h1:i<(es.set k x).length)→key (es.set k x)[i]=key (es[i]'(by rw[List.length_set] at h1;exact h1)):=fun i h1=>by
  rw[List.getElem_set];split
  ·rename_i e;subst e;exact hkey.symm
  ·rfl
 refine⟨?_,fun e he=>?_,fun y hy=>?_⟩
 ·rw[List.pairwise_iff_getElem];intro i j hi' hj' hij;rw[hmap i hi',hmap j hj'];rw[List.length_set] at hi' hj';exact List.pairwise_iff_getElem.1 h.asc i j hi' hj' hij
 ·obtain⟨i,hi',rfl⟩:=List.getElem_of_mem he;have hi2:i<es.length:=by rw[List.length_set] at hi';exact hi'
  by_cases e:k=i
  ·subst e;rw[List.getElem_set_self];refine⟨.inr rfl,fun y hy hky=>?_⟩;rcases hy with hy|rfl
   ·cases hc:lt y x with
    | false=>rfl
    | true=>
     have h3:=(h.each es[k] (List.getElem_mem hk)).2 y hy (hky.trans hkey.symm);rw[ht _ _ _ hc hb] at h3;cases h3
   ·exact hi _
  ·rw[List.getElem_set_ne e];refine⟨.inl (h.each _ (List.getElem_mem hi2)).1,fun y hy hky=>?_⟩;rcases hy with hy|rfl
   ·exact (h.each _ (List.getElem_mem hi2)).2 y hy hky
   ·exact absurd (asc_one h.asc hk hi2 (hkey.trans hky)) e
 ·have hex:∃ e∈es,key e=key y:=by
   rcases hy with hy|rfl
   ·exact h.all y hy
   ·exact⟨es[k],List.getElem_mem hk,hkey⟩
  obtain⟨e,he,hke⟩:=hex;obtain⟨i,hi',rfl⟩:=List.getElem_of_mem he;have hi2:i<(es.set k x).length:=by rw[List.length_set];exact hi'
  exact⟨(es.set k x)[i],List.getElem_mem hi2,(hmap i hi2).trans hke⟩
theorem BestOf.kep {C:α→Prop} {es:List α} {x:α} {k:Nat} (h:BestOf key lt C es) (hk:k<es.length) (hkey:key (es.getD k default)=key x) (hb:lt x (es.getD k default)=false) :
  BestOf key lt (fun y=>C y∨y=x) es:=by
 rw[getD_eq hk] at hkey hb;refine⟨h.asc,fun e he=>⟨.inl (h.each e he).1,fun y hy hky=>?_⟩,fun y hy=>?_⟩
 ·rcases hy with hy|rfl
  ·exact (h.each e he).2 y hy hky
  ·obtain⟨i,hi,rfl⟩:=List.getElem_of_mem he;obtain rfl:=asc_one h.asc hk hi (hkey.trans hky);exact hb
 ·rcases hy with hy|rfl
  ·exact h.all y hy
  ·exact⟨es[k],List.getElem_mem hk,hkey⟩
end
end

section
open Go.Sort Eng
theorem resT_from (d:Array Res) (i:Nat):Qk d i 11=.i .u32 d[i]!.from_:=rfl
theorem BestOf.putX {C:Exc→Prop} {es es':List Exc} {x:Exc} (h:BestOf Exc.pr excB C es) (hp:PutX es x es'):BestOf Exc.pr excB (fun y=>C y∨y=x) es':=by
 obtain⟨k,hk,h1,h2|h2⟩:=hp
 ·obtain⟨hlt,hkey,rfl⟩:=h2;split
  ·rename_i hb;exact h.rep excB_irrefl excB_trans hlt hkey hb
  ·rename_i hb;exact h.kep hlt hkey (by simpa using hb)
 ·obtain⟨h2,rfl⟩:=h2;exact h.ins excB_irrefl hk h1 h2
theorem best_le {α:Type} {key:α→Par} {lt:α→α→Bool} {C:α→Prop} {es:List α} (h:BestOf key lt C es) {la:List Int} (hc:∀ x,C x→(key x).a∈la∧(key x).b∈la):es.length≤la.length * la.length:=
 best_len (key:=key) (lt:=lt) (C:=C) (X:=es) ⟨List.pairwise_map.2 (h.asc.imp fun {x y} g e=>by rw[e,Zp] at g;cases g),h.each,h.all⟩ hc
def mX (a b:Res) (x:Exc):Prop:=provR a b a.from_ b.from_=true∧x=XF a b
theorem provR_iff {a b:Res}:provR a b a.from_ b.from_=true ↔ a.from_<b.from_∧togR a b=true:=by
 unfold provR;simp
theorem parts_exc {xs:List Res} {gs:List Fg} (h:PartsOf xs gs) (x:Exc):(∃ g∈gs,∃ a∈g.rs,∃ b∈g.rs,mX a b x) ↔ ExcC xs x:=by
 constructor
 ·rintro⟨g,hg,a,ha,b,hb,h1,h2⟩;obtain⟨h3,h4⟩:=provR_iff.1 h1;obtain⟨h5,h6,_,wa,wb⟩:=togR_iff.1 h4;exact⟨g.rs,h.1 g hg,a,ha,b,hb,wa,wb,h6,⟨h5,h3⟩,h2⟩
 ·rintro⟨p,hp,a,ha,b,hb,wa,wb,hf,⟨h1,h2⟩,e⟩;obtain⟨g,hg,rfl⟩:=h.2 p hp;exact⟨g,hg,a,ha,b,hb,provR_iff.2 ⟨h2,togR_iff.2 ⟨h1,hf,hp.tre ha hb,wa,wb⟩⟩,e⟩
def qb100:=And.intro @evr (And.intro @resT_from (And.intro @Qm (And.intro @QY (And.intro @Qv (And.intro @Qu (And.intro @Qq (And.intro @Qj (@evn))))))))
def qb102:=And.intro @evr (And.intro @resT_from (And.intro @Qm (And.intro @QY (And.intro @Qv (And.intro @Qu (And.intro @Qq (And.intro @Qj (And.intro @evl (@evn)))))))))
def qb101:=And.intro @evr (And.intro @resT_from (And.intro @Qm (And.intro @QY (And.intro @Qv (And.intro @Qu (And.intro @List.append_nil.{0} (And.intro @Int.toNat_zero (And.intro @Nat.sub_self (And.intro @Qq (@Qj))))))))))
set_option maxHeartbeats 2000000 in
set_option maxRecDepth 100000 in
theorem rfPairsC (F:Frm) (ad:Option Addr) (cap:Nat) (xs:List Res) (hl:xs.length≤512) (hin:∀ r∈xs,RgR r) :
  Contract F Tryz.prog 13 [.sl ad xs.length cap 17 (Qk xs.toArray)] (fun r=>(xs.any (fun x=>!QH x)=true∧∃ rd,r=Xh [.sl none 0 0 0 rd,.i .i64 1]) ∨
   (xs.any (fun x=>!QH x)=false∧∃ a cap es,ExcOf xs es∧es.length≤262144∧r=Xh [.sl a es.length cap 8 (Zi es.toArray),.i .i64 0])):=by
 refine Qi Tryz.func13 rfl (by kernel_rfl) ?_;simp only[Tryz.ntmps13,Qt];(repeat refine Qc ?_);(refine Qa fun k hk=>?_;simp only[id,seval,Qb,qb100];refine hk _ ?_;clear hk k;try show Sat _ _ _ _ _);(repeat refine Qc ?_);(refine Qa fun k hk=>?_;simp only[id,seval,Qb,qb100]);refine Qd (refLimitedC F ad cap xs hl hin) rfl (by rintro _ rfl;exact Qh rfl) ?_;rintro _ rfl;simp only[id,seval,Qb,qb100];(refine hk _ ?_;clear hk k;try show Sat _ _ _ _ _);(repeat refine Qc ?_);(refine Qa fun k hk=>?_;simp only[id,seval,Qb,qb100];refine hk _ ?_;clear hk k;try show Sat _ _ _ _ _);(repeat refine Qc ?_);refine Qe rfl (fun h=>?_) (fun h=>?_)
 ·have hb:xs.any (fun x=>!QH x)=true:=by
   cases hx:xs.any (fun x=>!QH x) with
   | true=>rfl
   | false=>rw[hx] at h;cases h
  rw[hb];(repeat refine Qc ?_);(refine Qa fun k hk=>?_;simp only[id,seval,Qb,qb100];refine hk _ ?_;clear hk k;try show Sat _ _ _ _ _);refine Sat.ret ?_;simp only[Tryz.results13,id,seval,Int.reduceToNat,Qb,qb101];exact .inl ⟨_,rfl⟩
 have hb:xs.any (fun x=>!QH x)=false:=by
  cases hx:xs.any (fun x=>!QH x) with
  | false=>rfl
  | true=>rw[hx] at h;cases h
 refine Sat.skip ?_;simp only[Qf];(repeat refine Qc ?_);(refine Qa fun k hk=>?_;simp only[id,seval,Qb,qb100];refine hk _ ?_;clear hk k;try show Sat _ _ _ _ _);refine Q1 5 29 8 (Zi #[]) rfl ?_;(repeat refine Qc ?_);(refine Qa fun k hk=>?_;simp only[id,seval,Qb,qb100]);refine Q2 (rfPartsC F ad cap xs hl hin) rfl rfl ?_;rintro _ ⟨ga,gc,gs,hps,hgl,hgr,rfl⟩;simp only[id,seval,Qb,qb100];(refine hk _ ?_;clear hk k;try show Sat _ _ _ _ _);have hsub:∀ g∈gs,∀ a∈g.rs,a∈xs:=fun g hg a ha=>((hps.1 g hg).sub a ha).1;(repeat refine Qc ?_);(refine Qa fun k hk=>?_;simp only[id,seval,Qb,qb100];refine hk _ ?_;clear hk k;try show Sat _ _ _ _ _);(repeat refine Qc ?_);refine Sat.block ?_;refine Qo (ι:=Nat×List Exc×Option Addr×Nat) (fun z=>⟨81,[(7,.i .i64 z.1),(6,.sl ga gs.length gc 1 (fgS gs)),(5,.os 0 z.2.2.1 z.2.1.length z.2.2.2)],[.row z.2.2.1 29 z.2.1.length z.2.2.2 8 (Zi z.2.1.toArray)]⟩)
  (fun z=>z.1≤gs.length∧BestOf Exc.pr excB (fun x=>∃ g∈gs.take z.1,∃ a∈g.rs,∃ b∈g.rs,mX a b x) z.2.1) (fun z=>gs.length - z.1) (0,[],none,0)
  ⟨Nat.zero_le _,BestOf.start.congr fun x=>⟨fun h=>h.elim,fun⟨g,hg,_⟩=>by simp at hg⟩⟩ (by simp only[List.length_nil];simp only[id,seval,Qb,qb102];first|done|rfl|exact⟨rfl,rfl⟩|trace_state) ?_
 rintro⟨i,es,oa,oc⟩ ⟨hi,hB⟩;simp only at hi hB ⊢;(repeat refine Qc ?_);(refine Qa fun k hk=>?_;simp only[id,seval,Qb,qb100];refine hk _ ?_;clear hk k;try show Sat _ _ _ _ _);(repeat refine Qc ?_);refine Qe rfl (fun h=>?_) (fun h=>?_)
 ·have h1:i<gs.length:=by simp only[decide_eq_true_eq] at h;omega
  have e1:IntKind.i64.wrap ((i:Int)+1)=((i+1:Nat):Int):=by rw[w64 (by omega)];omega
  obtain⟨g,hg⟩:∃ g,g=gs.getD i default:=⟨_,rfl⟩;have hgi:gs[i]=g:=by rw[hg,List.getD_eq_getElem?_getD,List.getElem?_eq_getElem h1];rfl
  have hgm:g∈gs:=by rw[← hgi];exact List.getElem_mem h1
  have hgl2:=hgr g hgm;have q0:fgS gs i 0=.sl g.a g.rs.length g.cap 17 (Qk g.rs.toArray):=by rw[hg];rfl
  have htk:gs.take (i+1)=gs.take i ++ [g]:=by rw[List.take_succ_eq_append_getElem h1,hgi]
  refine Sat.skip ?_;simp only[Qf];(repeat refine Qc ?_);refine Sat.block ?_;(repeat refine Qc ?_);(refine Qa fun k hk=>?_;simp only[id,seval,Qb,qb100]);simp only[q0];refine⟨by omega,?_⟩;(refine hk _ ?_;clear hk k;try show Sat _ _ _ _ _);(repeat refine Qc ?_);(refine Qa fun k hk=>?_;simp only[id,seval,Qb,qb100];refine hk _ ?_;clear hk k;try show Sat _ _ _ _ _);(repeat refine Qc ?_);refine Sat.block ?_;refine Qo (ι:=Nat×List Exc×Option Addr×Nat) (fun z=>⟨81,[(9,.i .i64 z.1),(8,.sl g.a g.rs.length g.cap 17 (Qk g.rs.toArray)),(7,.i .i64 i),(6,.sl ga gs.length gc 1 (fgS gs)),(5,.os 0 z.2.2.1 z.2.1.length z.2.2.2)],[.row z.2.2.1 29 z.2.1.length z.2.2.2 8 (Zi z.2.1.toArray)]⟩)
   (fun z=>z.1≤g.rs.length∧BestOf Exc.pr excB (fun x=>(∃ g∈gs.take i,∃ a∈g.rs,∃ b∈g.rs,mX a b x)∨∃ a∈g.rs.take z.1,∃ b∈g.rs,mX a b x) z.2.1) (fun z=>g.rs.length - z.1) (0,es,oa,oc)
   ⟨Nat.zero_le _,hB.congr fun x=>⟨.inl,fun h=>h.elim id fun⟨a,ha,_⟩=>by simp at ha⟩⟩ (by simp only[id,seval,Qb,qb102];first|done|rfl|exact⟨rfl,rfl⟩|trace_state) ?_
  clear hB;rintro⟨j,es,oa,oc⟩ ⟨hj,hB⟩;simp only at hj hB ⊢;(repeat refine Qc ?_);(refine Qa fun k hk=>?_;simp only[id,seval,Qb,qb100];refine hk _ ?_;clear hk k;try show Sat _ _ _ _ _);(repeat refine Qc ?_);refine Qe rfl (fun h=>?_) (fun h=>?_)
  ·have h2:j<g.rs.length:=by simp only[decide_eq_true_eq] at h;omega
   have e2:IntKind.i64.wrap ((j:Int)+1)=((j+1:Nat):Int):=by rw[w64 (by omega)];omega
   obtain⟨a,ha⟩:∃ a,a=g.rs.toArray[j]! := ⟨_,rfl⟩;have haj:g.rs[j]=a:=by rw[ha,getB h2]
   have ham:a∈g.rs:=by rw[← haj];exact List.getElem_mem h2
   have htk2:g.rs.take (j+1)=g.rs.take j ++ [a]:=by rw[List.take_succ_eq_append_getElem h2,haj]
   refine Sat.skip ?_;simp only[Qf];(repeat refine Qc ?_);refine Sat.block ?_;(repeat refine Qc ?_);(refine Qa fun k hk=>?_;simp only[id,seval,Qb,qb100];refine hk _ ?_;clear hk k;try show Sat _ _ _ _ _);(repeat refine Qc ?_);refine Sat.block ?_;refine Qo (ι:=Nat×List Exc×Option Addr×Nat) (fun z=>⟨81,[(10,.i .i64 z.1),(9,.i .i64 j),(8,.sl g.a g.rs.length g.cap 17 (Qk g.rs.toArray)),(7,.i .i64 i),(6,.sl ga gs.length gc 1 (fgS gs)),(5,.os 0 z.2.2.1 z.2.1.length z.2.2.2)],[.row z.2.2.1 29 z.2.1.length z.2.2.2 8 (Zi z.2.1.toArray)]⟩)
    (fun z=>z.1≤g.rs.length∧BestOf Exc.pr excB (fun x=>((∃ g∈gs.take i,∃ a∈g.rs,∃ b∈g.rs,mX a b x)∨∃ a∈g.rs.take j,∃ b∈g.rs,mX a b x)∨∃ b∈g.rs.take z.1,mX a b x) z.2.1) (fun z=>g.rs.length - z.1) (0,es,oa,oc)
    ⟨Nat.zero_le _,hB.congr fun x=>⟨.inl,fun h=>h.elim id fun⟨a,ha,_⟩=>by simp at ha⟩⟩ (by simp only[id,seval,Qb,qb102];first|done|rfl|exact⟨rfl,rfl⟩|trace_state) ?_
   clear hB;rintro⟨l,es,oa,oc⟩ ⟨hl3,hB⟩;simp only at hl3 hB ⊢;(repeat refine Qc ?_);(refine Qa fun k hk=>?_;simp only[id,seval,Qb,qb100];refine hk _ ?_;clear hk k;try show Sat _ _ _ _ _);(repeat refine Qc ?_);refine Qe rfl (fun h=>?_) (fun h=>?_)
   ·have h3:l<g.rs.length:=by simp only[decide_eq_true_eq] at h;omega
    have e3:IntKind.i64.wrap ((l:Int)+1)=((l+1:Nat):Int):=by rw[w64 (by omega)];omega
    obtain⟨b,hbd⟩:∃ b,b=g.rs.toArray[l]! := ⟨_,rfl⟩;have hbl:g.rs[l]=b:=by rw[hbd,getB h3]
    have hbm:b∈g.rs:=by rw[← hbl];exact List.getElem_mem h3
    have htk3:g.rs.take (l+1)=g.rs.take l ++ [b]:=by rw[List.take_succ_eq_append_getElem h3,hbl]
    have hel:es.length≤262144:=by
     have h8:=best_le hB (la:=xs.map Res.from_) (fun x hx=>by
      have key:∀ {a b:Res},a∈xs→b∈xs→mX a b x→(Exc.pr x).a∈xs.map Res.from_∧(Exc.pr x).b∈xs.map Res.from_:=fun {a b} h5 h6 ⟨_,h7⟩=>by
       rw[h7];exact⟨List.mem_map.2 ⟨a,h5,rfl⟩,List.mem_map.2 ⟨b,h6,rfl⟩⟩
      rcases hx with (⟨g2,hg2,a2,ha2,b2,hb2,hm⟩|⟨a2,ha2,b2,hb2,hm⟩)|⟨b2,hb2,hm⟩
      ·exact key (hsub g2 (List.mem_of_mem_take hg2) a2 ha2) (hsub g2 (List.mem_of_mem_take hg2) b2 hb2) hm
      ·exact key (hsub g hgm a2 (List.mem_of_mem_take ha2)) (hsub g hgm b2 hb2) hm
      ·exact key (hsub g hgm a ham) (hsub g hgm b2 (List.mem_of_mem_take hb2)) hm)
     rw[List.length_map] at h8;exact Nat.le_trans h8 (Nat.le_trans (Nat.mul_le_mul hl hl) (by decide))
    have hpc:Contract Frm.nil Tryz.prog 52 [.agg 17 fun q=>Qk g.rs.toArray j q,.agg 17 fun q=>Qk g.rs.toArray l q,.i .u32 a.from_,.i .u32 b.from_] (fun r=>r=.b (provR a b a.from_ b.from_)):=by
     have h9:=rfProvC Frm.nil a b a.from_ b.from_;rw[ha,hbd] at h9 ⊢;exact h9
    refine Sat.skip ?_;simp only[Qf];(repeat refine Qc ?_);refine Sat.block ?_;(repeat refine Qc ?_);refine Sat.at ⟨81,[(11,.i .u32 a.from_),(12,.i .u32 b.from_),(10,.i .i64 l),(9,.i .i64 j),(8,.sl g.a g.rs.length g.cap 17 (Qk g.rs.toArray)),(7,.i .i64 i),(6,.sl ga gs.length gc 1 (fgS gs)),(5,.os 0 oa es.length oc)],[.row oa 29 es.length oc 8 (Zi es.toArray)]⟩ ?_ ?_
    ·(refine Qp (.keep [0,1,2,3,4,6,7,8,9,10,5,11,12,13] [] .done) (by kernel_rfl) (by kernel_rfl) (fun _ _ h=>h) fun k hk=>?_;simp only[WOT,List.map_cons,List.map_nil,List.getD_cons_zero,List.getD_cons_succ];simp only[id,seval,Qb,WOT,qb100])
     repeat' (first
      | (with_reducible refine And.intro ?_ ?_)
      | omega)
     all_goals
      refine hk _ ?_;simp only[Qf,← ha,← hbd];simp only[id,seval,Qb,qb102]
    simp only[Qf];(repeat refine Qc ?_);(refine Qr (by kernel_rfl) (by kernel_rfl) fun k hk=>?_;simp only[id,seval,Qb,qb100]);refine⟨by omega,by omega,?_⟩;refine ZV hpc rfl (Qh rfl) ?_;simp only[id,seval,Qb,qb100];refine hk _ ?_;clear hk k;simp only[Qf];refine Qe rfl (fun h4=>?_) (fun h4=>?_)
    ·have hia:Contract F Tryz.prog 54 [.agg 17 fun q=>Qk g.rs.toArray j q] (fun r=>r=Z7 a):=by
      have h9:=identG F a;rw[ha] at h9 ⊢;exact h9
     have hib:Contract F Tryz.prog 54 [.agg 17 fun q=>Qk g.rs.toArray l q] (fun r=>r=Z7 b):=by
      have h9:=identG F b;rw[hbd] at h9 ⊢;exact h9
     (refine Qp (.keep [0,1,2,3,4,5,8,9,10,6,11] [7] (.one 7 (.one 12 (.one 13 (.one 14 (.one 15 .done)))))) (by kernel_rfl) (by kernel_rfl) (fun _ _ h=>h) fun k hk=>?_;simp only[WOT,List.map_cons,List.map_nil,List.getD_cons_zero,List.getD_cons_succ];simp only[id,seval,Qb,WOT,qb100])
     repeat' (first
      | (with_reducible refine And.intro ?_ ?_)
      | omega
      | (refine Qd hia rfl (by rintro _ rfl;exact idAg_ok _) ?_;rintro _ rfl;simp only[Z7,id,seval,Int.reduceToNat,Qb,qb101])
      | (refine Qd hib rfl (by rintro _ rfl;exact idAg_ok _) ?_;rintro _ rfl;simp only[Z7,id,seval,Int.reduceToNat,Qb,qb101]))
     refine wcall_multi [] [0] (putXC F oa oc es (XF a b) (by omega)) rfl (by decide) (by simp only[id,seval,Qb,renO,qb100]) (by
      simp only[List.map_cons,List.map_nil];rw[argL_lits]
      ·rfl
      ·intro s hs;simp only[List.mem_cons,List.not_mem_nil,or_false] at hs
       rcases hs with rfl|rfl|rfl|rfl|rfl|rfl|rfl|rfl<;>rfl) ?_
     rintro r os1 ⟨a',c',es',hput,rfl,rfl⟩;simp only[Eng.frz,List.foldl_nil,List.map_cons,List.map_nil,renI_one,renO_row,setA_0];simp only[id,seval,Qb,qb100];refine hk _ ?_;clear hk k;simp only[Qf,Qg,reduceIte];have hB2:=hB.putX hput;refine Qa fun kk hk=>?_;simp only[id,seval,Qb,e3,qb100];refine hk _ ?_;simp only[Qf,Qg];refine⟨(l+1,es',a',c'),⟨h3,hB2.congr fun x=>?_⟩,by simp only;omega,?_⟩
     ·simp only;rw[htk3,or_assoc];refine or_congr Iff.rfl ⟨fun h=>?_,fun⟨b',h8,h9⟩=>?_⟩
      ·rcases h with ⟨b',h8,h9⟩|h
       ·exact⟨b',List.mem_append.2 (.inl h8),h9⟩
       ·exact⟨b,List.mem_append.2 (.inr (List.mem_singleton.2 rfl)),h4,h⟩
      ·rcases List.mem_append.1 h8 with h8|h8
       ·exact .inl ⟨b',h8,h9⟩
       ·rw[List.mem_singleton] at h8;subst h8;exact .inr h9.2
     ·simp only[id,seval,Qb,qb102];try rfl
    ·refine Sat.skip ?_;simp only[Qf,Qg,reduceIte];refine Qa fun kk hk=>?_;simp only[id,seval,Qb,e3,qb100];refine hk _ ?_;simp only[Qf,Qg];refine⟨(l+1,es,oa,oc),⟨h3,hB.congr fun x=>?_⟩,by simp only;omega,?_⟩
     ·simp only;rw[htk3];refine or_congr Iff.rfl ⟨fun⟨b',h8,h9⟩=>⟨b',List.mem_append.2 (.inl h8),h9⟩,fun⟨b',h8,h9⟩=>?_⟩;rcases List.mem_append.1 h8 with h8|h8
      ·exact⟨b',h8,h9⟩
      ·rw[List.mem_singleton] at h8;subst h8;have h7:=h9.1;rw[h4] at h7;cases h7
     ·simp only[id,seval,Qb,qb102];try rfl
   have h3:l=g.rs.length:=by simp only[decide_eq_false_iff_not] at h;omega
   subst h3;refine Sat.exit ?_;simp only[Qf,Qg,reduceIte];refine Qa fun kk hk=>?_;simp only[id,seval,Qb,e2,qb100];refine hk _ ?_;simp only[Qf,Qg];refine⟨(j+1,es,oa,oc),⟨h2,hB.congr fun x=>?_⟩,by simp only;omega,?_⟩
   ·simp only;rw[htk2,List.take_length,or_assoc];refine or_congr Iff.rfl ⟨fun h=>?_,fun⟨a',h8,h9⟩=>?_⟩
    ·rcases h with ⟨a',h8,h9⟩|h
     ·exact⟨a',List.mem_append.2 (.inl h8),h9⟩
     ·exact⟨a,List.mem_append.2 (.inr (List.mem_singleton.2 rfl)),h⟩
    ·rcases List.mem_append.1 h8 with h8|h8
     ·exact .inl ⟨a',h8,h9⟩
     ·rw[List.mem_singleton] at h8;subst h8;exact .inr h9
   ·simp only[id,seval,Qb,qb102];try rfl
  have h2:j=g.rs.length:=by simp only[decide_eq_false_iff_not] at h;omega
  subst h2;refine Sat.exit ?_;simp only[Qf,Qg,reduceIte];refine Qa fun kk hk=>?_;simp only[id,seval,Qb,e1,qb100];refine hk _ ?_;simp only[Qf,Qg];refine⟨(i+1,es,oa,oc),⟨h1,hB.congr fun x=>?_⟩,by simp only;omega,?_⟩
  ·simp only;rw[htk,List.take_length];refine⟨fun h=>?_,fun⟨g',h8,h9⟩=>?_⟩
   ·rcases h with ⟨g',h8,h9⟩|h
    ·exact⟨g',List.mem_append.2 (.inl h8),h9⟩
    ·exact⟨g,List.mem_append.2 (.inr (List.mem_singleton.2 rfl)),h⟩
   ·rcases List.mem_append.1 h8 with h8|h8
    ·exact .inl ⟨g',h8,h9⟩
    ·rw[List.mem_singleton] at h8;subst h8;exact .inr h9
  ·simp only[id,seval,Qb,qb102];try rfl
 have h1:i=gs.length:=by simp only[decide_eq_false_iff_not] at h;omega
 subst h1;rw[List.take_length] at hB;have hE:ExcOf xs es:=hB.congr fun x=>parts_exc hps x
 have hel:es.length≤262144:=by
  have h8:=best_le hE (la:=xs.map Res.from_) (fun x hx=>by
   obtain⟨p,hp,a,ha,b,hb,_,_,_,_,rfl⟩:=hx
   exact⟨List.mem_map.2 ⟨a,(hp.sub a ha).1,rfl⟩,List.mem_map.2 ⟨b,(hp.sub b hb).1,rfl⟩⟩)
  rw[List.length_map] at h8;exact Nat.le_trans h8 (Nat.le_trans (Nat.mul_le_mul hl hl) (by decide))
 refine Sat.exit ?_;simp only[Qf,Qg,reduceIte];refine QQ [] 5 rfl ?_;(repeat refine Qc ?_);(refine Qa fun k hk=>?_;simp only[id,seval,Qb,qb100];refine hk _ ?_;clear hk k;try show Sat _ _ _ _ _);refine Sat.ret ?_;simp only[Tryz.results13,id,seval,Int.reduceToNat,Qb,qb101];exact .inr ⟨hb,oa,oc,es,hE,hel,rfl⟩
end

section
open Go.RowKit Eng
def Frm.codes (cb:Nat):Frm:=⟨fun b=>b=cb,fun b=>b=cb,Codes cb,fun _ h=>h,fun w b h e=>by subst e;exact h.lt,fun w w' B h hB hw=>h.kept fun k hk=>hw k (Nat.lt_of_le_of_lt hk (hB cb rfl))⟩
def ptr (cb:Nat):SV:=.v (.pointer (some ⟨cb,0,none⟩))
theorem enters_of {P:Program} {f:FuncId} {fn:Func} {c:Code} (hf:P.funcs[f]? = some fn) (hb:fn.body=some c) (hname:(fn.name == "runtime.NumGoroutine")=false):∀ vs w,(callFunc f vs).run P w=.ok (.enter f vs) w:=by
 intro vs w;have hn:¬ fn.name = "runtime.NumGoroutine" := by simpa using hname
 simp [callFunc,hf,hn,hb]
theorem Zf (cb:Nat) (n:Int) (h1:-9223372036854775808≤n) (h2:n≤9223372036854775807):Contract (Frm.codes cb) Tryz.prog 23 [ptr cb,.i .i64 n] (fun r=>∃ x:Int,r=.i .i64 x∧0≤x∧(x<n∨x=0)):=by
 refine⟨enters_of Tryz.func23 rfl (by kernel_rfl),fun R w hinv _ hR=>?_⟩;refine (next_calls cb n w hinv h1 h2).mono ?_;rintro e w' ⟨r,rfl,hr0,hr1,hc,hg,hdr⟩;exact⟨.i .i64 r,rfl,⟨r,rfl,hr0,hr1⟩,trivial,⟨hg.os,hg.tape,hg.output,hg.size,fun b hb hm=>hg.block b hb (fun e=>hm (show b=cb by simpa using e)),hdr⟩,hc⟩
def isBytes (s:SV):Prop:=∃ a len cap rd,s=.sl a len cap 1 rd∧∀ i,i<len→∃ x:Int,0≤x∧x<256∧rd i 0=.i .u8 x
theorem new_made (a:Option Addr) (len cap:Nat) (w:World) (most:Nat) (h1:len≤cap) (h2:cap≤maxLen) (hm:most≤65536) :
  Calls Tryz.prog 40 #[.slice a len cap,.int .i64 (most:Int)] w fun e w'=>e=.returned (.pointer (some ⟨w.heap.size,0,none⟩))∧∃ n,n≤len∧w'=w.alloc (.cells #[.slice a n cap,.int .i64 0] 114):=by
 unfold maxLen at h2;by_cases hl:(most:Nat)<len
 ·go_enter Tryz.func40,Tryz.ntmps40
  go_wp2
  go_ret
  exact⟨rfl,most,by omega,rfl⟩
 ·go_enter Tryz.func40,Tryz.ntmps40
  go_wp2
  go_ret
  exact⟨rfl,len,by omega,rfl⟩
theorem roll_made (a:Option Addr) (len cap:Nat) (w:World) (h1:len≤cap) (h2:cap≤maxLen) :
  Calls Tryz.prog 8 #[.slice a len cap] w fun e w'=>e=.returned (.pointer (some ⟨w.heap.size,0,none⟩))∧∃ n,n≤len∧w'=w.alloc (.cells #[.slice a n cap,.int .i64 0] 114):=by
 have hc:=fun w=>new_made a len cap w 400 h1 h2 (by omega);have HC:=Lib.hid hc;clear hc h1 h2
 go_enter Tryz.func8,Tryz.ntmps8
 go_wp2_with fail
 refine (HC.out _).mono ?_;rintro e w' ⟨rfl,n,hn,rfl⟩
 go_wp2
 go_ret
 exact⟨rfl,n,hn,rfl⟩
theorem rollC (s:SV) (hs:isBytes s):Makes Tryz.prog 8 [s] (fun cb w=>Codes cb w):=by
 obtain⟨a,len,cap,rd,rfl,hb⟩:=hs;refine⟨enters_of Tryz.func8 rfl (by kernel_rfl),fun R w hargs hR=>?_⟩;obtain⟨h1,h2,h3⟩:=hargs _ (List.mem_singleton.2 rfl);refine (roll_made a len cap w h1 h2).mono ?_;rintro e w' ⟨rfl,n,hn,rfl⟩;refine⟨rfl,by simp,⟨rfl,rfl,rfl,by simp,fun b hb _=>heap_alloc_old w _ hb,Nat.le_refl _⟩,fun w'' hw''=>?_⟩;refine⟨a,n,cap,0,(hw'' _ (.inr rfl)).trans (heap_alloc_new w _),by omega,Nat.zero_le _,?_⟩;rcases h3 with h3|⟨blk,off,rfl,hr,hc⟩
 ·exact .inl (by omega)
 ·have hlt:=hR blk hr;refine .inr ⟨blk,off,rfl,hlt,fun i hi=>?_⟩;obtain⟨x,hx0,hx1,hx⟩:=hb i (by omega);have h:=(hc i 0 (by omega) (by omega)).1;rw[hx,Nat.mul_one] at h;exact⟨x,hx0,hx1,by rw[World.cell?_of_block (w:=w) (a:=⟨blk,off+i,none⟩) ((hw'' blk (.inl hr)).trans (heap_alloc_old w _ hlt))];exact h⟩
end

section
open Eng
set_option maxRecDepth 100000 in
theorem pickC (cb:Nat) (a:Option Addr) (len cap:Nat) (rd:Nat→Nat→SV) (Q:Int→Prop) (h0:0<len) (h1:len≤1000) (hq:∀ i,i<len→∃ x:Int,rd i 0=.i .i64 x∧Q x) :
  Contract (Frm.codes cb) Tryz.prog 42 [ptr cb,.sl a len cap 1 rd] (fun r=>∃ x:Int,r=.i .i64 x∧Q x):=by
 refine Qi Tryz.func42 rfl (by kernel_rfl) ?_;simp only[Tryz.ntmps42,Qt,ptr];(repeat refine Qc ?_);(refine Qa fun k hk=>?_;simp only[evr,id,seval,ptr];refine hk _ ?_;clear hk k;try show Sat _ _ _ _ _);(repeat refine Qc ?_);(refine Qa fun k hk=>?_;simp only[evr,id,seval,ptr]);refine Qd (Zf cb len (by omega) (by omega)) rfl (by rintro _ ⟨x,rfl,_⟩;exact Qh rfl) ?_;rintro r ⟨x,rfl,hx0,hx1⟩;obtain⟨i,rfl⟩:=Int.eq_ofNat_of_zero_le hx0;have hi:i<len:=by omega
 obtain⟨y,hy,hQ⟩:=hq i hi;simp only[evr,id,seval,ptr,hy];refine⟨by omega,?_⟩;(refine hk _ ?_;clear hk k;try show Sat _ _ _ _ _);refine Sat.ret ?_;simp only[Tryz.results42,evr,id,seval,ptr];exact⟨y,rfl,hQ⟩
theorem pickI (cb blk:Nat) (xs:List Int) (Q:Int→Prop) (h0:0<xs.length) (h1:xs.length≤1000) (hQ:∀ x∈xs,Q x) :
  Contract (Frm.codes cb) Tryz.prog 42 [ptr cb,.sl (some ⟨blk,0,none⟩) xs.length xs.length 1 (rdL (xs.map (SV.i .i64)) 1)] (fun r=>∃ x:Int,r=.i .i64 x∧Q x):=
 pickC cb _ _ _ _ Q h0 h1 fun i hi=>⟨xs.getD i 0,by simp [rdL,List.getD,hi],hQ _ (Q3 hi)⟩
theorem plain_pick {Q:Int→Prop} (r:SV) (h:∃ x:Int,r=.i .i64 x∧Q x):∀ R w,r.ok R w:=by
 obtain⟨x,rfl,_⟩:=h;exact Qh rfl
theorem Xd (r:SV) (h:∃ b:Bool,r=.b b):∀ R w,r.ok R w:=by
 obtain⟨x,rfl⟩:=h;exact Qh rfl
set_option maxRecDepth 100000 in
theorem boolC (cb:Nat) (n:Int) (h1:1≤n) (h2:n≤1000000):Contract (Frm.codes cb) Tryz.prog 10 [ptr cb,.i .i64 n] (fun r=>∃ b:Bool,r=.b b):=by
 refine Qi Tryz.func10 rfl (by kernel_rfl) ?_;simp only[Tryz.ntmps10,Qt,ptr];(repeat refine Qc ?_);(refine Qa fun k hk=>?_;simp only[evr,id,seval,ptr];refine hk _ ?_;clear hk k;try show Sat _ _ _ _ _);(repeat refine Qc ?_);(refine Qa fun k hk=>?_;simp only[evr,id,seval,ptr]);refine Qd (Zf cb n (by omega) (by omega)) rfl (by rintro _ ⟨x,rfl,_⟩;exact Qh rfl) ?_;rintro r ⟨x,rfl,hx0,hx1⟩;simp only[evr,id,seval,ptr];(refine hk _ ?_;clear hk k;try show Sat _ _ _ _ _);refine Sat.ret ?_;simp only[Tryz.results10,evr,id,seval,ptr];exact⟨_,rfl⟩
end

section
open Eng
def InA (x:Int):Prop:=0≤x∧x<4294967296
structure PthP where
 a:Option Addr
 cap:Nat
 p:List Int
instance:Inhabited PthP:=⟨⟨none,0,[]⟩⟩
def adRd (p:List Int):Nat→Nat→SV:=fun i _=>.i .u32 (p.getD i 0)
def PthP.sv (q:PthP):SV:=.sl q.a q.p.length q.cap 1 (adRd q.p)
def psRd (l:List PthP):Nat→Nat→SV:=fun i _=>(l.getD i default).sv
def PsOk (m:Nat) (l:List PthP):Prop:=∀ q∈l,q.p.length≤m∧∀ x∈q.p,InA x
theorem ad_app {p:List Int} {x:Int}:rdEq (p.length+1) 1 (Zb p.length (adRd p) (rdL [.i .u32 x] 1)) (adRd (p ++ [x])):=by
 refine Xm (fun i j hi hj=>?_) (fun j hj=>?_)
 ·unfold adRd;simp [List.getD,List.getElem?_append,hi]
 ·obtain rfl:j=0:=by omega
  unfold adRd;simp [List.getD]
theorem ps_app {l:List PthP} {q:PthP} {s:SV} (h:s=q.sv):rdEq (l.length+1) 1 (Zb l.length (psRd l) (rdL [s] 1)) (psRd (l ++ [q])):=by
 subst h;refine Xm (fun i j hi hj=>?_) (fun j hj=>?_)
 ·unfold psRd;simp [List.getD,List.getElem?_append,hi]
 ·obtain rfl:j=0:=by omega
  unfold psRd;simp [List.getD]
theorem wrapA (x:Int):InA (IntKind.u32.wrap x):=by
 have h:IntKind.u32.wrap x=x % 4294967296:=rfl;unfold InA;rw[h];omega
set_option maxRecDepth 100000 in
theorem addrC (cb:Nat):Contract (Frm.codes cb) Tryz.prog 18 [ptr cb] (fun r=>∃ x:Int,InA x∧r=.i .u32 x):=by
 refine Qi Tryz.func18 rfl (by kernel_rfl) ?_;simp only[Tryz.ntmps18,Qt,ptr];(repeat refine Qc ?_);(refine Qa fun k hk=>?_;simp only[evr,id,seval,ptr,PthP.sv,evn];refine hk _ ?_;clear hk k;try show Sat _ _ _ _ _);(repeat refine Qc ?_);(refine Qa fun k hk=>?_;simp only[evr,id,seval,ptr,PthP.sv,evn]);intro blk;refine Qd (pickI cb blk [1,2,5,6,9,10,12,13] (fun _=>True) (by decide) (by decide) (by simp)) (by simp only[evr,id,seval,ptr,PthP.sv,evn]) plain_pick ?_;rintro r ⟨x,rfl,_⟩;simp only[evr,id,seval,ptr,PthP.sv,evn];(refine hk _ ?_;clear hk k;try show Sat _ _ _ _ _);refine Sat.ret ?_;simp only[Tryz.results18,evr,id,seval,ptr,List.append_nil,Int.toNat_zero,Nat.sub_self,Int.reduceToNat,PthP.sv];exact⟨_,wrapA _,rfl⟩
theorem plain_addrC (r:SV) (h:∃ x:Int,InA x∧r=.i .u32 x):∀ R w,r.ok R w:=by
 obtain⟨x,_,rfl⟩:=h;exact Qh rfl
end

section
open Go.Sort Eng
theorem a32_rem {a:Int} (h:0≤a):a.tmod 4=a32 a 3:=by
 have e:a32 a 3=((BitVec.ofInt 32 a &&& BitVec.ofInt 32 3).toNat:Int):=by
  show IntKind.u32.wrap ((BitVec.ofInt 32 a &&& BitVec.ofInt 32 3).toNat:Int)=_;have:=(BitVec.ofInt 32 a &&& BitVec.ofInt 32 3).isLt;rw[IntKind.wrap_u32];omega
 rw[e,BitVec.toNat_and,BitVec.toNat_ofInt,show (BitVec.ofInt 32 3).toNat=2 ^ 2 - 1 from rfl,Nat.and_two_pow_sub_one_eq_mod,Int.tmod_eq_emod_of_nonneg h];omega
def qb103:=And.intro @evr (And.intro @treEqs (And.intro @Qm (And.intro @QY (And.intro @Qu (And.intro @Zm (And.intro @Zl (And.intro @Zk (And.intro @Qv (And.intro @Qq (And.intro @Qj (@evn)))))))))))
def qb104:=And.intro @evr (And.intro @treEqs (And.intro @Qm (And.intro @QY (And.intro @Qu (And.intro @Zm (And.intro @Zl (And.intro @Zk (And.intro @Qv (And.intro @List.append_nil.{0} (And.intro @Int.toNat_zero (And.intro @Nat.sub_self (And.intro @Qq (@Qj)))))))))))))
def qb105:=And.intro @evr (And.intro @treEqs (And.intro @Qm (And.intro @QY (And.intro @Qu (And.intro @Zm (And.intro @Zl (And.intro @Zk (And.intro @Qv (And.intro @Qq (And.intro @Qj (And.intro @evl (@evn))))))))))))
set_option maxRecDepth 100000 in
theorem rfMateC (F:Frm) (a n:Int) (ha:0≤a):Contract F Tryz.prog 106 [.i .u32 a,.i .i64 n] (fun r=>r=Xh [.i .u32 (ZB a n).1,.i .i64 (ZB a n).2]):=by
 refine Qi Tryz.func106 rfl (by kernel_rfl) ?_;simp only[Tryz.ntmps106,Qt];(repeat refine Qc ?_);(refine Qa fun k hk=>?_;simp only[id,seval,Qb,qb103];refine hk _ ?_;clear hk k;try show Sat _ _ _ _ _);(repeat refine Qc ?_);refine Sat.block ?_;(repeat refine Qc ?_);(refine Qa fun k hk=>?_;simp only[id,seval,Qb,qb103];refine hk _ ?_;clear hk k;try show Sat _ _ _ _ _);(repeat refine Qc ?_);refine Qe rfl (fun h=>?_) (fun h=>?_)
 ·(repeat refine Qc ?_);(refine Qa fun k hk=>?_;simp only[id,seval,Qb,qb103];refine hk _ ?_;clear hk k;try show Sat _ _ _ _ _);refine Sat.ret ?_;simp only[Qg,Tryz.results106,id,seval,Int.reduceToNat,Qb,qb104];have e:ZB a n=(x32 a 1,0):=by unfold ZB;rw[if_pos (by simpa using h)]
  rw[e];rfl
 ·have hn:n≠31:=by simpa using h
  (repeat refine Qc ?_);(refine Qa fun k hk=>?_;simp only[id,seval,Qb,qb103];refine hk _ ?_;clear hk k;try show Sat _ _ _ _ _);(repeat refine Qc ?_);refine Qe rfl (fun h2=>?_) (fun h2=>?_)
  ·(repeat refine Qc ?_);(refine Qa fun k hk=>?_;simp only[id,seval,Qb,qb103];refine hk _ ?_;clear hk k;try show Sat _ _ _ _ _);refine Sat.ret ?_;simp only[Qg,Tryz.results106,id,seval,Int.reduceToNat,Qb,qb104];have e:ZB a n=(0,1):=by unfold ZB;rw[if_neg hn,if_pos (by simpa using h2)]
   rw[e]
  ·have hn2:¬ n≠30:=by simpa using h2
   have hr:a.tmod 4=a32 a 3:=a32_rem ha;(repeat refine Qc ?_);refine QT (ι:=Bool) (fun q=>⟨25,[(14,.b q),(0,.i .u32 a),(1,.i .i64 n),(4,.i .u32 0),(5,.i .i64 0)],[]⟩) (fun q=>q=decide (a32 a 3=0∨a32 a 3=3)) ?_ ?_
   ·refine Qa fun k hk=>?_;simp only[id,seval,Qb,hr,qb103];refine⟨fun h3=>hk _ ?_,fun h3=>hk _ ?_⟩
    ·simp only[Qf];refine⟨true,by symm;rw[decide_eq_true_eq];exact .inl (by simpa using h3),?_⟩;simp only[id,seval,Qb,qb105]
    ·simp only[Qf]
     refine⟨(a32 a 3 == 3),by
      have h4:a32 a 3≠0:=by simpa using h3
      apply Bool.eq_iff_iff.2;simp [h4],?_⟩
     simp only[id,seval,Qb,qb105]
   rintro q rfl;simp only[Qf];(repeat refine Qc ?_);refine Qe rfl (fun h3=>?_) (fun h3=>?_)
   ·(repeat refine Qc ?_);(refine Qa fun k hk=>?_;simp only[id,seval,Qb,qb103];refine hk _ ?_;clear hk k;try show Sat _ _ _ _ _);refine Sat.ret ?_;simp only[Qf,Qg,Tryz.results106,id,seval,Int.reduceToNat,Qb,qb104];have e:ZB a n=(0,10):=by unfold ZB;rw[if_neg hn,if_neg hn2,if_pos (by simpa using h3)]
    rw[e]
   ·refine Sat.skip ?_;simp only[Qf,Qg,reduceIte];(repeat refine Qc ?_);(refine Qa fun k hk=>?_;simp only[id,seval,Qb,qb103];refine hk _ ?_;clear hk k;try show Sat _ _ _ _ _);refine Sat.ret ?_;simp only[Tryz.results106,id,seval,Int.reduceToNat,Qb,qb104];have e:ZB a n=(x32 a 3,0):=by unfold ZB;rw[if_neg hn,if_neg hn2,if_neg (by simpa using h3)]
    rw[e];rfl
def chkM (a b c:Res) (n:Int):Bool:=((ZB b.from_ n).2 == 0) && (((ZB b.from_ n).1 == c.from_) && ((ZB b.from_ n).1 != a.from_))
def mateR (a b c:Res):Bool:=(folR a b && Xu c) && (chkM a b c 30 || chkM a b c 31)
set_option maxHeartbeats 1000000 in
set_option maxRecDepth 100000 in
theorem rfMatesC (F:Frm) (a b c:Res) (hb:0≤b.from_):Contract F Tryz.prog 63 [Q0 a,Q0 b,Q0 c] (fun r=>r=.b (mateR a b c)):=by
 refine Qi Tryz.func63 rfl (by kernel_rfl) ?_;simp only[Tryz.ntmps63,Qt,Q0,Res.cs];(repeat refine Qc ?_);(refine Qa fun k hk=>?_;simp only[id,seval,Qb,qb103]);intro b3 b4 b5;(refine hk _ ?_;clear hk k;try show Sat _ _ _ _ _);refine Q9 3 rfl rfl ?_;refine Q9 4 rfl rfl ?_;refine Q9 5 rfl rfl ?_;refine Sat.le (st':=⟨47,[(3,.el ⟨b3,0,none⟩ 17 fun j=>(Res.cs a).getD j default),(4,.el ⟨b4,0,none⟩ 17 fun j=>(Res.cs b).getD j default),(5,.el ⟨b5,0,none⟩ 17 fun j=>(Res.cs c).getD j default)],[]⟩) ?_ (by simp only[Res.cs];simp only[id,seval,Qb,qb105];first|done|exact⟨rfl,rfl,rfl⟩);simp only[Res.cs];(repeat refine Qc ?_);refine QT (ι:=Bool) (fun q=>⟨47,[(18,.b q),(3,.el ⟨b3,0,none⟩ 17 fun j=>(Res.cs a).getD j default),(4,.el ⟨b4,0,none⟩ 17 fun j=>(Res.cs b).getD j default),(5,.el ⟨b5,0,none⟩ 17 fun j=>(Res.cs c).getD j default)],[]⟩) (fun q=>q=!(folR a b && Xu c)) ?_ ?_
 ·(refine Qa fun k hk=>?_;simp only[id,seval,Qb,qb103]);refine Qd (rfFolC F a b) rfl (by rintro _ rfl;exact Qh rfl) ?_;rintro _ rfl;simp only[id,seval,Qb,qb103];refine⟨fun h1=>?_,fun h1=>?_⟩
  ·refine hk _ ?_;simp only[Qf];refine⟨true,by rw[show folR a b=false by simpa using h1];rfl,?_⟩;simp only[Res.cs];simp only[id,seval,Qb,qb105];try rfl
  ·refine Qd (rfWayC F c) rfl (by rintro _ rfl;exact Qh rfl) ?_;rintro _ rfl;simp only[id,seval,Qb,qb103];refine hk _ ?_;simp only[Qf];refine⟨!Xu c,by rw[show folR a b=true by simpa using h1];rfl,?_⟩;simp only[Res.cs];simp only[id,seval,Qb,qb105];try rfl
 rintro q rfl;simp only[Qf,Res.cs];(repeat refine Qc ?_);refine Qe rfl (fun h=>?_) (fun h=>?_)
 ·(repeat refine Qc ?_);(refine Qa fun k hk=>?_;simp only[id,seval,Qb,qb103];refine hk _ ?_;clear hk k;try show Sat _ _ _ _ _);refine Sat.ret ?_;simp only[Tryz.results63,id,seval,Int.reduceToNat,Qb,qb104]
  have e:mateR a b c=false:=by
   unfold mateR;simp only[Bool.not_eq_true'] at h;rw[h];rfl
  rw[e]
 have e0:mateR a b c=(chkM a b c 30 || chkM a b c 31):=by
  unfold mateR;simp only[Bool.not_eq_false'] at h;rw[h];rfl
 refine Sat.skip ?_;simp only[Qf];(repeat refine Qc ?_);(refine Qa fun k hk=>?_;simp only[id,seval,Qb,qb103];refine hk _ ?_;clear hk k;try show Sat _ _ _ _ _);(repeat refine Qc ?_);refine Sat.block ?_;refine Qo (ι:=Nat) (fun n=>⟨47,[(7,.i .i64 n),(3,.el ⟨b3,0,none⟩ 17 fun j=>(Res.cs a).getD j default),(4,.el ⟨b4,0,none⟩ 17 fun j=>(Res.cs b).getD j default),(5,.el ⟨b5,0,none⟩ 17 fun j=>(Res.cs c).getD j default)],[]⟩)
  (fun n=>30≤n∧n≤32∧(31≤n→chkM a b c 30=false)∧(32≤n→chkM a b c 31=false)) (fun n=>32 - n) 30 ⟨by decide,by decide,fun h9=>absurd h9 (by decide),fun h9=>absurd h9 (by decide)⟩ (by simp only[Res.cs];simp only[id,seval,Qb,qb105];first|done|rfl|exact⟨rfl,rfl⟩|trace_state) ?_
 rintro n ⟨hn1,hn2,h30,h31⟩;simp only[Res.cs];(repeat refine Qc ?_);(refine Qa fun k hk=>?_;simp only[id,seval,Qb,qb103];refine hk _ ?_;clear hk k;try show Sat _ _ _ _ _);(repeat refine Qc ?_);refine Qe rfl (fun h2=>?_) (fun h2=>?_)
 ·have hlt:n≤31:=by simp only[decide_eq_true_eq] at h2;omega
  have e1:IntKind.i64.wrap ((n:Int)+1)=((n+1:Nat):Int):=by rw[w64 (by omega)];omega
  obtain⟨m,hm⟩:∃ m,m=ZB b.from_ (n:Int):=⟨_,rfl⟩;refine Sat.skip ?_;simp only[Qf];(repeat refine Qc ?_);refine Sat.block ?_;(repeat refine Qc ?_);(refine Qa fun k hk=>?_;simp only[id,seval,Qb,qb103]);refine Qd (rfMateC F b.from_ (n:Int) hb) rfl (by rintro _ rfl;intro R w q hq;rcases (show q=0∨q=1 by simp at hq;omega) with rfl|rfl<;>trivial) ?_;rintro _ rfl;rw[← hm];simp only[Xh,id,seval,Int.reduceToNat,Qb,qb104];(refine hk _ ?_;clear hk k;try show Sat _ _ _ _ _);(repeat refine Qc ?_);refine QT (ι:=Bool) (fun q=>⟨47,[(46,.b q),(7,.i .i64 n),(3,.el ⟨b3,0,none⟩ 17 fun j=>(Res.cs a).getD j default),(4,.el ⟨b4,0,none⟩ 17 fun j=>(Res.cs b).getD j default),(5,.el ⟨b5,0,none⟩ 17 fun j=>(Res.cs c).getD j default)],[]⟩) (fun q=>q=chkM a b c n) ?_ ?_
  ·have hck:chkM a b c n=((m.2 == 0) && ((m.1 == c.from_) && (m.1 != a.from_))):=by rw[hm];rfl
   (refine Qa fun k hk=>?_;simp only[id,seval,Qb,qb103]);refine⟨fun g1=>⟨fun g2=>?_,fun g2=>?_⟩,fun g1=>?_⟩
   ·refine hk _ ?_;simp only[Qf];refine⟨(m.1 != a.from_),by rw[hck,show (m.2 == 0)=true by simpa using g1,show (m.1 == c.from_)=true by simpa using g2];rfl,?_⟩;simp only[Res.cs];simp only[id,seval,Qb,qb105]
   ·refine hk _ ?_;simp only[Qf];refine⟨false,by rw[hck,show (m.1 == c.from_)=false by simpa using g2];simp,?_⟩;simp only[Res.cs];simp only[id,seval,Qb,qb105]
   ·refine hk _ ?_;simp only[Qf];refine⟨false,by rw[hck,show (m.2 == 0)=false by simpa using g1];rfl,?_⟩;simp only[Res.cs];simp only[id,seval,Qb,qb105]
  rintro q rfl;simp only[Qf,Res.cs];(repeat refine Qc ?_);refine Qe rfl (fun h4=>?_) (fun h4=>?_)
  ·(repeat refine Qc ?_);(refine Qa fun k hk=>?_;simp only[id,seval,Qb,qb103];refine hk _ ?_;clear hk k;try show Sat _ _ _ _ _);refine Sat.ret ?_;simp only[Qf,Qg,Tryz.results63,id,seval,Int.reduceToNat,Qb,qb104];rw[e0];rcases (show n=30∨n=31 by omega) with rfl|rfl
   ·rw[show chkM a b c 30=true from h4];rfl
   ·rw[show chkM a b c 31=true from h4];simp
  refine Sat.skip ?_;simp only[Qf,Qg,reduceIte];refine Qa fun kk hk=>?_;simp only[id,seval,Qb,e1,qb103];refine hk _ ?_;simp only[Qf,Qg];refine⟨n+1,⟨by omega,by omega,fun _=>?_,fun _=>?_⟩,by omega,?_⟩
  ·rcases (show n=30∨n=31 by omega) with rfl|rfl
   ·exact h4
   ·exact h30 (by decide)
  ·rcases (show n=30∨n=31 by omega) with rfl|rfl
   ·omega
   ·exact h4
  ·try simp only[Res.cs]
   simp only[id,seval,Qb,qb105]
 have h5:n=32:=by simp only[decide_eq_false_iff_not] at h2;omega
 subst h5;refine Sat.exit ?_;simp only[Qf,Qg,reduceIte];(repeat refine Qc ?_);(refine Qa fun k hk=>?_;simp only[id,seval,Qb,qb103];refine hk _ ?_;clear hk k;try show Sat _ _ _ _ _);refine Sat.ret ?_;simp only[Tryz.results63,id,seval,Int.reduceToNat,Qb,qb104];rw[e0,h30 (by decide),h31 (by decide)];rfl
end

section
open Go.Sort Eng
def Z1 (X:List Evd) (i:Nat):List Int:=(X.getD i default).pr.keys
def Xx (X:List Evd) (i:Nat):SV:=evAg (X.getD i default)
def qb106:=And.intro @evr (And.intro @Qu (And.intro @Zm (And.intro @Zl (And.intro @Zk (And.intro @Qv (And.intro @Qj (@evn)))))))
def qb107:=And.intro @evr (And.intro @Qu (And.intro @Zm (And.intro @Zl (And.intro @Zk (And.intro @Qv (And.intro @Qj (And.intro @evl (@evn))))))))
def qb108:=And.intro @evr (And.intro @Qu (And.intro @Zm (And.intro @Zl (And.intro @Zk (And.intro @Qv (And.intro @List.append_nil.{0} (And.intro @Int.toNat_zero (And.intro @Nat.sub_self (@Qj)))))))))
set_option maxHeartbeats 2000000 in
set_option maxRecDepth 100000 in
theorem improveC (F:Frm) (mb:Nat) (X0:List Evd) (a b:Idn) (fr mt:Int) (oa:Option Addr) (oc:Nat) (ids:List Idn) (hl:ids.length≤1000000000) (hs:ids.Pairwise fun x y=>Za y x=false)
    (hX0:∀ e∈X0,e.ids.length≤3) (C:Evd→Prop) (hB0:BestI Evd.pr evB C X0) :
    ContractM F Tryz.prog 59 [.mp 0 mb,idnAg a,idnAg b,.i .u32 fr,.i .u32 mt,.sl oa ids.length oc 3 (QX ids.toArray)] (.mq mb false [.u32,.u32] X0.length (Z1 X0) (Xx X0))
      (fun r o1=>r=Xh []∧∃ X,BestI Evd.pr evB (fun e=>C e∨∃ c∈ids,MatE a b c fr mt e) X∧(∀ e∈X,e.ids.length≤3)∧o1=.mq mb false [.u32,.u32] X.length (Z1 X) (Xx X)):=by
  refine contractM_of Tryz.func59 rfl (by kernel_rfl) (by rintro r o1 ⟨_,X,_,_,rfl⟩;rfl) ?_;simp only[Tryz.ntmps59,Qt,idnAg,Idn.cs];(repeat refine Qc ?_);(refine Qa fun k hk=>?_;simp only[id,seval,qb106]);intro b7 b8;(refine hk _ ?_;clear hk k;try show Sat _ _ _ _ _);refine Qs [.mq mb false [.u32,.u32] X0.length (Z1 X0) (Xx X0),.box b7 27 [.i .i64 a.van,.i .i64 a.run,.i .i64 a.num]] 8 rfl ?_;refine Qs [.mq mb false [.u32,.u32] X0.length (Z1 X0) (Xx X0)] 7 rfl ?_;simp only[List.length_cons,List.length_nil,Nat.reduceAdd];(repeat refine Qc ?_);(refine Qa fun k hk=>?_;simp only[id,seval,qb106]);intro b12;(refine hk _ ?_;clear hk k;try show Sat _ _ _ _ _);refine Qs [.mq mb false [.u32,.u32] X0.length (Z1 X0) (Xx X0)] 12 rfl ?_;simp only[List.length_cons,List.length_nil,Nat.reduceAdd];have hT:mqT Tryz.prog 102=some (false,[.u32,.u32],32):=by kernel_rfl
  (repeat refine Qc ?_);(refine Qa fun k hk=>?_;simp only[id,seval,qb106];refine hk _ ?_;clear hk k;try show Sat _ _ _ _ _);refine Sat.block ?_;refine Qo (ι:=Nat×List Evd) (fun z=>⟨73,[(28,.i .i64 z.1),(27,.i .i64 ids.length),(26,.sl oa ids.length oc 3 (QX ids.toArray)),(12,.el ⟨b12,0,none⟩ 2 fun j=>[SV.i .u32 (min fr mt),.i .u32 (max fr mt)].getD j default),(7,.el ⟨b7,0,none⟩ 3 fun j=>[SV.i .i64 a.van,.i .i64 a.run,.i .i64 a.num].getD j default),(8,.el ⟨b8,0,none⟩ 3 fun j=>[SV.i .i64 b.van,.i .i64 b.run,.i .i64 b.num].getD j default),(0,.mp 0 mb)],[.mq mb false [.u32,.u32] z.2.length (Z1 z.2) (Xx z.2)]⟩)
    (fun z=>z.1≤ids.length∧BestI Evd.pr evB (fun e=>C e∨∃ c∈ids.take z.1,MatE a b c fr mt e) z.2∧∀ e∈z.2,e.ids.length≤3) (fun z=>ids.length - z.1) (0,X0)
    ⟨Nat.zero_le _,hB0.congr fun e=>⟨.inl,fun h=>h.elim id fun⟨c,hc,_⟩=>(by cases hc)⟩,hX0⟩ (by simp only[id,seval,qb107];try exact fun i hi=>⟨rfl,rfl⟩) ?_
  rintro⟨i,X⟩ ⟨hi,hB,hX⟩;simp only at hi hB hX ⊢;(repeat refine Qc ?_);(refine Qa fun k hk=>?_;simp only[id,seval,qb106];refine hk _ ?_;clear hk k;try show Sat _ _ _ _ _);(repeat refine Qc ?_);refine Qe rfl (fun h=>?_) (fun h=>?_)
  · have h1:i<ids.length:=by simp only[decide_eq_true_eq] at h;omega
    have e1:IntKind.i64.wrap ((i:Int)+1)=((i+1:Nat):Int):=by rw[w64 (by omega)];omega
    obtain⟨c,hc⟩:∃ c,c=ids.toArray[i]! := ⟨_,rfl⟩;have hci:ids[i]=c:=by rw[hc,idnGet h1]
    have htk:ids.take (i+1)=ids.take i ++ [c]:=by rw[List.take_succ_eq_append_getElem h1,hci]
    refine Sat.skip ?_;simp only[Qf];(repeat refine Qc ?_);refine Sat.block ?_;(repeat refine Qc ?_);(refine Qa fun k hk=>?_;simp only[id,seval,qb106]);refine⟨by omega,fun b14=>?_⟩;rw[← hc];(refine hk _ ?_;clear hk k;try show Sat _ _ _ _ _);refine Qs [.mq mb false [.u32,.u32] X.length (Z1 X) (Xx X)] 14 rfl ?_;simp only[List.length_cons,List.length_nil,Nat.reduceAdd];(repeat refine Qc ?_);(refine Qa fun k hk=>?_;simp only[id,seval,qb106]);intro b15;(refine hk _ ?_;clear hk k;try show Sat _ _ _ _ _)
    refine Sat.leOwn (own':=[.mq mb false [.u32,.u32] X.length (Z1 X) (Xx X),Q6 (some ⟨b15,0,none⟩) 3 3 #[a,b,c]]) ⟨own_refl _,⟨rfl,rfl,rfl,rfl,rfl,fun q r hq hr=>by
      rcases (show q=0∨q=1∨q=2 by omega) with rfl|rfl|rfl<;>rcases (show r=0∨r=1∨r=2 by omega) with rfl|rfl|rfl<;>rfl⟩,trivial⟩ ?_
    simp only[Q6];(repeat refine Qc ?_);(refine Qa fun k hk=>?_;simp only[id,seval,qb106]);refine Xl 1 (idnSortC F idnLt_swo idnCmp1 (some ⟨b15,0,none⟩) 3 3 (by decide) #[a,b,c] rfl) rfl rfl ?_;rintro r o1 ⟨rfl,d',hd',⟨hperm,hsort⟩,rfl⟩;simp only[Q6,id,seval,Int.reduceToNat,qb108];(refine hk _ ?_;clear hk k;try show Sat _ _ _ _ _);obtain⟨hp3,hs3⟩:=idn_sorted (L:=[a,b,c]) hd' hperm hsort;obtain⟨e,he⟩:∃ e:Evd,e=⟨2,min fr mt,max fr mt,QF d'.toList,some ⟨b15,0,none⟩,3⟩:=⟨_,rfl⟩
    have hel:e.ids.length≤3:=by
      have:=compactN_le d'.toList;simp only[Array.length_toList] at this;rw[he];show (QF d'.toList).length≤3;omega
    have hE:MatE a b c fr mt e:=by
      rw[he];exact⟨rfl,rfl,rfl,compactN_asc _ hs3,fun d=>(compactN_mem _ d).trans hp3.mem_iff⟩
    have hecs:Evd.cs e=[.i .i64 2,.i .u32 (min fr mt),.i .u32 (max fr mt),.sl (some ⟨b15,0,none⟩) (QF d'.toList).length 3 3 (QX (QF d'.toList).toArray)]:=by rw[he];rfl
    (repeat refine Qc ?_);refine QT (ι:=Nat) (fun b16=>⟨73,[(16,.op 2 b16 0),(14,.el ⟨b14,0,none⟩ 3 fun j=>[SV.i .i64 c.van,.i .i64 c.run,.i .i64 c.num].getD j default),(28,.i .i64 i),(27,.i .i64 ids.length),(26,.sl oa ids.length oc 3 (QX ids.toArray)),(12,.el ⟨b12,0,none⟩ 2 fun j=>[SV.i .u32 (min fr mt),.i .u32 (max fr mt)].getD j default),(7,.el ⟨b7,0,none⟩ 3 fun j=>[SV.i .i64 a.van,.i .i64 a.run,.i .i64 a.num].getD j default),(8,.el ⟨b8,0,none⟩ 3 fun j=>[SV.i .i64 b.van,.i .i64 b.run,.i .i64 b.num].getD j default),(0,.mp 0 mb)],[.mq mb false [.u32,.u32] X.length (Z1 X) (Xx X),.row (some ⟨b15,0,none⟩) 27 (QF d'.toList).length 3 3 (QX (QF d'.toList).toArray),.box b16 32 [.i .i64 2,.i .u32 (min fr mt),.i .u32 (max fr mt),.os 1 (some ⟨b15,0,none⟩) (QF d'.toList).length 3]]⟩) (fun _=>True) ?_ ?_
    · (refine Qp (.keep [0,2,4] [] (.alt 1 (.alt 3 (.alt 5 (.free 6 (.one 7 (.one 8 .done))) (.alt 7 (.one 5 (.one 6 (.one 8 .done))) .none)) (.alt 5 (.alt 3 (.free 6 (.one 7 (.one 8 .done))) (.alt 7 (.one 3 (.one 6 (.one 8 .done))) .none)) (.alt 7 (.alt 3 (.one 5 (.one 6 (.one 8 .done))) (.alt 5 (.one 3 (.one 6 (.one 8 .done))) .none)) .none))) (.alt 3 (.alt 1 (.alt 5 (.free 6 (.one 7 (.one 8 .done))) (.alt 7 (.one 5 (.one 6 (.one 8 .done))) .none)) (.alt 5 (.alt 1 (.free 6 (.one 7 (.one 8 .done))) (.alt 7 (.one 1 (.one 6 (.one 8 .done))) .none)) (.alt 7 (.alt 1 (.one 5 (.one 6 (.one 8 .done))) (.alt 5 (.one 1 (.one 6 (.one 8 .done))) .none)) .none))) (.alt 5 (.alt 1 (.alt 3 (.free 6 (.one 7 (.one 8 .done))) (.alt 7 (.one 3 (.one 6 (.one 8 .done))) .none)) (.alt 3 (.alt 1 (.free 6 (.one 7 (.one 8 .done))) (.alt 7 (.one 1 (.one 6 (.one 8 .done))) .none)) (.alt 7 (.alt 1 (.one 3 (.one 6 (.one 8 .done))) (.alt 3 (.one 1 (.one 6 (.one 8 .done))) .none)) .none))) (.alt 7 (.alt 1 (.alt 3 (.one 5 (.one 6 (.one 8 .done))) (.alt 5 (.one 3 (.one 6 (.one 8 .done))) .none)) (.alt 3 (.alt 1 (.one 5 (.one 6 (.one 8 .done))) (.alt 5 (.one 1 (.one 6 (.one 8 .done))) .none)) (.alt 5 (.alt 1 (.one 3 (.one 6 (.one 8 .done))) (.alt 3 (.one 1 (.one 6 (.one 8 .done))) .none)) .none))) .none))))) (by kernel_rfl) (by kernel_rfl) (fun _ _ h=>h) fun k hk=>?_;simp only[WOT,List.map_cons,List.map_nil,List.getD_cons_zero,List.getD_cons_succ];simp only[id,seval,WOT,qb106])
      repeat' (first
        | (with_reducible refine And.intro ?_ ?_)
        | rfl
        | (refine Xl 1 (compactNC F (some ⟨b15,0,none⟩) 3 3 (by decide) d' hd') rfl rfl ?_
           rintro r o1 ⟨rfl,rfl⟩
           simp only[Q6,id,seval,Int.reduceToNat,qb108])
        | (with_reducible intro b16))
      all_goals
        refine hk _ ?_;simp only[Qf];refine⟨b16,trivial,?_⟩;simp only[id,seval,qb107];try exact fun i hi=>⟨rfl,rfl⟩
    rintro b16 -;simp only[Qf];refine XP 2 3 rfl rfl rfl ?_;simp only[List.set_cons_succ,List.set_cons_zero];rw[← hecs];refine Qs [.mq mb false [.u32,.u32] X.length (Z1 X) (Xx X),.frz (some ⟨b15,0,none⟩) (QF d'.toList).length 3 3 (QX (QF d'.toList).toArray)] 16 rfl ?_;refine Sat.cutOwn [.mq mb false [.u32,.u32] X.length (Z1 X) (Xx X)] ?_;rw[hecs];simp only[List.length_cons,List.length_nil,Nat.reduceAdd];have hkey:e.pr=⟨min fr mt,max fr mt⟩:=hE.pr
    have hcov:∀ X2:List Evd,BestI Evd.pr evB (fun x=>(C x∨∃ c∈ids.take i,MatE a b c fr mt x)∨x=e) X2→BestI Evd.pr evB (fun x=>C x∨∃ c∈ids.take (i+1),MatE a b c fr mt x) X2:=fun X2 h2=>by
      refine h2.cover evB_neg (fun x hx=>?_) (fun x hx=>?_)
      · rw[htk]
        rcases hx with (hx|⟨c',h8,h9⟩)|hx
        · exact .inl hx
        · exact .inr ⟨c',List.mem_append.2 (.inl h8),h9⟩
        · rw[hx];exact .inr ⟨c,List.mem_append.2 (.inr (List.mem_singleton.2 rfl)),hE⟩
      · rw[htk] at hx
        rcases hx with hx|⟨c',h8,h9⟩
        · exact⟨x,.inl (.inl hx),rfl,ZZ x⟩
        · rcases List.mem_append.1 h8 with h8|h8
          · exact⟨x,.inl (.inr ⟨c',h8,h9⟩),rfl,ZZ x⟩
          · rw[List.mem_singleton] at h8
            subst h8;refine⟨e,.inr rfl,by rw[h9.pr,hkey],?_⟩;unfold evB;rw[(evCmp_zero x e).2 ⟨h9.1.trans hE.1.symm,h9.2.1.trans hE.2.1.symm,h9.2.2.1.trans hE.2.2.1.symm,h9.2.2.2.unique hE.2.2.2⟩];rfl
    (repeat refine Qc ?_);refine QT (ι:=Nat×Option Nat) (fun z=>⟨73,[(18,.b z.2.isSome),(17,.op 1 z.1 0),(16,.el ⟨b16,0,none⟩ 4 fun j=>[SV.i .i64 2,.i .u32 (min fr mt),.i .u32 (max fr mt),.sl (some ⟨b15,0,none⟩) (QF d'.toList).length 3 3 (QX (QF d'.toList).toArray)].getD j default),(14,.el ⟨b14,0,none⟩ 3 fun j=>[SV.i .i64 c.van,.i .i64 c.run,.i .i64 c.num].getD j default),(28,.i .i64 i),(27,.i .i64 ids.length),(26,.sl oa ids.length oc 3 (QX ids.toArray)),(12,.el ⟨b12,0,none⟩ 2 fun j=>[SV.i .u32 (min fr mt),.i .u32 (max fr mt)].getD j default),(7,.el ⟨b7,0,none⟩ 3 fun j=>[SV.i .i64 a.van,.i .i64 a.run,.i .i64 a.num].getD j default),(8,.el ⟨b8,0,none⟩ 3 fun j=>[SV.i .i64 b.van,.i .i64 b.run,.i .i64 b.num].getD j default),(0,.mp 0 mb)],[.mq mb false [.u32,.u32] X.length (Z1 X) (Xx X),.box z.1 32 (Evd.cs (X.getD (z.2.getD X.length) default))]⟩)
      (fun z=>(∀ n,z.2=some n→n<X.length∧Z1 X n=e.pr.keys)∧(z.2=none→∀ n,n<X.length→Z1 X n≠e.pr.keys)) ?_ ?_
    · (refine Qa fun k hk=>?_;simp only[id,seval,qb106])
      refine lookMq (l:=e.pr.keys) hT (mqIn_own (id:=0) (m:=.tmp 46) rfl rfl) rfl (by rw[hkey];rfl) (evAg default) (by kernel_rfl) (fun R w j hj=>by rcases (show j=0∨j=1∨j=2∨j=3 by omega) with rfl|rfl|rfl|rfl<;>first|trivial|exact⟨Nat.le_refl _,Nat.zero_le _,.inl rfl⟩) (show 48<73 by decide) (fun n hn hkn=>?_) (fun hno=>?_)
      · simp only[Xx,evAg,Evd.cs,id,seval,Int.reduceToNat,qb108]
        intro b17;refine hk _ ?_;simp only[Qf];refine⟨(b17,some n),⟨fun n' h9=>(by have h8:n=n':=(by simpa using h9);subst h8;exact⟨hn,hkn⟩),fun h9=>(by cases h9)⟩,?_⟩;simp only[Option.isSome_some,Option.getD_some,Evd.cs];simp only[id,seval,qb107];try exact fun i hi=>⟨rfl,rfl⟩
      · simp only[Xx,evAg,Evd.cs,id,seval,Int.reduceToNat,qb108]
        intro b17;refine hk _ ?_;simp only[Qf];refine⟨(b17,none),⟨fun n' h9=>(by cases h9),fun _=>hno⟩,?_⟩;have h9:X.getD X.length default=default:=by rw[List.getD_eq_getElem?_getD,List.getElem?_eq_none (Nat.le_refl _)];rfl
        simp only[Option.isSome_none,Option.getD_none,h9,Evd.cs];simp only[id,seval,qb107];try exact fun i hi=>⟨rfl,rfl⟩
    rintro⟨b17,z⟩ ⟨hz1,hz2⟩;simp only[Qf] at hz1 hz2 ⊢;obtain⟨y,hy⟩:∃ y,y=X.getD (z.getD X.length) default:=⟨_,rfl⟩;rw[← hy]
    have hyl:y.ids.length≤3:=by
      rw[hy,List.getD_eq_getElem?_getD];cases h9:X[z.getD X.length]? with
      | none=>exact Nat.zero_le _
      | some v=>exact hX v (List.mem_of_getElem? h9)
    refine Qs [.mq mb false [.u32,.u32] X.length (Z1 X) (Xx X)] 17 rfl ?_;simp only[Evd.cs,List.length_cons,List.length_nil,Nat.reduceAdd];(repeat refine Qc ?_);refine Zg (ι:=Bool) (fun q=>⟨73,[(58,.b q),(16,.el ⟨b16,0,none⟩ 4 fun j=>[SV.i .i64 2,.i .u32 (min fr mt),.i .u32 (max fr mt),.sl (some ⟨b15,0,none⟩) (QF d'.toList).length 3 3 (QX (QF d'.toList).toArray)].getD j default),(14,.el ⟨b14,0,none⟩ 3 fun j=>[SV.i .i64 c.van,.i .i64 c.run,.i .i64 c.num].getD j default),(28,.i .i64 i),(27,.i .i64 ids.length),(26,.sl oa ids.length oc 3 (QX ids.toArray)),(12,.el ⟨b12,0,none⟩ 2 fun j=>[SV.i .u32 (min fr mt),.i .u32 (max fr mt)].getD j default),(7,.el ⟨b7,0,none⟩ 3 fun j=>[SV.i .i64 a.van,.i .i64 a.run,.i .i64 a.num].getD j default),(8,.el ⟨b8,0,none⟩ 3 fun j=>[SV.i .i64 b.van,.i .i64 b.run,.i .i64 b.num].getD j default),(0,.mp 0 mb)],[.mq mb false [.u32,.u32] X.length (Z1 X) (Xx X)]⟩) (fun q=>q=(z.isNone || evB e y)) (fun hrest=>?_) ?_
    · have hce:=compareEvC F e y (by omega) (by omega)
      unfold evAg at hce;rw[hecs] at hce;(refine Qa fun k hk=>?_;simp only[id,seval,qb106]);refine⟨fun q1=>hk _ ((hrest _ rfl).le ?_),fun q1=>?_⟩
      · have e9:(z.isNone || evB e y)=true:=by
          cases z with
          | none=>rfl
          | some n=>simp at q1
        rw[e9];simp only[id,seval,qb107];try exact fun i hi=>⟨rfl,rfl⟩
      · refine Qd hce rfl (by rintro _ rfl;exact Qh rfl) ?_
        rintro _ rfl;simp only[id,seval,qb106];refine hk _ ((hrest _ rfl).le ?_)
        have e9:(z.isNone || evB e y)=decide (evCmp e y<0):=by
          cases z with
          | none=>simp at q1
          | some n=>rfl
        rw[e9];simp only[id,seval,qb107];try exact fun i hi=>⟨rfl,rfl⟩
    rintro q rfl;refine Zg (ι:=List Evd) (fun X2=>⟨73,[(14,.el ⟨b14,0,none⟩ 3 fun j=>[SV.i .i64 c.van,.i .i64 c.run,.i .i64 c.num].getD j default),(28,.i .i64 i),(27,.i .i64 ids.length),(26,.sl oa ids.length oc 3 (QX ids.toArray)),(12,.el ⟨b12,0,none⟩ 2 fun j=>[SV.i .u32 (min fr mt),.i .u32 (max fr mt)].getD j default),(7,.el ⟨b7,0,none⟩ 3 fun j=>[SV.i .i64 a.van,.i .i64 a.run,.i .i64 a.num].getD j default),(8,.el ⟨b8,0,none⟩ 3 fun j=>[SV.i .i64 b.van,.i .i64 b.run,.i .i64 b.num].getD j default),(0,.mp 0 mb)],[.mq mb false [.u32,.u32] X2.length (Z1 X2) (Xx X2)]⟩) (fun X2=>BestI Evd.pr evB (fun x=>C x∨∃ c∈ids.take (i+1),MatE a b c fr mt x) X2∧∀ e∈X2,e.ids.length≤3) (fun hrest=>?_) ?_
    · refine Qe rfl (fun h5=>?_) (fun h5=>?_)
      · (repeat refine Qc ?_)
        refine Qa fun kk hk=>?_;simp only[id,seval,qb106];refine updMq (l:=e.pr.keys) hT rfl rfl rfl (by rw[hkey];rfl) rfl trivial (fun n2 hn2 hk2=>?_) (fun hno=>?_)
        · have hn9:Z1 X n2=e.pr.keys:=hk2
          obtain⟨n,rfl⟩:∃ n,z=some n:=by
            cases z with
            | none=>exact absurd hn9 (hz2 rfl n2 hn2)
            | some n=>exact⟨n,rfl⟩
          obtain⟨hn,hkn⟩:=hz1 n rfl
          have hXn:∀ q,(hq:q<X.length)→Z1 X q=(X[q]).pr.keys:=fun q hq=>by
            unfold Z1;rw[List.getD_eq_getElem?_getD,List.getElem?_eq_getElem hq];rfl
          have hnn:n2=n:=hB.inj hn2 hn (parKeys_inj (by rw[← hXn n2 hn2,← hXn n hn,hn9,hkn]));subst hnn;have hyn:y=X[n2]:=by rw[hy,Option.getD_some,List.getD_eq_getElem?_getD,List.getElem?_eq_getElem hn];rfl
          have hlt:evB e X[n2]=true:=by rw[← hyn];simpa using h5
          have hkk:(X[n2]).pr=e.pr:=parKeys_inj (by rw[← hXn n2 hn2,hn9]);simp only[id,seval,qb106];refine hk _ ?_;clear hk kk;simp only[Qf,Qg];obtain⟨X2,hX2⟩:∃ X2,X2=X.set n2 e:=⟨_,rfl⟩;have hB2:=hcov X2 (by rw[hX2];exact hB.set ZZ evB_trans hn2 hkk hlt)
          have hX2l:∀ e∈X2,e.ids.length≤3:=fun f hf=>by
            rw[hX2] at hf;rcases List.mem_or_eq_of_mem_set hf with hf|hf
            · exact hX f hf
            · rw[hf];exact hel
          refine (hrest X2 ⟨hB2,hX2l⟩).le ?_;simp only[id,seval,qb107];refine⟨by rw[hX2,List.length_set],fun q hq=>?_⟩;unfold Z1 Xx;rw[hX2];simp only[];by_cases h9:q=n2
          · subst h9
            rw[ZU hn2,if_pos rfl,evAg,hecs];refine⟨?_,rfl⟩;rw[← hkk,List.getD_eq_getElem?_getD,List.getElem?_eq_getElem hn2];rfl
          · rw[getD_set_ne (Ne.symm h9),if_neg h9]
            exact⟨rfl,rfl⟩
        · have hno2:∀ n2,n2<X.length→Z1 X n2≠e.pr.keys:=hno
          simp only[id,seval,qb106];refine hk _ ?_;clear hk kk;simp only[Qf,Qg];obtain⟨X2,hX2⟩:∃ X2,X2=X ++ [e]:=⟨_,rfl⟩
          have hB2:=hcov X2 (by
            rw[hX2];refine hB.new ZZ (fun f hf h9=>?_);obtain⟨q,hq,rfl⟩:=List.getElem_of_mem hf;refine hno2 q hq ?_;unfold Z1;rw[List.getD_eq_getElem?_getD,List.getElem?_eq_getElem hq]
            exact congrArg Par.keys h9)
          have hX2l:∀ e∈X2,e.ids.length≤3:=fun f hf=>by
            rw[hX2] at hf;rcases List.mem_append.1 hf with hf|hf
            · exact hX f hf
            · rw[List.mem_singleton] at hf;rw[hf];exact hel
          refine (hrest X2 ⟨hB2,hX2l⟩).le ?_;simp only[id,seval,qb107];refine⟨by rw[hX2,List.length_append];rfl,fun q hq=>?_⟩;unfold Z1 Xx;rw[hX2];simp only[];by_cases h9:q=X.length
          · subst h9
            have e9:(X ++ [e]).getD X.length default=e:=by rw[List.getD_eq_getElem?_getD,List.getElem?_concat_length];rfl
            rw[e9,if_pos rfl,if_pos rfl,evAg,hecs,hkey];exact⟨rfl,rfl⟩
          · have e9:(X ++ [e]).getD q default=X.getD q default:=by
              rw[List.getD_eq_getElem?_getD,List.getElem?_append_left (by omega),List.getD_eq_getElem?_getD]
            rw[e9,if_neg h9,if_neg h9];exact⟨rfl,rfl⟩
      · refine Sat.skip ?_
        simp only[Qf,Qg]
        obtain⟨n,rfl⟩:∃ n,z=some n:=by
          cases z with
          | none=>simp at h5
          | some n=>exact⟨n,rfl⟩
        obtain⟨hn,hkn⟩:=hz1 n rfl;have hyn:y=X[n]:=by rw[hy,Option.getD_some,List.getD_eq_getElem?_getD,List.getElem?_eq_getElem hn];rfl
        have hlt:evB e X[n]=false:=by rw[← hyn];simpa using h5
        have hkk:(X[n]).pr=e.pr:=parKeys_inj (by
          rw[← hkn];unfold Z1;rw[List.getD_eq_getElem?_getD,List.getElem?_eq_getElem hn];rfl)
        refine (hrest X ⟨hcov X (hB.keep hn hkk hlt),hX⟩).le ?_;simp only[id,seval,qb107];try exact fun i hi=>⟨rfl,rfl⟩
    · rintro X2 ⟨hB2,hX2⟩
      (repeat refine Qc ?_);refine Zg (ι:=Bool) (fun q=>⟨73,[(71,.b q),(28,.i .i64 i),(27,.i .i64 ids.length),(26,.sl oa ids.length oc 3 (QX ids.toArray)),(12,.el ⟨b12,0,none⟩ 2 fun j=>[SV.i .u32 (min fr mt),.i .u32 (max fr mt)].getD j default),(7,.el ⟨b7,0,none⟩ 3 fun j=>[SV.i .i64 a.van,.i .i64 a.run,.i .i64 a.num].getD j default),(8,.el ⟨b8,0,none⟩ 3 fun j=>[SV.i .i64 b.van,.i .i64 b.run,.i .i64 b.num].getD j default),(0,.mp 0 mb)],[.mq mb false [.u32,.u32] X2.length (Z1 X2) (Xx X2)]⟩) (fun q=>q=(decide (0<QP c a) && decide (0<QP c b))) (fun hrest=>?_) ?_
      · (refine Qa fun k hk=>?_;simp only[id,seval,qb106])
        refine Qd (Xg F c a) rfl (by rintro _ rfl;exact Qh rfl) ?_;rintro _ rfl;simp only[id,seval,qb106];refine⟨fun q1=>?_,fun q1=>hk _ ((hrest _ rfl).le ?_)⟩
        · refine Qd (Xg F c b) rfl (by rintro _ rfl;exact Qh rfl) ?_
          rintro _ rfl;simp only[id,seval,qb106];refine hk _ ((hrest _ rfl).le ?_);rw[decide_eq_true q1,Bool.true_and];simp only[id,seval,qb107];try exact fun i hi=>⟨rfl,rfl⟩
        · rw[decide_eq_false q1,Bool.false_and]
          simp only[id,seval,qb107];try exact fun i hi=>⟨rfl,rfl⟩
      rintro q rfl;refine Qe rfl (fun h5=>?_) (fun h5=>?_)
      · refine Sat.ret ?_
        simp only[Qf,Qg,Tryz.results59,id,seval,Int.reduceToNat,qb108];simp only[Bool.and_eq_true,decide_eq_true_eq] at h5;have ha:Za a c=true:=by unfold Za;rw[decide_eq_true_eq];have:=idnCmp_neg a c;omega
        have hb:Za b c=true:=by unfold Za;rw[decide_eq_true_eq];have:=idnCmp_neg b c;omega
        have hB3:BestI Evd.pr evB (fun x=>C x∨∃ c∈ids,MatE a b c fr mt x) X2:=by
          refine hB2.cover evB_neg (fun x hx=>hx.imp id fun⟨c',h8,h9⟩=>⟨c',List.mem_of_mem_take h8,h9⟩) (fun x hx=>?_);rcases hx with hx|⟨c',h8,h9⟩
          · exact⟨x,.inl hx,rfl,ZZ x⟩
          · by_cases hm:c'∈ids.take (i+1)
            · exact⟨x,.inr ⟨c',hm,h9⟩,rfl,ZZ x⟩
            · have hcc:Za c' c=false:=by
                obtain⟨q,hq,rfl⟩:=List.getElem_of_mem h8
                have hqi:i<q:=by
                  refine Nat.lt_of_not_le fun hle=>hm ?_;exact List.mem_of_getElem? (i:=q) (by rw[List.getElem?_take_of_lt (by omega),List.getElem?_eq_getElem hq])
                have:=List.pairwise_iff_getElem.1 hs i q h1 hq hqi
                rwa [hci] at this
              refine⟨e,.inr ⟨c,by rw[htk];exact List.mem_append.2 (.inr (List.mem_singleton.2 rfl)),hE⟩,by rw[h9.pr,hkey],mat_later ha hb hcc hE h9⟩
        exact⟨_,_,rfl,X2,hB3,hX2,rfl⟩
      · refine Sat.skip ?_
        simp only[Qf,Qg,reduceIte];refine Qa fun kk hk=>?_;simp only[id,seval,e1,qb106];refine hk _ ?_;simp only[Qf,Qg];refine⟨(i+1,X2),⟨by simp only;omega,hB2,hX2⟩,by simp only;omega,?_⟩;simp only[id,seval,qb107];try exact fun i hi=>⟨rfl,rfl⟩
  · have h1:i=ids.length:=by simp only[decide_eq_false_iff_not] at h;omega
    subst h1;rw[List.take_length] at hB;refine Sat.exit ?_;simp only[Qf,Qg,reduceIte];simp only[Tryz.results59,id,seval,Int.reduceToNat,qb108];exact⟨_,_,rfl,X,hB,hX,rfl⟩
end

section
open Go.Sort Eng
namespace Eng
variable {P:Program} {F:Frm} {N:Nat} {env:List (Nat×SV)} {own:List Own} {k:St→Prop} {dst:Option Tmp}
variable {blk:Nat} {sc:Bool} {ks:List IntKind} {n:Nat} {key:Nat→List Int} {val:Nat→SV}
theorem lookMqU {t e:TypeId} {m x:Operand} {s:SV} {l:List Int} (ht:mqT P t=some (sc,ks,e)) (hm:MqIn env own m blk sc ks n key val) (hx:ev env x=some s) (hs:keyS sc s=some (ks,l))
    (zs:SV) (hz:(P.info? e).bind (·.zero)=some zs.den) (hzo:∀ R w,zs.ok R w) (hd:Zr ⟨N,env,own⟩ dst) (v:SV)
    (h1:∀ i,i<n→key i=l→val i=v) (h2:(∀ i,i<n→key i≠l)→zs=v) (h:k (St.put ⟨N,env,own⟩ dst v)):Good P F (.lookup t m x false) dst ⟨N,env,own⟩ k:=
  lookMq ht hm hx hs zs hz hzo hd (fun i hi he=>by rw[if_neg (by decide),h1 i hi he];exact h) (fun hno=>by rw[if_neg (by decide),h2 hno];exact h)
end Eng
def Sg.row (g:Sg):Eng.Own:=Q6 g.a g.ids.length g.cap g.ids.toArray
def sVal (X:List Sg) (i:Nat):SV:=.os 0 (X.getD i default).a (X.getD i default).ids.length (X.getD i default).cap
def sValS (X:List Sg) (i:Nat):SV:=.sl (X.getD i default).a (X.getD i default).ids.length (X.getD i default).cap 3 (QX (X.getD i default).ids.toArray)
def mW (V:Int→List Idn) (a b:Res) (e:Evd):Prop:=folR a b=true∧∃ m∈msV b.from_,m≠a.from_∧∃ d∈V m,MatE a.idn b.idn d a.from_ m e
def plOwn (m r:Eng.Own) (Y:List Sg):Option Nat→List Eng.Own
  | none=>.gone :: m :: r :: Y.map Sg.row
  | some i=>(Y.getD i default).row :: m :: r :: (Y.map Sg.row).set i .gone
theorem Sat_unpl {F:Frm} {n:Nat} {env:List (Nat×SV)} {c:Code} {K:Exit→St→Prop} {m r:Eng.Own} {Y:List Sg} {pl:Option Nat} (hpl:∀ i,pl=some i→i<Y.length) (h:Sat Tryz.prog F c ⟨n,env,.gone :: m :: r :: Y.map Sg.row⟩ K):Sat Tryz.prog F c ⟨n,env,plOwn m r Y pl⟩ K:=by
  cases pl with
  | none=>exact h
  | some i=>
    have hi:=hpl i rfl;refine Sat.push (T:=r :: (Y.map Sg.row).set i .gone) (i+1) (by rw[List.getElem?_cons_succ,List.getElem?_set_self (by rw[List.length_map];exact hi)]) ?_;simp only[List.set_cons_succ,List.set_set]
    have e:(Y.map Sg.row).set i (Y.getD i default).row=Y.map Sg.row:=by
      apply List.ext_getElem?;intro q;rw[List.getElem?_set];split
      · rename_i e;subst e
        rw[List.length_map,if_pos hi,List.getElem?_map,List.getElem?_eq_getElem hi,List.getD_eq_getElem?_getD,List.getElem?_eq_getElem hi];rfl
      · rfl
    rw[e];exact h
theorem Z6 (es:List Evd) (i j:Nat) (h:j<4):XA (Xi es i j)=true:=by
  rcases (show j=0∨j=1∨j=2∨j=3 by omega) with rfl|rfl|rfl|rfl<;>rfl
theorem evs_rd (d:Array Evs):evsRd d=Xi (d.toList.map Evs.e):=by
  funext i j
  unfold evsRd Xi Evs.cs
  have:(d.toList.map Evs.e).getD i default=(d[i]!).e:=by
    rw[List.getD_eq_getElem?_getD,List.getElem?_map];by_cases h:i<d.size
    · rw[List.getElem?_eq_getElem (by simpa using h)]
      simp [getElem!_def,h]
    · rw[List.getElem?_eq_none (by simpa using h)]
      simp [getElem!_def,h];rfl
  rw[this]
theorem evs_of:∀ {L:List Evd},(∀ e∈L,e.ids.length≤1000)→∃ M:List Evs,M.map Evs.e=L
  | [],_=>⟨[],rfl⟩
  | e :: L,h=>by
    obtain⟨M,hM⟩:=evs_of (L:=L) fun x hx=>h x (List.mem_cons_of_mem _ hx);exact⟨⟨e,h e List.mem_cons_self⟩ :: M,by rw[List.map_cons,hM]⟩
theorem evd_app {ys:List Evd} {x:Evd} {cs:List SV} (h:cs=Evd.cs x):rdEq (ys.length+1) 4 (Zb ys.length (Xi ys) (rdL cs 4)) (Xi (ys ++ [x])):=by
  subst h;refine Xm (fun i j hi hj=>?_) (fun j hj=>?_)
  · unfold Xi
    have e9:(ys ++ [x]).getD i default=ys.getD i default:=by rw[List.getD_eq_getElem?_getD,List.getElem?_append_left hi,List.getD_eq_getElem?_getD]
    rw[e9]
  · unfold Xi
    have:(ys ++ [x]).getD ys.length default=x:=by rw[List.getD_eq_getElem?_getD,List.getElem?_concat_length];rfl
    rw[this]
theorem kind_lt {e f:Evd} (hk:e.kind=f.kind) (h:ZK e.pr f.pr=true):evCmp e f<0:=by
  have h1:Zq e.a f.a=-1∨(Zq e.a f.a=0∧Zq e.b f.b=-1):=by
    unfold ZK parCmpI cmpL Par.keys Evd.pr at h;have h2:orL [Zq e.a f.a,Zq e.b f.b]<0:=of_decide_eq_true h;unfold orL orL orL at h2;rcases Zv e.a f.a with ⟨_,h3⟩|⟨_,h3⟩|⟨_,h3⟩<;>rcases Zv e.b f.b with ⟨_,h4⟩|⟨_,h4⟩|⟨_,h4⟩<;>simp [h3,h4] at h2 ⊢
  have h0:Zq e.kind f.kind=0:=by
    rw[hk];rcases Zv f.kind f.kind with ⟨h3,_⟩|⟨_,h3⟩|⟨h3,_⟩
    · omega
    · exact h3
    · omega
  unfold evCmp;rcases h1 with h1|⟨h1,h2⟩
  · simp [orL,h0,h1]
  · simp [orL,h0,h1,h2]
theorem evs_sorted {M:List Evs} {d':Array Evs} (hd:d'.size=M.length) (hp:PermIn 0 M.length M.toArray d') (hs:SortedIn evsLt 0 M.length d'):d'.toList.Perm M∧d'.toList.Pairwise fun a b=>evsLt b a=false:=by
  have h:=hp.2.2;have e1:(d'.extract 0 M.length)=d':=by rw[← hd];simp
  have e2:(M.toArray.extract 0 M.length)=M.toArray:=by simp
  rw[e1,e2] at h;refine⟨by simpa using h,?_⟩;rw[List.pairwise_iff_getElem];intro i j hi hj hij;have hi':i<d'.size:=by simpa using hi
  have hj':j<d'.size:=by simpa using hj
  have:=hs i j (Nat.zero_le _) hij (by omega)
  simpa [getElem!_def,hi',hj'] using this
theorem mat_sorted {xs:List Res} {Z:List Evd} (hB:BestI Evd.pr evB (MatC xs) Z) (hZ:∀ e∈Z,e.ids.length≤3) {L:List Evs} (hp:(L.map Evs.e).Perm Z) (hs:L.Pairwise fun a b=>evsLt b a=false):MatOf xs (L.map Evs.e):=by
  have hkind:∀ e∈Z,e.kind=2:=fun e he=>by
    obtain⟨_,_,_,_,_,_,_,_,_,_,_,_,h⟩:=(hB.each e he).1;exact h.1
  refine⟨hB.sorted hp ?_,fun e he=>hZ e (hp.mem_iff.1 he)⟩;rw[List.pairwise_map];refine List.Pairwise.imp_of_mem (fun {x y} hx hy h=>?_) hs;have k1:=hkind _ (hp.mem_iff.1 (List.mem_map.2 ⟨x,hx,rfl⟩));have k2:=hkind _ (hp.mem_iff.1 (List.mem_map.2 ⟨y,hy,rfl⟩));cases hc:ZK (Evd.pr y.e) (Evd.pr x.e) with
  | false=>rfl
  | true=>
    have h1:evsLt y x=true:=decide_eq_true (kind_lt (k2.trans k1.symm) hc);rw[h1] at h;cases h
def Zc:=And.intro @evr (And.intro @Z6 (And.intro @Qm (And.intro @fg_one (And.intro @Qu (And.intro @Zm (And.intro @Zl (And.intro @Zk (And.intro @Qv (And.intro @u32_one (And.intro @Qq (And.intro @Qj (And.intro @tl_get (And.intro @tl_set (@evn))))))))))))))
def qb111:=And.intro @evr (And.intro @Z6 (And.intro @Qm (And.intro @fg_one (And.intro @Qu (And.intro @Zm (And.intro @Zl (And.intro @Zk (And.intro @Qv (And.intro @u32_one (And.intro @Qq (And.intro @Qj (And.intro @tl_get (And.intro @tl_set (And.intro @evl (@evn)))))))))))))))
def qb110:=And.intro @evr (And.intro @Z6 (And.intro @Qm (And.intro @fg_one (And.intro @Qu (And.intro @Zm (And.intro @Zl (And.intro @Zk (And.intro @Qv (And.intro @u32_one (And.intro @List.append_nil.{0} (And.intro @Int.toNat_zero (And.intro @Nat.sub_self (And.intro @Qq (And.intro @Qj (And.intro @tl_get (@tl_set))))))))))))))))
set_option maxHeartbeats 4000000 in
set_option maxRecDepth 100000 in
theorem exMatesC (F:Frm) (ad:Option Addr) (cap:Nat) (xs:List Res) (hl:xs.length≤512) (hin:∀ r∈xs,RgR r) :
    Contract F Tryz.prog 14 [.sl ad xs.length cap 17 (Qk xs.toArray)] (fun r=>(xs.any (fun x=>!QH x)=true∧∃ rd,r=Xh [.sl none 0 0 0 rd,.i .i64 1]) ∨
      (xs.any (fun x=>!QH x)=false∧∃ a cap es,MatOf xs es∧es.length≤262144∧r=Xh [.sl a es.length cap 4 (Xi es),.i .i64 0])):=by
  refine Qi Tryz.func14 rfl (by kernel_rfl) ?_;simp only[Tryz.ntmps14,Qt];(repeat refine Qc ?_);(refine Qa fun k hk=>?_;simp only[id,seval,Qb,Zc];refine hk _ ?_;clear hk k;try show Sat _ _ _ _ _);(repeat refine Qc ?_);(refine Qa fun k hk=>?_;simp only[id,seval,Qb,Zc]);refine Qd (exCheckC F ad cap xs hl hin) rfl (by rintro _ rfl;exact Qh rfl) ?_;rintro _ rfl;simp only[id,seval,Qb,Zc];(refine hk _ ?_;clear hk k;try show Sat _ _ _ _ _);(repeat refine Qc ?_);(refine Qa fun k hk=>?_;simp only[id,seval,Qb,Zc];refine hk _ ?_;clear hk k;try show Sat _ _ _ _ _);(repeat refine Qc ?_);refine Qe rfl (fun h=>?_) (fun h=>?_)
  · have hb:xs.any (fun x=>!QH x)=true:=by
      cases hx:xs.any (fun x=>!QH x) with
      | true=>rfl
      | false=>rw[hx] at h;cases h
    rw[hb];(repeat refine Qc ?_);(refine Qa fun k hk=>?_;simp only[id,seval,Qb,Zc];refine hk _ ?_;clear hk k;try show Sat _ _ _ _ _);refine Sat.ret ?_;simp only[Tryz.results14,id,seval,Int.reduceToNat,Qb,qb110];exact .inl ⟨_,rfl⟩
  have hb:xs.any (fun x=>!QH x)=false:=by
    cases hx:xs.any (fun x=>!QH x) with
    | false=>rfl
    | true=>rw[hx] at h;cases h
  refine Sat.skip ?_;simp only[Qf];(repeat refine Qc ?_);have hT:mqT Tryz.prog 98=some (true,[.u32],30):=by kernel_rfl
  (refine Qa fun k hk=>?_;simp only[id,seval,Qb,Zc]);refine makeMq hT (show 27<127 by decide) fun mb=>?_;simp only[id,seval,Qb,Zc];(refine hk _ ?_;clear hk k;try show Sat _ _ _ _ _);(repeat refine Qc ?_);(refine Qa fun k hk=>?_;simp only[id,seval,Qb,Zc]);refine Q8 (orderC F ad cap xs (by omega) hin) rfl rfl ?_;rintro ra ty len rc sz rrd ⟨a,c,ys,ho,hyl,e⟩;simp only[Qb,Eng.Own.row.injEq] at e;obtain⟨rfl,rfl,rfl,rfl,rfl,rfl⟩:=e;simp only[id,seval,Qb,Zc];(refine hk _ ?_;clear hk k;try show Sat _ _ _ _ _);refine QQ [.mq mb true [.u32] 0 (fun _=>[]) fun _=>default] 29 rfl ?_
  refine Xr (own':=[.gone,.mq mb true [.u32] 0 (fun _=>[]) fun _=>default,.gone]) (fun _=>0) (fun i o ho=>(by
    match i,ho with
    | 0,ho=>exact .inl (by simpa using ho.symm)
    | 1,ho=>exact .inr (by simpa using ho)
    | 2,ho=>exact .inl (by simpa using ho.symm)
    | i+3,ho=>simp at ho)) (fun i j o o' hij ho ho' g1 g2=>(by
    match i,j,ho,ho' with
    | 0,_,ho,_=>exact absurd (by simpa using ho.symm) g1
    | 2,_,ho,_=>exact absurd (by simpa using ho.symm) g1
    | _,0,_,ho'=>exact absurd (by simpa using ho'.symm) g2
    | _,2,_,ho'=>exact absurd (by simpa using ho'.symm) g2
    | 1,1,_,_=>omega
    | i+3,_,ho,_=>simp at ho
    | _,j+3,_,ho'=>simp at ho')) ?_
  refine Sat.redo 5 (.mp 1 mb) rfl rfl (fun _ _=>trivial) ?_;(repeat refine Qc ?_);refine Sat.block ?_;refine Qo (ι:=Nat×List Sg) (fun z=>⟨127,[(31,.i .i64 z.1),(30,.i .i64 ys.length),(29,.sl ra ys.length rc 17 (Qk ys.toArray)),(5,.mp 1 mb),(0,.sl ad xs.length cap 17 (Qk xs.toArray))],.gone :: .mq mb true [.u32] z.2.length (sKey z.2) (sVal z.2) :: .gone :: z.2.map Sg.row⟩)
    (fun z=>z.1≤ys.length∧SeenOk (ys.take z.1) z.2) (fun z=>ys.length - z.1) (0,[]) ⟨Nat.zero_le _,SeenOk.nil⟩ (by
      simp only[List.map_nil,List.length_nil];simp only[id,seval,Qb,qb111]
      try exact fun i hi=>absurd hi (Nat.not_lt_zero _)) ?_
  rintro⟨i,X⟩ ⟨hi,hG⟩;simp only at hi hG ⊢;obtain⟨T,hTd⟩:∃ T,T=X.map Sg.row:=⟨_,rfl⟩;rw[← hTd];have hTl:T.length=X.length:=by rw[hTd,List.length_map]
  have hnum:=hG.num;rw[List.length_take] at hnum;(repeat refine Qc ?_);(refine Qa fun k hk=>?_;simp only[id,seval,Qb,Zc];refine hk _ ?_;clear hk k;try show Sat _ _ _ _ _);(repeat refine Qc ?_);refine Qe rfl (fun h3=>?_) (fun h3=>?_)
  · have hlt:i<ys.length:=by simp only[decide_eq_true_eq] at h3;omega
    have e1:IntKind.i64.wrap ((i:Int)+1)=((i+1:Nat):Int):=by rw[w64 (by omega)];omega
    obtain⟨r,hr⟩:∃ r,r=ys.toArray[i]! := ⟨_,rfl⟩;have hri:ys[i]=r:=by rw[hr,getB hlt]
    have htk:ys.take (i+1)=ys.take i ++ [r]:=by rw[List.take_succ_eq_append_getElem hlt,hri]
    refine Sat.skip ?_;simp only[Qf];(repeat refine Qc ?_);refine Sat.block ?_;(repeat refine Qc ?_);(refine Qa fun k hk=>?_;simp only[id,seval,Qb,Zc]);refine⟨by omega,fun b7=>?_⟩;(refine hk _ ?_;clear hk k;try show Sat _ _ _ _ _);refine Qs (.gone :: .mq mb true [.u32] X.length (sKey X) (sVal X) :: .gone :: T) 7 rfl ?_
    refine Sat.le (st':=⟨127,[(7,.el ⟨b7,0,none⟩ 17 fun j=>(Res.cs r).getD j default),(31,.i .i64 i),(30,.i .i64 ys.length),(29,.sl ra ys.length rc 17 (Qk ys.toArray)),(5,.mp 1 mb),(0,.sl ad xs.length cap 17 (Qk xs.toArray))],.gone :: .mq mb true [.u32] X.length (sKey X) (sVal X) :: .gone :: T⟩) ?_ (by
      simp only[List.length_cons,List.length_nil];simp only[id,seval,Qb,qb111]
      exact⟨by rw[hr];rfl,QU _⟩)
    simp only[Res.cs];(repeat refine Qc ?_);(refine Qa fun k hk=>?_;simp only[id,seval,Qb,Zc]);refine Qd (wayC F r) rfl (by rintro _ rfl;exact Qh rfl) ?_;rintro _ rfl;simp only[id,seval,Qb,Zc];(refine hk _ ?_;clear hk k;try show Sat _ _ _ _ _);refine Qe rfl (fun h4=>?_) (fun h4=>?_)
    · rcases Classical.em (∃ j,j<X.length∧(X.getD j default).k=r.from_) with ⟨j,hj,hjk⟩|hno
      · obtain⟨g,hg⟩:∃ g,g=X.getD j default:=⟨_,rfl⟩
        have hXj:X[j]? = some g:=by rw[hg,List.getD_eq_getElem?_getD,List.getElem?_eq_getElem hj];rfl
        have hTj:(Eng.Own.gone :: T)[j+1]? = some g.row:=by rw[List.getElem?_cons_succ,hTd,List.getElem?_map,hXj];rfl
        refine Sat.pull (j+1) hTj ?_;simp only[List.set_cons_succ];obtain⟨T1,hT1⟩:∃ T1,T1=T.set j Eng.Own.gone:=⟨_,rfl⟩;rw[← hT1];simp only[Sg.row,Q6];have hgk:g.k=r.from_:=by rw[hg];exact hjk
        have hgm:g∈X:=List.mem_of_getElem? hXj
        have hgl:g.ids.length≤512:=by
          have:=hG.len g hgm;rw[List.length_take] at this;omega
        have hsv:sVal X j=.os 0 g.a g.ids.length g.cap:=by unfold sVal;rw[← hg]
        have hjj:∀ j2,j2<X.length→sKey X j2=[r.from_]→j2=j:=fun j2 hj2 hk2=>sKey_inj hG.nodup hj2 hj (by rw[hk2];unfold sKey;rw[hjk]);refine QT (ι:=Option Addr×Nat) (fun z=>⟨127,[(31,.i .i64 i),(30,.i .i64 ys.length),(29,.sl ra ys.length rc 17 (Qk ys.toArray)),(5,.mp 1 mb),(0,.sl ad xs.length cap 17 (Qk xs.toArray))],.row z.1 27 (g.ids.length+1) z.2 3 (QX (g.ids ++ [r.idn]).toArray) :: .mq mb true [.u32] X.length (sKey X) (fun q=>if q=j then .os 0 z.1 (g.ids.length+1) z.2 else sVal X q) :: .gone :: T1⟩) (fun _=>True) ?_ ?_
        · (refine Qp (.keep [0,1,2,4,5,6,7,9] [3,8,10,11] (.alt 3 (.alt 8 (.one 10 (.one 11 (.one 12 (.one 13 .done)))) (.alt 10 (.alt 8 (.one 11 (.one 12 (.one 13 .done))) (.alt 11 (.one 8 (.one 12 (.one 13 .done))) .none)) .none)) (.alt 8 (.alt 3 (.one 10 (.one 11 (.one 12 (.one 13 .done)))) (.alt 10 (.alt 3 (.one 11 (.one 12 (.one 13 .done))) (.alt 11 (.alt 3 (.one 12 (.one 13 .done)) (.alt 12 (.one 3 (.one 13 .done)) .none)) .none)) .none)) (.alt 10 (.alt 3 (.alt 8 (.one 11 (.one 12 (.one 13 .done))) (.alt 11 (.one 8 (.one 12 (.one 13 .done))) .none)) (.alt 8 (.alt 3 (.one 11 (.one 12 (.one 13 .done))) (.alt 11 (.alt 3 (.one 12 (.one 13 .done)) (.alt 12 (.one 3 (.one 13 .done)) .none)) .none)) (.alt 11 (.alt 3 (.one 8 (.one 12 (.one 13 .done))) (.alt 8 (.alt 3 (.one 12 (.one 13 .done)) (.alt 12 (.one 3 (.one 13 .done)) .none)) .none)) .none))) .none)))) (by kernel_rfl) (by kernel_rfl) (fun _ _ h=>h) fun k hk=>?_;simp only[WOT,List.map_cons,List.map_nil,List.getD_cons_zero,List.getD_cons_succ];simp only[id,seval,Qb,WOT,Zc])
          repeat' (first
            | (with_reducible refine And.intro ?_ ?_)
            | rfl
            | (rw[List.take_left];done)
            | (rw[List.take_length];done)
            | (refine lookMq (l:=[r.from_]) hT (mqIn_own (id:=1) (m:=.tmp 41) rfl rfl) rfl rfl (.sl none 0 0 0 fun _ _=>.v undef) (by kernel_rfl) (fun R w=>⟨Nat.le_refl _,Nat.zero_le _,.inl rfl⟩) (show 45<127 by decide) (fun j2 hj2 hk2=>?_) (fun hno2=>absurd (by unfold sKey;rw[hjk]) (hno2 j hj))
               rw[hjj j2 hj2 hk2,hsv]
               simp only[id,seval,Qb,Zc])
            | (refine Qd (identC F r) rfl (by rintro _ rfl;exact idAg_ok _) ?_;rintro _ rfl;simp only[Z7,id,seval,Int.reduceToNat,Qb,qb110])
            | (refine updMq (l:=[r.from_]) (id:=1) hT rfl rfl rfl rfl rfl trivial (fun j2 hj2 hk2=>?_) (fun hno2=>absurd (by unfold sKey;rw[hjk]) (hno2 j hj))
               rw[hjj j2 hj2 hk2]
               simp only[id,seval,Qb,Zc])
            | (unfold maxLen;omega)
            | omega
            | (refine fun (a3:Option Addr) (c3:Nat)=>?_)
            | (with_reducible intro bs))
          all_goals
            refine hk _ ?_;simp only[Qf];refine⟨(a3,c3),trivial,?_⟩;simp only[id,seval,Qb,qb111];exact⟨idn_app rfl,ownLe_app _ _⟩
        rintro⟨a3,c3⟩ -;simp only[Qf,Qg];obtain⟨g2,hg2⟩:∃ g2:Sg,g2=⟨r.from_,g.ids ++ [r.idn],a3,c3⟩:=⟨_,rfl⟩;have hXn:X[j]=g:=by rw[List.getElem?_eq_getElem hj] at hXj;simpa using hXj
        have hG2:=hG.hit h4 hj (by rw[hXn];exact hgk) g2 (by rw[hg2]) (by rw[hg2,hXn]);rw[← htk] at hG2;refine Sat.leOwn (own':=g2.row :: .mq mb true [.u32] (X.set j g2).length (sKey (X.set j g2)) (sVal (X.set j g2)) :: .gone :: T1) ⟨?_,⟨rfl,rfl,rfl,by rw[List.length_set],fun q hq=>?_⟩,trivial,QU _⟩ ?_
        · rw[hg2]
          simp only[Sg.row,Q6,List.length_append,List.length_singleton];exact own_refl _
        · unfold sKey sVal
          simp only[];by_cases h9:q=j
          · subst h9
            rw[ZU hj,if_pos rfl,hjk,hg2];exact⟨rfl,by simp⟩
          · rw[getD_set_ne (Ne.symm h9),if_neg h9]
            exact⟨rfl,rfl⟩
        refine Sat.push (T:=.gone :: T1) (j+1) (by rw[List.getElem?_cons_succ,hT1,List.getElem?_set_self (by omega)]) ?_;simp only[List.set_cons_succ];have hTn:T1.set j g2.row=(X.set j g2).map Sg.row:=by rw[hT1,List.set_set,hTd,List.map_set]
        rw[hTn];generalize X.set j g2=X2 at hG2;refine Qa fun kk hk=>?_;simp only[id,seval,Qb,e1,Zc];refine hk _ ?_;simp only[Qf,Qg];refine⟨(i+1,X2),⟨by simp only;omega,hG2⟩,by simp only;omega,?_⟩;simp only[id,seval,Qb,qb111];exact QU _
      · have hnk:∀ j2,j2<X.length→sKey X j2≠[r.from_]:=fun j2 hj2 e=>hno ⟨j2,hj2,by unfold sKey at e;simpa using e⟩
        refine Sat.nilAt 0 27 3 (QX #[]) rfl ?_;simp only[List.set_cons_zero];(repeat refine Qc ?_);refine QT (ι:=Option Addr×Nat) (fun z=>⟨127,[(31,.i .i64 i),(30,.i .i64 ys.length),(29,.sl ra ys.length rc 17 (Qk ys.toArray)),(5,.mp 1 mb),(0,.sl ad xs.length cap 17 (Qk xs.toArray))],.row z.1 27 1 z.2 3 (QX [r.idn].toArray) :: .mq mb true [.u32] (X.length+1) (fun q=>if q=X.length then [r.from_] else sKey X q) (fun q=>if q=X.length then .os 0 z.1 1 z.2 else sVal X q) :: .gone :: T⟩) (fun _=>True) ?_ ?_
        · (refine Qp (.keep [0,1,2,4,5,6,7,9] [3,8,10,11] (.alt 3 (.alt 8 (.one 10 (.one 11 (.one 12 (.one 13 .done)))) (.alt 10 (.alt 8 (.one 11 (.one 12 (.one 13 .done))) (.alt 11 (.one 8 (.one 12 (.one 13 .done))) .none)) .none)) (.alt 8 (.alt 3 (.one 10 (.one 11 (.one 12 (.one 13 .done)))) (.alt 10 (.alt 3 (.one 11 (.one 12 (.one 13 .done))) (.alt 11 (.alt 3 (.one 12 (.one 13 .done)) (.alt 12 (.one 3 (.one 13 .done)) .none)) .none)) .none)) (.alt 10 (.alt 3 (.alt 8 (.one 11 (.one 12 (.one 13 .done))) (.alt 11 (.one 8 (.one 12 (.one 13 .done))) .none)) (.alt 8 (.alt 3 (.one 11 (.one 12 (.one 13 .done))) (.alt 11 (.alt 3 (.one 12 (.one 13 .done)) (.alt 12 (.one 3 (.one 13 .done)) .none)) .none)) (.alt 11 (.alt 3 (.one 8 (.one 12 (.one 13 .done))) (.alt 8 (.alt 3 (.one 12 (.one 13 .done)) (.alt 12 (.one 3 (.one 13 .done)) .none)) .none)) .none))) .none)))) (by kernel_rfl) (by kernel_rfl) (fun _ _ h=>h) fun k hk=>?_;simp only[WOT,List.map_cons,List.map_nil,List.getD_cons_zero,List.getD_cons_succ];simp only[id,seval,Qb,WOT,Zc])
          repeat' (first
            | (with_reducible refine And.intro ?_ ?_)
            | rfl
            | (rw[List.take_left];done)
            | (rw[List.take_length];done)
            | (refine lookMq (l:=[r.from_]) hT (mqIn_own (id:=1) (m:=.tmp 41) rfl rfl) rfl rfl (.os 0 none 0 0) (by kernel_rfl) (fun R w=>trivial) (show 45<127 by decide) (fun j2 hj2 hk2=>absurd hk2 (hnk j2 hj2)) (fun _=>?_)
               simp only[id,seval,Qb,Zc])
            | (refine Qd (identC F r) rfl (by rintro _ rfl;exact idAg_ok _) ?_;rintro _ rfl;simp only[Z7,id,seval,Int.reduceToNat,Qb,qb110])
            | (refine updMq (l:=[r.from_]) (id:=1) hT rfl rfl rfl rfl rfl trivial (fun j2 hj2 hk2=>absurd hk2 (hnk j2 hj2)) (fun _=>?_)
               simp only[id,seval,Qb,Zc])
            | (unfold maxLen;omega)
            | omega
            | (refine fun (a3:Option Addr) (c3:Nat)=>?_)
            | (with_reducible intro bs))
          all_goals
            refine hk _ ?_;simp only[Qf];refine⟨(a3,c3),trivial,?_⟩;simp only[id,seval,Qb,qb111];exact⟨idn_app (ys:=[]) rfl,ownLe_app _ _⟩
        rintro⟨a3,c3⟩ -;simp only[Qf,Qg];obtain⟨g2,hg2⟩:∃ g2:Sg,g2=⟨r.from_,[r.idn],a3,c3⟩:=⟨_,rfl⟩
        have hG2:=hG.miss h4 (fun g hg e=>by
          obtain⟨q,hq,rfl⟩:=List.getElem_of_mem hg
          exact hno ⟨q,hq,by rw[List.getD_eq_getElem?_getD,List.getElem?_eq_getElem hq];exact e⟩) g2 (by rw[hg2]) (by rw[hg2])
        rw[← htk] at hG2;obtain⟨X2,hX2⟩:∃ X2,X2=X ++ [g2]:=⟨_,rfl⟩;have hX2l:X2.length=X.length+1:=by rw[hX2,List.length_append];rfl
        rw[← hX2] at hG2;refine Sat.leOwn (own':=g2.row :: .mq mb true [.u32] X2.length (sKey X2) (sVal X2) :: .gone :: T) ⟨?_,⟨rfl,rfl,rfl,hX2l.symm,fun q hq=>?_⟩,trivial,QU _⟩ ?_
        · rw[hg2]
          exact own_refl _
        · unfold sKey sVal
          rw[hX2];simp only[];by_cases h9:q=X.length
          · subst h9
            have e9:(X ++ [g2]).getD X.length default=g2:=by rw[List.getD_eq_getElem?_getD,List.getElem?_concat_length];rfl
            rw[e9,if_pos rfl,if_pos rfl,hg2];exact⟨rfl,rfl⟩
          · have e9:(X ++ [g2]).getD q default=X.getD q default:=by
              rw[List.getD_eq_getElem?_getD,List.getElem?_append_left (by omega),List.getD_eq_getElem?_getD]
            rw[e9,if_neg h9,if_neg h9];exact⟨rfl,rfl⟩
        refine Sat.pushNew (T:=.gone :: T) ?_;simp only[List.cons_append];have hTn:T ++ [g2.row]=X2.map Sg.row:=by rw[hX2,List.map_append,hTd];rfl
        rw[hTn];refine Qa fun kk hk=>?_;simp only[id,seval,Qb,e1,Zc];refine hk _ ?_;simp only[Qf,Qg];refine⟨(i+1,X2),⟨by simp only;omega,hG2⟩,by simp only;omega,?_⟩;simp only[id,seval,Qb,qb111];exact QU _
    · have hw:Xu r=false:=h4
      refine Sat.skip ?_;simp only[Qf,Qg];refine Qa fun kk hk=>?_;simp only[id,seval,Qb,e1,Zc];refine hk _ ?_;simp only[Qf,Qg];refine⟨(i+1,X),⟨by simp only;omega,by simp only;rw[htk];exact hG.skip hw⟩,by simp only;omega,?_⟩;simp only;rw[← hTd];simp only[id,seval,Qb,qb111];exact QU _
  have h1:i=ys.length:=by simp only[decide_eq_false_iff_not] at h3;omega
  subst h1;rw[List.take_length] at hG;clear hnum;refine Sat.exit ?_;simp only[Qf,Qg,reduceIte];(repeat refine Qc ?_);refine Qa fun kk hk=>?_;simp only[id,seval,Qb,Zc];refine rangeMq hT (mqIn_own (id:=1) (m:=.tmp 51) rfl rfl) (show 52<127 by decide) fun it=>?_;simp only[id,seval,Qb,Zc];refine hk _ ?_;clear hk kk;simp only[Qf];refine Sat.toSlot ?_;have hkv:∀ i,(SV.i .u32 (X.getD i default).k).den=Xv true [.u32] (sKey X i):=fun i=>rfl;have hX512:X.length≤512:=by have:=hG.num;omega
  refine Sat.block ?_;refine Qo (ι:=List Nat×List Sg×Option Nat) (fun z=>⟨127,[(52,.v (.pointer (some ⟨it,0,none⟩))),(5,.mp 1 mb),(0,.sl ad xs.length cap 17 (Qk xs.toArray))],plOwn (.mq mb true [.u32] X.length (sKey X) (sVal X)) (.res it (ZS it mb X.length z.1)) z.2.1 z.2.2⟩)
    (fun z=>z.1.Nodup∧(∀ i∈z.1,i<X.length)∧SortSome X z.2.1 z.1∧∀ i,z.2.2=some i→i<X.length) (fun z=>X.length - z.1.length) ([],X,none) ⟨List.nodup_nil,fun i hi=>(by cases hi),⟨rfl,fun i hi=>⟨rfl,rfl,rfl,.refl _,fun h=>(by cases h)⟩⟩,fun i h=>(by cases h)⟩ (by
      simp only[plOwn];rw[← hTd];simp only[id,seval,Qb,qb111]
      first|exact QU _|exact⟨own_le _,QU _⟩) ?_
  clear hTd hTl T;rintro⟨seen,Y,pl⟩ ⟨hnd,hsl,hSo,hpl⟩;simp only at hnd hsl hSo hpl ⊢;refine Sat_unpl (fun i hi=>by rw[hSo.1];exact hpl i hi) ?_;obtain⟨T,hTd⟩:∃ T,T=Y.map Sg.row:=⟨_,rfl⟩;rw[← hTd];have hTl:T.length=X.length:=by rw[hTd,List.length_map,hSo.1]
  have hsln:=seen_lenA hnd hsl;(repeat refine Qc ?_);refine Qa fun kk hk=>?_;simp only[id,seval,Qb,Zc];refine nextMq (oid:=2) rfl rfl rfl (mqIn_own (id:=1) (m:=.tmp 5) rfl rfl) (fun i=>.i .u32 (X.getD i default).k) (fun i _=>hkv i) (fun i R w=>trivial) (show 53<127 by decide) (fun i hi hs=>?_) (fun ha=>?_)
  · simp only[id,seval,Qb,Zc]
    refine hk _ ?_;clear hk kk
    have hnd2:(seen ++ [i]).Nodup:=by
      rw[List.nodup_append];exact⟨hnd,by simp,fun a ha b hb=>by rw[List.mem_singleton] at hb;subst hb;exact fun e=>hs (e ▸ ha)⟩
    have hsl2:∀ j∈seen ++ [i],j<X.length:=fun j hj=>by
      rcases List.mem_append.1 hj with hj|hj
      · exact hsl j hj
      · rw[List.mem_singleton] at hj;subst hj;exact hi
    have hlen:=seen_lenA hnd2 hsl2;rw[List.length_append,List.length_singleton] at hlen;obtain⟨g,hg⟩:∃ g,g=Y.getD i default:=⟨_,rfl⟩;have hiY:i<Y.length:=by rw[hSo.1];exact hi
    have hYi:Y[i]? = some g:=by rw[hg,List.getD_eq_getElem?_getD,List.getElem?_eq_getElem hiY];rfl
    obtain⟨s1,s2,s3,s4,_⟩:=hSo.2 i hi
    have hgl:g.ids.length≤512:=by
      have h8:=s4.length_eq;rw[← hg] at h8;have h9:=hG.len (X.getD i default) (by rw[List.getD_eq_getElem?_getD,List.getElem?_eq_getElem hi];exact List.getElem_mem hi);omega
    have hsv:sVal X i=.os 0 g.a g.ids.length g.cap:=by
      unfold sVal;rw[← s2,← s3,← s4.length_eq,← hg]
    simp only[Qf];(repeat refine Qc ?_);refine Sat.cond_tt rfl ?_;refine Sat.skip ?_;simp only[Qf];(repeat refine Qc ?_);refine Sat.block ?_;(repeat refine Qc ?_);refine Qa fun kk hk=>?_;simp only[id,seval,Qb,Zc];refine entryIterMq (oid:=2) (seen:=seen) rfl rfl hi (mqIn_own (id:=1) (m:=.tmp 5) rfl rfl) (fun i=>.i .u32 (X.getD i default).k) (hkv i) (fun R w=>trivial) (show 55<127 by decide) ?_;rw[hsv];simp only[id,seval,Qb,Zc];refine hk _ ?_;clear hk kk;simp only[Qf];refine Sat.pull (T:=.res it (ZS it mb X.length (seen ++ [i])) :: T) (i+1) (show _=some g.row by rw[List.getElem?_cons_succ,hTd,List.getElem?_map,hYi];rfl) ?_;simp only[List.set_cons_succ];obtain⟨T1,hT1⟩:∃ T1,T1=T.set i Eng.Own.gone:=⟨_,rfl⟩;rw[← hT1];simp only[Sg.row,Q6];refine Qa fun kk hk=>?_;simp only[id,seval,Qb,Zc];refine Xl 0 (idnSortC F idnLt_swo idnCmp1 g.a g.cap g.ids.length (by omega) g.ids.toArray (by simp)) rfl rfl ?_;rintro r o1 ⟨rfl,d',hd',⟨hperm,hsort⟩,rfl⟩;simp only[Q6,id,seval,Int.reduceToNat,Qb,qb110];refine hk _ ?_;clear hk kk;simp only[Qf,Qg];obtain⟨p3,q3⟩:=idn_sorted (L:=g.ids) hd' hperm hsort;obtain⟨g2,hg2⟩:∃ g2:Sg,g2=⟨g.k,d'.toList,g.a,g.cap⟩:=⟨_,rfl⟩;have hdl:g2.ids.length=g.ids.length:=by rw[hg2];exact p3.length_eq
    refine⟨(seen ++ [i],Y.set i g2,some i),⟨hnd2,hsl2,⟨by rw[List.length_set];exact hSo.1,fun q hq=>?_⟩,fun q h9=>(by simp only[Option.some.injEq] at h9;rw[← h9];exact hi)⟩,by simp only[List.length_append,List.length_singleton];omega,?_⟩
    · simp only[]
      by_cases h9:q=i
      · subst h9
        rw[ZU hiY,hg2];simp only[];rw[hg];refine⟨s1,s2,s3,?_,fun _=>q3⟩;rw[hg] at p3;exact p3.trans s4
      · rw[getD_set_ne (Ne.symm h9)]
        obtain⟨u1,u2,u3,u4,u5⟩:=hSo.2 q hq;refine⟨u1,u2,u3,u4,fun h8=>u5 ?_⟩;rcases List.mem_append.1 h8 with h8|h8
        · exact h8
        · rw[List.mem_singleton] at h8;exact absurd h8 h9
    · have e8:(Y.map Sg.row).set i .gone=((Y.set i g2).map Sg.row).set i .gone:=by rw[List.map_set,List.set_set]
      simp only[plOwn];rw[ZU hiY,← e8,← hTd,← hT1];simp only[Sg.row,Q6];rw[hdl,hg2];simp only[id,seval,Qb,qb111];first|exact QU _|exact⟨own_le _,QU _⟩
  · simp only[id,seval,Qb,Zc]
    refine hk _ ?_;clear hk kk;simp only[Qf];(repeat refine Qc ?_);refine Sat.cond_ff rfl ?_;refine Sat.exit ?_;simp only[Qf,Qg,reduceIte];have hall:∀ i,i<Y.length→(Y.getD i default).ids.Pairwise fun x y=>Za y x=false:=fun i hi=>(hSo.2 i (by have:=hSo.1;omega)).2.2.2.2 (ha i (by have:=hSo.1;omega))
    have hYv:∀ i,i<X.length→sKey X i=sKey Y i∧sVal X i=sVal Y i:=fun i hi=>by
      obtain⟨u1,u2,u3,u4,_⟩:=hSo.2 i hi;unfold sKey sVal;rw[u1,u2,u3,u4.length_eq];exact⟨rfl,rfl⟩
    have hV:=fun k d=>(seenV_mem hG hSo k d).trans (show (∃ r∈ys,Xu r=true∧r.from_=k∧r.idn=d) ↔ ∃ r∈xs,Xu r=true∧r.from_=k∧r.idn=d from ⟨fun⟨r,h1,h2⟩=>⟨r,((ho.2 r).1 h1).1,h2⟩,fun⟨r,h1,h2⟩=>⟨r,(ho.2 r).2 ⟨h1,by
      have:=h2.1;simp only[Xu,Zx,Bool.and_eq_true] at this
      exact this.2.2.2⟩,h2⟩⟩)
    have hYn:(Y.map Sg.k).Nodup:=by
      have hk:Y.map Sg.k=X.map Sg.k:=by
        apply List.ext_getElem
        · simp [hSo.1]
        · intro i h1 h2
          rw[List.length_map] at h1 h2;have:=(hSo.2 i h2).1;rw[List.getD_eq_getElem?_getD,List.getElem?_eq_getElem h1,List.getD_eq_getElem?_getD,List.getElem?_eq_getElem h2] at this
          simpa using this
      rw[hk];exact hG.nodup
    have hYlen:∀ i,i<Y.length→(Y.getD i default).ids.length≤512:=fun i hi=>by
      have hi2:i<X.length:=by have:=hSo.1;omega
      have h8:=(hSo.2 i hi2).2.2.2.1.length_eq;have h9:=hG.len (X.getD i default) (by rw[List.getD_eq_getElem?_getD,List.getElem?_eq_getElem hi2];exact List.getElem_mem hi2);omega
    refine Sat.leOwn (own':=.gone :: .mq mb true [.u32] Y.length (sKey Y) (sVal Y) :: .res it (ZS it mb X.length seen) :: T) ⟨trivial,⟨rfl,rfl,rfl,hSo.1.symm,fun i hi=>hYv i (by simpa using hi)⟩,own_le _,QU _⟩ ?_;refine Xr (own':=.mq mb true [.u32] Y.length (sKey Y) (sVal Y) :: T) (fun j=>if j=0 then 1 else j+2) (fun j o ho=>?_) (fun i j o o' hij ho ho' _ _ e=>?_) ?_
    · match j,ho with
      | 0,ho=>exact .inr (by simpa using ho)
      | j+1,ho=>exact .inr (by rw[if_neg (by omega)];simpa using ho)
    · split at e<;>split at e<;>omega
    refine Sat.redo 5 (.mp 0 mb) rfl rfl (fun _ _=>trivial) ?_;refine Sat.settleTail (o':=.mq mb true [.u32] Y.length (sKey Y) (sValS Y)) (fun b hb=>hb) (fun R R' B w hRR hT hTb hno ho=>?_) ?_
    · obtain⟨b1,b2,b3,b4⟩:=ho
      refine⟨b1,hno _ rfl,b3,fun q hq=>?_⟩;have htm:(Y.getD q default).row∈T:=by rw[hTd];exact List.mem_map.2 ⟨_,Q3 hq,rfl⟩
      exact row_sl (hT _ htm) hRR (fun b hb=>hTb _ htm b hb)
    refine Sat.settleMap 5 rfl rfl ?_;simp only[List.set_cons_zero];have hT2:mqT Tryz.prog 102=some (false,[.u32,.u32],32):=by kernel_rfl
    (repeat refine Qc ?_);refine Qa fun kk hk=>?_;simp only[id,seval,Qb,Zc];refine makeMq hT2 (show 59<127 by decide) fun mb2=>?_;simp only[id,seval,Qb,Zc];refine hk _ ?_;clear hk kk;simp only[Qf]
    refine Xr (own':=[.mq mb2 false [.u32,.u32] 0 (fun _=>[]) fun _=>default]) (fun _=>1) (fun i o ho=>(by
      match i,ho with
      | 0,ho=>exact .inr (by simpa using ho)
      | i+1,ho=>simp at ho)) (fun i j o o' hij ho ho' _ _=>(by
      have hi:=(List.getElem?_eq_some_iff.1 ho).1;have hj:=(List.getElem?_eq_some_iff.1 ho').1;simp only[List.length_cons,List.length_nil] at hi hj
      omega)) ?_
    refine Sat.redo 10 (.mp 0 mb2) rfl rfl (fun _ _=>trivial) ?_;(repeat refine Qc ?_);(refine Qa fun k hk=>?_;simp only[id,seval,Qb,Zc]);refine Q2 (flowsC F ad cap xs hl hin) rfl rfl ?_;rintro _ ⟨ga,gc,gs,hfl,hgl,hgr,rfl⟩;simp only[id,seval,Qb,Zc];(refine hk _ ?_;clear hk k;try show Sat _ _ _ _ _);(repeat refine Qc ?_);refine Sat.block ?_;refine Sat.le (st':=⟨127,[(63,.i .i64 0),(62,.i .i64 gs.length),(61,.sl ga gs.length gc 1 (fgS gs)),(5,.rm mb true [.u32] Y.length (sKey Y) (sValS Y)),(10,.mp 0 mb2)],[.mq mb2 false [.u32,.u32] 0 (fun _=>[]) fun _=>default]⟩) ?_ (by simp only[id,seval,Qb,qb111];try exact fun i hi=>absurd hi (Nat.not_lt_zero _));refine Qo (ι:=Nat×List Evd) (fun z=>⟨127,[(63,.i .i64 z.1),(62,.i .i64 gs.length),(61,.sl ga gs.length gc 1 (fgS gs)),(5,.rm mb true [.u32] Y.length (sKey Y) (sValS Y)),(10,.mp 0 mb2)],[.mq mb2 false [.u32,.u32] z.2.length (Z1 z.2) (Xx z.2)]⟩)
      (fun z=>z.1≤gs.length∧BestI Evd.pr evB (fun e=>(∃ g∈gs.take z.1,∃ a∈g.rs,∃ b∈g.rs,mW (seenV Y) a b e)) z.2∧∀ e∈z.2,e.ids.length≤3) (fun z=>gs.length - z.1) (0,[])
      ⟨Nat.zero_le _,BestI.start.congr fun x=>⟨fun h=>h.elim,fun⟨g,hg,_⟩=>(by cases hg)⟩,fun e he=>(by cases he)⟩ (by simp only[id,seval,Qb,qb111];try exact fun i hi=>absurd hi (Nat.not_lt_zero _)) ?_
    rintro⟨i,Z⟩ ⟨hi,hB,hZ⟩;simp only at hi hB hZ ⊢;(repeat refine Qc ?_);(refine Qa fun k hk=>?_;simp only[id,seval,Qb,Zc];refine hk _ ?_;clear hk k;try show Sat _ _ _ _ _);(repeat refine Qc ?_);refine Qe rfl (fun h=>?_) (fun h=>?_)
    · have h1:i<gs.length:=by simp only[decide_eq_true_eq] at h;omega
      have e1:IntKind.i64.wrap ((i:Int)+1)=((i+1:Nat):Int):=by rw[w64 (by omega)];omega
      obtain⟨g,hg⟩:∃ g,g=gs.getD i default:=⟨_,rfl⟩;have hgi:gs[i]=g:=by rw[hg,List.getD_eq_getElem?_getD,List.getElem?_eq_getElem h1];rfl
      have hgm:g∈gs:=by rw[← hgi];exact List.getElem_mem h1
      have hgl2:=hgr g hgm;have q0:fgS gs i 0=.sl g.a g.rs.length g.cap 17 (Qk g.rs.toArray):=by rw[hg];rfl
      have htk:gs.take (i+1)=gs.take i ++ [g]:=by rw[List.take_succ_eq_append_getElem h1,hgi]
      refine Sat.skip ?_;simp only[Qf];(repeat refine Qc ?_);refine Sat.block ?_;(repeat refine Qc ?_);(refine Qa fun k hk=>?_;simp only[id,seval,Qb,Zc]);simp only[q0];refine⟨by omega,?_⟩;(refine hk _ ?_;clear hk k;try show Sat _ _ _ _ _);(repeat refine Qc ?_);(refine Qa fun k hk=>?_;simp only[id,seval,Qb,Zc];refine hk _ ?_;clear hk k;try show Sat _ _ _ _ _);(repeat refine Qc ?_);refine Sat.block ?_;refine Qo (ι:=Nat×List Evd) (fun z=>⟨127,[(69,.i .i64 z.1),(68,.i .i64 g.rs.length),(67,.sl g.a g.rs.length g.cap 17 (Qk g.rs.toArray)),(12,.sl g.a g.rs.length g.cap 17 (Qk g.rs.toArray)),(63,.i .i64 i),(62,.i .i64 gs.length),(61,.sl ga gs.length gc 1 (fgS gs)),(5,.rm mb true [.u32] Y.length (sKey Y) (sValS Y)),(10,.mp 0 mb2)],[.mq mb2 false [.u32,.u32] z.2.length (Z1 z.2) (Xx z.2)]⟩)
        (fun z=>z.1≤g.rs.length∧BestI Evd.pr evB (fun e=>((∃ g∈gs.take i,∃ a∈g.rs,∃ b∈g.rs,mW (seenV Y) a b e)∨∃ a∈g.rs.take z.1,∃ b∈g.rs,mW (seenV Y) a b e)) z.2∧∀ e∈z.2,e.ids.length≤3) (fun z=>g.rs.length - z.1) (0,Z)
        ⟨Nat.zero_le _,hB.congr fun x=>⟨.inl,fun h=>h.elim id fun⟨a,ha,_⟩=>(by cases ha)⟩,hZ⟩ (by simp only[id,seval,Qb,qb111];first|done|exact fun i hi=>⟨rfl,rfl⟩|rfl|exact⟨rfl,rfl⟩) ?_
      clear hB hZ;rintro⟨j,Z⟩ ⟨hj,hB,hZ⟩;simp only at hj hB hZ ⊢;(repeat refine Qc ?_);(refine Qa fun k hk=>?_;simp only[id,seval,Qb,Zc];refine hk _ ?_;clear hk k;try show Sat _ _ _ _ _);(repeat refine Qc ?_);refine Qe rfl (fun h=>?_) (fun h=>?_)
      · have h2:j<g.rs.length:=by simp only[decide_eq_true_eq] at h;omega
        have e2:IntKind.i64.wrap ((j:Int)+1)=((j+1:Nat):Int):=by rw[w64 (by omega)];omega
        obtain⟨a,ha⟩:∃ a,a=g.rs.toArray[j]! := ⟨_,rfl⟩;have haj:g.rs[j]=a:=by rw[ha,getB h2]
        have htk2:g.rs.take (j+1)=g.rs.take j ++ [a]:=by rw[List.take_succ_eq_append_getElem h2,haj]
        refine Sat.skip ?_;simp only[Qf];(repeat refine Qc ?_);refine Sat.block ?_;(repeat refine Qc ?_);(refine Qa fun k hk=>?_;simp only[id,seval,Qb,Zc]);refine⟨by omega,fun b14=>?_⟩;(refine hk _ ?_;clear hk k;try show Sat _ _ _ _ _);refine Qs [.mq mb2 false [.u32,.u32] Z.length (Z1 Z) (Xx Z)] 14 rfl ?_;simp only[List.length_cons,List.length_nil,Nat.reduceAdd];(repeat refine Qc ?_);(refine Qa fun k hk=>?_;simp only[id,seval,Qb,Zc];refine hk _ ?_;clear hk k;try show Sat _ _ _ _ _);(repeat refine Qc ?_);refine Sat.block ?_;refine Qo (ι:=Nat×List Evd) (fun z=>⟨127,[(75,.i .i64 z.1),(74,.i .i64 g.rs.length),(73,.sl g.a g.rs.length g.cap 17 (Qk g.rs.toArray)),(14,.el ⟨b14,0,none⟩ 17 fun j=>(Res.cs a).getD j default),(69,.i .i64 j),(68,.i .i64 g.rs.length),(67,.sl g.a g.rs.length g.cap 17 (Qk g.rs.toArray)),(12,.sl g.a g.rs.length g.cap 17 (Qk g.rs.toArray)),(63,.i .i64 i),(62,.i .i64 gs.length),(61,.sl ga gs.length gc 1 (fgS gs)),(5,.rm mb true [.u32] Y.length (sKey Y) (sValS Y)),(10,.mp 0 mb2)],[.mq mb2 false [.u32,.u32] z.2.length (Z1 z.2) (Xx z.2)]⟩)
          (fun z=>z.1≤g.rs.length∧BestI Evd.pr evB (fun e=>(((∃ g∈gs.take i,∃ a∈g.rs,∃ b∈g.rs,mW (seenV Y) a b e)∨∃ a∈g.rs.take j,∃ b∈g.rs,mW (seenV Y) a b e)∨∃ b∈g.rs.take z.1,mW (seenV Y) a b e)) z.2∧∀ e∈z.2,e.ids.length≤3) (fun z=>g.rs.length - z.1) (0,Z)
          ⟨Nat.zero_le _,hB.congr fun x=>⟨.inl,fun h=>h.elim id fun⟨b,hb,_⟩=>(by cases hb)⟩,hZ⟩ (by
            simp only[id,seval,Qb,qb111]
            first|(rw[ha];rfl)|exact⟨by rw[ha];rfl,fun i hi=>⟨rfl,rfl⟩⟩) ?_
        clear hB hZ;rintro⟨k,Z⟩ ⟨hk3,hB,hZ⟩;simp only at hk3 hB hZ ⊢;(repeat refine Qc ?_);(refine Qa fun k hk=>?_;simp only[id,seval,Qb,Zc];refine hk _ ?_;clear hk k;try show Sat _ _ _ _ _);(repeat refine Qc ?_);refine Qe rfl (fun h=>?_) (fun h=>?_)
        · have h3:k<g.rs.length:=by simp only[decide_eq_true_eq] at h;omega
          have e3:IntKind.i64.wrap ((k:Int)+1)=((k+1:Nat):Int):=by rw[w64 (by omega)];omega
          obtain⟨b,hb2⟩:∃ b,b=g.rs.toArray[k]! := ⟨_,rfl⟩;have hbk:g.rs[k]=b:=by rw[hb2,getB h3]
          have htk3:g.rs.take (k+1)=g.rs.take k ++ [b]:=by rw[List.take_succ_eq_append_getElem h3,hbk]
          refine Sat.skip ?_;simp only[Qf];(repeat refine Qc ?_);refine Sat.block ?_;(repeat refine Qc ?_);(refine Qa fun k hk=>?_;simp only[id,seval,Qb,Zc]);refine⟨by omega,fun b16=>?_⟩;(refine hk _ ?_;clear hk k;try show Sat _ _ _ _ _);refine Qs [.mq mb2 false [.u32,.u32] Z.length (Z1 Z) (Xx Z)] 16 rfl ?_
          refine Sat.le (st':=⟨127,[(16,.el ⟨b16,0,none⟩ 17 fun j=>(Res.cs b).getD j default),(75,.i .i64 k),(74,.i .i64 g.rs.length),(73,.sl g.a g.rs.length g.cap 17 (Qk g.rs.toArray)),(14,.el ⟨b14,0,none⟩ 17 fun j=>(Res.cs a).getD j default),(69,.i .i64 j),(68,.i .i64 g.rs.length),(67,.sl g.a g.rs.length g.cap 17 (Qk g.rs.toArray)),(12,.sl g.a g.rs.length g.cap 17 (Qk g.rs.toArray)),(63,.i .i64 i),(62,.i .i64 gs.length),(61,.sl ga gs.length gc 1 (fgS gs)),(5,.rm mb true [.u32] Y.length (sKey Y) (sValS Y)),(10,.mp 0 mb2)],[.mq mb2 false [.u32,.u32] Z.length (Z1 Z) (Xx Z)]⟩) ?_ (by
            simp only[List.length_cons,List.length_nil];simp only[id,seval,Qb,qb111]
            first|(rw[hb2];rfl)|exact⟨by rw[hb2];rfl,fun i hi=>⟨rfl,rfl⟩⟩)
          simp only[Res.cs];(repeat refine Qc ?_);(refine Qa fun k hk=>?_;simp only[id,seval,Qb,Zc]);refine Qd (folC F a b) rfl (by rintro _ rfl;exact Qh rfl) ?_;rintro _ rfl;simp only[id,seval,Qb,Zc];(refine hk _ ?_;clear hk k;try show Sat _ _ _ _ _);(repeat refine Qc ?_);refine Qe rfl (fun h4=>?_) (fun h4=>?_)
          · have hno:folR a b=false:=by simpa using h4
            refine Sat.exit ?_;simp only[Qf,Qg,reduceIte];refine Qa fun kk hk=>?_;simp only[id,seval,Qb,e3,Zc];refine hk _ ?_;simp only[Qf,Qg];refine⟨(k+1,Z),⟨by simp only;omega,hB.congr fun x=>?_,hZ⟩,by simp only;omega,?_⟩
            · simp only
              rw[htk3];refine or_congr Iff.rfl ⟨fun⟨b',h8,h9⟩=>⟨b',List.mem_append.2 (.inl h8),h9⟩,fun⟨b',h8,h9⟩=>?_⟩;rcases List.mem_append.1 h8 with h8|h8
              · exact⟨b',h8,h9⟩
              · rw[List.mem_singleton] at h8
                subst h8;rw[h9.1] at hno;cases hno
            · simp only[id,seval,Qb,qb111]
              first|done|exact fun i hi=>⟨rfl,rfl⟩|rfl|exact⟨rfl,rfl⟩
          have hfol:folR a b=true:=by simpa using h4
          refine Sat.skip ?_;simp only[Qf];(repeat refine Qc ?_);(refine Qa fun k hk=>?_;simp only[id,seval,Qb,Zc]);refine Q8 (matesC F b.from_) rfl rfl ?_;rintro ra2 ty2 len2 rc2 sz2 rrd2 ⟨ma,mc,e⟩;simp only[u32Row,Eng.Own.row.injEq] at e;obtain⟨rfl,rfl,rfl,rfl,rfl,rfl⟩:=e;simp only[id,seval,Qb,Zc];(refine hk _ ?_;clear hk k;try show Sat _ _ _ _ _);refine QQ [.mq mb2 false [.u32,.u32] Z.length (Z1 Z) (Xx Z)] 86 rfl ?_;have hml:(msV b.from_).length≤2:=by unfold msV;split<;>simp
          refine Sat.block ?_;refine Qo (ι:=Nat×List Evd) (fun z=>⟨127,[(88,.i .i64 z.1),(87,.i .i64 (msV b.from_).length),(86,.sl ra2 (msV b.from_).length rc2 1 (u32Rd (msV b.from_))),(16,.el ⟨b16,0,none⟩ 17 fun j=>(Res.cs b).getD j default),(75,.i .i64 k),(74,.i .i64 g.rs.length),(73,.sl g.a g.rs.length g.cap 17 (Qk g.rs.toArray)),(14,.el ⟨b14,0,none⟩ 17 fun j=>(Res.cs a).getD j default),(69,.i .i64 j),(68,.i .i64 g.rs.length),(67,.sl g.a g.rs.length g.cap 17 (Qk g.rs.toArray)),(12,.sl g.a g.rs.length g.cap 17 (Qk g.rs.toArray)),(63,.i .i64 i),(62,.i .i64 gs.length),(61,.sl ga gs.length gc 1 (fgS gs)),(5,.rm mb true [.u32] Y.length (sKey Y) (sValS Y)),(10,.mp 0 mb2)],[.mq mb2 false [.u32,.u32] z.2.length (Z1 z.2) (Xx z.2)]⟩)
            (fun z=>z.1≤(msV b.from_).length∧BestI Evd.pr evB (fun e=>((((∃ g∈gs.take i,∃ a∈g.rs,∃ b∈g.rs,mW (seenV Y) a b e)∨∃ a∈g.rs.take j,∃ b∈g.rs,mW (seenV Y) a b e)∨∃ b∈g.rs.take k,mW (seenV Y) a b e)∨∃ m∈(msV b.from_).take z.1,m≠a.from_∧∃ d∈seenV Y m,MatE a.idn b.idn d a.from_ m e)) z.2∧∀ e∈z.2,e.ids.length≤3) (fun z=>(msV b.from_).length - z.1) (0,Z)
            ⟨Nat.zero_le _,hB.congr fun x=>⟨.inl,fun h=>h.elim id fun⟨m,hm,_⟩=>(by cases hm)⟩,hZ⟩ (by simp only[Res.cs];simp only[id,seval,Qb,qb111];first|done|exact fun i hi=>⟨rfl,rfl⟩|rfl|exact⟨rfl,rfl⟩) ?_
          clear hB hZ;rintro⟨q,Z⟩ ⟨hq,hB,hZ⟩;simp only at hq hB hZ ⊢;(repeat refine Qc ?_);(refine Qa fun k hk=>?_;simp only[id,seval,Qb,Zc];refine hk _ ?_;clear hk k;try show Sat _ _ _ _ _);(repeat refine Qc ?_);refine Qe rfl (fun h=>?_) (fun h=>?_)
          · have h5:q<(msV b.from_).length:=by simp only[decide_eq_true_eq] at h;omega
            have e5:IntKind.i64.wrap ((q:Int)+1)=((q+1:Nat):Int):=by rw[w64 (by omega)];omega
            obtain⟨m,hm⟩:∃ m,m=(msV b.from_).getD q 0:=⟨_,rfl⟩;have hmq:(msV b.from_)[q]=m:=by rw[hm,List.getD_eq_getElem?_getD,List.getElem?_eq_getElem h5];rfl
            have htk4:(msV b.from_).take (q+1)=(msV b.from_).take q ++ [m]:=by rw[List.take_succ_eq_append_getElem h5,hmq]
            have q8:u32Rd (msV b.from_) q 0=.i .u32 m:=by rw[hm];rfl
            refine Sat.skip ?_;simp only[Qf];(repeat refine Qc ?_);refine Sat.block ?_;(repeat refine Qc ?_);(refine Qa fun k hk=>?_;simp only[id,seval,Qb,Zc]);simp only[q8];refine⟨by omega,?_⟩;(refine hk _ ?_;clear hk k;try show Sat _ _ _ _ _);simp only[Res.cs];(repeat refine Qc ?_);(refine Qa fun k hk=>?_;simp only[id,seval,Qb,Zc];refine hk _ ?_;clear hk k;try show Sat _ _ _ _ _);(repeat refine Qc ?_);refine Qe rfl (fun h6=>?_) (fun h6=>?_)
            · have hma:m≠a.from_:=by simpa using h6
              obtain⟨oa,oc,ids,hids,hlook1,hlook2⟩:∃ (oa:Option Addr) (oc:Nat) (ids:List Idn),ids=seenV Y m∧(∀ n,n<Y.length→sKey Y n=[m]→sValS Y n=.sl oa ids.length oc 3 (QX ids.toArray))∧((∀ n,n<Y.length→sKey Y n≠[m])→SV.sl none 0 0 3 (QX #[])=.sl oa ids.length oc 3 (QX ids.toArray)):=by
                by_cases hex:∃ n,n<Y.length∧sKey Y n=[m]
                · obtain⟨n,hn,hkn⟩:=hex
                  have hk2:(Y[n]).k=m:=by
                    unfold sKey at hkn;rw[List.getD_eq_getElem?_getD,List.getElem?_eq_getElem hn] at hkn
                    simpa using hkn
                  have hY:Y.getD n default=Y[n]:=by rw[List.getD_eq_getElem?_getD,List.getElem?_eq_getElem hn];rfl
                  refine⟨(Y[n]).a,(Y[n]).cap,(Y[n]).ids,by rw[← hk2,seenV_at hYn hn],fun n2 hn2 hkn2=>?_,fun hno=>absurd hkn (hno n hn)⟩;obtain rfl:=sKey_inj hYn hn2 hn (hkn2.trans hkn.symm);unfold sValS;rw[hY]
                · refine⟨none,0,[],(seenV_none fun i hi e=>hex ⟨i,hi,by unfold sKey;rw[List.getD_eq_getElem?_getD,List.getElem?_eq_getElem hi];simpa using e⟩).symm,fun n hn hkn=>absurd ⟨n,hn,hkn⟩ hex,fun _=>rfl⟩
              have hidl:ids.length≤512∧ids.Pairwise fun x y=>Za y x=false:=by
                rw[hids];by_cases hex:∃ n,∃ hn:n<Y.length,(Y[n]).k=m
                · obtain⟨n,hn,hk2⟩:=hex
                  rw[← hk2,seenV_at hYn hn];have h8:=hYlen n hn;have h9:=hall n hn;rw[List.getD_eq_getElem?_getD,List.getElem?_eq_getElem hn] at h8 h9;exact⟨h8,h9⟩
                · rw[seenV_none fun i hi e=>hex ⟨i,hi,e⟩]
                  exact⟨Nat.zero_le _,.nil⟩
              try simp only[Res.cs]
              (repeat refine Qc ?_);refine QT (ι:=List Evd) (fun Z2=>⟨127,[(88,.i .i64 q),(87,.i .i64 (msV b.from_).length),(86,.sl ra2 (msV b.from_).length rc2 1 (u32Rd (msV b.from_))),(16,.el ⟨b16,0,none⟩ 17 fun j=>(Res.cs b).getD j default),(75,.i .i64 k),(74,.i .i64 g.rs.length),(73,.sl g.a g.rs.length g.cap 17 (Qk g.rs.toArray)),(14,.el ⟨b14,0,none⟩ 17 fun j=>(Res.cs a).getD j default),(69,.i .i64 j),(68,.i .i64 g.rs.length),(67,.sl g.a g.rs.length g.cap 17 (Qk g.rs.toArray)),(12,.sl g.a g.rs.length g.cap 17 (Qk g.rs.toArray)),(63,.i .i64 i),(62,.i .i64 gs.length),(61,.sl ga gs.length gc 1 (fgS gs)),(5,.rm mb true [.u32] Y.length (sKey Y) (sValS Y)),(10,.mp 0 mb2)],[.mq mb2 false [.u32,.u32] Z2.length (Z1 Z2) (Xx Z2)]⟩)
                (fun Z2=>BestI Evd.pr evB (fun e=>((((∃ g∈gs.take i,∃ a∈g.rs,∃ b∈g.rs,mW (seenV Y) a b e)∨∃ a∈g.rs.take j,∃ b∈g.rs,mW (seenV Y) a b e)∨∃ b∈g.rs.take k,mW (seenV Y) a b e)∨∃ m∈(msV b.from_).take q,m≠a.from_∧∃ d∈seenV Y m,MatE a.idn b.idn d a.from_ m e)∨∃ d∈ids,MatE a.idn b.idn d a.from_ m e) Z2∧∀ e∈Z2,e.ids.length≤3) ?_ ?_
              · (refine Qp (.keep [0,5,6,8,9,10,1,3,7] [2,4,11] (.alt 2 (.alt 4 (.one 11 (.one 12 .done)) (.alt 11 (.one 4 (.one 12 .done)) .none)) (.alt 11 (.one 2 (.one 4 (.one 12 .done))) .none))) (by kernel_rfl) (by kernel_rfl) (fun _ _ h=>h) fun k hk=>?_;simp only[WOT,List.map_cons,List.map_nil,List.getD_cons_zero,List.getD_cons_succ];simp only[id,seval,Qb,WOT,Zc])
                repeat' (first
                  | (with_reducible refine And.intro ?_ ?_)
                  | rfl
                  | (refine Qd (identC F a) rfl (by rintro _ rfl;exact idAg_ok _) ?_;rintro _ rfl;simp only[Z7,id,seval,Int.reduceToNat,Qb,qb110])
                  | (refine Qd (identC F b) rfl (by rintro _ rfl;exact idAg_ok _) ?_;rintro _ rfl;simp only[Z7,id,seval,Int.reduceToNat,Qb,qb110])
                  | (refine lookMqU (l:=[m]) hT (mqIn_rm (m:=.tmp 106) rfl) rfl rfl (.sl none 0 0 3 (QX #[])) (by kernel_rfl) (fun R w=>⟨Nat.le_refl _,Nat.zero_le _,.inl rfl⟩) (show 108<127 by decide) (.sl oa ids.length oc 3 (QX ids.toArray)) hlook1 hlook2 ?_
                     simp only[id,seval,Qb,Zc])
                  | (refine Xl 0 (improveC F mb2 Z a.idn b.idn a.from_ m oa oc ids (by omega) hidl.2 hZ _ hB) rfl rfl ?_
                     rintro _ o1 ⟨rfl,Z2,hB2,hZ2,rfl⟩
                     simp only[id,seval,Qb,Zc]))
                all_goals
                  refine hk _ ?_;simp only[Qf];refine⟨Z2,⟨hB2,hZ2⟩,?_⟩;simp only[Res.cs];simp only[id,seval,Qb,qb111];first|done|exact fun i hi=>⟨rfl,rfl⟩|rfl|exact⟨rfl,rfl⟩
              rintro Z2 ⟨hB2,hZ2⟩;simp only[Qf,Qg];refine Qa fun kk hk=>?_;simp only[id,seval,Qb,e5,Zc];refine hk _ ?_;simp only[Qf,Qg];refine⟨(q+1,Z2),⟨by simp only;omega,hB2.congr fun x=>?_,hZ2⟩,by simp only;omega,?_⟩
              · simp only
                rw[htk4,or_assoc];refine or_congr Iff.rfl ⟨fun h=>?_,fun⟨m',h8,h9⟩=>?_⟩
                · rcases h with ⟨m',h8,h9⟩|⟨d,h8,h9⟩
                  · exact⟨m',List.mem_append.2 (.inl h8),h9⟩
                  · exact⟨m,List.mem_append.2 (.inr (List.mem_singleton.2 rfl)),hma,d,by rw[← hids];exact h8,h9⟩
                · rcases List.mem_append.1 h8 with h8|h8
                  · exact .inl ⟨m',h8,h9⟩
                  · rw[List.mem_singleton] at h8
                    subst h8;obtain⟨_,d,h7,h8⟩:=h9;exact .inr ⟨d,by rw[hids];exact h7,h8⟩
              · simp only[id,seval,Qb,qb111]
                first|done|exact fun i hi=>⟨rfl,rfl⟩|rfl|exact⟨rfl,rfl⟩
            · have hma:m=a.from_:=by simpa using h6
              refine Sat.skip ?_;simp only[Qf,Qg];refine Qa fun kk hk=>?_;simp only[id,seval,Qb,e5,Zc];refine hk _ ?_;simp only[Qf,Qg];refine⟨(q+1,Z),⟨by simp only;omega,hB.congr fun x=>?_,hZ⟩,by simp only;omega,?_⟩
              · simp only
                rw[htk4];refine or_congr Iff.rfl ⟨fun⟨m',h8,h9⟩=>⟨m',List.mem_append.2 (.inl h8),h9⟩,fun⟨m',h8,h9⟩=>?_⟩;rcases List.mem_append.1 h8 with h8|h8
                · exact⟨m',h8,h9⟩
                · rw[List.mem_singleton] at h8
                  rw[h8] at h9;exact absurd hma h9.1
              · simp only[Res.cs]
                simp only[id,seval,Qb,qb111];first|done|exact fun i hi=>⟨rfl,rfl⟩|rfl|exact⟨rfl,rfl⟩
          have h5:q=(msV b.from_).length:=by simp only[decide_eq_false_iff_not] at h;omega
          subst h5;refine Sat.exit ?_;simp only[Qf,Qg,reduceIte];refine Qa fun kk hk=>?_;simp only[id,seval,Qb,e3,Zc];refine hk _ ?_;simp only[Qf,Qg];refine⟨(k+1,Z),⟨by simp only;omega,hB.congr fun x=>?_,hZ⟩,by simp only;omega,?_⟩
          · simp only
            rw[htk3,List.take_length,or_assoc];refine or_congr Iff.rfl ⟨fun h=>?_,fun⟨b',h8,h9⟩=>?_⟩
            · rcases h with ⟨b',h8,h9⟩|h
              · exact⟨b',List.mem_append.2 (.inl h8),h9⟩
              · exact⟨b,List.mem_append.2 (.inr (List.mem_singleton.2 rfl)),hfol,h⟩
            · rcases List.mem_append.1 h8 with h8|h8
              · exact .inl ⟨b',h8,h9⟩
              · rw[List.mem_singleton] at h8
                subst h8;exact .inr h9.2
          · simp only[id,seval,Qb,qb111]
            first|done|exact fun i hi=>⟨rfl,rfl⟩|rfl|exact⟨rfl,rfl⟩
        have h3:k=g.rs.length:=by simp only[decide_eq_false_iff_not] at h;omega
        subst h3;refine Sat.exit ?_;simp only[Qf,Qg,reduceIte];refine Qa fun kk hk=>?_;simp only[id,seval,Qb,e2,Zc];refine hk _ ?_;simp only[Qf,Qg];refine⟨(j+1,Z),⟨by simp only;omega,hB.congr fun x=>?_,hZ⟩,by simp only;omega,?_⟩
        · simp only
          rw[htk2,List.take_length,or_assoc];refine or_congr Iff.rfl ⟨fun h=>?_,fun⟨a',h8,h9⟩=>?_⟩
          · rcases h with ⟨a',h8,h9⟩|h
            · exact⟨a',List.mem_append.2 (.inl h8),h9⟩
            · exact⟨a,List.mem_append.2 (.inr (List.mem_singleton.2 rfl)),h⟩
          · rcases List.mem_append.1 h8 with h8|h8
            · exact .inl ⟨a',h8,h9⟩
            · rw[List.mem_singleton] at h8
              subst h8;exact .inr h9
        · simp only[id,seval,Qb,qb111]
          first|done|exact fun i hi=>⟨rfl,rfl⟩|rfl|exact⟨rfl,rfl⟩
      have h2:j=g.rs.length:=by simp only[decide_eq_false_iff_not] at h;omega
      subst h2;refine Sat.exit ?_;simp only[Qf,Qg,reduceIte];refine Qa fun kk hk=>?_;simp only[id,seval,Qb,e1,Zc];refine hk _ ?_;simp only[Qf,Qg];refine⟨(i+1,Z),⟨by simp only;omega,hB.congr fun x=>?_,hZ⟩,by simp only;omega,?_⟩
      · simp only
        rw[htk,List.take_length];refine⟨fun h=>?_,fun⟨g',h8,h9⟩=>?_⟩
        · rcases h with ⟨g',h8,h9⟩|h
          · exact⟨g',List.mem_append.2 (.inl h8),h9⟩
          · exact⟨g,List.mem_append.2 (.inr (List.mem_singleton.2 rfl)),h⟩
        · rcases List.mem_append.1 h8 with h8|h8
          · exact .inl ⟨g',h8,h9⟩
          · rw[List.mem_singleton] at h8
            subst h8;exact .inr h9
      · simp only[id,seval,Qb,qb111]
        first|done|exact fun i hi=>⟨rfl,rfl⟩|rfl|exact⟨rfl,rfl⟩
    have h1:i=gs.length:=by simp only[decide_eq_false_iff_not] at h;omega
    subst h1;rw[List.take_length] at hB;refine Sat.exit ?_;simp only[Qf,Qg,reduceIte]
    have hB2:BestI Evd.pr evB (MatC xs) Z:=hB.congr fun e=>by
      rw[← flows_mat hfl hV]
      exact⟨fun⟨g,h8,a,h5,b,h6,h7,h9⟩=>⟨g.rs,List.mem_map.2 ⟨g,h8,rfl⟩,a,h5,b,h6,h7,h9⟩,fun⟨g,h8,a,h5,b,h6,h7,h9⟩=>by
        obtain⟨g',h4,rfl⟩:=List.mem_map.1 h8
        exact⟨g',h4,a,h5,b,h6,h7,h9⟩⟩
    have hZl:=matC_len hl hB2;clear hB;refine Sat.settleMap 10 rfl rfl ?_;simp only[List.set_cons_zero];(repeat refine Qc ?_);(refine Qa fun k hk=>?_;simp only[id,seval,Qb,Zc];refine hk _ ?_;clear hk k;try show Sat _ _ _ _ _);(repeat refine Qc ?_);refine Qa fun kk hk=>?_;simp only[id,seval,Qb,Zc];refine rangeMq hT2 (mqIn_rm rfl) (show 115<127 by decide) fun it2=>?_;simp only[id,seval,Qb,Zc];refine hk _ ?_;clear hk kk;simp only[Qf];refine Q1 19 32 4 (Xi []) rfl ?_;have hkz:∀ i,(parAg (Z.getD i default).pr).den=Xv false [.u32,.u32] (Z1 Z i):=fun i=>par_den _;refine Sat.block ?_;refine Qo (ι:=List Nat×Option Addr×Nat) (fun z=>⟨127,[(115,.v (.pointer (some ⟨it2,0,none⟩))),(19,.os 2 z.2.1 z.1.length z.2.2),(10,.rm mb2 false [.u32,.u32] Z.length (Z1 Z) (Xx Z))],[.gone,.res it2 (ZS it2 mb2 Z.length z.1),.row z.2.1 32 z.1.length z.2.2 4 (Xi (z.1.map fun i=>Z.getD i default))]⟩)
      (fun z=>z.1.Nodup∧∀ i∈z.1,i<Z.length) (fun z=>Z.length - z.1.length) ([],none,0) ⟨List.nodup_nil,fun i hi=>(by cases hi)⟩ (by
        simp only[List.map_nil,List.length_nil];simp only[id,seval,Qb,qb111]
        try exact own_le _) ?_
    clear hnd hsl hsln;rintro⟨seen,oa,oc⟩ ⟨hnd,hsl⟩;simp only at hnd hsl ⊢;have hsln:=seen_lenA hnd hsl;(repeat refine Qc ?_);refine Qa fun kk hk=>?_;simp only[id,seval,Qb,Zc];refine nextMq (oid:=1) rfl rfl rfl (mqIn_rm (m:=.tmp 10) rfl) (fun i=>parAg (Z.getD i default).pr) (fun i _=>hkz i) (fun i R w=>par_ok _ R w) (show 116<127 by decide) (fun i hi hs=>?_) (fun ha=>?_)
    · simp only[id,seval,Qb,Zc]
      refine hk _ ?_;clear hk kk
      have hnd2:(seen ++ [i]).Nodup:=by
        rw[List.nodup_append];exact⟨hnd,by simp,fun a ha b hb=>by rw[List.mem_singleton] at hb;subst hb;exact fun e=>hs (e ▸ ha)⟩
      have hsl2:∀ j∈seen ++ [i],j<Z.length:=fun j hj=>by
        rcases List.mem_append.1 hj with hj|hj
        · exact hsl j hj
        · rw[List.mem_singleton] at hj;subst hj;exact hi
      have hlen:=seen_lenA hnd2 hsl2;rw[List.length_append,List.length_singleton] at hlen;obtain⟨y,hy⟩:∃ y,y=Z.getD i default:=⟨_,rfl⟩;have hmap:(seen ++ [i]).map (fun i=>Z.getD i default)=seen.map (fun i=>Z.getD i default) ++ [y]:=by rw[List.map_append,hy];rfl
      simp only[Qf];(repeat refine Qc ?_);refine Sat.cond_tt rfl ?_;refine Sat.skip ?_;simp only[Qf];(repeat refine Qc ?_);refine Sat.block ?_;(repeat refine Qc ?_);refine Qa fun kk hk=>?_;simp only[id,seval,Qb,Zc];refine entryIterMq (oid:=1) (seen:=seen) rfl rfl hi (mqIn_rm (m:=.tmp 10) rfl) (fun i=>parAg (Z.getD i default).pr) (hkz i) (fun R w=>par_ok _ R w) (show 118<127 by decide) ?_;have hyv:Xx Z i=.agg 4 fun j=>(Evd.cs y).getD j default:=by rw[hy];rfl
      rw[hyv];simp only[parAg,Par.cs,Evd.cs,id,seval,Int.reduceToNat,Qb,qb110];intro b18;refine hk _ ?_;clear hk kk;simp only[Qf];refine Qs [.gone,.res it2 (ZS it2 mb2 Z.length (seen ++ [i])),.row oa 32 seen.length oc 4 (Xi (seen.map fun i=>Z.getD i default))] 21 rfl ?_;simp only[List.length_cons,List.length_nil,Nat.reduceAdd];refine Qa fun kk hk=>?_;simp only[id,seval,Qb,Zc];refine fun b0=>⟨⟨by unfold maxLen;omega,by omega⟩,fun a2 c2=>hk _ ?_⟩;clear hk kk;simp only[Qf,Qg];refine⟨(seen ++ [i],a2,c2),⟨hnd2,hsl2⟩,by simp only[List.length_append,List.length_singleton];omega,?_⟩;simp only[hmap,List.length_append,List.length_singleton];simp only[id,seval,Qb,qb111];have h9:=evd_app (ys:=seen.map fun i=>Z.getD i default) (x:=y) rfl;rw[List.length_map] at h9;first|exact h9|exact⟨own_le _,h9⟩
    · simp only[id,seval,Qb,Zc]
      refine hk _ ?_;clear hk kk;simp only[Qf];(repeat refine Qc ?_);refine Sat.cond_ff rfl ?_;refine Sat.exit ?_;simp only[Qf,Qg,reduceIte];obtain⟨L,hL⟩:∃ L,L=seen.map fun i=>Z.getD i default:=⟨_,rfl⟩;have hLp:L.Perm Z:=by rw[hL];exact seen_permA hnd hsl ha
      obtain⟨M,hM⟩:=evs_of (L:=L) fun e he=>by have:=hZ e (hLp.mem_iff.1 he);omega
      have hLl:seen.length=M.length:=by
        have h8:=congrArg List.length hM;rw[List.length_map] at h8;rw[h8,hL,List.length_map]
      have hMl:M.length≤262144:=by rw[← hLl];omega
      have hrd:Xi L=evsRd M.toArray:=by rw[evs_rd];simp only[];rw[hM]
      rw[← hL,hLl,hrd];(repeat refine Qc ?_);refine Qa fun kk hk=>?_;simp only[id,seval,Qb,Zc];refine Xl 2 (evsSortC F evsLt_swo evsCmp1 oa oc M.length (by omega) M.toArray (by simp)) rfl rfl ?_;rintro r o1 ⟨rfl,d',hd',⟨hperm,hsort⟩,rfl⟩;simp only[evsRow,id,seval,Int.reduceToNat,Qb,qb110];refine hk _ ?_;clear hk kk;simp only[Qf];obtain⟨hp2,hs2⟩:=evs_sorted hd' hperm hsort;have hes:MatOf xs (d'.toList.map Evs.e):=mat_sorted hB2 hZ (((hp2.map _).trans (by rw[hM])).trans hLp) hs2;have hdl:M.length=(d'.toList.map Evs.e).length:=by rw[List.length_map,Array.length_toList];exact hd'.symm
      rw[evs_rd d'];(repeat refine Qc ?_);(refine Qa fun k hk=>?_;simp only[id,seval,Qb,Zc];refine hk _ ?_;clear hk k;try show Sat _ _ _ _ _);refine Sat.ret ?_;simp only[Tryz.results14,id,seval,Int.reduceToNat,Qb,qb110];exact .inr ⟨hb,_,_,d'.toList.map Evs.e,hes,by omega,by rw[hdl]⟩
end
end Go.Proofs.YtfeiiadligkamaaGreat
