import Derived.Test.YtfeiiadligkamaaGreatExB
import Derived.Test.YtfeiiadligkamaaGreatEpiC
set_option linter.unusedSimpArgs false
set_option linter.unusedVariables false
namespace Go.Proofs.YtfeiiadligkamaaGreat
open Eng
def cutL (zs:List Res) (c:Nat×Nat):List Res:=(zs.take c.2).drop c.1
def ofT (ys:List Res) (t:Tre):List Res:=ys.filter (isTre t)
def cutsOf (zs:List Res) (l:List (Nat×Nat)):Prop:=Cuts (fun i=>zs.toArray[i]!) zs.length l
def IsPartT (xs:List Res) (t:Tre) (p:List Res):Prop:=∃ ys l c,OrdOf xs ys∧cutsOf (ofT ys t) l∧c∈l∧p=cutL (ofT ys t) c
def IsPart (xs p:List Res):Prop:=∃ t,IsPartT xs t p
theorem IsPartT.iff {xs ys:List Res} {t:Tre} {l:List (Nat×Nat)} (ho:OrdOf xs ys) (hc:cutsOf (ofT ys t) l) {p:List Res}:IsPartT xs t p ↔ ∃ c∈l,p=cutL (ofT ys t) c:=by
 constructor
 ·rintro⟨ys',l',c,h1,h2,h3,h4⟩;obtain rfl:=ho.unique h1;obtain rfl:=Cuts.unique hc h2;exact⟨c,h3,h4⟩
 ·rintro⟨c,h3,h4⟩;exact⟨ys,l,c,ho,hc,h3,h4⟩
theorem cutsOf.bounds {zs:List Res} {l:List (Nat×Nat)} (h:cutsOf zs l) {c:Nat×Nat} (hc:c∈l):c.1<c.2∧c.2≤zs.length:=by
 obtain⟨i,hi,rfl⟩:=List.getElem_of_mem hc;obtain⟨h1,h2⟩:=Cuts.spec h;have:=h2 i hi;rw[List.getD_eq_getElem?_getD,List.getElem?_eq_getElem hi] at this;exact⟨this.2.1,this.2.2.1⟩
theorem IsPart.sub {xs p:List Res} (h:IsPart xs p):∀ r∈p,r∈xs∧QH r=true:=by
 obtain⟨t,ys,l,c,ho,_,_,rfl⟩:=h;intro r hr;have h1:r∈ofT ys t:=List.mem_of_mem_take (List.mem_of_mem_drop hr);exact (ho.2 r).1 (List.mem_filter.1 h1).1
theorem IsPartT.tre {xs p:List Res} {t:Tre} (h:IsPartT xs t p):∀ r∈p,r.tre=t:=by
 obtain⟨ys,l,c,ho,_,_,rfl⟩:=h;intro r hr;have h1:r∈ofT ys t:=List.mem_of_mem_take (List.mem_of_mem_drop hr);have:=(List.mem_filter.1 h1).2;unfold isTre at this;exact of_decide_eq_true this
theorem cut_get {zs:List Res} {c:Nat×Nat} (h:c.1≤c.2) (h2:c.2≤zs.length):(cutL zs c).length=c.2 - c.1∧∀ i,i<c.2 - c.1→(cutL zs c)[i]? = zs[c.1+i]? := by
 refine⟨by unfold cutL;rw[List.length_drop,List.length_take];omega,fun i hi=>?_⟩;unfold cutL;rw[List.getElem?_drop,List.getElem?_take_of_lt (by omega)]
structure FlowsI (xs:List Res) (D:List Res→Prop) (gs:List (List Res)):Prop where
 snd:∀ g∈gs,∃ p,IsPart xs p∧∃ fl,∀ r∈g,r∈p∧Xu r=true∧r.flow=fl
 cmp:∀ p,D p→∀ a∈p,∀ b∈p,Xu a=true→Xu b=true→a.flow=b.flow→∃ g∈gs,a∈g∧b∈g
structure FlowsJ (xs:List Res) (D:List Res→Prop) (p q:List Res) (f:List Int→Option Int) (gs:List (List Res)):Prop where
 i:FlowsI xs D gs
 idx:∀ fl k,f [fl]=some k→∃ n:Nat,k=n∧n<gs.length∧(∀ r∈gs.getD n [],r∈p∧Xu r=true∧r.flow=fl)∧∀ r∈q,Xu r=true→r.flow=fl→r∈gs.getD n []
 non:∀ fl,f [fl]=none→∀ r∈q,Xu r=true→r.flow≠fl
 inj:∀ fl fl' k,f [fl]=some k→f [fl']=some k→fl=fl'
theorem FlowsI.start {xs:List Res} {D:List Res→Prop} {gs:List (List Res)} (h:FlowsI xs D gs) (p:List Res):FlowsJ xs D p [] (fun _=>none) gs:=
 ⟨h,fun fl k e=>(by cases e),fun fl _ r hr=>(by cases hr),fun fl fl' k e=>(by cases e)⟩
theorem FlowsI.mono {xs:List Res} {D D':List Res→Prop} {gs:List (List Res)} (h:FlowsI xs D gs) (hd:∀ p,D' p→D p):FlowsI xs D' gs:=⟨h.snd,fun p hp=>h.cmp p (hd p hp)⟩
theorem FlowsJ.skip {xs:List Res} {D:List Res→Prop} {p q:List Res} {f:List Int→Option Int} {gs:List (List Res)} (h:FlowsJ xs D p q f gs) {r:Res} (hr:Xu r=false):FlowsJ xs D p (q ++ [r]) f gs:=by
 have key:∀ s∈q ++ [r],Xu s=true→s∈q:=fun s hs hw=>by
  rcases List.mem_append.1 hs with hs|hs
  ·exact hs
  ·rw[List.mem_singleton] at hs;subst hs;rw[hr] at hw;cases hw
 refine⟨h.i,fun fl k e=>?_,fun fl e s hs hw=>h.non fl e s (key s hs hw) hw,h.inj⟩;obtain⟨n,h1,h2,h3,h4⟩:=h.idx fl k e;exact⟨n,h1,h2,h3,fun s hs hw=>h4 s (key s hs hw) hw⟩
theorem ZU {α:Type} {l:List α} {i:Nat} (h:i<l.length) (x d:α):(l.set i x).getD i d=x:=by
 rw[List.getD_eq_getElem?_getD,List.getElem?_set_self h];rfl
theorem getD_set_ne {α:Type} {l:List α} {i j:Nat} (h:i≠j) (x d:α):(l.set i x).getD j d=l.getD j d:=by
 rw[List.getD_eq_getElem?_getD,List.getElem?_set_ne h,List.getD_eq_getElem?_getD]
theorem FlowsJ.hit {xs:List Res} {D:List Res→Prop} {p q:List Res} {f:List Int→Option Int} {gs:List (List Res)} (hpt:IsPart xs p) (h:FlowsJ xs D p q f gs) {r:Res} (hrp:r∈p) (hr:Xu r=true) {n:Nat} (hf:f [r.flow]=some (n:Int)) :
  n<gs.length∧FlowsJ xs D p (q ++ [r]) f (gs.set n (gs.getD n [] ++ [r])):=by
 obtain⟨n',hn',hlt,h3,h4⟩:=h.idx _ _ hf;obtain rfl:n=n':=by omega
 have hgrow:∀ g∈gs,∃ g'∈gs.set n (gs.getD n [] ++ [r]),∀ s∈g,s∈g':=fun g hg=>by
  obtain⟨i,hi,rfl⟩:=List.getElem_of_mem hg;by_cases e:i=n
  ·subst e;refine⟨gs.getD i [] ++ [r],List.mem_of_getElem? (i:=i) (List.getElem?_set_self hlt),fun s hs=>List.mem_append.2 (.inl ?_)⟩;rw[List.getD_eq_getElem?_getD,List.getElem?_eq_getElem hi];exact hs
  ·exact⟨gs[i],List.mem_of_getElem? (i:=i) (by rw[List.getElem?_set_ne (Ne.symm e),List.getElem?_eq_getElem hi]),fun s hs=>hs⟩
 refine⟨hlt,⟨fun g hg=>?_,fun p' hp' a ha b hb wa wb e=>?_⟩,fun fl k e=>?_,fun fl e s hs hw=>?_,h.inj⟩
 ·rcases List.mem_or_eq_of_mem_set hg with hg|rfl
  ·exact h.i.snd g hg
  ·refine⟨p,hpt,r.flow,fun s hs=>?_⟩;rcases List.mem_append.1 hs with hs|hs
   ·exact h3 s hs
   ·rw[List.mem_singleton] at hs;subst hs;exact⟨hrp,hr,rfl⟩
 ·obtain⟨g,hg,h5,h6⟩:=h.i.cmp p' hp' a ha b hb wa wb e;obtain⟨g',hg',h7⟩:=hgrow g hg;exact⟨g',hg',h7 a h5,h7 b h6⟩
 ·obtain⟨m,hm,hml,h5,h6⟩:=h.idx fl k e;refine⟨m,hm,by rw[List.length_set];exact hml,?_⟩;by_cases e2:m=n
  ·subst e2;rw[ZU hlt];by_cases e3:fl=r.flow
   ·subst e3;refine⟨fun s hs=>?_,fun s hs hw hfl=>?_⟩
    ·rcases List.mem_append.1 hs with hs|hs
     ·exact h5 s hs
     ·rw[List.mem_singleton] at hs;subst hs;exact⟨hrp,hr,rfl⟩
    ·rcases List.mem_append.1 hs with hs|hs
     ·exact List.mem_append.2 (.inl (h6 s hs hw hfl))
     ·exact List.mem_append.2 (.inr hs)
   ·exact absurd (h.inj _ _ _ e (by rw[hf,hm])) e3
  ·rw[getD_set_ne (Ne.symm e2)];refine⟨h5,fun s hs hw hfl=>?_⟩;rcases List.mem_append.1 hs with hs|hs
   ·exact h6 s hs hw hfl
   ·rw[List.mem_singleton] at hs;subst hs;rw[← hfl,hf] at e
    have:(n:Int)=k:=by simpa using e
    omega
 ·rcases List.mem_append.1 hs with hs|hs
  ·exact h.non fl e s hs hw
  ·rw[List.mem_singleton] at hs;subst hs;intro e2;rw[← e2,hf] at e;cases e
theorem FlowsJ.miss {xs:List Res} {D:List Res→Prop} {p q:List Res} {f:List Int→Option Int} {gs:List (List Res)} (hpt:IsPart xs p) (h:FlowsJ xs D p q f gs) {r:Res} (hrp:r∈p) (hr:Xu r=true) (hf:f [r.flow]=none) :
  FlowsJ xs D p (q ++ [r]) (fPut f [r.flow] (gs.length:Int)) (gs ++ [[r]]):=by
 have hold:∀ n,n<gs.length→(gs ++ [[r]]).getD n []=gs.getD n []:=fun n hn=>by
  rw[List.getD_eq_getElem?_getD,List.getElem?_append_left hn,List.getD_eq_getElem?_getD]
 have hput:∀ fl,fPut f [r.flow] (gs.length:Int) [fl]=if fl=r.flow then some (gs.length:Int) else f [fl]:=fun fl=>by
  unfold fPut;by_cases e:fl=r.flow
  ·subst e;simp
  ·simp [e]
 refine⟨⟨fun g hg=>?_,fun p' hp' a ha b hb wa wb e=>?_⟩,fun fl k e=>?_,fun fl e s hs hw=>?_,fun fl fl' k e e'=>?_⟩
 ·rcases List.mem_append.1 hg with hg|hg
  ·exact h.i.snd g hg
  ·rw[List.mem_singleton] at hg;subst hg;refine⟨p,hpt,r.flow,fun s hs=>?_⟩;rw[List.mem_singleton] at hs;subst hs;exact⟨hrp,hr,rfl⟩
 ·obtain⟨g,hg,h5⟩:=h.i.cmp p' hp' a ha b hb wa wb e;exact⟨g,List.mem_append.2 (.inl hg),h5⟩
 ·rw[hput] at e;by_cases e2:fl=r.flow
  ·subst e2;rw[if_pos rfl] at e;refine⟨gs.length,by simpa using e.symm,by simp,?_⟩;have hn:(gs ++ [[r]]).getD gs.length []=[r]:=by rw[List.getD_eq_getElem?_getD,List.getElem?_concat_length];rfl
   rw[hn];refine⟨fun s hs=>?_,fun s hs hw hfl=>?_⟩
   ·rw[List.mem_singleton] at hs;subst hs;exact⟨hrp,hr,rfl⟩
   ·rcases List.mem_append.1 hs with hs|hs
    ·exact absurd hfl (h.non _ hf s hs hw)
    ·exact hs
  ·rw[if_neg e2] at e;obtain⟨n,h1,h2,h3,h4⟩:=h.idx fl k e;refine⟨n,h1,by rw[List.length_append];omega,?_⟩;rw[hold n h2];refine⟨h3,fun s hs hw hfl=>?_⟩;rcases List.mem_append.1 hs with hs|hs
   ·exact h4 s hs hw hfl
   ·rw[List.mem_singleton] at hs;subst hs;exact absurd hfl.symm e2
 ·rw[hput] at e;by_cases e2:fl=r.flow
  ·rw[if_pos e2] at e;cases e
  ·rw[if_neg e2] at e;rcases List.mem_append.1 hs with hs|hs
   ·exact h.non fl e s hs hw
   ·rw[List.mem_singleton] at hs;subst hs;exact fun e9=>e2 e9.symm
 ·rw[hput] at e e';by_cases e2:fl=r.flow<;>by_cases e3:fl'=r.flow
  ·rw[e2,e3]
  ·rw[if_pos e2] at e;rw[if_neg e3] at e';obtain⟨n,h1,h2,_⟩:=h.idx fl' k e'
   have:(gs.length:Int)=k:=by simpa using e
   omega
  ·rw[if_neg e2] at e;rw[if_pos e3] at e';obtain⟨n,h1,h2,_⟩:=h.idx fl k e
   have:(gs.length:Int)=k:=by simpa using e'
   omega
  ·rw[if_neg e2] at e;rw[if_neg e3] at e';exact h.inj _ _ _ e e'
theorem FlowsJ.done {xs:List Res} {D:List Res→Prop} {p:List Res} {f:List Int→Option Int} {gs:List (List Res)} (h:FlowsJ xs D p p f gs):FlowsI xs (fun p'=>D p'∨p'=p) gs:=by
 refine⟨h.i.snd,fun p' hp' a ha b hb wa wb e=>?_⟩;rcases hp' with hp'|rfl
 ·exact h.i.cmp p' hp' a ha b hb wa wb e
 ·cases hf:f [a.flow] with
  | none=>exact absurd rfl (h.non _ hf a ha wa)
  | some k=>
   obtain⟨n,_,h2,_,h4⟩:=h.idx _ _ hf;refine⟨gs.getD n [],?_,h4 a ha wa rfl,h4 b hb wb e.symm⟩;rw[List.getD_eq_getElem?_getD,List.getElem?_eq_getElem h2];exact List.getElem_mem h2
def FlowsOf (xs:List Res) (gs:List (List Res)):Prop:=FlowsI xs (IsPart xs) gs
theorem FlowsOf.of {xs:List Res} {gs:List (List Res)} {ts:List Tre} (ht:TracesOf xs ts) (h:FlowsI xs (fun p=>∃ t∈ts,IsPartT xs t p) gs):FlowsOf xs gs:=by
 refine⟨h.snd,fun p hp a ha=>?_⟩;obtain⟨t,hpt⟩:=hp;refine h.cmp p ⟨t,(ht.2 t).2 ⟨a,?_⟩,hpt⟩ a ha;obtain⟨h1,h2⟩:=IsPart.sub ⟨t,hpt⟩ a ha;exact⟨h1,h2,hpt.tre a ha⟩
end Go.Proofs.YtfeiiadligkamaaGreat
