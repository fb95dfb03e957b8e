import Derived.Test.YtfeiiadligkamaaGreatPthO
import Derived.Test.YtfeiiadligkamaaGreatJckE
namespace Go.Proofs.YtfeiiadligkamaaGreat
open Eng
def Res.spot (r:Res):List Int:=[r.vantage,r.dst,r.proto,r.flow,r.ttl]
def QH (r:Res):Bool:=(chk r == 0) && ((r.dst != 0) && (!r.answered || (r.from_ != 0)))
def Zx (r:Res):Bool:=!r.doubled && QH r
def Z4 (r:Res):Bool:=r.answered && Zx r
def ZH (a b:Res):Bool:=Z4 a && (Z4 b && (decide (a.spot=b.spot) && (a.from_ != b.from_)))
theorem contraR_iff {a b:Res}:ZH a b=true ↔ Z4 a=true∧Z4 b=true∧a.spot=b.spot∧a.from_≠b.from_:=by
 simp [ZH]
def Bad (g:Nat→Res) (from' k:Nat):Prop:=∃ i,from'≤i∧i<k∧ZH (g i) (g k)=true
def Seg (g:Nat→Res) (from' to:Nat):Prop:=∀ k,from'≤k→k<to→¬ Bad g from' k
theorem Bad.mono {g:Nat→Res} {a b k:Nat} (h:Bad g b k) (hab:a≤b):Bad g a k:=by
 obtain⟨i,h1,h2,h3⟩:=h;exact⟨i,Nat.le_trans hab h1,h2,h3⟩
theorem Seg.left {g:Nat→Res} {a b c:Nat} (h:Seg g a c) (hab:a≤b):Seg g b c:=fun k hk hc hb=>h k (by omega) hc (hb.mono hab)
theorem Seg.right {g:Nat→Res} {a b c:Nat} (h:Seg g a c) (hbc:b≤c):Seg g a b:=fun k hk hb=>h k hk (by omega)
theorem Seg.nil (g:Nat→Res) (a:Nat):Seg g a a:=fun k h1 h2=>by omega
theorem Seg.one (g:Nat→Res) (a:Nat):Seg g a (a+1):=fun k h1 h2 ⟨i,h3,h4,_⟩=>by omega
theorem Seg.snoc {g:Nat→Res} {a b:Nat} (h:Seg g a b) (hn:¬ Bad g a b):Seg g a (b+1):=fun k h1 h2=>by
 by_cases e:k=b
 ·subst e;exact hn
 ·exact h k h1 (by omega)
theorem Seg.pairs {g:Nat→Res} {a b:Nat}:Seg g a b ↔ ∀ i k,a≤i→i<k→k<b→ZH (g i) (g k)=false:=by
 constructor
 ·intro h i k h1 h2 h3;cases hc:ZH (g i) (g k) with
  | false=>rfl
  | true=>exact absurd ⟨i,h1,h2,hc⟩ (h k (by omega) h3)
 ·rintro h k h1 h2 ⟨i,h3,h4,h5⟩;rw[h i k h3 h4 h2] at h5;cases h5
/-! ### What a map has seen -/
def SeenI (g:Nat→Res) (from' i:Nat) (f:List Int→Option Int):Prop:=
 (∀ j,from'≤j→j<i→Z4 (g j)=true→f (g j).spot=some (g j).from_)∧(∀ s a,f s=some a→∃ j,from'≤j∧j<i∧Z4 (g j)=true∧(g j).spot=s∧(g j).from_=a)
theorem SeenI.empty (g:Nat→Res) (from':Nat):SeenI g from' from' (fun _=>none):=⟨fun j h1 h2=>by omega,fun s a h=>by cases h⟩
theorem SeenI.skip {g:Nat→Res} {from' i:Nat} {f:List Int→Option Int} (h:SeenI g from' i f) (hp:Z4 (g i)=false):SeenI g from' (i+1) f∧¬ Bad g from' i:=by
 refine⟨⟨fun j h1 h2 h3=>?_,fun s a hs=>?_⟩,?_⟩
 ·by_cases e:j=i
  ·subst e;rw[hp] at h3;cases h3
  ·exact h.1 j h1 (by omega) h3
 ·obtain⟨j,h1,h2,h3⟩:=h.2 s a hs;exact⟨j,h1,by omega,h3⟩
 ·rintro⟨j,_,_,hc⟩;rw[contraR_iff] at hc;rw[hp] at hc;exact absurd hc.2.1 (by simp)
theorem SeenI.clash {g:Nat→Res} {from' i:Nat} {f:List Int→Option Int} (h:SeenI g from' i f) (hp:Z4 (g i)=true) {a:Int} (hf:f (g i).spot=some a) (hne:a≠(g i).from_):Bad g from' i:=by
 obtain⟨j,h1,h2,h3,h4,h5⟩:=h.2 _ _ hf;exact⟨j,h1,h2,contraR_iff.2 ⟨h3,hp,h4,by rw[h5];exact hne⟩⟩
theorem SeenI.put {g:Nat→Res} {from' i:Nat} {f:List Int→Option Int} (h:SeenI g from' i f) (hi:from'≤i) (hp:Z4 (g i)=true) (hf:∀ a,f (g i).spot=some a→a=(g i).from_):SeenI g from' (i+1) (fPut f (g i).spot (g i).from_)∧¬ Bad g from' i:=by
 have hnb:¬ Bad g from' i:=by
  rintro⟨j,h1,h2,hc⟩;obtain⟨c1,c2,c3,c4⟩:=contraR_iff.1 hc;have:=h.1 j h1 h2 c1;rw[c3] at this;exact c4 (hf _ this)
 refine⟨⟨fun j h1 h2 h3=>?_,fun s a hs=>?_⟩,hnb⟩
 ·unfold fPut;by_cases e:(g j).spot=(g i).spot
  ·rw[if_pos e];by_cases ej:j=i
   ·rw[ej]
   ·have:=h.1 j h1 (by omega) h3;rw[e] at this;rw[hf _ this]
  ·rw[if_neg e];refine h.1 j h1 ?_ h3
   have:j≠i:=fun e'=>e (by rw[e'])
   omega
 ·unfold fPut at hs;split at hs
  ·rename_i e;simp only[Option.some.injEq] at hs;exact⟨i,hi,by omega,hp,e.symm,hs⟩
  ·obtain⟨j,h1,h2,h3⟩:=h.2 s a hs;exact⟨j,h1,by omega,h3⟩
/-! ### Cuts -/
inductive Pre (g:Nat→Res):List (Nat×Nat)→Nat→Prop
 | nil:Pre g [] 0
 | snoc {l:List (Nat×Nat)} {a k:Nat}:Pre g l a→a<k→Seg g a k→Bad g a k→Pre g (l ++ [(a,k)]) k
def Cuts (g:Nat→Res) (n:Nat) (l:List (Nat×Nat)):Prop:=(n=0∧l=[])∨∃ l' a,Pre g l' a∧a<n∧Seg g a n∧l=l' ++ [(a,n)]
def Ahead (g:Nat→Res) (at' parts:Nat):Prop:=∀ l a,Pre g l a→l.length=parts→at'≤a
theorem Ahead.zero (g:Nat→Res):Ahead g 0 0:=fun _ _ _ _=>Nat.zero_le _
theorem Pre.cut {g:Nat→Res} {l:List (Nat×Nat)} {a:Nat} (h:Pre g l a):∀ p,p≤l.length→∃ l' a',Pre g l' a'∧l'.length=p∧a'≤a:=by
 induction h with
 | nil=>intro p hp;exact⟨[],0,.nil,by simp at hp;simp [hp],Nat.le_refl _⟩
 | snoc h hak hseg hbad ih=>
  rename_i l' a' k;intro p hp;by_cases e:p=(l' ++ [(a',k)]).length
  ·exact⟨_,_,.snoc h hak hseg hbad,e.symm,Nat.le_refl _⟩
  ·obtain⟨l2,a2,h1,h2,h3⟩:=ih p (by simp at hp e;omega);exact⟨l2,a2,h1,h2,by omega⟩
def endOf (l:List (Nat×Nat)) (i:Nat):Nat:=if i=0 then 0 else (l.getD (i - 1) (0,0)).2
theorem Pre.spec {g:Nat→Res} {l:List (Nat×Nat)} {a:Nat} (h:Pre g l a):endOf l l.length=a∧∀ i,i<l.length→(l.getD i (0,0)).1=endOf l i∧(l.getD i (0,0)).1<(l.getD i (0,0)).2∧(l.getD i (0,0)).2≤a∧Seg g (l.getD i (0,0)).1 (l.getD i (0,0)).2∧Bad g (l.getD i (0,0)).1 (l.getD i (0,0)).2:=by
 induction h with
 | nil=>exact⟨rfl,fun i hi=>absurd hi (Nat.not_lt_zero _)⟩
 | snoc h hak hseg hbad ih=>
  rename_i l' a' k;obtain⟨h1,h2⟩:=ih;refine⟨by simp [endOf],fun i hi=>?_⟩;have hget:∀ i,i<l'.length→(l' ++ [(a',k)]).getD i (0,0)=l'.getD i (0,0):=fun i hi=>by simp [List.getD,List.getElem?_append,hi]
  have hend:∀ i,i≤l'.length→endOf (l' ++ [(a',k)]) i=endOf l' i:=fun i hi=>by
   unfold endOf;split
   ·rfl
   ·rw[hget _ (by omega)]
  by_cases e:i<l'.length
  ·rw[hget i e,hend i (by omega)];obtain⟨g1,g2,g3,g4,g5⟩:=h2 i e;exact⟨g1,g2,by omega,g4,g5⟩
  ·obtain rfl:i=l'.length:=by simp at hi;omega
   have:(l' ++ [(a',k)]).getD l'.length (0,0)=(a',k):=by simp [List.getD]
   rw[this,hend _ (Nat.le_refl _),h1];exact⟨rfl,hak,Nat.le_refl _,hseg,hbad⟩
theorem Cuts.spec {g:Nat→Res} {n:Nat} {l:List (Nat×Nat)} (h:Cuts g n l):endOf l l.length=n∧∀ i,i<l.length→(l.getD i (0,0)).1=endOf l i∧(l.getD i (0,0)).1<(l.getD i (0,0)).2∧(l.getD i (0,0)).2≤n∧Seg g (l.getD i (0,0)).1 (l.getD i (0,0)).2 ∧
  (i+1<l.length→Bad g (l.getD i (0,0)).1 (l.getD i (0,0)).2):=by
 rcases h with ⟨rfl,rfl⟩|⟨l',a,hp,han,hs,rfl⟩
 ·exact⟨rfl,fun i hi=>absurd hi (Nat.not_lt_zero _)⟩
 ·obtain⟨h1,h2⟩:=hp.spec;refine⟨by simp [endOf],fun i hi=>?_⟩;have hget:∀ i,i<l'.length→(l' ++ [(a,n)]).getD i (0,0)=l'.getD i (0,0):=fun i hi=>by simp [List.getD,List.getElem?_append,hi]
  have hend:∀ i,i≤l'.length→endOf (l' ++ [(a,n)]) i=endOf l' i:=fun i hi=>by
   unfold endOf;split
   ·rfl
   ·rw[hget _ (by omega)]
  by_cases e:i<l'.length
  ·rw[hget i e,hend i (by omega)];obtain⟨g1,g2,g3,g4,g5⟩:=h2 i e;exact⟨g1,g2,by omega,g4,fun _=>g5⟩
  ·obtain rfl:i=l'.length:=by simp at hi;omega
   have:(l' ++ [(a,n)]).getD l'.length (0,0)=(a,n):=by simp [List.getD]
   rw[this,hend _ (Nat.le_refl _),h1];exact⟨rfl,han,Nat.le_refl _,hs,fun h=>by simp at h⟩
theorem Pre.bound {g:Nat→Res} {l:List (Nat×Nat)} {a:Nat} (h:Pre g l a):l.length≤a:=by
 induction h with
 | nil=>exact Nat.le_refl _
 | snoc h hak hseg hbad ih=>simp;omega
theorem Bad.shift {g:Nat→Res} {a k:Nat}:Bad (fun j=>g (a+j)) 0 k ↔ Bad g a (a+k):=by
 constructor
 ·rintro⟨i,_,h2,h3⟩;exact⟨a+i,by omega,by omega,h3⟩
 ·rintro⟨i,h1,h2,h3⟩;obtain⟨j,rfl⟩:∃ j,i=a+j:=⟨i - a,by omega⟩;exact⟨j,by omega,by omega,h3⟩
theorem Seg.shift {g:Nat→Res} {a k:Nat}:Seg (fun j=>g (a+j)) 0 k ↔ Seg g a (a+k):=by
 constructor
 ·intro h j h1 h2 hb;obtain⟨i,rfl⟩:∃ i,j=a+i:=⟨j - a,by omega⟩;exact h i (by omega) (by omega) (Bad.shift.2 hb)
 ·intro h j h1 h2 hb;exact h (a+j) (by omega) (by omega) (Bad.shift.1 hb)
end Go.Proofs.YtfeiiadligkamaaGreat
