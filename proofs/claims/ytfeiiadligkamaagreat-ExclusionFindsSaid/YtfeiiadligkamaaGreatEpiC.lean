import Derived.Test.YtfeiiadligkamaaGreatWitE
import Derived.Test.YtfeiiadligkamaaGreatEpcE
set_option linter.unusedSimpArgs false
set_option linter.unusedVariables false
namespace Go.Proofs.YtfeiiadligkamaaGreat
open Eng
theorem Pre.pos {g:Nat→Res} {l:List (Nat×Nat)} {a:Nat} (h:Pre g l a) (hl:l≠[]):∃ l' b,Pre g l' b∧b<a∧Seg g b a∧Bad g b a∧l=l' ++ [(b,a)]:=by
 cases h with
 | nil=>exact absurd rfl hl
 | snoc h1 h2 h3 h4=>exact⟨_,_,h1,h2,h3,h4,rfl⟩
theorem Pre.det {g:Nat→Res} {l:List (Nat×Nat)} {a:Nat} (h:Pre g l a):∀ {l' a'},Pre g l' a'→l.length=l'.length→l=l'∧a=a':=by
 induction h with
 | nil=>
  intro l' a' h' e;cases h' with
  | nil=>exact⟨rfl,rfl⟩
  | snoc=>simp at e
 | @snoc l b k h1 h2 h3 h4 ih=>
  intro l' a' h' e;cases h' with
  | nil=>simp at e
  | @snoc m c _ g1 g2 g3 g4=>
   obtain⟨rfl,rfl⟩:=ih g1 (by simpa using e)
   have:k=a':=by
    rcases Nat.lt_trichotomy k a' with h5|h5|h5
    ·exact absurd h4 (g3 k (by omega) h5)
    ·exact h5
    ·exact absurd g4 (h3 a' (by omega) h5)
   subst this;exact⟨rfl,rfl⟩
theorem Pre.at {g:Nat→Res} {l:List (Nat×Nat)} {a:Nat} (h:Pre g l a):∀ p,p<l.length→∃ l' b k,Pre g l' b∧l'.length=p∧b<k∧k≤a∧Bad g b k:=by
 induction h with
 | nil=>intro p hp;simp at hp
 | @snoc l b k h1 h2 h3 h4 ih=>
  intro p hp;by_cases e:p<l.length
  ·obtain⟨l',b',k',g1,g2,g3,g4,g5⟩:=ih p e;exact⟨l',b',k',g1,g2,g3,by omega,g5⟩
  ·have:p=l.length:=by simp at hp;omega
   exact⟨l,b,k,h1,this.symm,h2,Nat.le_refl _,h4⟩
theorem Cuts.unique {g:Nat→Res} {n:Nat} {l l':List (Nat×Nat)} (h:Cuts g n l) (h':Cuts g n l'):l=l':=by
 have key:∀ {m m':List (Nat×Nat)} {a a':Nat},Pre g m a→Pre g m' a'→a<n→a'<n→Seg g a n→¬ m.length<m'.length:=by
  intro m m' a a' h1 h2 h3 h4 h5 hlt;obtain⟨m'',b,k,g1,g2,g3,g4,g5⟩:=h2.at _ hlt;obtain⟨_,rfl⟩:=h1.det g1 g2.symm;exact h5 k (by omega) (by omega) g5
 rcases h with ⟨h1,rfl⟩|⟨m,a,h1,h2,h3,rfl⟩<;>rcases h' with ⟨g1,rfl⟩|⟨m',a',g1,g2,g3,rfl⟩
 ·rfl
 ·omega
 ·omega
 ·have e:m.length=m'.length:=by
   have:=key h1 g1 h2 g2 h3;have:=key g1 h1 g2 h2 g3;omega
  obtain⟨rfl,rfl⟩:=h1.det g1 e;rfl
theorem Cuts.zero (g:Nat→Res):Cuts g 0 []:=.inl ⟨rfl,rfl⟩
theorem Cuts.len0 {g:Nat→Res} {n:Nat} {l:List (Nat×Nat)} (h:Cuts g n l):l.length=0 ↔ n=0:=by
 rcases h with ⟨h1,rfl⟩|⟨m,a,_,h2,_,rfl⟩
 ·simp [h1]
 ·simp;omega
theorem Cuts.bound {g:Nat→Res} {n:Nat} {l:List (Nat×Nat)} (h:Cuts g n l):l.length≤n:=by
 rcases h with ⟨h1,rfl⟩|⟨m,a,h1,h2,_,rfl⟩
 ·simp
 ·have:=h1.bound;simp;omega
theorem Cuts.last {g:Nat→Res} {n:Nat} {l:List (Nat×Nat)} (h:Cuts g n l) (hn:0<n):∃ m a,Pre g m a∧a<n∧Seg g a n∧l=m ++ [(a,n)]∧l.getD (l.length - 1) (0,0)=(a,n):=by
 rcases h with ⟨h1,rfl⟩|⟨m,a,h1,h2,h3,rfl⟩
 ·omega
 ·exact⟨m,a,h1,h2,h3,rfl,by simp [List.getD]⟩
theorem Cuts.more {g:Nat→Res} {n a:Nat} {m:List (Nat×Nat)} (h1:Pre g m a) (h2:a<n) (h3:Seg g a n) (hn:¬ Bad g a n):Cuts g (n+1) (m ++ [(a,n+1)]):=.inr ⟨m,a,h1,by omega,h3.snoc hn,rfl⟩
theorem Cuts.new {g:Nat→Res} {n a:Nat} {m:List (Nat×Nat)} (h1:Pre g m a) (h2:a<n) (h3:Seg g a n) (hn:Bad g a n):Cuts g (n+1) (m ++ [(a,n)] ++ [(n,n+1)]):=.inr ⟨_,n,h1.snoc h2 h3 hn,by omega,Seg.one g n,rfl⟩
theorem Cuts.one (g:Nat→Res):Cuts g 1 [(0,1)]:=.inr ⟨[],0,.nil,by omega,Seg.one g 0,rfl⟩
end Go.Proofs.YtfeiiadligkamaaGreat
