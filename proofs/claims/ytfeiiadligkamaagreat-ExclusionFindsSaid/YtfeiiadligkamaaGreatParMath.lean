import Derived.Test.YtfeiiadligkamaaGreatResOrd
namespace Go.Proofs.YtfeiiadligkamaaGreat
open Eng
structure Par where
 a:Int
 b:Int
 deriving DecidableEq
instance:Inhabited Par:=⟨⟨0,0⟩⟩
def Par.cs (s:Par):List SV:=[.i .u32 s.a,.i .u32 s.b]
def Par.keys (s:Par):List Int:=[s.a,s.b]
def parCmpI (a b:Par):Int:=cmpL a.keys b.keys
def ZK (a b:Par):Bool:=decide (parCmpI a b<0)
theorem parKeys_inj {a b:Par} (h:a.keys=b.keys):a=b:=by
 cases a;cases b
 simp only[Par.keys,List.cons.injEq,and_true] at h;obtain⟨rfl,rfl⟩:=h;rfl
theorem parCmpI_zero {a b:Par}:parCmpI a b=0 ↔ a=b:=⟨fun h=>parKeys_inj ((Xo a.keys b.keys rfl).1 h),fun h=>by subst h;exact Xp _⟩
theorem Zp (x:Par):ZK x x=false:=by unfold ZK parCmpI;rw[Xp];rfl
theorem parLt_trans (x y z:Par) (h:ZK x y=true) (k:ZK y z=true):ZK x z=true:=by
 unfold ZK at *;simp only[decide_eq_true_eq] at *;exact ZO x.keys y.keys z.keys rfl rfl h k
theorem parLt_total (x y:Par):ZK x y=true∨x=y∨ZK y x=true:=by
 unfold ZK;simp only[decide_eq_true_eq];have h1:parCmpI y x=- parCmpI x y:=cmpL_neg _ _;rcases cmpL_vals x.keys y.keys with h|h|h
 ·exact .inl (by unfold parCmpI;omega)
 ·exact .inr (.inl (parCmpI_zero.1 h))
 ·exact .inr (.inr (by rw[h1];unfold parCmpI;omega))
end Go.Proofs.YtfeiiadligkamaaGreat
