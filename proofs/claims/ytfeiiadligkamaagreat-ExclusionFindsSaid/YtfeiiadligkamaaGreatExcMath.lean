import Derived.Test.YtfeiiadligkamaaGreatIdnMath
import Derived.Test.YtfeiiadligkamaaGreatParMath
namespace Go.Proofs.YtfeiiadligkamaaGreat
open Eng
structure Exc where
 a:Int
 b:Int
 f:Idn
 s:Idn
 deriving DecidableEq
instance:Inhabited Exc:=⟨⟨0,0,default,default⟩⟩
def Exc.cs (s:Exc):List SV:=[.i .u32 s.a,.i .u32 s.b,.i .i64 s.f.van,.i .i64 s.f.run,.i .i64 s.f.num,.i .i64 s.s.van,.i .i64 s.s.run,.i .i64 s.s.num]
def Exc.keys (s:Exc):List Int:=[s.a,s.b,s.f.van,s.f.run,s.f.num,s.s.van,s.s.run,s.s.num]
def XI (a b:Exc):Int:=cmpL a.keys b.keys
def excLt (a b:Exc):Bool:=decide (XI a b<0)
theorem excKeys_inj {a b:Exc} (h:a.keys=b.keys):a=b:=by
 obtain⟨a1,b1,⟨f1,f2,f3⟩,⟨s1,s2,s3⟩⟩:=a;obtain⟨a2,b2,⟨g1,g2,g3⟩,⟨r1,r2,r3⟩⟩:=b;simp only[Exc.keys,List.cons.injEq,and_true] at h;obtain⟨rfl,rfl,rfl,rfl,rfl,rfl,rfl,rfl⟩:=h;rfl
theorem excCmpI_zero {a b:Exc}:XI a b=0 ↔ a=b:=⟨fun h=>excKeys_inj ((Xo a.keys b.keys rfl).1 h),fun h=>by subst h;exact Xp _⟩
theorem excLt_irrefl (x:Exc):excLt x x=false:=by unfold excLt XI;rw[Xp];rfl
theorem excLt_trans (x y z:Exc) (h:excLt x y=true) (k:excLt y z=true):excLt x z=true:=by
 unfold excLt at *;simp only[decide_eq_true_eq] at *;exact ZO x.keys y.keys z.keys rfl rfl h k
theorem excLt_total (x y:Exc):excLt x y=true∨x=y∨excLt y x=true:=by
 unfold excLt;simp only[decide_eq_true_eq];have h1:XI y x=- XI x y:=cmpL_neg _ _;rcases cmpL_vals x.keys y.keys with h|h|h
 ·exact .inl (by unfold XI;omega)
 ·exact .inr (.inl (excCmpI_zero.1 h))
 ·exact .inr (.inr (by rw[h1];unfold XI;omega))
theorem excLt_swo:Go.Sort.SWO excLt:=by
 refine⟨excLt_irrefl,excLt_trans,fun x y z h k=>?_⟩;cases hz:excLt x z with
 | false=>rfl
 | true=>
  rcases excLt_total x y with h1|h1|h1
  ·rw[h1] at h;cases h
  ·subst h1;rw[k] at hz;cases hz
  ·rw[excLt_trans y x z h1 hz] at k;cases k
end Go.Proofs.YtfeiiadligkamaaGreat
