import Derived.Test.YtfeiiadligkamaaGreatResOrd
namespace Go.Proofs.YtfeiiadligkamaaGreat
open Eng
structure Tre where
 van:Int
 dst:Int
 pro:Int
 deriving DecidableEq
instance:Inhabited Tre:=⟨⟨0,0,0⟩⟩
def Tre.cs (s:Tre):List SV:=[.i .i64 s.van,.i .u32 s.dst,.i .i64 s.pro]
def Tre.keys (s:Tre):List Int:=[s.van,s.dst,s.pro]
def treCmpI (a b:Tre):Int:=cmpL a.keys b.keys
def treLt (a b:Tre):Bool:=decide (treCmpI a b<0)
theorem treKeys_inj {a b:Tre} (h:a.keys=b.keys):a=b:=by
 cases a;cases b
 simp only[Tre.keys,List.cons.injEq,and_true] at h;obtain⟨rfl,rfl,rfl⟩:=h;rfl
theorem treCmpI_zero {a b:Tre}:treCmpI a b=0 ↔ a=b:=⟨fun h=>treKeys_inj ((Xo a.keys b.keys rfl).1 h),fun h=>by subst h;exact Xp _⟩
theorem treLt_irrefl (x:Tre):treLt x x=false:=by unfold treLt treCmpI;rw[Xp];rfl
theorem treLt_trans (x y z:Tre) (h:treLt x y=true) (k:treLt y z=true):treLt x z=true:=by
 unfold treLt at *;simp only[decide_eq_true_eq] at *;exact ZO x.keys y.keys z.keys rfl rfl h k
theorem treLt_total (x y:Tre):treLt x y=true∨x=y∨treLt y x=true:=by
 unfold treLt;simp only[decide_eq_true_eq];have h1:treCmpI y x=- treCmpI x y:=cmpL_neg _ _;rcases cmpL_vals x.keys y.keys with h|h|h
 ·exact .inl (by unfold treCmpI;omega)
 ·exact .inr (.inl (treCmpI_zero.1 h))
 ·exact .inr (.inr (by rw[h1];unfold treCmpI;omega))
theorem treLt_swo:Go.Sort.SWO treLt:=by
 refine⟨treLt_irrefl,treLt_trans,fun x y z h k=>?_⟩;cases hz:treLt x z with
 | false=>rfl
 | true=>
  rcases treLt_total x y with h1|h1|h1
  ·rw[h1] at h;cases h
  ·subst h1;rw[k] at hz;cases hz
  ·rw[treLt_trans y x z h1 hz] at k;cases k
def QS:List Tre→List Tre
 | []=>[]
 | [x]=>[x]
 | x :: y :: l=>if x=y then QS (y :: l) else x :: QS (y :: l)
theorem compactT_mem:∀ (l:List Tre) (r:Tre),r∈QS l ↔ r∈l
 | [],r=>by simp [QS]
 | [x],r=>by simp [QS]
 | x :: y :: l,r=>by
  unfold QS;have ih:=compactT_mem (y :: l) r;split
  ·rename_i e;subst e;rw[ih];simp
  ·simp only[List.mem_cons] at ih ⊢;rw[ih]
theorem compactT_asc:∀ (l:List Tre),l.Pairwise (fun a b=>treLt b a=false)→(QS l).Pairwise fun a b=>treLt a b=true
 | [],_=>by simp [QS]
 | [x],_=>by simp [QS]
 | x :: y :: l,h=>by
  have h1:=List.pairwise_cons.1 h;have ih:=compactT_asc (y :: l) h1.2;unfold QS;split
  ·exact ih
  ·rename_i hne;refine List.pairwise_cons.2 ⟨fun b hb=>?_,ih⟩
   have hxy:treLt x y=true:=by
    rcases treLt_total x y with h|h|h
    ·exact h
    ·exact absurd h hne
    ·rw[h1.1 y (by simp)] at h;cases h
   have hb':=(compactT_mem (y :: l) b).1 hb;rcases List.mem_cons.1 hb' with e|hb'
   ·rw[e];exact hxy
   ·have hyb:=(List.pairwise_cons.1 h1.2).1 b hb';rcases treLt_total y b with h|h|h
    ·exact treLt_trans _ _ _ hxy h
    ·rw[← h];exact hxy
    ·rw[hyb] at h;cases h
theorem compactT_le:∀ l:List Tre,(QS l).length≤l.length
 | []=>Nat.le_refl _
 | [x]=>Nat.le_refl _
 | x :: y :: l=>by
  have ih:=compactT_le (y :: l);unfold QS;split
  ·simp only[List.length_cons] at ih ⊢;omega
  ·simp only[List.length_cons] at ih ⊢;omega
end Go.Proofs.YtfeiiadligkamaaGreat
