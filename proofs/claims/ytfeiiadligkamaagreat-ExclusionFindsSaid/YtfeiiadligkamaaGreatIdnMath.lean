import Derived.Test.YtfeiiadligkamaaGreatResOrd
namespace Go.Proofs.YtfeiiadligkamaaGreat
open Eng
structure Idn where
 van:Int
 run:Int
 num:Int
 deriving DecidableEq
instance:Inhabited Idn:=⟨⟨0,0,0⟩⟩
def Idn.cs (s:Idn):List SV:=[.i .i64 s.van,.i .i64 s.run,.i .i64 s.num]
def Idn.keys (s:Idn):List Int:=[s.van,s.run,s.num]
def QP (a b:Idn):Int:=cmpL a.keys b.keys
def Za (a b:Idn):Bool:=decide (QP a b<0)
theorem idnKeys_inj {a b:Idn} (h:a.keys=b.keys):a=b:=by
 cases a;cases b
 simp only[Idn.keys,List.cons.injEq,and_true] at h;obtain⟨rfl,rfl,rfl⟩:=h;rfl
theorem XD {a b:Idn}:QP a b=0 ↔ a=b:=⟨fun h=>idnKeys_inj ((Xo a.keys b.keys rfl).1 h),fun h=>by subst h;exact Xp _⟩
theorem idnLt_irrefl (x:Idn):Za x x=false:=by unfold Za QP;rw[Xp];rfl
theorem Xy (x y z:Idn) (h:Za x y=true) (k:Za y z=true):Za x z=true:=by
 unfold Za at *;simp only[decide_eq_true_eq] at *;exact ZO x.keys y.keys z.keys rfl rfl h k
theorem Xz (x y:Idn):Za x y=true∨x=y∨Za y x=true:=by
 unfold Za;simp only[decide_eq_true_eq];have h1:QP y x=- QP x y:=cmpL_neg _ _;rcases cmpL_vals x.keys y.keys with h|h|h
 ·exact .inl (by unfold QP;omega)
 ·exact .inr (.inl (XD.1 h))
 ·exact .inr (.inr (by rw[h1];unfold QP;omega))
theorem idnLt_swo:Go.Sort.SWO Za:=by
 refine⟨idnLt_irrefl,Xy,fun x y z h k=>?_⟩;cases hz:Za x z with
 | false=>rfl
 | true=>
  rcases Xz x y with h1|h1|h1
  ·rw[h1] at h;cases h
  ·subst h1;rw[k] at hz;cases hz
  ·rw[Xy y x z h1 hz] at k;cases k
def QF:List Idn→List Idn
 | []=>[]
 | [x]=>[x]
 | x :: y :: l=>if x=y then QF (y :: l) else x :: QF (y :: l)
theorem compactN_mem:∀ (l:List Idn) (r:Idn),r∈QF l ↔ r∈l
 | [],r=>by simp [QF]
 | [x],r=>by simp [QF]
 | x :: y :: l,r=>by
  unfold QF;have ih:=compactN_mem (y :: l) r;split
  ·rename_i e;subst e;rw[ih];simp
  ·simp only[List.mem_cons] at ih ⊢;rw[ih]
theorem compactN_asc:∀ (l:List Idn),l.Pairwise (fun a b=>Za b a=false)→(QF l).Pairwise fun a b=>Za a b=true
 | [],_=>by simp [QF]
 | [x],_=>by simp [QF]
 | x :: y :: l,h=>by
  have h1:=List.pairwise_cons.1 h;have ih:=compactN_asc (y :: l) h1.2;unfold QF;split
  ·exact ih
  ·rename_i hne;refine List.pairwise_cons.2 ⟨fun b hb=>?_,ih⟩
   have hxy:Za x y=true:=by
    rcases Xz x y with h|h|h
    ·exact h
    ·exact absurd h hne
    ·rw[h1.1 y (by simp)] at h;cases h
   have hb':=(compactN_mem (y :: l) b).1 hb;rcases List.mem_cons.1 hb' with e|hb'
   ·rw[e];exact hxy
   ·have hyb:=(List.pairwise_cons.1 h1.2).1 b hb';rcases Xz y b with h|h|h
    ·exact Xy _ _ _ hxy h
    ·rw[← h];exact hxy
    ·rw[hyb] at h;cases h
theorem compactN_le:∀ l:List Idn,(QF l).length≤l.length
 | []=>Nat.le_refl _
 | [x]=>Nat.le_refl _
 | x :: y :: l=>by
  have ih:=compactN_le (y :: l);unfold QF;split
  ·simp only[List.length_cons] at ih ⊢;omega
  ·simp only[List.length_cons] at ih ⊢;omega
end Go.Proofs.YtfeiiadligkamaaGreat
