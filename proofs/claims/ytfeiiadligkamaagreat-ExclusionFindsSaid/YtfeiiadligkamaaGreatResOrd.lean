import Derived.Test.YtfeiiadligkamaaGreatResMath
import Derived.Sort.Statements
namespace Go.Proofs.YtfeiiadligkamaaGreat
open Go.Sort
def Zq (a b:Int):Int:=if a<b then -1 else if b<a then 1 else 0
def orL:List Int→Int
 | []=>0
 | x :: l=>if x≠0 then x else orL l
def cmpL (a b:List Int):Int:=orL (List.zipWith Zq a b)
def b2i (b:Bool):Int:=if b=true then 1 else 0
def Res.keys (r:Res):List Int:=[r.vantage,r.run,r.number,r.at_,r.dst,r.proto,r.flow,r.ttl,b2i r.answered,b2i r.doubled,r.back,r.from_,r.kind,r.code,r.left,r.id,r.quoted]
def resCompare (a b:Res):Int:=cmpL a.keys b.keys
def resLt (a b:Res):Bool:=decide (resCompare a b<0)
theorem ordI_neg (a b:Int):Zq b a=- Zq a b:=by unfold Zq;split<;>split<;>omega
theorem Zz {a b:Int}:Zq a b=0 ↔ a=b:=by unfold Zq;split<;>(try split)<;>omega
theorem ordI_lt {a b:Int}:Zq a b<0 ↔ a<b:=by unfold Zq;split<;>(try split)<;>omega
theorem ordI_vals (a b:Int):Zq a b=-1∨Zq a b=0∨Zq a b=1:=by unfold Zq;split<;>(try split)<;>simp
theorem Xq (x:Int) (a:List Int) (y:Int) (b:List Int):cmpL (x :: a) (y :: b)=if x=y then cmpL a b else Zq x y:=by
 unfold cmpL;simp only[List.zipWith_cons_cons,orL,ne_eq,ite_not,Zz]
theorem cmpL_neg:∀ (a b:List Int),cmpL b a=- cmpL a b
 | [],[]=>rfl
 | [],_ :: _=>rfl
 | _ :: _,[]=>rfl
 | x :: a,y :: b=>by
  rw[Xq,Xq,cmpL_neg a b,ordI_neg x y];by_cases h:x=y
  ·simp [h]
  ·simp [h,Ne.symm h]
theorem Xo:∀ (a b:List Int),a.length=b.length→(cmpL a b=0 ↔ a=b)
 | [],[],_=>by simp [cmpL,orL]
 | [],_ :: _,h=>by simp at h
 | _ :: _,[],h=>by simp at h
 | x :: a,y :: b,h=>by
  rw[Xq];by_cases e:x=y
  ·simp [e,Xo a b (by simpa using h)]
  ·simp [e,Zz]
theorem Xp (a:List Int):cmpL a a=0:=(Xo a a rfl).2 rfl
theorem cmpL_vals:∀ (a b:List Int),cmpL a b=-1∨cmpL a b=0∨cmpL a b=1
 | [],[]=>.inr (.inl rfl)
 | [],_ :: _=>.inr (.inl rfl)
 | _ :: _,[]=>.inr (.inl rfl)
 | x :: a,y :: b=>by
  rw[Xq];split
  ·exact cmpL_vals a b
  ·exact ordI_vals x y
theorem ZO:∀ (a b c:List Int),a.length=b.length→b.length=c.length→cmpL a b<0→cmpL b c<0→cmpL a c<0
 | [],b,c,_,_,h,_=>by
  have:cmpL [] b=0:=by cases b<;>rfl
  omega
 | x :: a,[],c,h,_,_,_=>by simp at h
 | x :: a,y :: b,[],_,h,_,_=>by simp at h
 | x :: a,y :: b,z :: c,h1,h2,h,k=>by
  rw[Xq] at *;by_cases e:x=y
  ·by_cases e2:y=z
   ·subst e;subst e2;simp only[if_true] at *;exact ZO a b c (by simpa using h1) (by simpa using h2) h k
   ·subst e;simp only[if_neg e2] at *;exact k
  ·by_cases e2:y=z
   ·subst e2;simp only[if_neg e] at *;exact h
   ·simp only[if_neg e,if_neg e2,ordI_lt] at h k;rw[if_neg (by omega),ordI_lt];omega
theorem b2i_inj {a b:Bool} (h:b2i a=b2i b):a=b:=by cases a<;>cases b<;>first|rfl|simp [b2i] at h
theorem keys_inj {a b:Res} (h:a.keys=b.keys):a=b:=by
 cases a;cases b
 simp only[Res.keys,List.cons.injEq,and_true] at h;obtain⟨h1,h2,h3,h4,h5,h6,h7,h8,h9,h10,h11,h12,h13,h14,h15,h16,h17⟩:=h;have:=b2i_inj h9;have:=b2i_inj h10
 simp_all
theorem resCompare_zero {a b:Res}:resCompare a b=0 ↔ a=b:=by
 unfold resCompare;rw[Xo a.keys b.keys rfl];exact⟨keys_inj,fun h=>by rw[h]⟩
theorem resLt_irrefl (x:Res):resLt x x=false:=by
 unfold resLt;rw[resCompare_zero.2 rfl];rfl
theorem resLt_trans (x y z:Res) (h:resLt x y=true) (k:resLt y z=true):resLt x z=true:=by
 unfold resLt at *;simp only[decide_eq_true_eq] at *;exact ZO x.keys y.keys z.keys rfl rfl h k
/-! ### A set of results in its order -/
structure Canon (c xs:List Res):Prop where
 asc:c.Pairwise fun a b=>resLt a b=true
 mem:∀ r,r∈c ↔ r∈xs
theorem asc_unique:∀ {c d:List Res},c.Pairwise (fun a b=>resLt a b=true)→d.Pairwise (fun a b=>resLt a b=true)→(∀ r,r∈c ↔ r∈d)→c=d
 | [],[],_,_,_=>rfl
 | [],y :: d,_,_,h=>by have:=(h y).2 (by simp);simp at this
 | x :: c,[],_,_,h=>by have:=(h x).1 (by simp);simp at this
 | x :: c,y :: d,hc,hd,h=>by
  have hx:=List.pairwise_cons.1 hc;have hy:=List.pairwise_cons.1 hd
  have e:x=y:=by
   have h1:=(h x).1 (by simp);have h2:=(h y).2 (by simp);rcases List.mem_cons.1 h1 with e|h1
   ·exact e
   ·rcases List.mem_cons.1 h2 with e|h2
    ·exact e.symm
    ·have g1:=hy.1 x h1;have g2:=hx.1 y h2;have:=resLt_trans _ _ _ g1 g2;rw[resLt_irrefl] at this;cases this
  subst e
  congr 1
  refine asc_unique hx.2 hy.2 fun r=>?_;have hr:=h r;simp only[List.mem_cons] at hr;constructor
  ·intro hm;rcases hr.1 (.inr hm) with e|h'
   ·subst e;have:=hx.1 r hm;rw[resLt_irrefl] at this;cases this
   ·exact h'
  ·intro hm;rcases hr.2 (.inr hm) with e|h'
   ·subst e;have:=hy.1 r hm;rw[resLt_irrefl] at this;cases this
   ·exact h'
theorem Canon.unique {c d xs ys:List Res} (h:Canon c xs) (k:Canon d ys) (hm:∀ r,r∈xs ↔ r∈ys):c=d:=
 asc_unique h.asc k.asc fun r=>(h.mem r).trans ((hm r).trans (k.mem r).symm)
def compact:List Res→List Res
 | []=>[]
 | [x]=>[x]
 | x :: y :: l=>if x=y then compact (y :: l) else x :: compact (y :: l)
theorem compact_mem:∀ (l:List Res) (r:Res),r∈compact l ↔ r∈l
 | [],r=>by simp [compact]
 | [x],r=>by simp [compact]
 | x :: y :: l,r=>by
  unfold compact;have ih:=compact_mem (y :: l) r;split
  ·rename_i e;subst e;rw[ih];simp
  ·rw[List.mem_cons,ih,List.mem_cons (l:=y :: l)]
/-! ### Groups of one identity -/
structure Cft where
 vantage:Int
 run:Int
 number:Int
 l:List Res
 deriving DecidableEq
structure Led where
 rs:List Res
 cs:List Cft
 deriving DecidableEq
def several:List Res→Option Cft
 | []=>none
 | [_]=>none
 | r :: s :: g=>some ⟨r.vantage,r.run,r.number,r :: s :: g⟩
def Led.all (l:Led):List Res:=l.rs ++ (l.cs.map (·.l)).flatten
def Led.size (l:Led):Nat:=l.all.length
end Go.Proofs.YtfeiiadligkamaaGreat
