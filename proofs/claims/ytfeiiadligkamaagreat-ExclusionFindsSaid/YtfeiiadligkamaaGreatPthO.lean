import Derived.Test.YtfeiiadligkamaaGreatResOrd
namespace Go.Proofs.YtfeiiadligkamaaGreat
open Go.Sort
def Res.pkeys (r:Res):List Int:=[r.at_,r.vantage,r.run,r.number,r.dst,r.proto,r.flow,r.ttl,b2i r.answered,b2i r.doubled,r.back,r.from_,r.kind,r.code,r.left,r.id,r.quoted]
def ZY (a b:Res):Int:=cmpL a.pkeys b.pkeys
def Xb (a b:Res):Bool:=decide (ZY a b<0)
theorem pkeys_inj {a b:Res} (h:a.pkeys=b.pkeys):a=b:=by
 cases a;cases b
 simp only[Res.pkeys,List.cons.injEq,and_true] at h;obtain⟨h1,h2,h3,h4,h5,h6,h7,h8,h9,h10,h11,h12,h13,h14,h15,h16,h17⟩:=h;have:=b2i_inj h9;have:=b2i_inj h10
 simp_all
theorem pthCompare_zero {a b:Res}:ZY a b=0 ↔ a=b:=by
 unfold ZY;rw[Xo a.pkeys b.pkeys rfl];exact⟨pkeys_inj,fun h=>by rw[h]⟩
theorem pthCompare_neg (a b:Res):ZY b a=- ZY a b:=cmpL_neg _ _
theorem pthLt_irrefl (x:Res):Xb x x=false:=by
 unfold Xb;rw[pthCompare_zero.2 rfl];rfl
theorem pthLt_trans (x y z:Res) (h:Xb x y=true) (k:Xb y z=true):Xb x z=true:=by
 unfold Xb at *;simp only[decide_eq_true_eq] at *;exact ZO x.pkeys y.pkeys z.pkeys rfl rfl h k
theorem pthLt_total (x y:Res):Xb x y=true∨x=y∨Xb y x=true:=by
 unfold Xb;simp only[decide_eq_true_eq];rw[pthCompare_neg x y];by_cases h:ZY x y=0
 ·exact .inr (.inl (pthCompare_zero.1 h))
 ·omega
theorem pth_asc_unique:∀ {c d:List Res},c.Pairwise (fun a b=>Xb a b=true)→d.Pairwise (fun a b=>Xb a b=true)→(∀ r,r∈c ↔ r∈d)→c=d
 | [],[],_,_,_=>rfl
 | [],y :: d,_,_,h=>by have:=(h y).2 (by simp);simp at this
 | x :: c,[],_,_,h=>by have:=(h x).1 (by simp);simp at this
 | x :: c,y :: d,hc,hd,h=>by
  have hx:=List.pairwise_cons.1 hc;have hy:=List.pairwise_cons.1 hd
  have e:x=y:=by
   have h1:=(h x).1 (by simp);have h2:=(h y).2 (by simp);rcases List.mem_cons.1 h1 with e|h1
   ·exact e
   ·rcases List.mem_cons.1 h2 with e|h2
    ·exact e.symm
    ·have g1:=hy.1 x h1;have g2:=hx.1 y h2;have:=pthLt_trans _ _ _ g1 g2;rw[pthLt_irrefl] at this;cases this
  subst e
  congr 1
  refine pth_asc_unique hx.2 hy.2 fun r=>?_;have hr:=h r;simp only[List.mem_cons] at hr;constructor
  ·intro hm;rcases hr.1 (.inr hm) with e|h'
   ·subst e;have:=hx.1 r hm;rw[pthLt_irrefl] at this;cases this
   ·exact h'
  ·intro hm;rcases hr.2 (.inr hm) with e|h'
   ·subst e;have:=hy.1 r hm;rw[pthLt_irrefl] at this;cases this
   ·exact h'
theorem pth_compact_asc:∀ (l:List Res),l.Pairwise (fun a b=>Xb b a=false)→(compact l).Pairwise fun a b=>Xb a b=true
 | [],_=>by simp [compact]
 | [x],_=>by simp [compact]
 | x :: y :: l,h=>by
  have h1:=List.pairwise_cons.1 h;have ih:=pth_compact_asc (y :: l) h1.2;unfold compact;split
  ·exact ih
  ·rename_i hne;refine List.pairwise_cons.2 ⟨fun b hb=>?_,ih⟩
   have hxy:Xb x y=true:=by
    rcases pthLt_total x y with h|h|h
    ·exact h
    ·exact absurd h hne
    ·rw[h1.1 y (by simp)] at h;cases h
   have hb':=(compact_mem (y :: l) b).1 hb;rcases List.mem_cons.1 hb' with e|hb'
   ·rw[e];exact hxy
   ·have hyb:=(List.pairwise_cons.1 h1.2).1 b hb';rcases pthLt_total y b with h|h|h
    ·exact pthLt_trans _ _ _ hxy h
    ·rw[← h];exact hxy
    ·rw[hyb] at h;cases h
def Asc (l:List Res):Prop:=l.Pairwise fun a b=>Xb a b=true
theorem Asc.sorted {l d:List Res} (h:Asc l) (hs:d.Pairwise fun a b=>Xb b a=false) (hm:∀ r,r∈d ↔ r∈l):compact d=l:=
 pth_asc_unique (pth_compact_asc d hs) h fun r=>(compact_mem d r).trans (hm r)
end Go.Proofs.YtfeiiadligkamaaGreat
