import Derived.Test.YtfeiiadligkamaaGreatPoE
set_option linter.unusedSimpArgs false
set_option linter.unusedVariables false
set_option linter.defProp false
namespace Go.Proofs.YtfeiiadligkamaaGreat
open Go.Sort Eng
def resAsk (g:FuncId) (p:Res→Bool):Prop:=∀ x F,Contract F Tryz.prog g [Q0 x] (fun r=>r=.b (p x))
def qb24:=And.intro @evr (And.intro @Qm (And.intro @Qq (@evn)))
def qb25:=And.intro @evr (And.intro @Qm (And.intro @List.append_nil.{0} (And.intro @Int.toNat_zero (And.intro @Nat.sub_self (@Qq)))))
set_option maxRecDepth 100000 in
theorem indexFuncC (F:Frm) (g:FuncId) (cc:Nat→SV) (p:Res→Bool) (hg:resAsk g p) (a:Option Addr) (cap:Nat) (d:Array Res) (hl:d.size≤1000000000) :
  Contract F Tryz.prog 112 [.sl a d.size cap 17 (Qk d),.fn g 0 cc] (fun r=>(r=.i .i64 (-1)∧∀ q,q<d.size→p d[q]! = false)∨∃ i:Nat,i<d.size∧p d[i]! = true∧r=.i .i64 i):=by
 refine Qi Tryz.func112 rfl (by kernel_rfl) ?_;simp only[Tryz.ntmps112,Qt];(repeat refine Qc ?_);(refine Qa fun k hk=>?_;simp only[id,seval,Qb,qb24];refine hk _ ?_;clear hk k;try show Sat _ _ _ _ _);(repeat refine Qc ?_);(refine Qa fun k hk=>?_;simp only[id,seval,Qb,qb24];refine hk _ ?_;clear hk k;try show Sat _ _ _ _ _);(repeat refine Qc ?_);refine Sat.block ?_;refine Qo (ι:=Nat) (fun i=>⟨19,[(8,.i .i64 i),(7,.i .i64 d.size),(0,.sl a d.size cap 17 (Qk d)),(1,.fn g 0 cc)],[]⟩)
  (fun i=>i≤d.size∧∀ q,q<i→p d[q]! = false) (fun i=>d.size - i) 0 ⟨Nat.zero_le _,fun q h=>by omega⟩ (by simp only[id,seval,Qb,evl,qb24];first|rfl|trace_state) ?_
 rintro i ⟨hi,hq⟩;(repeat refine Qc ?_);(refine Qa fun k hk=>?_;simp only[id,seval,Qb,qb24];refine hk _ ?_;clear hk k;try show Sat _ _ _ _ _);(repeat refine Qc ?_);refine Qe rfl (fun h=>?_) (fun h=>?_)
 ·have h1:i<d.size:=by simp only[decide_eq_true_eq] at h;omega
  have e3:IntKind.i64.wrap ((i:Int)+1)=((i+1:Nat):Int):=by rw[w64 (by omega)];omega
  refine Sat.skip ?_;simp only[Qf];(repeat refine Qc ?_);refine Sat.block ?_;(repeat refine Qc ?_);(refine Qa fun k hk=>?_;simp only[id,seval,Qb,qb24];refine hk _ ?_;clear hk k;try show Sat _ _ _ _ _);(repeat refine Qc ?_);(refine Qa fun k hk=>?_;simp only[id,seval,Qb,qb24]);refine⟨by omega,?_⟩;refine Qd (hg d[i]! F) (by simp only[id,seval,Qb,qb24];rfl) (by rintro _ rfl;exact Qh rfl) ?_;rintro r rfl;simp only[id,seval,Qb,qb24];(refine hk _ ?_;clear hk k;try show Sat _ _ _ _ _);refine Qe rfl (fun h2=>?_) (fun h2=>?_)
  ·(repeat refine Qc ?_);(refine Qa fun k hk=>?_;simp only[id,seval,Qb,qb24];refine hk _ ?_;clear hk k;try show Sat _ _ _ _ _);refine Sat.ret ?_;simp only[Qg,Tryz.results112,id,seval,Int.reduceToNat,Qb,qb25];exact .inr ⟨i,h1,h2,rfl⟩
  ·refine Sat.skip ?_;simp only[Qf,Qg];refine Qa fun k hk=>?_;simp only[id,seval,Qb,e3,qb24];refine hk _ ?_;simp only[Qf,Qg];refine⟨i+1,⟨h1,fun q hq2=>?_⟩,by omega,?_⟩
   ·by_cases e:q=i
    ·subst e;exact h2
    ·exact hq q (by omega)
   ·simp only[id,seval,Qb,evl,qb24]
 ·have h1:i=d.size:=by simp only[decide_eq_false_iff_not] at h;omega
  subst h1;refine Sat.exit ?_;simp only[Qf,Qg,reduceIte];(repeat refine Qc ?_);(refine Qa fun k hk=>?_;simp only[id,seval,Qb,qb24];refine hk _ ?_;clear hk k;try show Sat _ _ _ _ _);refine Sat.ret ?_;simp only[Tryz.results112,id,seval,Int.reduceToNat,Qb,qb25];exact .inl hq
set_option maxRecDepth 100000 in
theorem containsFuncC (F:Frm) (g:FuncId) (cc:Nat→SV) (p:Res→Bool) (hg:resAsk g p) (a:Option Addr) (cap:Nat) (xs:List Res) (hl:xs.length≤1000000000) :
  Contract F Tryz.prog 81 [.sl a xs.length cap 17 (Qk xs.toArray),.fn g 0 cc] (fun r=>r=.b (xs.any p)):=by
 refine Qi Tryz.func81 rfl (by kernel_rfl) ?_;simp only[Tryz.ntmps81,Qt];(repeat refine Qc ?_);(refine Qa fun k hk=>?_;simp only[id,seval,Qb,qb24];refine hk _ ?_;clear hk k;try show Sat _ _ _ _ _);(repeat refine Qc ?_);(refine Qa fun k hk=>?_;simp only[id,seval,Qb,qb24]);have hc:=indexFuncC F g (fun j=>roPtr [] (cc j)) p hg a cap xs.toArray (by simp;omega);simp only[List.size_toArray] at hc;refine Qd hc (by simp only[id,seval,Qb,qb24]) (by rintro _ (⟨rfl,_⟩|⟨i,_,_,rfl⟩)<;>exact Qh rfl) ?_;rintro r (⟨rfl,hno⟩|⟨i,hi,hp,rfl⟩)
 ·simp only[id,seval,Qb,qb24];(refine hk _ ?_;clear hk k;try show Sat _ _ _ _ _);refine Sat.ret ?_;simp only[Tryz.results81,id,seval,Int.reduceToNat,Qb,qb25]
  have:xs.any p=false:=by
   rw[List.any_eq_false];intro x hx;obtain⟨q,hq,rfl⟩:=List.getElem_of_mem hx;have:=hno q hq;rw[getB hq] at this;simp [this]
  rw[this];rfl
 ·simp only[id,seval,Qb,qb24];(refine hk _ ?_;clear hk k;try show Sat _ _ _ _ _);refine Sat.ret ?_;simp only[Tryz.results81,id,seval,Int.reduceToNat,Qb,qb25]
  have:xs.any p=true:=by
   rw[List.any_eq_true];exact⟨xs[i],List.getElem_mem hi,by rw[getB hi] at hp;exact hp⟩
  rw[this]
end Go.Proofs.YtfeiiadligkamaaGreat
