import Derived.Test.YtfeiiadligkamaaGreatR24F
import Derived.Test.YtfeiiadligkamaaGreatTrsE
set_option linter.unusedSimpArgs false
set_option linter.unusedVariables false
set_option linter.defProp false
namespace Go.Proofs.YtfeiiadligkamaaGreat
open Go.Sort Eng
def pairC3 (x y:Tre):List SV:=[.i .i64 x.van,.i .i64 y.van,.i .i64 (w64i x.dst),.i .i64 (w64i y.dst),.i .i64 x.pro,.i .i64 y.pro]
def pairR3 (x y:Tre):Nat→SV:=fun j=>(pairC3 x y).getD j default
def Tre.wk (t:Tre):List Int:=[t.van,w64i t.dst,t.pro]
def ctI (x y:Tre):Int:=cmpL x.wk y.wk
theorem pair_get3 (x y:Tre) (i:Nat) (h:i<3):pairR3 x y (i * 2)=.i .i64 (x.wk.getD i 0)∧pairR3 x y (i * 2+1)=.i .i64 (y.wk.getD i 0):=by
 rcases (show i=0∨i=1∨i=2 by omega) with rfl|rfl|rfl<;>exact⟨rfl,rfl⟩
def qb34:=And.intro @evr (And.intro @Qm (And.intro @Qq (And.intro @Z3 (And.intro @tre_ro (And.intro @tre_eqr (@evn))))))
def qb36:=And.intro @evr (And.intro @Qm (And.intro @List.append_nil.{0} (And.intro @Int.toNat_zero (And.intro @Nat.sub_self (And.intro @Qq (And.intro @Z3 (And.intro @tre_ro (@tre_eqr))))))))
def qb35:=And.intro @evr (And.intro @Qm (And.intro @Qq (And.intro @Z3 (And.intro @tre_ro (And.intro @tre_eqr (And.intro @evl (@evn)))))))
set_option maxRecDepth 100000 in
theorem ctraceG (F:Frm) (x y:Tre):Contract F Tryz.prog 131 [treAg x,treAg y] (fun r=>r=.i .i64 (ctI x y)):=by
 refine Qi Tryz.func131 rfl (by kernel_rfl) ?_;simp only[Tryz.ntmps131,Qt,treAg,Tre.cs];(repeat refine Qc ?_);(refine Qa fun k hk=>?_;simp only[id,seval,Qb,Ql,qb34]);intro blk1 blk2;(refine hk _ ?_;clear hk k;try show Sat _ _ _ _ _);(repeat refine Qc ?_);(refine Qa fun k hk=>?_;simp only[id,seval,Qb,Ql,qb34];refine hk _ ?_;clear hk k;try show Sat _ _ _ _ _);(repeat refine Qc ?_);refine Sat.block ?_;refine Qo (ι:=Nat) (fun i=>⟨39,[(25,.i .i64 i),(24,.agg 6 (pairR3 x y)),(4,.i .i64 0)],[]⟩)
  (fun i=>i≤3∧cmpL (x.wk.drop i) (y.wk.drop i)=ctI x y) (fun i=>3 - i) 0 ⟨Nat.zero_le _,rfl⟩ (by simp only[id,reduceCtorEq,reduceIte,Nat.reduceMul,Nat.reduceAdd,Nat.reduceLT,Nat.reduceLeDiff,Nat.reduceEqDiff,Int.reduceLT,Int.reduceBEq,Int.reduceBNe,Nat.reduceBEq,Int.reduceToNat,Qb,Ql,qb35];exact⟨rfl,rfl⟩) ?_
 rintro i ⟨hi,ho⟩;(repeat refine Qc ?_);(refine Qa fun k hk=>?_;simp only[id,seval,Qb,Ql,qb34];refine hk _ ?_;clear hk k;try show Sat _ _ _ _ _);(repeat refine Qc ?_);refine Qe rfl (fun h=>?_) (fun h=>?_)
 ·have h1:i<3:=by simp only[decide_eq_true_eq] at h;omega
  obtain⟨e0,e1⟩:=pair_get3 x y i h1;have e2:IntKind.i64.wrap ((i:Int)+1)=((i+1:Nat):Int):=by rw[w64 (by omega)];omega
  refine Sat.skip ?_;simp only[Qf];(repeat refine Qc ?_);refine Sat.block ?_;(repeat refine Qc ?_);refine Qa fun k hk=>?_;simp only[id,seval,Qb,Ql,e0,e1,qb34];refine⟨by omega,by omega,fun b4=>?_⟩;(refine hk _ ?_;clear hk k;try show Sat _ _ _ _ _);(repeat refine Qc ?_);(refine Qa fun k hk=>?_;simp only[id,reduceCtorEq,reduceIte,Nat.reduceMul,Nat.reduceAdd,Nat.reduceLT,Nat.reduceLeDiff,Nat.reduceEqDiff,Int.reduceLT,Int.reduceBEq,Int.reduceBNe,Nat.reduceBEq,Int.reduceToNat,Qb,Ql,qb34]);refine⟨by omega,by omega,?_⟩;(refine hk _ ?_;clear hk k;try show Sat _ _ _ _ _);(repeat refine Qc ?_);refine Qe rfl (fun h2=>?_) (fun h2=>?_)
  ·have h3:Zq (x.wk.getD i 0) (y.wk.getD i 0)≠0:=fun h=>by
    rw[Zz] at h;simp only[bne_iff_ne,ne_eq] at h2;exact h2 h
   (repeat refine Qc ?_);(refine Qa fun k hk=>?_;simp only[id,reduceCtorEq,reduceIte,Nat.reduceMul,Nat.reduceAdd,Nat.reduceLT,Nat.reduceLeDiff,Nat.reduceEqDiff,Int.reduceLT,Int.reduceBEq,Int.reduceBNe,Nat.reduceBEq,Int.reduceToNat,Qb,Ql,qb34]);refine⟨by omega,by omega,?_⟩;refine Qd (lessG F (x.wk.getD i 0) (y.wk.getD i 0)) rfl (by rintro _ rfl;exact Qh rfl) ?_;rintro r rfl;simp only[id,seval,Qb,Ql,qb34];(refine hk _ ?_;clear hk k;try show Sat _ _ _ _ _);refine Sat.ret ?_;simp only[Tryz.results131,id,seval,Qb,Ql,qb36];rw[← ho,cmpL_drop _ _ i (by exact h1) (by exact h1),if_pos h3]
  ·have h3:Zq (x.wk.getD i 0) (y.wk.getD i 0)=0:=by
    rw[Zz]
    simpa using h2
   refine Sat.skip ?_;simp only[Qf,Qg];refine Qa fun k hk=>?_;simp only[id,seval,Qb,Ql,e2,qb34];refine hk _ ?_;simp only[Qf,Qg];refine⟨i+1,⟨by omega,?_⟩,by omega,?_⟩
   ·rw[← ho,cmpL_drop _ _ i (by exact h1) (by exact h1),if_neg (by rw[h3];decide)]
   ·simp only[id,seval,Qb,Ql,qb35]
 ·have h1:i=3:=by simp only[decide_eq_false_iff_not] at h;omega
  subst h1;refine Sat.exit ?_;simp only[Qf,Qg,reduceIte];(repeat refine Qc ?_);(refine Qa fun k hk=>?_;simp only[id,seval,Qb,Ql,qb34];refine hk _ ?_;clear hk k;try show Sat _ _ _ _ _);refine Sat.ret ?_;simp only[Tryz.results131,id,seval,Qb,Ql,qb36];rw[← ho];rfl
theorem tre_eqb (d:Array Tre) (i:Nat) (a b c:Int):aggEq Tryz.prog 68 3 (fun q=>Xw d i q) 3 (fun j=>[SV.i .i64 a,SV.i .u32 b,SV.i .i64 c].getD j default)=some (decide (d[i]! = ⟨a,b,c⟩)):=tre_eq d[i]! ⟨a,b,c⟩
end Go.Proofs.YtfeiiadligkamaaGreat
