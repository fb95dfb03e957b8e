import Derived.Test.YtfeiiadligkamaaGreatResOrd
import Derived.Test.YtfeiiadligkamaaGreatResSrt0
import Derived.Test.YtfeiiadligkamaaGreatPk3
set_option linter.unusedSimpArgs false
set_option linter.unusedVariables false
set_option linter.defProp false
namespace Go.Proofs.YtfeiiadligkamaaGreat
open Go.Sort Eng
def qb7:=And.intro @evr (And.intro @List.append_nil.{0} (And.intro @Int.toNat_zero (@Nat.sub_self)))
def qb6:=And.intro @evr (@evn)
set_option maxRecDepth 100000 in
theorem isNaNC (F:Frm) (a:Int):Contract F Tryz.prog 119 [.i .i64 a] (fun r=>r=.b false):=by
 refine Qi Tryz.func119 rfl (by kernel_rfl) ?_;simp only[Tryz.ntmps119,Qt];(repeat refine Qc ?_);(refine Qa fun k hk=>?_;simp only[id,seval,qb6];refine hk _ ?_;clear hk k;try show Sat _ _ _ _ _);(repeat refine Qc ?_);(refine Qa fun k hk=>?_;simp only[id,seval,qb6];refine hk _ ?_;clear hk k;try show Sat _ _ _ _ _);refine Sat.ret ?_;simp only[Tryz.results119,id,seval,qb7]
set_option maxRecDepth 100000 in
theorem cmpC (F:Frm) (a b:Int):Contract F Tryz.prog 87 [.i .i64 a,.i .i64 b] (fun r=>r=.i .i64 (Zq a b)):=by
 refine Qi Tryz.func87 rfl (by kernel_rfl) ?_;simp only[Tryz.ntmps87,Qt];(repeat refine Qc ?_);(refine Qa fun k hk=>?_;simp only[id,seval,qb6];refine hk _ ?_;clear hk k;try show Sat _ _ _ _ _);(repeat refine Qc ?_);(refine Qa fun k hk=>?_;simp only[id,seval,qb6]);refine Qd (isNaNC F a) rfl (by rintro _ rfl;exact Qh rfl) ?_;rintro r rfl;simp only[id,seval,qb6];(refine hk _ ?_;clear hk k;try show Sat _ _ _ _ _);(repeat refine Qc ?_);(refine Qa fun k hk=>?_;simp only[id,seval,qb6]);refine Qd (isNaNC F b) rfl (by rintro _ rfl;exact Qh rfl) ?_;rintro r rfl;simp only[id,seval,qb6];(refine hk _ ?_;clear hk k;try show Sat _ _ _ _ _);(repeat refine Qc ?_);(refine Qa fun k hk=>?_;simp only[id,seval,qb6];refine hk _ ?_;clear hk k;try show Sat _ _ _ _ _);(repeat refine Qc ?_);refine Qe rfl (fun h=>absurd h (by decide)) (fun _=>?_);refine Sat.skip ?_;simp only[Qf];(repeat refine Qc ?_);(refine Qa fun k hk=>?_;simp only[id,seval,qb6];refine hk _ ?_;clear hk k;try show Sat _ _ _ _ _);(repeat refine Qc ?_);refine Qe rfl (fun h=>absurd h (by decide)) (fun _=>?_);refine Sat.skip ?_;simp only[Qf];(repeat refine Qc ?_);(refine Qa fun k hk=>?_;simp only[id,seval,qb6];refine hk _ ?_;clear hk k;try show Sat _ _ _ _ _);(repeat refine Qc ?_);refine Qe rfl (fun h=>?_) (fun h=>?_)
 ·simp only[decide_eq_true_eq] at h;(repeat refine Qc ?_);(refine Qa fun k hk=>?_;simp only[id,seval,qb6];refine hk _ ?_;clear hk k;try show Sat _ _ _ _ _);refine Sat.ret ?_;simp only[Tryz.results87,id,seval,qb7];rw[Zq,if_pos h]
 ·simp only[decide_eq_false_iff_not] at h;refine Sat.skip ?_;simp only[Qf];(repeat refine Qc ?_);(refine Qa fun k hk=>?_;simp only[id,seval,qb6];refine hk _ ?_;clear hk k;try show Sat _ _ _ _ _);(repeat refine Qc ?_);refine Qe rfl (fun h1=>?_) (fun h1=>?_)
  ·simp only[decide_eq_true_eq] at h1;(repeat refine Qc ?_);(refine Qa fun k hk=>?_;simp only[id,seval,qb6];refine hk _ ?_;clear hk k;try show Sat _ _ _ _ _);refine Sat.ret ?_;simp only[Tryz.results87,id,seval,qb7];rw[Zq,if_neg h,if_pos h1]
  ·simp only[decide_eq_false_iff_not] at h1;refine Sat.skip ?_;simp only[Qf];(repeat refine Qc ?_);(refine Qa fun k hk=>?_;simp only[id,seval,qb6];refine hk _ ?_;clear hk k;try show Sat _ _ _ _ _);refine Sat.ret ?_;simp only[Tryz.results87,id,seval,qb7];rw[Zq,if_neg h,if_neg h1]
set_option maxRecDepth 100000 in
theorem isNaNAC (F:Frm) (a:Int):Contract F Tryz.prog 108 [.i .u32 a] (fun r=>r=.b false):=by
 refine Qi Tryz.func108 rfl (by kernel_rfl) ?_;simp only[Tryz.ntmps108,Qt];(repeat refine Qc ?_);(refine Qa fun k hk=>?_;simp only[id,seval,qb6];refine hk _ ?_;clear hk k;try show Sat _ _ _ _ _);(repeat refine Qc ?_);(refine Qa fun k hk=>?_;simp only[id,seval,qb6];refine hk _ ?_;clear hk k;try show Sat _ _ _ _ _);refine Sat.ret ?_;simp only[Tryz.results108,id,seval,qb7]
set_option maxRecDepth 100000 in
theorem cmpAC (F:Frm) (a b:Int):Contract F Tryz.prog 71 [.i .u32 a,.i .u32 b] (fun r=>r=.i .i64 (Zq a b)):=by
 refine Qi Tryz.func71 rfl (by kernel_rfl) ?_;simp only[Tryz.ntmps71,Qt];(repeat refine Qc ?_);(refine Qa fun k hk=>?_;simp only[id,seval,qb6];refine hk _ ?_;clear hk k;try show Sat _ _ _ _ _);(repeat refine Qc ?_);(refine Qa fun k hk=>?_;simp only[id,seval,qb6]);refine Qd (isNaNAC F a) rfl (by rintro _ rfl;exact Qh rfl) ?_;rintro r rfl;simp only[id,seval,qb6];(refine hk _ ?_;clear hk k;try show Sat _ _ _ _ _);(repeat refine Qc ?_);(refine Qa fun k hk=>?_;simp only[id,seval,qb6]);refine Qd (isNaNAC F b) rfl (by rintro _ rfl;exact Qh rfl) ?_;rintro r rfl;simp only[id,seval,qb6];(refine hk _ ?_;clear hk k;try show Sat _ _ _ _ _);(repeat refine Qc ?_);(refine Qa fun k hk=>?_;simp only[id,seval,qb6];refine hk _ ?_;clear hk k;try show Sat _ _ _ _ _);(repeat refine Qc ?_);refine Qe rfl (fun h=>absurd h (by decide)) (fun _=>?_);refine Sat.skip ?_;simp only[Qf];(repeat refine Qc ?_);(refine Qa fun k hk=>?_;simp only[id,seval,qb6];refine hk _ ?_;clear hk k;try show Sat _ _ _ _ _);(repeat refine Qc ?_);refine Qe rfl (fun h=>absurd h (by decide)) (fun _=>?_);refine Sat.skip ?_;simp only[Qf];(repeat refine Qc ?_);(refine Qa fun k hk=>?_;simp only[id,seval,qb6];refine hk _ ?_;clear hk k;try show Sat _ _ _ _ _);(repeat refine Qc ?_);refine Qe rfl (fun h=>?_) (fun h=>?_)
 ·simp only[decide_eq_true_eq] at h;(repeat refine Qc ?_);(refine Qa fun k hk=>?_;simp only[id,seval,qb6];refine hk _ ?_;clear hk k;try show Sat _ _ _ _ _);refine Sat.ret ?_;simp only[Tryz.results71,id,seval,qb7];rw[Zq,if_pos h]
 ·simp only[decide_eq_false_iff_not] at h;refine Sat.skip ?_;simp only[Qf];(repeat refine Qc ?_);(refine Qa fun k hk=>?_;simp only[id,seval,qb6];refine hk _ ?_;clear hk k;try show Sat _ _ _ _ _);(repeat refine Qc ?_);refine Qe rfl (fun h1=>?_) (fun h1=>?_)
  ·simp only[decide_eq_true_eq] at h1;(repeat refine Qc ?_);(refine Qa fun k hk=>?_;simp only[id,seval,qb6];refine hk _ ?_;clear hk k;try show Sat _ _ _ _ _);refine Sat.ret ?_;simp only[Tryz.results71,id,seval,qb7];rw[Zq,if_neg h,if_pos h1]
  ·simp only[decide_eq_false_iff_not] at h1;refine Sat.skip ?_;simp only[Qf];(repeat refine Qc ?_);(refine Qa fun k hk=>?_;simp only[id,seval,qb6];refine hk _ ?_;clear hk k;try show Sat _ _ _ _ _);refine Sat.ret ?_;simp only[Tryz.results71,id,seval,qb7];rw[Zq,if_neg h,if_neg h1]
def intsRd (l:List Int):Nat→Nat→SV:=rdL (l.map (SV.i .i64)) 1
theorem intsRd_get (l:List Int) (i:Nat) (h:i<l.length):intsRd l i 0=.i .i64 (l.getD i 0):=by
 simp [intsRd,rdL,List.getD,h]
theorem orL_drop (l:List Int) (i:Nat) (h:i<l.length):orL (l.drop i)=if l.getD i 0≠0 then l.getD i 0 else orL (l.drop (i+1)):=by
 rw[List.drop_eq_getElem_cons h,orL];simp [List.getD,h]
set_option maxRecDepth 100000 in
theorem orC (F:Frm) (a:Option Addr) (cap:Nat) (l:List Int) (hl:l.length≤1000000):Contract F Tryz.prog 47 [.sl a l.length cap 1 (intsRd l)] (fun r=>r=.i .i64 (orL l)):=by
 refine Qi Tryz.func47 rfl (by kernel_rfl) ?_;simp only[Tryz.ntmps47,Qt];(repeat refine Qc ?_);(refine Qa fun k hk=>?_;simp only[id,seval,qb6];refine hk _ ?_;clear hk k;try show Sat _ _ _ _ _);(repeat refine Qc ?_);(refine Qa fun k hk=>?_;simp only[id,seval,qb6];refine hk _ ?_;clear hk k;try show Sat _ _ _ _ _);(repeat refine Qc ?_);(refine Qa fun k hk=>?_;simp only[id,seval,qb6];refine hk _ ?_;clear hk k;try show Sat _ _ _ _ _);(repeat refine Qc ?_);refine Sat.block ?_;refine Qo (ι:=Nat) (fun i=>⟨18,[(8,.i .i64 i),(3,.i .i64 0),(6,.sl a l.length cap 1 (intsRd l)),(7,.i .i64 l.length)],[]⟩)
  (fun i=>i≤l.length∧orL (l.drop i)=orL l) (fun i=>l.length - i) 0 ⟨Nat.zero_le _,rfl⟩ (by simp only[id,reduceCtorEq,reduceIte,Nat.reduceMul,Nat.reduceAdd,Nat.reduceLT,Nat.reduceLeDiff,Nat.reduceEqDiff,Int.reduceLT,Int.reduceBEq,Int.reduceBNe,Nat.reduceBEq,evl,qb6];rfl) ?_
 rintro i ⟨hi,ho⟩;(repeat refine Qc ?_);(refine Qa fun k hk=>?_;simp only[id,seval,qb6];refine hk _ ?_;clear hk k;try show Sat _ _ _ _ _);(repeat refine Qc ?_);refine Qe rfl (fun h=>?_) (fun h=>?_)
 ·have h1:i<l.length:=by simp only[decide_eq_true_eq] at h;omega
  have e1:=intsRd_get l i h1;have e2:IntKind.i64.wrap ((i:Int)+1)=((i+1:Nat):Int):=by rw[w64 (by omega)];omega
  refine Sat.skip ?_;simp only[Qf];(repeat refine Qc ?_);refine Sat.block ?_;(repeat refine Qc ?_);refine Qa fun k hk=>?_;simp only[id,seval,e1,qb6];refine⟨by omega,?_⟩;(refine hk _ ?_;clear hk k;try show Sat _ _ _ _ _);(repeat refine Qc ?_);(refine Qa fun k hk=>?_;simp only[id,seval,qb6];refine hk _ ?_;clear hk k;try show Sat _ _ _ _ _);(repeat refine Qc ?_);refine Qe rfl (fun h2=>?_) (fun h2=>?_)
  ·simp only[bne_iff_ne,ne_eq] at h2;(repeat refine Qc ?_);(refine Qa fun k hk=>?_;simp only[id,seval,qb6];refine hk _ ?_;clear hk k;try show Sat _ _ _ _ _);refine Sat.ret ?_;simp only[Tryz.results47,id,seval,qb7];rw[← ho,orL_drop l i h1,if_pos h2]
  ·simp only[bne_eq_false_iff_eq] at h2;refine Sat.skip ?_;simp only[Qf,Qg];refine Qa fun k hk=>?_;simp only[id,seval,e2,qb6];refine hk _ ?_;simp only[Qf,Qg];refine⟨i+1,⟨by omega,?_⟩,by omega,?_⟩
   ·rw[← ho,orL_drop l i h1,if_neg (by simp only[h2];decide)]
   ·simp only[id,seval,evl,qb6]
 ·have h1:¬ i<l.length:=by simp only[decide_eq_false_iff_not] at h;omega
  refine Sat.exit ?_;simp only[Qf,Qg,reduceIte];(repeat refine Qc ?_);(refine Qa fun k hk=>?_;simp only[id,seval,qb6];refine hk _ ?_;clear hk k;try show Sat _ _ _ _ _);refine Sat.ret ?_;simp only[Tryz.results47,id,seval,qb7];rw[← ho,List.drop_eq_nil_of_le (by omega)];rfl
end Go.Proofs.YtfeiiadligkamaaGreat
