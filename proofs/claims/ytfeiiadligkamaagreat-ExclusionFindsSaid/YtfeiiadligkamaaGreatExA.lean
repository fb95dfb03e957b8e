import Derived.Test.YtfeiiadligkamaaGreatPoE
import Derived.Test.YtfeiiadligkamaaGreatTrsE
set_option linter.unusedSimpArgs false
set_option linter.unusedVariables false
set_option linter.defProp false
namespace Go.Proofs.YtfeiiadligkamaaGreat
open Go.Sort Eng
theorem treEqs (a b c a' b' c':Int):aggEq Tryz.prog 68 3 (fun j=>[SV.i .i64 a,SV.i .u32 b,SV.i .i64 c].getD j default) 3 (fun j=>[SV.i .i64 a',SV.i .u32 b',SV.i .i64 c'].getD j default)=some ([a == a',b == b',c == c'].all id):=by kernel_rfl
theorem treEq_dec (x y:Res):(x.vantage == y.vantage && (x.dst == y.dst && x.proto == y.proto))=decide (x.tre=y.tre):=by
 apply Bool.eq_iff_iff.2;simp [Res.tre]
def Xu (x:Res):Bool:=x.answered && ((x.kind == 1) && Zx x)
def togR (a b:Res):Bool:=(a.ttl != b.ttl) && ((a.flow == b.flow) && (decide (a.tre=b.tre) && (Xu a && Xu b)))
def folR (a b:Res):Bool:=togR a b && ((b.ttl == a.ttl+1) && (a.from_ != b.from_))
def qb21:=And.intro @evr (And.intro @treEqs (And.intro @Qm (And.intro @Qq (@evn))))
def qb23:=And.intro @evr (And.intro @treEqs (And.intro @Qm (And.intro @List.append_nil.{0} (And.intro @Int.toNat_zero (And.intro @Nat.sub_self (@Qq))))))
def qb22:=And.intro @evr (And.intro @treEqs (And.intro @Qm (And.intro @Qq (And.intro @evl (@evn)))))
set_option maxRecDepth 100000 in
theorem wayC (F:Frm) (x:Res):Contract F Tryz.prog 56 [Q0 x] (fun r=>r=.b (Xu x)):=by
 refine Qi Tryz.func56 rfl (by kernel_rfl) ?_;simp only[Tryz.ntmps56,Qt,Q0,Res.cs];(repeat refine Qc ?_);(refine Qa fun k hk=>?_;simp only[id,seval,Qb,qb21]);intro blk1;(refine hk _ ?_;clear hk k;try show Sat _ _ _ _ _);(repeat refine Qc ?_);refine Sat.at ⟨15,[(2,.b (Xu x))],[]⟩ ?_ ?_
 ·(refine Qa fun k hk=>?_;simp only[id,seval,Qb,qb21]);refine⟨fun h1=>⟨fun h2=>?_,fun h2=>hk _ ?_⟩,fun h1=>hk _ ?_⟩
  ·refine Qd (usableC F x) rfl (by rintro _ rfl;exact Qh rfl) ?_;rintro r rfl;simp only[id,seval,Qb,qb21];refine hk _ ?_;have e:Xu x=Zx x:=by simp only[Xu,h1,h2];rfl
   simp only[Qf,e];simp only[id,seval,Qb,qb22]
  ·have e:Xu x=false:=by simp only[Xu,h1,h2];rfl
   simp only[Qf,e];simp only[id,seval,Qb,qb22]
  ·have e:Xu x=false:=by simp only[Xu,h1];rfl
   simp only[Qf,e];simp only[id,seval,Qb,qb22]
 simp only[Qf,Qg];refine Sat.ret ?_;simp only[Tryz.results56,id,seval,Int.reduceToNat,Qb,qb23]
set_option maxRecDepth 100000 in
theorem togC (F:Frm) (x y:Res):Contract F Tryz.prog 69 [Q0 x,Q0 y] (fun r=>r=.b (togR x y)):=by
 refine Qi Tryz.func69 rfl (by kernel_rfl) ?_;simp only[Tryz.ntmps69,Qt,Q0,Res.cs];(repeat refine Qc ?_);(refine Qa fun k hk=>?_;simp only[id,seval,Qb,qb21]);intro blk1 blk2;(refine hk _ ?_;clear hk k;try show Sat _ _ _ _ _);(repeat refine Qc ?_);refine Sat.at ⟨32,[(4,.b (togR x y))],[]⟩ ?_ ?_
 ·(refine Qp (.keep [0,2,1,3,4,5,6,8,7,9,10,11,12,13,15] [14] (.one 14 (.one 16 (.one 17 (.one 18 (.one 19 (.one 20 (.one 21 (.one 22 (.one 23 (.one 24 (.one 25 (.one 26 (.one 27 .done)))))))))))))) (by kernel_rfl) (by kernel_rfl) (fun _ _ h=>h) fun k hk=>?_;simp only[WOT,List.map_cons,List.map_nil,List.getD_cons_zero,List.getD_cons_succ];simp only[id,seval,Qb,WOT,qb21]);refine⟨fun h1=>⟨fun h2=>?_,fun h2=>?_⟩,fun h1=>?_⟩
  ·refine Qd (traceOfC F x) rfl (by rintro _ rfl;exact Xs _) ?_;rintro r rfl;simp only[QZ,id,seval,Int.reduceToNat,Qb,qb23];try refine⟨rfl,?_⟩
   refine Qd (traceOfC F y) rfl (by rintro _ rfl;exact Xs _) ?_;rintro r rfl;simp only[QZ,id,seval,Int.reduceToNat,Qb,qb23];rw[treEq_dec];refine⟨fun h3=>?_,fun h3=>?_⟩
   ·refine Qd (wayC F x) rfl (by rintro _ rfl;exact Qh rfl) ?_;rintro r rfl;simp only[id,seval,Qb,qb21];try refine⟨rfl,?_⟩
    refine⟨fun h4=>?_,fun h4=>?_⟩
    ·refine Qd (wayC F y) rfl (by rintro _ rfl;exact Qh rfl) ?_;rintro r rfl;simp only[id,seval,Qb,qb21];have e:togR x y=Xu y:=by simp only[togR,h1,h2,h3,h4];rfl
     refine hk _ ?_;simp only[Qf,e];simp only[id,seval,Qb,qb22]
    ·have e:togR x y=false:=by simp only[togR,h1,h2,h3,h4];rfl
     refine hk _ ?_;simp only[Qf,e];simp only[id,seval,Qb,qb22]
   ·have e:togR x y=false:=by simp only[togR,h1,h2,h3];rfl
    refine hk _ ?_;simp only[Qf,e];simp only[id,seval,Qb,qb22]
  ·have e:togR x y=false:=by simp only[togR,h1,h2];rfl
   refine hk _ ?_;simp only[Qf,e];simp only[id,seval,Qb,qb22]
  ·have e:togR x y=false:=by simp only[togR,h1];rfl
   refine hk _ ?_;simp only[Qf,e];simp only[id,seval,Qb,qb22]
 simp only[Qf,Qg];refine Sat.ret ?_;simp only[Tryz.results69,id,seval,Int.reduceToNat,Qb,qb23]
theorem wayR_ttl {x:Res} (h:Xu x=true):1≤x.ttl∧x.ttl≤255:=by
 simp only[Xu,Zx,QH,Bool.and_eq_true,beq_iff_eq] at h;have hc:=h.2.2.2.1;unfold chk at hc;split at hc
 ·cases hc
 ·rename_i hb;unfold QR at hb;simp only[Bool.or_eq_true,decide_eq_true_eq,not_or] at hb;omega
set_option maxRecDepth 100000 in
theorem folC (F:Frm) (x y:Res):Contract F Tryz.prog 30 [Q0 x,Q0 y] (fun r=>r=.b (folR x y)):=by
 refine Qi Tryz.func30 rfl (by kernel_rfl) ?_;simp only[Tryz.ntmps30,Qt,Q0,Res.cs];(repeat refine Qc ?_);(refine Qa fun k hk=>?_;simp only[id,seval,Qb,qb21]);intro blk1 blk2;(refine hk _ ?_;clear hk k;try show Sat _ _ _ _ _);(repeat refine Qc ?_);refine Sat.at ⟨25,[(4,.b (folR x y))],[]⟩ ?_ ?_
 ·(refine Qa fun k hk=>?_;simp only[id,seval,Qb,qb21]);refine Qd (togC F x y) rfl (by rintro _ rfl;exact Qh rfl) ?_;rintro r rfl;simp only[id,seval,Qb,qb21];refine⟨fun h1=>?_,fun h1=>?_⟩
  ·have hw:IntKind.i64.wrap (x.ttl+1)=x.ttl+1:=by
    have:=wayR_ttl (x:=x) (by simp only[togR,Bool.and_eq_true] at h1;exact h1.2.2.2.1);exact w64 (by omega)
   rw[hw];refine⟨fun h2=>hk _ ?_,fun h2=>hk _ ?_⟩
   ·have e:folR x y=(x.from_ != y.from_):=by simp only[folR,h1,h2];rfl
    simp only[Qf,e];simp only[id,seval,Qb,qb22]
   ·have e:folR x y=false:=by simp only[folR,h1,h2];rfl
    simp only[Qf,e];simp only[id,seval,Qb,qb22]
  ·have e:folR x y=false:=by simp only[folR,h1];rfl
   refine hk _ ?_;simp only[Qf,e];simp only[id,seval,Qb,qb22]
 simp only[Qf,Qg];refine Sat.ret ?_;simp only[Tryz.results30,id,seval,Int.reduceToNat,Qb,qb23]
def x32 (a b:Int):Int:=bits .xor .u32 a b
def a32 (a b:Int):Int:=bits .and .u32 a b
def ZB (a:Int) (n:Int):Int×Int:=if n=31 then (x32 a 1,0) else if n≠30 then (0,1) else if a32 a 3=0∨a32 a 3=3 then (0,10) else (x32 a 3,0)
set_option maxRecDepth 100000 in
theorem mateC (F:Frm) (a n:Int):Contract F Tryz.prog 39 [.i .u32 a,.i .i64 n] (fun r=>r=Xh [.i .u32 (ZB a n).1,.i .i64 (ZB a n).2]):=by
 refine Qi Tryz.func39 rfl (by kernel_rfl) ?_;simp only[Tryz.ntmps39,Qt];(repeat refine Qc ?_);(refine Qa fun k hk=>?_;simp only[id,seval,Qb,qb21];refine hk _ ?_;clear hk k;try show Sat _ _ _ _ _);(repeat refine Qc ?_);refine Sat.block ?_;(repeat refine Qc ?_);(refine Qa fun k hk=>?_;simp only[id,seval,Qb,qb21];refine hk _ ?_;clear hk k;try show Sat _ _ _ _ _);(repeat refine Qc ?_);refine Qe rfl (fun h=>?_) (fun h=>?_)
 ·(repeat refine Qc ?_);(refine Qa fun k hk=>?_;simp only[id,seval,Qb,qb21];refine hk _ ?_;clear hk k;try show Sat _ _ _ _ _);refine Sat.ret ?_;simp only[Qg,Tryz.results39,id,seval,Int.reduceToNat,Qb,qb23];have e:ZB a n=(x32 a 1,0):=by unfold ZB;rw[if_pos (by simpa using h)]
  rw[e];rfl
 ·have hn:n≠31:=by simpa using h
  (repeat refine Qc ?_);(refine Qa fun k hk=>?_;simp only[id,seval,Qb,qb21];refine hk _ ?_;clear hk k;try show Sat _ _ _ _ _);(repeat refine Qc ?_);refine Qe rfl (fun h2=>?_) (fun h2=>?_)
  ·(repeat refine Qc ?_);(refine Qa fun k hk=>?_;simp only[id,seval,Qb,qb21];refine hk _ ?_;clear hk k;try show Sat _ _ _ _ _);refine Sat.ret ?_;simp only[Qg,Tryz.results39,id,seval,Int.reduceToNat,Qb,qb23];have e:ZB a n=(0,1):=by unfold ZB;rw[if_neg hn,if_pos (by simpa using h2)]
   rw[e]
  ·have hn2:¬ n≠30:=by simpa using h2
   (repeat refine Qc ?_);refine QT (ι:=Bool) (fun q=>⟨25,[(14,.b q),(0,.i .u32 a),(1,.i .i64 n),(4,.i .u32 0),(5,.i .i64 0)],[]⟩) (fun q=>q=decide (a32 a 3=0∨a32 a 3=3)) ?_ ?_
   ·(refine Qa fun k hk=>?_;simp only[id,seval,Qb,qb21]);have e0:bits BinOp.and IntKind.u32 a 3=a32 a 3:=rfl;rw[e0];refine⟨fun h3=>hk _ ?_,fun h3=>hk _ ?_⟩
    ·simp only[Qf];refine⟨true,by symm;rw[decide_eq_true_eq];exact .inl (by simpa using h3),?_⟩;simp only[id,seval,Qb,qb22]
    ·simp only[Qf]
     refine⟨(a32 a 3 == 3),by
      have h4:a32 a 3≠0:=by simpa using h3
      apply Bool.eq_iff_iff.2;simp [h4],?_⟩
     simp only[id,seval,Qb,qb22]
   rintro q rfl;simp only[Qf];(repeat refine Qc ?_);refine Qe rfl (fun h3=>?_) (fun h3=>?_)
   ·(repeat refine Qc ?_);(refine Qa fun k hk=>?_;simp only[id,seval,Qb,qb21];refine hk _ ?_;clear hk k;try show Sat _ _ _ _ _);refine Sat.ret ?_;simp only[Qf,Qg,Tryz.results39,id,seval,Int.reduceToNat,Qb,qb23];have e:ZB a n=(0,10):=by unfold ZB;rw[if_neg hn,if_neg hn2,if_pos (by simpa using h3)]
    rw[e]
   ·refine Sat.skip ?_;simp only[Qf,Qg,reduceIte];(repeat refine Qc ?_);(refine Qa fun k hk=>?_;simp only[id,seval,Qb,qb21];refine hk _ ?_;clear hk k;try show Sat _ _ _ _ _);refine Sat.ret ?_;simp only[Tryz.results39,id,seval,Int.reduceToNat,Qb,qb23];have e:ZB a n=(x32 a 3,0):=by unfold ZB;rw[if_neg hn,if_neg hn2,if_neg (by simpa using h3)]
    rw[e];rfl
def msV (a:Int):List Int:=x32 a 1 :: (if a32 a 3=0∨a32 a 3=3 then [] else [x32 a 3])
def u32Rd (l:List Int):Nat→Nat→SV:=fun i _=>.i .u32 (l.getD i 0)
def u32Row (ad:Option Addr) (cap:Nat) (l:List Int):Eng.Own:=.row ad 25 l.length cap 1 (u32Rd l)
theorem u32_one (l:List Int) (i j:Nat) (_:j<1):XA (u32Rd l i j)=true:=rfl
theorem u32_app {ys:List Int} {x:Int} {cs:List SV} (h:cs=[.i .u32 x]):rdEq (ys.length+1) 1 (Zb ys.length (u32Rd ys) (rdL cs 1)) (u32Rd (ys ++ [x])):=by
 subst h;refine Xm (fun i j hi hj=>?_) (fun j hj=>?_)
 ·simp [u32Rd,List.getD,List.getElem?_append,hi]
 ·obtain rfl:j=0:=by omega
  simp [u32Rd,List.getD]
set_option maxRecDepth 100000 in
theorem matesC (F:Frm) (x:Int):ContractN F Tryz.prog 58 [.i .u32 x] (fun o=>∃ a cap,o=u32Row a cap (msV x)):=by
 refine Zh Tryz.func58 rfl (by kernel_rfl) ?_;simp only[Tryz.ntmps58,Qt];(repeat refine Qc ?_);(refine Qa fun k hk=>?_;simp only[id,seval,Qb,qb21];refine hk _ ?_;clear hk k;try show Sat _ _ _ _ _);(repeat refine Qc ?_);(refine Qa fun k hk=>?_;simp only[id,seval,Qb,qb21];refine hk _ ?_;clear hk k;try show Sat _ _ _ _ _);(repeat refine Qc ?_);(refine Qa fun k hk=>?_;simp only[id,seval,Qb,qb21];refine hk _ ?_;clear hk k;try show Sat _ _ _ _ _);refine Q1 3 25 1 (u32Rd []) rfl ?_;(repeat refine Qc ?_);refine Sat.block ?_;refine Qo (ι:=Nat×Option Addr×Nat×List Int) (fun z=>⟨26,[(9,.i .i64 z.1),(8,.agg 2 fun j=>[SV.i .i64 31,SV.i .i64 30].getD j default),(3,.os 0 z.2.1 z.2.2.2.length z.2.2.1),(0,.i .u32 x)],[u32Row z.2.1 z.2.2.1 z.2.2.2]⟩)
  (fun z=>(z.1=0∧z.2.2.2=[])∨(z.1=1∧z.2.2.2=[x32 x 1])∨(z.1=2∧z.2.2.2=msV x)) (fun z=>2 - z.1) (0,none,0,[]) (.inl ⟨rfl,rfl⟩) (by simp only[u32Row];simp only[id,seval,Qb,qb22]) ?_
 rintro⟨i,a,c,ys⟩ hi;simp only at hi ⊢;have h30:ZB x 30=if a32 x 3=0∨a32 x 3=3 then (0,10) else (x32 x 3,0):=by unfold ZB;rw[if_neg (by decide),if_neg (by decide)]
 have h31:ZB x 31=(x32 x 1,0):=rfl;rcases hi with ⟨rfl,rfl⟩|⟨rfl,rfl⟩|⟨rfl,rfl⟩
 ·simp only[u32Row];(repeat refine Qc ?_);(refine Qa fun k hk=>?_;simp only[id,seval,Qb,qb21];refine hk _ ?_;clear hk k;try show Sat _ _ _ _ _);(repeat refine Qc ?_);refine Qe rfl (fun _=>?_) (fun h=>absurd h (by decide));refine Sat.skip ?_;simp only[Qf];(repeat refine Qc ?_);refine Sat.block ?_;(repeat refine Qc ?_);(refine Qa fun k hk=>?_;simp only[id,seval,Qb,qb21];refine hk _ ?_;clear hk k;try show Sat _ _ _ _ _);(repeat refine Qc ?_);(refine Qa fun k hk=>?_;simp only[id,seval,Qb,qb21]);refine Qd (mateC F x 31) rfl (by rintro _ rfl;intro R w q hq;rcases (show q=0∨q=1 by simp at hq;omega) with rfl|rfl<;>trivial) ?_;rintro _ rfl;rw[h31];simp only[Xh,id,seval,Int.reduceToNat,Qb,qb23];(refine hk _ ?_;clear hk k;try show Sat _ _ _ _ _);(repeat refine Qc ?_);(refine Qa fun k hk=>?_;simp only[id,seval,Qb,qb21];refine hk _ ?_;clear hk k;try show Sat _ _ _ _ _);(repeat refine Qc ?_);refine Qe rfl (fun _=>?_) (fun h=>absurd h (by decide));(repeat refine Qc ?_);(refine Qa fun k hk=>?_;simp only[id,seval,Qb,qb21]);refine fun _=>⟨by decide,fun a2 c2=>?_⟩;(refine hk _ ?_;clear hk k;try show Sat _ _ _ _ _);refine Qa fun k hk=>?_;simp only[id,seval,Qb,qb21];refine hk _ ?_;simp only[Qf,Qg];refine⟨(1,a2,c2,[x32 x 1]),.inr (.inl ⟨rfl,rfl⟩),by simp only;omega,?_⟩;simp only[u32Row,List.length_cons,List.length_nil];simp only[id,seval,Qb,qb22];exact⟨w64 (by omega),u32_app (ys:=[]) rfl⟩
 ·simp only[u32Row];(repeat refine Qc ?_);(refine Qa fun k hk=>?_;simp only[id,seval,Qb,qb21];refine hk _ ?_;clear hk k;try show Sat _ _ _ _ _);(repeat refine Qc ?_);refine Qe rfl (fun _=>?_) (fun h=>absurd h (by decide));refine Sat.skip ?_;simp only[Qf];(repeat refine Qc ?_);refine Sat.block ?_;(repeat refine Qc ?_);(refine Qa fun k hk=>?_;simp only[id,seval,Qb,qb21];refine hk _ ?_;clear hk k;try show Sat _ _ _ _ _);(repeat refine Qc ?_);(refine Qa fun k hk=>?_;simp only[id,seval,Qb,qb21]);refine Qd (mateC F x 30) rfl (by rintro _ rfl;intro R w q hq;rcases (show q=0∨q=1 by simp at hq;omega) with rfl|rfl<;>trivial) ?_;rintro _ rfl;by_cases h4:a32 x 3=0∨a32 x 3=3
  ·rw[h30,if_pos h4];have hm:msV x=[x32 x 1]:=by unfold msV;rw[if_pos h4]
   simp only[Xh,id,seval,Int.reduceToNat,Qb,qb23];(refine hk _ ?_;clear hk k;try show Sat _ _ _ _ _);(repeat refine Qc ?_);(refine Qa fun k hk=>?_;simp only[id,seval,Qb,qb21];refine hk _ ?_;clear hk k;try show Sat _ _ _ _ _);(repeat refine Qc ?_);refine Qe rfl (fun h=>absurd h (by decide)) (fun _=>?_);refine Sat.skip ?_;simp only[Qf,Qg];refine Qa fun k hk=>?_;simp only[id,seval,Qb,qb21];refine hk _ ?_;simp only[Qf,Qg];refine⟨(2,a,c,[x32 x 1]),.inr (.inr ⟨rfl,hm.symm⟩),by simp only;omega,?_⟩;simp only[u32Row,List.length_cons,List.length_nil];have e2:IntKind.i64.wrap (1+1)=2:=w64 (by omega);simp only[id,seval,Qb,qb22];try exact e2
  ·rw[h30,if_neg h4];have hm:msV x=[x32 x 1] ++ [x32 x 3]:=by unfold msV;rw[if_neg h4];rfl
   simp only[Xh,id,seval,Int.reduceToNat,Qb,qb23];(refine hk _ ?_;clear hk k;try show Sat _ _ _ _ _);(repeat refine Qc ?_);(refine Qa fun k hk=>?_;simp only[id,seval,Qb,qb21];refine hk _ ?_;clear hk k;try show Sat _ _ _ _ _);(repeat refine Qc ?_);refine Qe rfl (fun _=>?_) (fun h=>absurd h (by decide));(repeat refine Qc ?_);(refine Qa fun k hk=>?_;simp only[id,seval,Qb,qb21]);refine fun _=>⟨by decide,fun a2 c2=>?_⟩;(refine hk _ ?_;clear hk k;try show Sat _ _ _ _ _);refine Qa fun k hk=>?_;simp only[id,seval,Qb,qb21];refine hk _ ?_;simp only[Qf,Qg];refine⟨(2,a2,c2,[x32 x 1] ++ [x32 x 3]),.inr (.inr ⟨rfl,hm.symm⟩),by simp only;omega,?_⟩;simp only[u32Row,List.length_cons,List.length_nil,List.length_append];simp only[id,seval,Qb,qb22];exact⟨w64 (by omega),u32_app (ys:=[x32 x 1]) rfl⟩
 ·simp only[u32Row];(repeat refine Qc ?_);(refine Qa fun k hk=>?_;simp only[id,seval,Qb,qb21];refine hk _ ?_;clear hk k;try show Sat _ _ _ _ _);(repeat refine Qc ?_);refine Qe rfl (fun h=>absurd h (by decide)) (fun _=>?_);refine Sat.exit ?_;simp only[Qf,Qg,reduceIte];(repeat refine Qc ?_);(refine Qa fun k hk=>?_;simp only[id,seval,Qb,qb21];refine hk _ ?_;clear hk k;try show Sat _ _ _ _ _);refine Sat.ret ?_;simp only[Tryz.results58,id,seval,Int.reduceToNat,Qb,retN,retNK,newRow,qb23];exact⟨⟨rfl,rfl,rfl⟩,a,c,rfl⟩
end Go.Proofs.YtfeiiadligkamaaGreat
