import Derived.Test.YtfeiiadligkamaaGreatCmtE
set_option linter.unusedSimpArgs false
set_option linter.unusedVariables false
set_option linter.defProp false
namespace Go.Proofs.YtfeiiadligkamaaGreat
open Go.Sort Eng
theorem ansEqs (a b c d e f a' b' c' d' e' f':Int):aggEq Tryz.prog 60 6 (fun j=>[SV.i .u32 a,SV.i .i64 b,SV.i .i64 c,SV.i .i64 d,SV.i .i64 e,SV.i .i64 f].getD j default) 6 (fun j=>[SV.i .u32 a',SV.i .i64 b',SV.i .i64 c',SV.i .i64 d',SV.i .i64 e',SV.i .i64 f'].getD j default) =
  some ([a == a',b == b',c == c',d == d',e == e',f == f'].all id):=by kernel_rfl
def idOk (v r:Int):Bool:=decide (0≤v) && (decide (v<16) && (decide (0≤r) && decide (r<64)))
def octOk (n:Int):Bool:=decide (0≤n) && decide (n≤255)
def QR (x:Res):Bool:=!idOk x.vantage x.run || (decide (x.number<0) || (decide (1000≤x.number) || (decide (x.at_<0) || (decide (2251799813685248<x.at_) || (decide (x.back<x.at_) || (decide (2251799813685248<x.back) || (decide (x.flow<0) || (decide (1023<x.flow) || (decide (x.ttl<1) || decide (255<x.ttl))))))))))
def ZD (x:Res):Bool:=(x.proto != 1) && ((x.proto != 6) && (x.proto != 17))
def ZA (x:Res):Bool:=!x.answered && (x.doubled || !(x.from_ == 0 && (x.kind == 0 && (x.code == 0 && (x.left == 0 && (x.id == 0 && x.quoted == 0))))))
def QK (x:Res):Bool:=x.answered && (decide (x.kind<1) || (decide (5<x.kind) || (!octOk x.code || (!octOk x.left || (!octOk x.quoted || (decide (x.id<0) || decide (65535<x.id)))))))
def chk (x:Res):Int:=if QR x=true then 1 else if ZD x=true then 16 else if ZA x=true then 7 else if QK x=true then 1 else 0
def qb4:=And.intro @evr (And.intro @Qm (And.intro @Qq (And.intro @ansEqs (And.intro @List.all_cons.{0} (And.intro @List.all_nil.{0} (And.intro @evl (@evn)))))))
def qb3:=And.intro @evr (And.intro @Qm (And.intro @Qq (And.intro @ansEqs (And.intro @List.all_cons.{0} (And.intro @List.all_nil.{0} (@evn))))))
def qb5:=And.intro @evr (And.intro @Qm (And.intro @Qq (And.intro @List.append_nil.{0} (And.intro @Int.toNat_zero (And.intro @Nat.sub_self (And.intro @ansEqs (And.intro @List.all_cons.{0} (@List.all_nil.{0}))))))))
set_option maxRecDepth 100000 in
theorem ref20IdG (F:Frm) (v r:Int):Contract F Tryz.prog 162 [.i .i64 v,.i .i64 r] (fun s=>s=.b (idOk v r)):=by
 refine Qi Tryz.func162 rfl (by kernel_rfl) ?_;simp only[Tryz.ntmps162,Qt];(repeat refine Qc ?_);(refine Qa fun k hk=>?_;simp only[id,seval,Qb,id_eq,qb3];refine hk _ ?_;clear hk k;try show Sat _ _ _ _ _);refine Qc ?_;refine Zt ⟨19,[(4,.b (idOk v r))],[]⟩ (fun k hk=>?_) ?_
 ·simp only[id,seval,Qb,id_eq,qb3];refine⟨fun h1=>⟨fun h2=>⟨fun h3=>?_,fun h3=>?_⟩,fun h2=>?_⟩,fun h1=>?_⟩
  ·refine hk _ ?_;have e:idOk v r=decide (r<64):=by simp [idOk,h1,h2,h3]
   simp only[e];simp only[id,seval,Qb,id_eq,qb4]
  ·refine hk _ ?_;have e:idOk v r=false:=by simp [idOk,h3]
   simp only[e];simp only[id,seval,Qb,id_eq,qb4]
  ·refine hk _ ?_;have e:idOk v r=false:=by simp [idOk,h2]
   simp only[e];simp only[id,seval,Qb,id_eq,qb4]
  ·refine hk _ ?_;have e:idOk v r=false:=by simp [idOk,h1]
   simp only[e];simp only[id,seval,Qb,id_eq,qb4]
 simp only[Qf];refine Sat.ret ?_;simp only[Tryz.results162,id,seval,Qb,id_eq,qb5]
set_option maxRecDepth 100000 in
theorem ref20OctG (F:Frm) (n:Int):Contract F Tryz.prog 163 [.i .i64 n] (fun s=>s=.b (octOk n)):=by
 refine Qi Tryz.func163 rfl (by kernel_rfl) ?_;simp only[Tryz.ntmps163,Qt];(repeat refine Qc ?_);(refine Qa fun k hk=>?_;simp only[id,seval,Qb,id_eq,qb3];refine hk _ ?_;clear hk k;try show Sat _ _ _ _ _);refine Qc ?_;refine Zt ⟨9,[(2,.b (octOk n))],[]⟩ (fun k hk=>?_) ?_
 ·simp only[id,seval,Qb,id_eq,qb3];refine⟨fun h1=>?_,fun h1=>?_⟩
  ·refine hk _ ?_;have e:octOk n=decide (n≤255):=by simp [octOk,h1]
   simp only[e];simp only[id,seval,Qb,id_eq,qb4]
  ·refine hk _ ?_;have e:octOk n=false:=by simp [octOk,h1]
   simp only[e];simp only[id,seval,Qb,id_eq,qb4]
 simp only[Qf];refine Sat.ret ?_;simp only[Tryz.results163,id,seval,Qb,id_eq,qb5]
set_option maxRecDepth 100000 in
theorem checkG (F:Frm) (x:Res):Contract F Tryz.prog 130 [Q0 x] (fun s=>s=.i .i64 (chk x)):=by
 refine Qi Tryz.func130 rfl (by kernel_rfl) ?_;simp only[Tryz.ntmps130,Qt,Q0,Res.cs];(repeat refine Qc ?_);(refine Qa fun k hk=>?_;simp only[id,seval,Qb,id_eq,qb3]);intro blk1;(refine hk _ ?_;clear hk k;try show Sat _ _ _ _ _);(repeat refine Qc ?_);refine Zt ⟨129,[(61,.b (QR x)),(1,.op 0 blk1 0),(2,.i .i64 0)],[.box blk1 62 (Res.cs x)]⟩ (fun k hk=>?_) ?_
 ·simp only[id,seval,Qb,id_eq,Res.cs,qb3];refine Qd (ref20IdG F x.vantage x.run) rfl (by rintro _ rfl;exact Qh rfl) ?_;rintro r rfl;simp only[id,seval,Qb,id_eq,qb3];refine⟨fun h1=>?_,fun h1=>?_⟩
  ·refine hk _ ?_;have e:QR x=true:=by simp [QR,h1]
   simp only[e];simp only[id,seval,Qb,id_eq,qb4];rfl
  refine⟨fun h2=>?_,fun h2=>?_⟩
  ·refine hk _ ?_;have e:QR x=true:=by simp [QR,h1,h2]
   simp only[e];simp only[id,seval,Qb,id_eq,qb4];rfl
  refine⟨fun h3=>?_,fun h3=>?_⟩
  ·refine hk _ ?_;have e:QR x=true:=by simp [QR,h1,h2,h3]
   simp only[e];simp only[id,seval,Qb,id_eq,qb4];rfl
  refine⟨fun h4=>?_,fun h4=>?_⟩
  ·refine hk _ ?_;have e:QR x=true:=by simp [QR,h1,h2,h3,h4]
   simp only[e];simp only[id,seval,Qb,id_eq,qb4];rfl
  refine⟨fun h5=>?_,fun h5=>?_⟩
  ·refine hk _ ?_;have e:QR x=true:=by simp [QR,h1,h2,h3,h4,h5]
   simp only[e];simp only[id,seval,Qb,id_eq,qb4];rfl
  refine⟨fun h6=>?_,fun h6=>?_⟩
  ·refine hk _ ?_;have e:QR x=true:=by simp [QR,h1,h2,h3,h4,h5,h6]
   simp only[e];simp only[id,seval,Qb,id_eq,qb4];rfl
  refine⟨fun h7=>?_,fun h7=>?_⟩
  ·refine hk _ ?_;have e:QR x=true:=by simp [QR,h1,h2,h3,h4,h5,h6,h7]
   simp only[e];simp only[id,seval,Qb,id_eq,qb4];rfl
  refine⟨fun h8=>?_,fun h8=>?_⟩
  ·refine hk _ ?_;have e:QR x=true:=by simp [QR,h1,h2,h3,h4,h5,h6,h7,h8]
   simp only[e];simp only[id,seval,Qb,id_eq,qb4];rfl
  refine⟨fun h9=>?_,fun h9=>?_⟩
  ·refine hk _ ?_;have e:QR x=true:=by simp [QR,h1,h2,h3,h4,h5,h6,h7,h8,h9]
   simp only[e];simp only[id,seval,Qb,id_eq,qb4];rfl
  refine⟨fun h10=>?_,fun h10=>?_⟩
  ·refine hk _ ?_;have e:QR x=true:=by simp [QR,h1,h2,h3,h4,h5,h6,h7,h8,h9,h10]
   simp only[e];simp only[id,seval,Qb,id_eq,qb4];rfl
  refine hk _ ?_;have e:QR x=decide (255<x.ttl):=by simp [QR,h1,h2,h3,h4,h5,h6,h7,h8,h9,h10]
  simp only[e];simp only[id,seval,Qb,id_eq,qb4];rfl
 simp only[Qf,Res.cs];refine Qe rfl (fun g1=>?_) (fun g1=>?_)
 ·(repeat refine Qc ?_);(refine Qa fun k hk=>?_;simp only[id,seval,Qb,id_eq,qb3];refine hk _ ?_;clear hk k;try show Sat _ _ _ _ _);refine Sat.ret ?_;simp only[Tryz.results130,id,seval,Qb,id_eq,qb5];simp only[chk,g1,if_true]
 refine Sat.skip ?_;simp only[Qf];(repeat refine Qc ?_);refine Zt ⟨129,[(74,.b (ZD x)),(1,.op 0 blk1 0),(2,.i .i64 0)],[.box blk1 62 (Res.cs x)]⟩ (fun k hk=>?_) ?_
 ·simp only[id,seval,Qb,id_eq,Res.cs,qb3];refine⟨fun h1=>⟨fun h2=>?_,fun h2=>?_⟩,fun h1=>?_⟩
  ·refine hk _ ?_;have e:ZD x=(x.proto != 17):=by simp only[ZD,h1,h2,Bool.true_and]
   simp only[e];simp only[id,seval,Qb,id_eq,qb4];rfl
  ·refine hk _ ?_;have e:ZD x=false:=by simp only[ZD,h1,h2,Bool.true_and,Bool.false_and]
   simp only[e];simp only[id,seval,Qb,id_eq,qb4];rfl
  ·refine hk _ ?_;have e:ZD x=false:=by simp only[ZD,h1,Bool.false_and]
   simp only[e];simp only[id,seval,Qb,id_eq,qb4];rfl
 simp only[Qf,Res.cs];refine Qe rfl (fun g2=>?_) (fun g2=>?_)
 ·(repeat refine Qc ?_);(refine Qa fun k hk=>?_;simp only[id,seval,Qb,id_eq,qb3];refine hk _ ?_;clear hk k;try show Sat _ _ _ _ _);refine Sat.ret ?_;simp only[Tryz.results130,id,seval,Qb,id_eq,qb5];simp [chk,g1,g2]
 refine Sat.skip ?_;simp only[Qf];(repeat refine Qc ?_);(refine Qa fun k hk=>?_;simp only[id,seval,Qb,id_eq,qb3]);intro blk3;(refine hk _ ?_;clear hk k;try show Sat _ _ _ _ _);(repeat refine Qc ?_);refine Zt ⟨129,[(88,.b (ZA x)),(1,.op 0 blk1 0),(3,.op 1 blk3 0),(2,.i .i64 0)],[.box blk1 62 (Res.cs x),.box blk3 60 ((Res.cs x).drop 11)]⟩ (fun k hk=>?_) ?_
 ·simp only[id,seval,Qb,id_eq,Res.cs,qb3];refine⟨fun h1=>⟨fun h2=>?_,fun h2=>?_⟩,fun h1=>?_⟩
  ·have h1':x.answered=false:=by simpa using h1
   refine hk _ ?_;have e:ZA x=true:=by simp [ZA,h1',h2]
   simp only[e];simp only[id,seval,Qb,id_eq,qb4];exact⟨rfl,rfl⟩
  ·have h1':x.answered=false:=by simpa using h1
   refine hk _ ?_;have e:ZA x=!(x.from_ == 0 && (x.kind == 0 && (x.code == 0 && (x.left == 0 && (x.id == 0 && x.quoted == 0))))):=by unfold ZA;rw[h1',h2];rfl
   simp only[e];simp only[id,seval,Qb,id_eq,qb4];exact⟨rfl,rfl⟩
  ·have h1':x.answered=true:=by simpa using h1
   refine hk _ ?_;have e:ZA x=false:=by simp [ZA,h1']
   simp only[e];simp only[id,seval,Qb,id_eq,qb4];exact⟨rfl,rfl⟩
 simp only[Qf,Res.cs,List.drop_succ_cons,List.drop_zero];refine Qe rfl (fun g3=>?_) (fun g3=>?_)
 ·(repeat refine Qc ?_);(refine Qa fun k hk=>?_;simp only[id,seval,Qb,id_eq,qb3];refine hk _ ?_;clear hk k;try show Sat _ _ _ _ _);refine Sat.ret ?_;simp only[Tryz.results130,id,seval,Qb,id_eq,qb5];simp [chk,g1,g2,g3]
 refine Sat.skip ?_;simp only[Qf];(repeat refine Qc ?_);refine Zt ⟨129,[(128,.b (QK x)),(2,.i .i64 0)],[]⟩ (fun k hk=>?_) ?_
 ·simp only[id,seval,Qb,id_eq,Res.cs,qb3];refine⟨fun h0=>?_,fun h0=>?_⟩;rotate_left
  ·refine hk _ ?_;have e:QK x=false:=by simp [QK,h0]
   simp only[e];simp only[id,seval,Qb,id_eq,qb4]
  refine⟨fun h1=>?_,fun h1=>?_⟩
  ·refine hk _ ?_;have e:QK x=true:=by simp [QK,h0,h1]
   simp only[e];simp only[id,seval,Qb,id_eq,qb4]
  refine⟨fun h2=>?_,fun h2=>?_⟩
  ·refine hk _ ?_;have e:QK x=true:=by simp [QK,h0,h1,h2]
   simp only[e];simp only[id,seval,Qb,id_eq,qb4]
  refine Qd (ref20OctG F x.code) rfl (by rintro _ rfl;exact Qh rfl) ?_;rintro r rfl;simp only[id,seval,Qb,id_eq,qb3];refine⟨fun h3=>?_,fun h3=>?_⟩
  ·refine hk _ ?_;have e:QK x=true:=by have:=h3;simp only[Bool.not_eq_true'] at this;simp [QK,h0,h1,h2,this]
   simp only[e];simp only[id,seval,Qb,id_eq,qb4]
  replace h3:octOk x.code=true:=by simpa using h3
  refine Qd (ref20OctG F x.left) rfl (by rintro _ rfl;exact Qh rfl) ?_;rintro r rfl;simp only[id,seval,Qb,id_eq,qb3];refine⟨fun h4=>?_,fun h4=>?_⟩
  ·refine hk _ ?_;have e:QK x=true:=by have:=h4;simp only[Bool.not_eq_true'] at this;simp [QK,h0,h1,h2,h3,this]
   simp only[e];simp only[id,seval,Qb,id_eq,qb4]
  replace h4:octOk x.left=true:=by simpa using h4
  refine Qd (ref20OctG F x.quoted) rfl (by rintro _ rfl;exact Qh rfl) ?_;rintro r rfl;simp only[id,seval,Qb,id_eq,qb3];refine⟨fun h5=>?_,fun h5=>?_⟩
  ·refine hk _ ?_;have e:QK x=true:=by have:=h5;simp only[Bool.not_eq_true'] at this;simp [QK,h0,h1,h2,h3,h4,this]
   simp only[e];simp only[id,seval,Qb,id_eq,qb4]
  replace h5:octOk x.quoted=true:=by simpa using h5
  refine⟨fun h6=>?_,fun h6=>?_⟩
  ·refine hk _ ?_;have e:QK x=true:=by simp [QK,h0,h1,h2,h3,h4,h5,h6]
   simp only[e];simp only[id,seval,Qb,id_eq,qb4]
  refine hk _ ?_;have e:QK x=decide (65535<x.id):=by simp [QK,h0,h1,h2,h3,h4,h5,h6]
  simp only[e];simp only[id,seval,Qb,id_eq,qb4]
 simp only[Qf];refine Qe rfl (fun g4=>?_) (fun g4=>?_)
 ·(repeat refine Qc ?_);(refine Qa fun k hk=>?_;simp only[id,seval,Qb,id_eq,qb3];refine hk _ ?_;clear hk k;try show Sat _ _ _ _ _);refine Sat.ret ?_;simp only[Tryz.results130,id,seval,Qb,id_eq,qb5];simp [chk,g1,g2,g3,g4]
 refine Sat.skip ?_;simp only[Qf];(repeat refine Qc ?_);(refine Qa fun k hk=>?_;simp only[id,seval,Qb,id_eq,qb3];refine hk _ ?_;clear hk k;try show Sat _ _ _ _ _);refine Sat.ret ?_;simp only[Tryz.results130,id,seval,Qb,id_eq,qb5];simp [chk,g1,g2,g3,g4]
def inR (n m:Int):Bool:=decide (0≤n) && decide (n≤m)
theorem idOk_inR (v r:Int):idOk v r=(inR v 15 && inR r 63):=by
 unfold idOk inR;apply Bool.eq_iff_iff.2;simp only[Bool.and_eq_true,decide_eq_true_eq];omega
theorem octOk_inR (n:Int):octOk n=inR n 255:=rfl
theorem not_inR (n m:Int):(!inR n m)=(decide (n<0) || decide (m<n)):=by
 unfold inR;apply Bool.eq_iff_iff.2;simp only[Bool.or_eq_true,decide_eq_true_eq,Bool.not_eq_true',Bool.and_eq_false_iff,decide_eq_false_iff_not];omega
theorem ZQ (x:Res):QR x=(!idOk x.vantage x.run || (!inR x.number 999 || (!inR x.at_ 2251799813685248 || (!inR x.back 2251799813685248 || (decide (x.back<x.at_) || (!inR x.flow 1023 || (decide (x.ttl<1) || decide (255<x.ttl)))))))):=by
 unfold QR;simp only[not_inR];cases idOk x.vantage x.run with
 | false=>rfl
 | true=>
  apply Bool.eq_iff_iff.2;simp only[Bool.or_eq_true,decide_eq_true_eq,Bool.not_true,Bool.false_or];omega
theorem badAnswer_inR (x:Res):QK x=(x.answered && (decide (x.kind<1) || (decide (5<x.kind) || (!octOk x.code || (!octOk x.left || (!octOk x.quoted || !inR x.id 65535)))))):=by
 unfold QK;rw[not_inR]
set_option maxRecDepth 100000 in
theorem withinG (F:Frm) (n m:Int):Contract F Tryz.prog 155 [.i .i64 n,.i .i64 m] (fun s=>s=.b (inR n m)):=by
 refine Qi Tryz.func155 rfl (by kernel_rfl) ?_;simp only[Tryz.ntmps155,Qt];(repeat refine Qc ?_);(refine Qa fun k hk=>?_;simp only[id,seval,Qb,id_eq,qb3];refine hk _ ?_;clear hk k;try show Sat _ _ _ _ _);refine Qc ?_;refine Zt ⟨12,[(4,.b (inR n m))],[]⟩ (fun k hk=>?_) ?_
 ·simp only[id,seval,Qb,id_eq,qb3];refine⟨fun h1=>?_,fun h1=>?_⟩
  ·refine hk _ ?_;have e:inR n m=decide (n≤m):=by simp [inR,h1]
   simp only[e];simp only[id,seval,Qb,id_eq,qb4]
  ·refine hk _ ?_;have e:inR n m=false:=by simp [inR,h1]
   simp only[e];simp only[id,seval,Qb,id_eq,qb4]
 simp only[Qf];refine Sat.ret ?_;simp only[Tryz.results155,id,seval,Qb,id_eq,qb5]
set_option maxRecDepth 100000 in
theorem runG (F:Frm) (v r:Int):Contract F Tryz.prog 154 [.i .i64 v,.i .i64 r] (fun s=>s=.b (idOk v r)):=by
 refine Qi Tryz.func154 rfl (by kernel_rfl) ?_;simp only[Tryz.ntmps154,Qt];(repeat refine Qc ?_);(refine Qa fun k hk=>?_;simp only[id,seval,Qb,id_eq,qb3];refine hk _ ?_;clear hk k;try show Sat _ _ _ _ _);refine Qc ?_;refine Zt ⟨11,[(4,.b (idOk v r))],[]⟩ (fun k hk=>?_) ?_
 ·simp only[id,seval,Qb,id_eq,qb3];refine Qd (withinG F v 15) rfl (by rintro _ rfl;exact Qh rfl) ?_;rintro s rfl;simp only[id,seval,Qb,id_eq,qb3];refine⟨fun h1=>?_,fun h1=>?_⟩
  ·refine Qd (withinG F r 63) rfl (by rintro _ rfl;exact Qh rfl) ?_;rintro s rfl;simp only[id,seval,Qb,id_eq,qb3];refine hk _ ?_;have e:idOk v r=inR r 63:=by rw[idOk_inR,h1];rfl
   simp only[e];simp only[id,seval,Qb,id_eq,qb4]
  ·refine hk _ ?_;have e:idOk v r=false:=by rw[idOk_inR,h1];rfl
   simp only[e];simp only[id,seval,Qb,id_eq,qb4]
 simp only[Qf];refine Sat.ret ?_;simp only[Tryz.results154,id,seval,Qb,id_eq,qb5]
set_option maxRecDepth 100000 in
theorem jcheckG (F:Frm) (x:Res):Contract F Tryz.prog 113 [Q0 x] (fun s=>s=.i .i64 (chk x)):=by
 refine Qi Tryz.func113 rfl (by kernel_rfl) ?_;simp only[Tryz.ntmps113,Qt,Q0,Res.cs];(repeat refine Qc ?_);(refine Qa fun k hk=>?_;simp only[id,seval,Qb,id_eq,qb3]);intro blk1;(refine hk _ ?_;clear hk k;try show Sat _ _ _ _ _);(repeat refine Qc ?_);(refine Qa fun k hk=>?_;simp only[id,seval,Qb,id_eq,qb3]);intro blk3;(refine hk _ ?_;clear hk k;try show Sat _ _ _ _ _);(repeat refine Qc ?_);refine Sat.block ?_;refine Sat.seq_at ⟨109,[(6,.b (QR x)),(1,.op 0 blk1 0),(3,.op 1 blk3 0),(2,.i .i64 0)],[.box blk1 62 (Res.cs x),.box blk3 60 ((Res.cs x).drop 11)]⟩ ?_ ?_
 ·(repeat refine Qc ?_);(refine Qa fun k hk=>?_;simp only[id,seval,Qb,id_eq,qb3]);refine Qd (runG F x.vantage x.run) rfl (by rintro _ rfl;exact Qh rfl) ?_;rintro r rfl;simp only[id,seval,Qb,id_eq,qb3];(refine hk _ ?_;clear hk k;try show Sat _ _ _ _ _);refine Qe rfl (fun h1=>?_) (fun h1=>?_)
  ·refine Sat.skip ?_;simp only[Qf];have e:QR x=(!idOk x.vantage x.run):=by rw[ZQ];simp only[h1,Bool.true_or,Bool.false_or]
   simp only[e];simp only[id,seval,Qb,id_eq,qb4];exact⟨rfl,rfl⟩
  (repeat refine Qc ?_);(refine Qa fun k hk=>?_;simp only[id,seval,Qb,id_eq,qb3]);refine Qd (withinG F x.number 999) rfl (by rintro _ rfl;exact Qh rfl) ?_;rintro r rfl;simp only[id,seval,Qb,id_eq,qb3];(refine hk _ ?_;clear hk k;try show Sat _ _ _ _ _);refine Qe rfl (fun h2=>?_) (fun h2=>?_)
  ·refine Sat.skip ?_;simp only[Qf];have e:QR x=(!inR x.number 999):=by rw[ZQ];simp only[h1,h2,Bool.true_or,Bool.false_or]
   simp only[e];simp only[id,seval,Qb,id_eq,qb4];exact⟨rfl,rfl⟩
  (repeat refine Qc ?_);(refine Qa fun k hk=>?_;simp only[id,seval,Qb,id_eq,qb3]);refine Qd (withinG F x.at_ 2251799813685248) rfl (by rintro _ rfl;exact Qh rfl) ?_;rintro r rfl;simp only[id,seval,Qb,id_eq,qb3];(refine hk _ ?_;clear hk k;try show Sat _ _ _ _ _);refine Qe rfl (fun h3=>?_) (fun h3=>?_)
  ·refine Sat.skip ?_;simp only[Qf];have e:QR x=(!inR x.at_ 2251799813685248):=by rw[ZQ];simp only[h1,h2,h3,Bool.true_or,Bool.false_or]
   simp only[e];simp only[id,seval,Qb,id_eq,qb4];exact⟨rfl,rfl⟩
  (repeat refine Qc ?_);(refine Qa fun k hk=>?_;simp only[id,seval,Qb,id_eq,qb3]);refine Qd (withinG F x.back 2251799813685248) rfl (by rintro _ rfl;exact Qh rfl) ?_;rintro r rfl;simp only[id,seval,Qb,id_eq,qb3];(refine hk _ ?_;clear hk k;try show Sat _ _ _ _ _);refine Qe rfl (fun h4=>?_) (fun h4=>?_)
  ·refine Sat.skip ?_;simp only[Qf];have e:QR x=(!inR x.back 2251799813685248):=by rw[ZQ];simp only[h1,h2,h3,h4,Bool.true_or,Bool.false_or]
   simp only[e];simp only[id,seval,Qb,id_eq,qb4];exact⟨rfl,rfl⟩
  (repeat refine Qc ?_);(refine Qa fun k hk=>?_;simp only[id,seval,Qb,id_eq,qb3]);(refine hk _ ?_;clear hk k;try show Sat _ _ _ _ _);refine Qe rfl (fun h5=>?_) (fun h5=>?_)
  ·refine Sat.skip ?_;simp only[Qf];have e:QR x=(decide (x.back<x.at_)):=by rw[ZQ];simp only[h1,h2,h3,h4,h5,Bool.true_or,Bool.false_or]
   simp only[e];simp only[id,seval,Qb,id_eq,qb4];exact⟨rfl,rfl⟩
  (repeat refine Qc ?_);(refine Qa fun k hk=>?_;simp only[id,seval,Qb,id_eq,qb3]);refine Qd (withinG F x.flow 1023) rfl (by rintro _ rfl;exact Qh rfl) ?_;rintro r rfl;simp only[id,seval,Qb,id_eq,qb3];(refine hk _ ?_;clear hk k;try show Sat _ _ _ _ _);refine Qe rfl (fun h6=>?_) (fun h6=>?_)
  ·refine Sat.skip ?_;simp only[Qf];have e:QR x=(!inR x.flow 1023):=by rw[ZQ];simp only[h1,h2,h3,h4,h5,h6,Bool.true_or,Bool.false_or]
   simp only[e];simp only[id,seval,Qb,id_eq,qb4];exact⟨rfl,rfl⟩
  refine Qa fun k hk=>?_;simp only[id,seval,Qb,id_eq,qb3];refine⟨fun h7=>?_,fun h7=>?_⟩
  ·refine hk _ ?_;simp only[Qf];have e:QR x=true:=by rw[ZQ,decide_eq_true h7];simp only[Bool.true_or,Bool.or_true]
   simp only[e];simp only[id,seval,Qb,id_eq,qb4];exact⟨rfl,rfl⟩
  ·refine hk _ ?_;simp only[Qf];have e:QR x=decide (255<x.ttl):=by rw[ZQ,decide_eq_false h7];simp only[h1,h2,h3,h4,h5,h6,Bool.false_or]
   simp only[e];simp only[id,seval,Qb,id_eq,qb4];exact⟨rfl,rfl⟩
 simp only[Res.cs,List.drop_succ_cons,List.drop_zero];refine Qe rfl (fun g1=>?_) (fun g1=>?_)
 ·(repeat refine Qc ?_);(refine Qa fun k hk=>?_;simp only[id,seval,Qb,id_eq,qb3];refine hk _ ?_;clear hk k;try show Sat _ _ _ _ _);refine Sat.ret ?_;simp only[Qg,Qf,Tryz.results113,id,seval,Qb,id_eq,qb5];simp only[chk,g1,if_true]
 (repeat refine Qc ?_);refine Zt ⟨109,[(42,.b (ZD x)),(1,.op 0 blk1 0),(3,.op 1 blk3 0),(2,.i .i64 0)],[.box blk1 62 (Res.cs x),.box blk3 60 ((Res.cs x).drop 11)]⟩ (fun k hk=>?_) ?_
 ·simp only[id,seval,Qb,id_eq,Res.cs,qb3];refine⟨fun h1=>⟨fun h2=>?_,fun h2=>?_⟩,fun h1=>?_⟩
  ·refine hk _ ?_;have e:ZD x=(x.proto != 17):=by simp only[ZD,h1,h2,Bool.true_and]
   simp only[e];simp only[id,seval,Qb,id_eq,qb4];exact⟨rfl,rfl⟩
  ·refine hk _ ?_;have e:ZD x=false:=by simp only[ZD,h1,h2,Bool.true_and,Bool.false_and]
   simp only[e];simp only[id,seval,Qb,id_eq,qb4];exact⟨rfl,rfl⟩
  ·refine hk _ ?_;have e:ZD x=false:=by simp only[ZD,h1,Bool.false_and]
   simp only[e];simp only[id,seval,Qb,id_eq,qb4];exact⟨rfl,rfl⟩
 simp only[Qf,Res.cs,List.drop_succ_cons,List.drop_zero];refine Qe rfl (fun g2=>?_) (fun g2=>?_)
 ·(repeat refine Qc ?_);(refine Qa fun k hk=>?_;simp only[id,seval,Qb,id_eq,qb3];refine hk _ ?_;clear hk k;try show Sat _ _ _ _ _);refine Sat.ret ?_;simp only[Qg,Qf,Tryz.results113,id,seval,Qb,id_eq,qb5];simp [chk,g1,g2]
 refine Sat.seq_at ⟨109,[(56,.b (ZA x)),(1,.op 0 blk1 0),(3,.op 1 blk3 0),(2,.i .i64 0)],[.box blk1 62 (Res.cs x),.box blk3 60 ((Res.cs x).drop 11)]⟩ ?_ ?_
 ·(repeat refine Qc ?_);(refine Qa fun k hk=>?_;simp only[id,seval,Qb,id_eq,qb3]);refine⟨fun h1=>?_,fun h1=>?_⟩
  ·(refine hk _ ?_;clear hk k;try show Sat _ _ _ _ _);refine Qe rfl (fun h2=>?_) (fun h2=>?_)
   ·refine Sat.skip ?_;simp only[Qf];have h2':x.answered=false:=by simpa using h2
    have e:ZA x=(!x.answered):=by simp [ZA,h2',h1]
    simp only[e];simp only[id,seval,Qb,id_eq,qb4];exact⟨rfl,rfl⟩
   ·have h2':x.answered=true:=by simpa using h2
    refine Qa fun k hk=>?_;simp only[id,seval,Qb,id_eq,qb3];refine⟨fun h3=>absurd h3 (by simp [h2']),fun _=>?_⟩;refine hk _ ?_;simp only[Qf];have e:ZA x=false:=by simp [ZA,h2']
    simp only[e];simp only[id,seval,Qb,id_eq,qb4];exact⟨rfl,rfl⟩
  ·(refine hk _ ?_;clear hk k;try show Sat _ _ _ _ _);refine Sat.cond_ff rfl ?_;refine Qa fun k hk=>?_;simp only[id,seval,Qb,id_eq,qb3];refine⟨fun h3=>?_,fun h3=>?_⟩
   ·have h3':x.answered=false:=by simpa using h3
    refine hk _ ?_;simp only[Qf];have e:ZA x=!(x.from_ == 0 && (x.kind == 0 && (x.code == 0 && (x.left == 0 && (x.id == 0 && x.quoted == 0))))):=by unfold ZA;rw[h3',h1];rfl
    simp only[e];simp only[id,seval,Qb,id_eq,qb4];exact⟨rfl,rfl⟩
   ·have h3':x.answered=true:=by simpa using h3
    refine hk _ ?_;simp only[Qf];have e:ZA x=false:=by simp [ZA,h3']
    simp only[e];simp only[id,seval,Qb,id_eq,qb4];exact⟨rfl,rfl⟩
 simp only[Res.cs,List.drop_succ_cons,List.drop_zero];refine Qe rfl (fun g3=>?_) (fun g3=>?_)
 ·(repeat refine Qc ?_);(refine Qa fun k hk=>?_;simp only[id,seval,Qb,id_eq,qb3];refine hk _ ?_;clear hk k;try show Sat _ _ _ _ _);refine Sat.ret ?_;simp only[Qg,Qf,Tryz.results113,id,seval,Qb,id_eq,qb5];simp [chk,g1,g2,g3]
 (repeat refine Qc ?_);refine Zt ⟨109,[(72,.b (QK x)),(2,.i .i64 0)],[]⟩ (fun k hk=>?_) ?_
 ·simp only[id,seval,Qb,id_eq,Res.cs,qb3];refine⟨fun h0=>?_,fun h0=>?_⟩;rotate_left
  ·refine hk _ ?_;have e:QK x=false:=by simp [QK,h0]
   simp only[e];simp only[id,seval,Qb,id_eq,qb4]
  refine⟨fun h1=>?_,fun h1=>?_⟩
  ·refine hk _ ?_;have e:QK x=true:=by simp [QK,h0,h1]
   simp only[e];simp only[id,seval,Qb,id_eq,qb4]
  refine⟨fun h2=>?_,fun h2=>?_⟩
  ·refine hk _ ?_;have e:QK x=true:=by simp [QK,h0,h1,h2]
   simp only[e];simp only[id,seval,Qb,id_eq,qb4]
  refine Qd (withinG F x.code 255) rfl (by rintro _ rfl;exact Qh rfl) ?_;rintro r rfl;simp only[id,seval,Qb,id_eq,qb3];refine⟨fun h3=>?_,fun h3=>?_⟩
  ·refine hk _ ?_;have e:QK x=true:=by have:=h3;simp only[Bool.not_eq_true',← octOk_inR] at this;simp [QK,h0,h1,h2,this]
   simp only[e];simp only[id,seval,Qb,id_eq,qb4]
  replace h3:octOk x.code=true:=by rw[octOk_inR];simpa using h3
  refine Qd (withinG F x.left 255) rfl (by rintro _ rfl;exact Qh rfl) ?_;rintro r rfl;simp only[id,seval,Qb,id_eq,qb3];refine⟨fun h4=>?_,fun h4=>?_⟩
  ·refine hk _ ?_;have e:QK x=true:=by have:=h4;simp only[Bool.not_eq_true',← octOk_inR] at this;simp [QK,h0,h1,h2,h3,this]
   simp only[e];simp only[id,seval,Qb,id_eq,qb4]
  replace h4:octOk x.left=true:=by rw[octOk_inR];simpa using h4
  refine Qd (withinG F x.quoted 255) rfl (by rintro _ rfl;exact Qh rfl) ?_;rintro r rfl;simp only[id,seval,Qb,id_eq,qb3];refine⟨fun h5=>?_,fun h5=>?_⟩
  ·refine hk _ ?_;have e:QK x=true:=by have:=h5;simp only[Bool.not_eq_true',← octOk_inR] at this;simp [QK,h0,h1,h2,h3,h4,this]
   simp only[e];simp only[id,seval,Qb,id_eq,qb4]
  replace h5:octOk x.quoted=true:=by rw[octOk_inR];simpa using h5
  refine Qd (withinG F x.id 65535) rfl (by rintro _ rfl;exact Qh rfl) ?_;rintro r rfl;simp only[id,seval,Qb,id_eq,qb3];refine hk _ ?_;have e:QK x=(!inR x.id 65535):=by rw[badAnswer_inR];simp [h0,h1,h2,h3,h4,h5]
  simp only[e];simp only[id,seval,Qb,id_eq,qb4]
 simp only[Qf];refine Qe rfl (fun g4=>?_) (fun g4=>?_)
 ·(repeat refine Qc ?_);(refine Qa fun k hk=>?_;simp only[id,seval,Qb,id_eq,qb3];refine hk _ ?_;clear hk k;try show Sat _ _ _ _ _);refine Sat.ret ?_;simp only[Qg,Qf,Tryz.results113,id,seval,Qb,id_eq,qb5];simp [chk,g1,g2,g3,g4]
 refine Sat.skip ?_;simp only[Qf,Qg];(repeat refine Qc ?_);(refine Qa fun k hk=>?_;simp only[id,seval,Qb,id_eq,qb3];refine hk _ ?_;clear hk k;try show Sat _ _ _ _ _);refine Sat.ret ?_;simp only[Tryz.results113,id,seval,Qb,id_eq,qb5];simp [chk,g1,g2,g3,g4]
end Go.Proofs.YtfeiiadligkamaaGreat
