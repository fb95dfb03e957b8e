import Derived.Test.YtfeiiadligkamaaGreatInsM
set_option linter.unusedSimpArgs false
set_option linter.unusedVariables false
set_option linter.defProp false
namespace Go.Proofs.YtfeiiadligkamaaGreat
open Go.Sort Eng
def qb31:=And.intro @evr (And.intro @Qm (And.intro @List.append_nil.{0} (And.intro @Int.toNat_zero (@Nat.sub_self))))
def qb29:=And.intro @evr (And.intro @Qm (@evn))
def qb30:=And.intro @evr (And.intro @Qm (And.intro @evl (@evn)))
set_option maxRecDepth 100000 in
theorem validG (F:Frm) (x:Res):Contract F Tryz.prog 90 [Q0 x] (fun r=>r=.b (QH x)):=by
  refine Qi Tryz.func90 rfl (by kernel_rfl) ?_;simp only[Tryz.ntmps90,Qt,Q0,Res.cs];(repeat refine Qc ?_);(refine Qa fun k hk=>?_;simp only[id,seval,qb29]);intro blk1;(refine hk _ ?_;clear hk k;try show Sat _ _ _ _ _);(repeat refine Qc ?_);refine Sat.at ⟨22,[(2,.b (QH x))],[]⟩ ?_ ?_
  · (refine Qa fun k hk=>?_;simp only[id,seval,qb29])
    refine Qd (checkG F x) rfl (by rintro _ rfl;exact Qh rfl) ?_;rintro r rfl;simp only[id,seval,qb29];refine⟨fun h1=>⟨fun h2=>⟨fun h3=>hk _ ?_,fun h3=>hk _ ?_⟩,fun h2=>hk _ ?_⟩,fun h1=>hk _ ?_⟩
    · have e:QH x=true:=by simp only[QH,h1,h2,h3];rfl
      simp only[Qf,e];simp only[id,seval,qb30]
    · have e:QH x=(x.from_ != 0):=by simp only[QH,h1,h2,h3];rfl
      simp only[Qf,e];simp only[id,seval,qb30]
    · have e:QH x=false:=by simp only[QH,h1,h2];rfl
      simp only[Qf,e];simp only[id,seval,qb30]
    · have e:QH x=false:=by simp only[QH,h1];rfl
      simp only[Qf,e];simp only[id,seval,qb30]
  simp only[Qf,Qg];refine Sat.ret ?_;simp only[Tryz.results90,id,seval,qb31]
set_option maxRecDepth 100000 in
theorem traceOfG (F:Frm) (x:Res):Contract F Tryz.prog 35 [Q0 x] (fun r=>r=QZ x):=by
  refine Qi Tryz.func35 rfl (by kernel_rfl) ?_;simp only[Tryz.ntmps35,Qt,Q0,Res.cs];(repeat refine Qc ?_);(refine Qa fun k hk=>?_;simp only[id,seval,qb29]);intro blk1 blk2;(refine hk _ ?_;clear hk k;try show Sat _ _ _ _ _);(repeat refine Qc ?_);(refine Qa fun k hk=>?_;simp only[id,seval,qb29];refine hk _ ?_;clear hk k;try show Sat _ _ _ _ _);refine Sat.ret ?_;simp only[Tryz.results35,id,seval,qb31];rfl
set_option maxRecDepth 100000 in
theorem identG (F:Frm) (x:Res):Contract F Tryz.prog 54 [Q0 x] (fun r=>r=Z7 x):=by
  refine Qi Tryz.func54 rfl (by kernel_rfl) ?_;simp only[Tryz.ntmps54,Qt,Q0,Res.cs];(repeat refine Qc ?_);(refine Qa fun k hk=>?_;simp only[id,seval,qb29]);intro blk1 blk2;(refine hk _ ?_;clear hk k;try show Sat _ _ _ _ _);(repeat refine Qc ?_);(refine Qa fun k hk=>?_;simp only[id,seval,qb29];refine hk _ ?_;clear hk k;try show Sat _ _ _ _ _);refine Sat.ret ?_;simp only[Tryz.results54,id,seval,qb31];rfl
set_option maxRecDepth 100000 in
theorem bitG (F:Frm) (b:Bool):Contract F Tryz.prog 151 [.b b] (fun r=>r=.i .i64 (b2i b)):=by
  refine Qi Tryz.func151 rfl (by kernel_rfl) ?_;simp only[Tryz.ntmps151,Qt];(repeat refine Qc ?_);(refine Qa fun k hk=>?_;simp only[id,seval,qb29];refine hk _ ?_;clear hk k;try show Sat _ _ _ _ _);(repeat refine Qc ?_);(refine Qa fun k hk=>?_;simp only[id,seval,qb29];refine hk _ ?_;clear hk k;try show Sat _ _ _ _ _);(repeat refine Qc ?_);refine Qe rfl (fun h=>?_) (fun h=>?_)
  · subst h
    (repeat refine Qc ?_);(refine Qa fun k hk=>?_;simp only[id,seval,qb29];refine hk _ ?_;clear hk k;try show Sat _ _ _ _ _);refine Sat.ret ?_;simp only[Tryz.results151,id,seval,qb31];rfl
  · subst h
    refine Sat.skip ?_;simp only[Qf];(repeat refine Qc ?_);(refine Qa fun k hk=>?_;simp only[id,seval,qb29];refine hk _ ?_;clear hk k;try show Sat _ _ _ _ _);refine Sat.ret ?_;simp only[Tryz.results151,id,seval,qb31];rfl
set_option maxRecDepth 100000 in
theorem lessG (F:Frm) (a b:Int):Contract F Tryz.prog 152 [.i .i64 a,.i .i64 b] (fun r=>r=.i .i64 (Zq a b)):=by
  refine Qi Tryz.func152 rfl (by kernel_rfl) ?_;simp only[Tryz.ntmps152,Qt];(repeat refine Qc ?_);(refine Qa fun k hk=>?_;simp only[id,seval,qb29];refine hk _ ?_;clear hk k;try show Sat _ _ _ _ _);refine Qc ?_;refine Sat.block ?_;(repeat refine Qc ?_);(refine Qa fun k hk=>?_;simp only[id,seval,qb29];refine hk _ ?_;clear hk k;try show Sat _ _ _ _ _);refine Qe rfl (fun h=>?_) (fun h=>?_)
  · have h1:a<b:=by simpa using h
    (repeat refine Qc ?_);(refine Qa fun k hk=>?_;simp only[id,seval,qb29];refine hk _ ?_;clear hk k;try show Sat _ _ _ _ _);refine Sat.ret ?_;simp only[Qg,Qf,Tryz.results152,id,seval,qb31];unfold Zq;rw[if_pos h1]
  · have h1:¬ a<b:=by simpa using h
    (repeat refine Qc ?_);(refine Qa fun k hk=>?_;simp only[id,seval,qb29];refine hk _ ?_;clear hk k;try show Sat _ _ _ _ _);refine Qe rfl (fun h=>?_) (fun h=>?_)
    · have h2:b<a:=by simpa using h
      (repeat refine Qc ?_);(refine Qa fun k hk=>?_;simp only[id,seval,qb29];refine hk _ ?_;clear hk k;try show Sat _ _ _ _ _);refine Sat.ret ?_;simp only[Qg,Qf,Tryz.results152,id,seval,qb31];unfold Zq;rw[if_neg h1,if_pos h2]
    · have h2:¬ b<a:=by simpa using h
      refine Sat.skip ?_;simp only[Qg,Qf];(repeat refine Qc ?_);(refine Qa fun k hk=>?_;simp only[id,seval,qb29];refine hk _ ?_;clear hk k;try show Sat _ _ _ _ _);refine Sat.ret ?_;simp only[Qg,Qf,Tryz.results152,id,seval,qb31];unfold Zq;rw[if_neg h1,if_neg h2]
def pairC2 (x y:Res):List SV:=[.i .i64 x.at_,.i .i64 y.at_,.i .i64 x.vantage,.i .i64 y.vantage,.i .i64 x.run,.i .i64 y.run,.i .i64 x.number,.i .i64 y.number,.i .i64 (w64i x.dst),.i .i64 (w64i y.dst),.i .i64 x.proto,.i .i64 y.proto,.i .i64 x.flow,.i .i64 y.flow,.i .i64 x.ttl,.i .i64 y.ttl,
  .i .i64 (b2i x.answered),.i .i64 (b2i y.answered),.i .i64 (b2i x.doubled),.i .i64 (b2i y.doubled),.i .i64 x.back,.i .i64 y.back,.i .i64 (w64i x.from_),.i .i64 (w64i y.from_),.i .i64 x.kind,.i .i64 y.kind,.i .i64 x.code,.i .i64 y.code,.i .i64 x.left,.i .i64 y.left,.i .i64 x.id,.i .i64 y.id]
def pairR2 (x y:Res):Nat→SV:=fun j=>(pairC2 x y).getD j default
theorem pair_get2 (x y:Res) (i:Nat) (h:i<16):pairR2 x y (i * 2)=.i .i64 (x.wkeys.getD i 0)∧pairR2 x y (i * 2+1)=.i .i64 (y.wkeys.getD i 0):=by
  rcases (show i=0∨i=1∨i=2∨i=3∨i=4∨i=5∨i=6∨i=7∨i=8∨i=9∨i=10∨i=11∨i=12∨i=13∨i=14∨i=15 by omega) with rfl|rfl|rfl|rfl|rfl|rfl|rfl|rfl|rfl|rfl|rfl|rfl|rfl|rfl|rfl|rfl<;>exact⟨rfl,rfl⟩
set_option maxRecDepth 100000 in
set_option maxHeartbeats 4000000 in
theorem compareG (F:Frm) (x y:Res):Contract F Tryz.prog 104 [Q0 x,Q0 y] (fun r=>r=.i .i64 (QL x y)):=by
  refine Qi Tryz.func104 rfl (by kernel_rfl) ?_;simp only[Tryz.ntmps104,Qt,Q0,Res.cs];(repeat refine Qc ?_);(refine Qa fun k hk=>?_;simp only[id,seval,qb29]);intro blk1 blk2;(refine hk _ ?_;clear hk k;try show Sat _ _ _ _ _);(repeat refine Qc ?_);refine Sat.at ⟨127,[(106,.i .i64 0),(105,.agg 32 (pairR2 x y)),(3,.op 1 blk2 0),(2,.op 0 blk1 0),(4,.i .i64 0)],[.box blk1 62 (Res.cs x),.box blk2 62 (Res.cs y)]⟩ ?_ ?_
  · simp only[List.append_eq,List.cons_append,List.nil_append]
    (refine Sat.region_bt [⟨0,8,4,0⟩,⟨1,9,128,1⟩,⟨0,10,8,0⟩,⟨4,11,512,1⟩,⟨10,12,1280,0⟩,⟨0,13,4,0⟩,⟨32,14,4096,1⟩,⟨0,15,8,0⟩,⟨128,16,16384,1⟩,⟨320,17,40960,0⟩,⟨0,18,4,0⟩,⟨1024,19,131072,1⟩,⟨0,20,8,0⟩,⟨4096,21,524288,1⟩,⟨10240,22,1310720,0⟩,⟨0,23,4,0⟩,⟨32768,24,4194304,1⟩,⟨0,25,8,0⟩,⟨131072,26,16777216,1⟩,⟨327680,27,41943040,0⟩,⟨0,28,4,0⟩,⟨1048576,29,134217728,1⟩,⟨2097152,30,268435456,1⟩,⟨0,31,8,0⟩,⟨8388608,32,1073741824,1⟩,⟨16777216,33,2147483648,1⟩,⟨37748736,34,4831838208,0⟩,⟨0,35,4,0⟩,⟨134217728,36,17179869184,1⟩,⟨0,37,8,0⟩,⟨536870912,38,68719476736,1⟩,⟨1342177280,39,171798691840,0⟩,⟨0,40,4,0⟩,⟨4294967296,41,549755813888,1⟩,⟨0,42,8,0⟩,⟨17179869184,43,2199023255552,1⟩,⟨42949672960,44,5497558138880,0⟩,⟨0,45,4,0⟩,⟨137438953472,46,17592186044416,1⟩,⟨0,47,8,0⟩,⟨549755813888,48,70368744177664,1⟩,⟨1374389534720,49,175921860444160,0⟩,⟨0,50,4,0⟩,⟨4398046511104,51,562949953421312,1⟩,⟨8796093022208,52,1125899906842624,2⟩,⟨0,53,8,0⟩,⟨35184372088832,54,4503599627370496,1⟩,⟨87960930222080,55,9007199254740992,2⟩,⟨158329674399744,56,20266198323167232,0⟩,⟨0,57,4,0⟩,⟨562949953421312,58,72057594037927936,1⟩,⟨1266637395197952,59,144115188075855872,2⟩,⟨0,60,8,0⟩,⟨4503599627370496,61,576460752303423488,1⟩,⟨11258999068426240,62,1152921504606846976,2⟩,⟨20266198323167232,63,2594073385365405696,0⟩,⟨0,64,4,0⟩,⟨72057594037927936,65,9223372036854775808,1⟩,⟨0,66,8,0⟩,⟨288230376151711744,67,36893488147419103232,1⟩,⟨720575940379279360,68,92233720368547758080,0⟩,⟨0,69,4,0⟩,⟨2305843009213693952,70,295147905179352825856,0⟩,⟨4611686018427387904,71,590295810358705651712,1⟩,⟨9223372036854775808,72,1180591620717411303424,1⟩,⟨0,73,8,0⟩,⟨36893488147419103232,74,4722366482869645213696,0⟩,⟨73786976294838206464,75,9444732965739290427392,1⟩,⟨147573952589676412928,76,18889465931478580854784,1⟩,⟨313594649253062377472,77,40140115104391984316416,0⟩,⟨0,78,4,0⟩,⟨1180591620717411303424,79,151115727451828646838272,0⟩,⟨2361183241434822606848,80,302231454903657293676544,1⟩,⟨0,81,8,0⟩,⟨9444732965739290427392,82,1208925819614629174706176,0⟩,⟨18889465931478580854784,83,2417851639229258349412352,1⟩,⟨42501298345826806923264,84,5440166188265831286177792,0⟩,⟨0,85,4,0⟩,⟨151115727451828646838272,86,19342813113834066795298816,0⟩,⟨302231454903657293676544,87,38685626227668133590597632,1⟩,⟨0,88,8,0⟩,⟨1208925819614629174706176,89,154742504910672534362390528,0⟩,⟨2417851639229258349412352,90,309485009821345068724781056,1⟩,⟨5440166188265831286177792,91,696341272098026404630757376,0⟩,⟨0,92,4,0⟩,⟨19342813113834066795298816,93,2475880078570760549798248448,0⟩,⟨38685626227668133590597632,94,4951760157141521099596496896,1⟩,⟨0,95,8,0⟩,⟨154742504910672534362390528,96,19807040628566084398385987584,0⟩,⟨309485009821345068724781056,97,39614081257132168796771975168,1⟩,⟨696341272098026404630757376,98,89131682828547379792736944128,0⟩,⟨0,99,4,0⟩,⟨2475880078570760549798248448,100,316912650057057350374175801344,0⟩,⟨4951760157141521099596496896,101,633825300114114700748351602688,1⟩,⟨0,102,8,0⟩,⟨19807040628566084398385987584,103,2535301200456458802993406410752,0⟩,⟨39614081257132168796771975168,104,5070602400912917605986812821504,1⟩,⟨89131682828547379792736944128,105,11408855402054064613470328848384,0⟩,⟨159704012623719742814974132752,106,20442113615836127080316688992256,0⟩,⟨0,107,0,0⟩] [0,2,5,7,10,12,15,17,20,23,27,29,32,34,37,39,42,45,49,52,56,58,61,62,65,66,70,71,73,74,77,78,80,81,84,85,87,88,91,92,94,95,99,1,3,6,8,11,13,16,18,21,22,24,25,28,30,33,35,38,40,43,46,50,53,57,59,63,64,67,68,72,75,79,82,86,89,93,96,4,9,14,19,26,31,36,41,60,69,76,83,90,97] (.one 44 (.one 47 (.free 48 (.one 51 (.one 54 (.one 55 (.one 98 .done))))))) 7 [44,47,48,51,54,55] (by kernel_rfl) (by kernel_rfl) (fun _ _ h=>h) fun k hk=>?_;simp only[List.map_cons,List.map_nil,List.getD_cons_zero,List.getD_cons_succ];simp only[id,seval,qb29])
    repeat' (first
      | (with_reducible refine And.intro ?_ ?_)
      | (with_reducible refine hk _ ?_
         clear hk;simp only[Qf,Res.cs];simp only[id,seval,qb30]
         rfl)
      | (refine Qd (bitG F _) rfl (by rintro _ rfl;exact Qh rfl) ?_;rintro r rfl;simp only[id,seval,qb29]))
  simp only[Qf];(repeat refine Qc ?_);refine Sat.block ?_;refine Qo (ι:=Nat) (fun i=>⟨127,[(106,.i .i64 i),(105,.agg 32 (pairR2 x y)),(3,.op 1 blk2 0),(2,.op 0 blk1 0),(4,.i .i64 0)],[.box blk1 62 (Res.cs x),.box blk2 62 (Res.cs y)]⟩)
    (fun i=>i≤16∧cmpL (x.wkeys.drop i) (y.wkeys.drop i)=QL x y) (fun i=>16 - i) 0 ⟨Nat.zero_le _,rfl⟩ (by simp only[id,reduceCtorEq,reduceIte,Nat.reduceMul,Nat.reduceAdd,Nat.reduceLT,Nat.reduceLeDiff,Nat.reduceEqDiff,Int.reduceLT,Int.reduceBEq,Int.reduceBNe,Nat.reduceBEq,Int.reduceToNat,qb30];rfl) ?_
  rintro i ⟨hi,ho⟩;(repeat refine Qc ?_);(refine Qa fun k hk=>?_;simp only[id,seval,qb29];refine hk _ ?_;clear hk k;try show Sat _ _ _ _ _);(repeat refine Qc ?_);refine Qe rfl (fun h=>?_) (fun h=>?_)
  · have h1:i<16:=by simp only[decide_eq_true_eq] at h;omega
    obtain⟨e0,e1⟩:=pair_get2 x y i h1;have e2:IntKind.i64.wrap ((i:Int)+1)=((i+1:Nat):Int):=by rw[w64 (by omega)];omega
    have hl1:i<x.wkeys.length:=by show i<17;omega
    have hl2:i<y.wkeys.length:=by show i<17;omega
    refine Sat.skip ?_;simp only[Qf];(repeat refine Qc ?_);refine Sat.block ?_;(repeat refine Qc ?_);refine Qa fun k hk=>?_;simp only[id,seval,e0,e1,qb29];refine⟨by omega,by omega,fun b4=>?_⟩;(refine hk _ ?_;clear hk k;try show Sat _ _ _ _ _);(repeat refine Qc ?_);(refine Qa fun k hk=>?_;simp only[id,reduceCtorEq,reduceIte,Nat.reduceMul,Nat.reduceAdd,Nat.reduceLT,Nat.reduceLeDiff,Nat.reduceEqDiff,Int.reduceLT,Int.reduceBEq,Int.reduceBNe,Nat.reduceBEq,Int.reduceToNat,qb29]);refine⟨by omega,by omega,?_⟩;(refine hk _ ?_;clear hk k;try show Sat _ _ _ _ _);(repeat refine Qc ?_);refine Qe rfl (fun h2=>?_) (fun h2=>?_)
    · have h3:Zq (x.wkeys.getD i 0) (y.wkeys.getD i 0)≠0:=fun h=>by
        rw[Zz] at h;simp only[bne_iff_ne,ne_eq] at h2;exact h2 h
      (repeat refine Qc ?_);(refine Qa fun k hk=>?_;simp only[id,reduceCtorEq,reduceIte,Nat.reduceMul,Nat.reduceAdd,Nat.reduceLT,Nat.reduceLeDiff,Nat.reduceEqDiff,Int.reduceLT,Int.reduceBEq,Int.reduceBNe,Nat.reduceBEq,Int.reduceToNat,qb29]);refine⟨by omega,by omega,?_⟩;refine Qd (lessG F (x.wkeys.getD i 0) (y.wkeys.getD i 0)) rfl (by rintro _ rfl;exact Qh rfl) ?_;rintro r rfl;simp only[id,seval,qb29];(refine hk _ ?_;clear hk k;try show Sat _ _ _ _ _);refine Sat.ret ?_;simp only[Tryz.results104,id,seval,qb31];rw[← ho,cmpL_drop _ _ i hl1 hl2,if_pos h3]
    · have h3:Zq (x.wkeys.getD i 0) (y.wkeys.getD i 0)=0:=by
        rw[Zz]
        simpa using h2
      refine Sat.skip ?_;simp only[Qf,Qg];refine Qa fun k hk=>?_;simp only[id,seval,e2,qb29];refine hk _ ?_;simp only[Qf,Qg];refine⟨i+1,⟨by omega,?_⟩,by omega,?_⟩
      · rw[← ho,cmpL_drop _ _ i hl1 hl2,if_neg (by rw[h3];decide)]
      · simp only[id,seval,qb30]
  · have h1:i=16:=by simp only[decide_eq_false_iff_not] at h;omega
    subst h1;refine Sat.exit ?_;simp only[Qf,Qg,reduceIte];(repeat refine Qc ?_);simp only[Res.cs];(refine Qa fun k hk=>?_;simp only[id,seval,qb29]);refine Qd (lessG F x.quoted y.quoted) rfl (by rintro _ rfl;exact Qh rfl) ?_;rintro r rfl;simp only[id,seval,qb29];(refine hk _ ?_;clear hk k;try show Sat _ _ _ _ _);refine Sat.ret ?_;simp only[Tryz.results104,id,seval,qb31];rw[← ho,show x.wkeys.drop 16=[x.quoted] from rfl,show y.wkeys.drop 16=[y.quoted] from rfl,Xq];by_cases h:x.quoted=y.quoted
    · rw[if_pos h,Zz.2 h];rfl
    · rw[if_neg h]
end Go.Proofs.YtfeiiadligkamaaGreat
