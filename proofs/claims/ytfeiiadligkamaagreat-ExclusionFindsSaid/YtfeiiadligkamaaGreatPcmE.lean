import Derived.Test.YtfeiiadligkamaaGreatPvdE
import Derived.Test.YtfeiiadligkamaaGreatPk3
set_option linter.unusedSimpArgs false
set_option linter.unusedVariables false
set_option linter.defProp false
namespace Go.Proofs.YtfeiiadligkamaaGreat
open Go.Sort Eng
def qb11:=And.intro @evr (And.intro @Qm (@evn))
def qb12:=And.intro @evr (And.intro @Qm (And.intro @List.append_nil.{0} (And.intro @Int.toNat_zero (@Nat.sub_self))))
set_option maxRecDepth 100000 in
theorem pnumberC (F:Frm) (b:Bool):Contract F Tryz.prog 134 [.b b] (fun r=>r=.i .i64 (b2i b)):=by
  refine Qi Tryz.func134 rfl (by kernel_rfl) ?_;simp only[Tryz.ntmps134,Qt];(repeat refine Qc ?_);(refine Qa fun k hk=>?_;simp only[id,seval,qb11];refine hk _ ?_;clear hk k;try show Sat _ _ _ _ _);(repeat refine Qc ?_);(refine Qa fun k hk=>?_;simp only[id,seval,qb11];refine hk _ ?_;clear hk k;try show Sat _ _ _ _ _);(repeat refine Qc ?_);refine Qe rfl (fun h=>?_) (fun h=>?_)
  · subst h
    (repeat refine Qc ?_);(refine Qa fun k hk=>?_;simp only[id,seval,qb11];refine hk _ ?_;clear hk k;try show Sat _ _ _ _ _);refine Sat.ret ?_;simp only[Tryz.results134,id,seval,qb12];rfl
  · subst h
    refine Sat.skip ?_;simp only[Qf];(repeat refine Qc ?_);(refine Qa fun k hk=>?_;simp only[id,seval,qb11];refine hk _ ?_;clear hk k;try show Sat _ _ _ _ _);refine Sat.ret ?_;simp only[Tryz.results134,id,seval,qb12];rfl
def w64i (n:Int):Int:=IntKind.i64.wrap n
def Res.wkeys (r:Res):List Int:=[r.at_,r.vantage,r.run,r.number,w64i r.dst,r.proto,r.flow,r.ttl,b2i r.answered,b2i r.doubled,r.back,w64i r.from_,r.kind,r.code,r.left,r.id,r.quoted]
def QL (a b:Res):Int:=cmpL a.wkeys b.wkeys
def wLt (a b:Res):Bool:=decide (QL a b<0)
theorem wkeys_in {a:Res} (h1:w64i a.dst=a.dst) (h2:w64i a.from_=a.from_):a.wkeys=a.pkeys:=by unfold Res.wkeys Res.pkeys;rw[h1,h2]
def pairCs (x y:Res):List SV:=[.i .i64 x.at_,.i .i64 y.at_,.i .i64 x.vantage,.i .i64 y.vantage,.i .i64 x.run,.i .i64 y.run,.i .i64 x.number,.i .i64 y.number,.i .i64 (w64i x.dst),.i .i64 (w64i y.dst),.i .i64 x.proto,.i .i64 y.proto,.i .i64 x.flow,.i .i64 y.flow,.i .i64 x.ttl,.i .i64 y.ttl,
  .i .i64 (b2i x.answered),.i .i64 (b2i y.answered),.i .i64 (b2i x.doubled),.i .i64 (b2i y.doubled),.i .i64 x.back,.i .i64 y.back,.i .i64 (w64i x.from_),.i .i64 (w64i y.from_),.i .i64 x.kind,.i .i64 y.kind,.i .i64 x.code,.i .i64 y.code,.i .i64 x.left,.i .i64 y.left,.i .i64 x.id,.i .i64 y.id,.i .i64 x.quoted,.i .i64 y.quoted]
def pairRd (x y:Res):Nat→SV:=fun j=>(pairCs x y).getD j default
theorem pair_get (x y:Res) (i:Nat) (h:i<17):pairRd x y (i * 2)=.i .i64 (x.wkeys.getD i 0)∧pairRd x y (i * 2+1)=.i .i64 (y.wkeys.getD i 0):=by
  rcases (show i=0∨i=1∨i=2∨i=3∨i=4∨i=5∨i=6∨i=7∨i=8∨i=9∨i=10∨i=11∨i=12∨i=13∨i=14∨i=15∨i=16 by omega) with rfl|rfl|rfl|rfl|rfl|rfl|rfl|rfl|rfl|rfl|rfl|rfl|rfl|rfl|rfl|rfl|rfl<;>exact⟨rfl,rfl⟩
theorem cmpL_drop (a b:List Int) (i:Nat) (ha:i<a.length) (hb:i<b.length):cmpL (a.drop i) (b.drop i)=if Zq (a.getD i 0) (b.getD i 0)≠0 then Zq (a.getD i 0) (b.getD i 0) else cmpL (a.drop (i+1)) (b.drop (i+1)):=by
  rw[List.drop_eq_getElem_cons ha,List.drop_eq_getElem_cons hb,Xq];have e1:a.getD i 0=a[i]:=by simp [List.getD,ha]
  have e2:b.getD i 0=b[i]:=by simp [List.getD,hb]
  rw[e1,e2];by_cases h:a[i]=b[i]
  · rw[if_pos h,if_neg (by simp [Zz,h])]
  · rw[if_neg h,if_pos (by simp [Zz,h])]
def qb13:=And.intro @evr (And.intro @Qm (And.intro @evl (@evn)))
set_option maxRecDepth 100000 in
set_option maxHeartbeats 4000000 in
theorem pcompareC (F:Frm) (x y:Res):Contract F Tryz.prog 97 [Q0 x,Q0 y] (fun r=>r=.i .i64 (QL x y)):=by
  refine Qi Tryz.func97 rfl (by kernel_rfl) ?_;simp only[Tryz.ntmps97,Qt,Q0,Res.cs];(repeat refine Qc ?_);(refine Qa fun k hk=>?_;simp only[id,seval,qb11]);intro blk1 blk2;(refine hk _ ?_;clear hk k;try show Sat _ _ _ _ _);(repeat refine Qc ?_);refine QT (ι:=Nat) (fun b=>⟨128,[(5,.op 2 b 0),(4,.i .i64 0)],[.gone,.gone,.box b 175 (pairCs x y)]⟩) (fun _=>True) ?_ ?_
  · simp only[List.append_eq,List.cons_append,List.nil_append]
    (refine Sat.region_bt [⟨0,10,4,0⟩,⟨1,11,512,1⟩,⟨0,12,8,0⟩,⟨4,13,2048,1⟩,⟨10,14,5120,0⟩,⟨0,15,4,0⟩,⟨32,16,16384,1⟩,⟨0,17,8,0⟩,⟨128,18,65536,1⟩,⟨320,19,163840,0⟩,⟨0,20,4,0⟩,⟨1024,21,524288,1⟩,⟨0,22,8,0⟩,⟨4096,23,2097152,1⟩,⟨10240,24,5242880,0⟩,⟨0,25,4,0⟩,⟨32768,26,16777216,1⟩,⟨0,27,8,0⟩,⟨131072,28,67108864,1⟩,⟨327680,29,167772160,0⟩,⟨0,30,4,0⟩,⟨1048576,31,536870912,1⟩,⟨2097152,32,1073741824,1⟩,⟨0,33,8,0⟩,⟨8388608,34,4294967296,1⟩,⟨16777216,35,8589934592,1⟩,⟨37748736,36,19327352832,0⟩,⟨0,37,4,0⟩,⟨134217728,38,68719476736,1⟩,⟨0,39,8,0⟩,⟨536870912,40,274877906944,1⟩,⟨1342177280,41,687194767360,0⟩,⟨0,42,4,0⟩,⟨4294967296,43,2199023255552,1⟩,⟨0,44,8,0⟩,⟨17179869184,45,8796093022208,1⟩,⟨42949672960,46,21990232555520,0⟩,⟨0,47,4,0⟩,⟨137438953472,48,70368744177664,1⟩,⟨0,49,8,0⟩,⟨549755813888,50,281474976710656,1⟩,⟨1374389534720,51,703687441776640,0⟩,⟨0,52,4,0⟩,⟨4398046511104,53,2251799813685248,1⟩,⟨8796093022208,54,4503599627370496,2⟩,⟨0,55,8,0⟩,⟨35184372088832,56,18014398509481984,1⟩,⟨87960930222080,57,36028797018963968,2⟩,⟨158329674399744,58,81064793292668928,0⟩,⟨0,59,4,0⟩,⟨562949953421312,60,288230376151711744,1⟩,⟨1266637395197952,61,576460752303423488,2⟩,⟨0,62,8,0⟩,⟨4503599627370496,63,2305843009213693952,1⟩,⟨11258999068426240,64,4611686018427387904,2⟩,⟨20266198323167232,65,10376293541461622784,0⟩,⟨0,66,4,0⟩,⟨72057594037927936,67,36893488147419103232,1⟩,⟨0,68,8,0⟩,⟨288230376151711744,69,147573952589676412928,1⟩,⟨720575940379279360,70,368934881474191032320,0⟩,⟨0,71,4,0⟩,⟨2305843009213693952,72,1180591620717411303424,0⟩,⟨4611686018427387904,73,2361183241434822606848,1⟩,⟨9223372036854775808,74,4722366482869645213696,1⟩,⟨0,75,8,0⟩,⟨36893488147419103232,76,18889465931478580854784,0⟩,⟨73786976294838206464,77,37778931862957161709568,1⟩,⟨147573952589676412928,78,75557863725914323419136,1⟩,⟨313594649253062377472,79,160560460417567937265664,0⟩,⟨0,80,4,0⟩,⟨1180591620717411303424,81,604462909807314587353088,0⟩,⟨2361183241434822606848,82,1208925819614629174706176,1⟩,⟨0,83,8,0⟩,⟨9444732965739290427392,84,4835703278458516698824704,0⟩,⟨18889465931478580854784,85,9671406556917033397649408,1⟩,⟨42501298345826806923264,86,21760664753063325144711168,0⟩,⟨0,87,4,0⟩,⟨151115727451828646838272,88,77371252455336267181195264,0⟩,⟨302231454903657293676544,89,154742504910672534362390528,1⟩,⟨0,90,8,0⟩,⟨1208925819614629174706176,91,618970019642690137449562112,0⟩,⟨2417851639229258349412352,92,1237940039285380274899124224,1⟩,⟨5440166188265831286177792,93,2785365088392105618523029504,0⟩,⟨0,94,4,0⟩,⟨19342813113834066795298816,95,9903520314283042199192993792,0⟩,⟨38685626227668133590597632,96,19807040628566084398385987584,1⟩,⟨0,97,8,0⟩,⟨154742504910672534362390528,98,79228162514264337593543950336,0⟩,⟨309485009821345068724781056,99,158456325028528675187087900672,1⟩,⟨696341272098026404630757376,100,356526731314189519170947776512,0⟩,⟨0,101,4,0⟩,⟨2475880078570760549798248448,102,1267650600228229401496703205376,0⟩,⟨4951760157141521099596496896,103,2535301200456458802993406410752,1⟩,⟨0,104,8,0⟩,⟨19807040628566084398385987584,105,10141204801825835211973625643008,0⟩,⟨39614081257132168796771975168,106,20282409603651670423947251286016,1⟩,⟨89131682828547379792736944128,107,45635421608216258453881315393536,0⟩,⟨0,108,4,0⟩,⟨316912650057057350374175801344,109,162259276829213363391578010288128,0⟩,⟨633825300114114700748351602688,110,324518553658426726783156020576256,1⟩,⟨0,111,8,0⟩,⟨2535301200456458802993406410752,112,1298074214633706907132624082305024,0⟩,⟨5070602400912917605986812821504,113,2596148429267413814265248164610048,1⟩,⟨11408855402054064613470328848384,114,5841333965851681082096808370372608,0⟩,⟨20442113616275390166762225418768,115,10466362171532999765382259414409216,0⟩,⟨0,6,0,2⟩,⟨162259276829213363391578010288127,0,20769187434139310514121985316880416,2⟩] [0,2,5,7,10,12,15,17,20,23,27,29,32,34,37,39,42,45,49,52,56,58,61,62,65,66,70,71,73,74,77,78,80,81,84,85,87,88,91,92,94,95,98,99,101,102,1,3,6,8,11,13,16,18,21,22,24,25,28,30,33,35,38,40,43,46,50,53,57,59,63,64,67,68,72,75,79,82,86,89,93,96,100,103,4,9,14,19,26,31,36,41,60,69,76,83,90,97,104] (.alt 44 (.alt 47 (.free 48 (.alt 51 (.alt 54 (.free 55 (.free 105 (.one 106 (.one 107 .done)))) (.alt 106 (.one 54 (.one 55 (.one 105 (.one 107 .done)))) .none)) (.alt 106 (.one 51 (.one 54 (.one 55 (.one 105 (.one 107 .done))))) .none))) (.alt 106 (.one 47 (.free 48 (.one 51 (.one 54 (.one 55 (.one 105 (.one 107 .done))))))) .none)) (.alt 106 (.one 44 (.one 47 (.free 48 (.one 51 (.one 54 (.one 55 (.one 105 (.one 107 .done)))))))) .none)) 9 [44,47,48,51,54,55,105,106] (by kernel_rfl) (by kernel_rfl) (fun _ _ h=>h) fun k hk=>?_;simp only[List.map_cons,List.map_nil,List.getD_cons_zero,List.getD_cons_succ];simp only[id,seval,qb11])
    repeat' (first
      | (with_reducible refine And.intro ?_ ?_)
      | (with_reducible intro b3)
      | (with_reducible refine hk _ ?_
         clear hk;simp only[Qf];refine⟨b3,trivial,?_⟩;simp only[pairCs,w64i]
         simp only[id,seval,qb13])
      | (refine Qd (pnumberC F _) rfl (by rintro _ rfl;exact Qh rfl) ?_;rintro r rfl;simp only[id,seval,qb11]))
  rintro b _;simp only[Qf];(repeat refine Qc ?_);refine Qa fun k hk=>?_;simp only[id,seval,pairCs,qb11];(refine hk _ ?_;clear hk k;try show Sat _ _ _ _ _);(repeat refine Qc ?_);refine Sat.block ?_;refine Qo (ι:=Nat) (fun i=>⟨128,[(116,.i .i64 i),(115,.agg 34 (pairRd x y)),(4,.i .i64 0)],[]⟩)
    (fun i=>i≤17∧cmpL (x.wkeys.drop i) (y.wkeys.drop i)=QL x y) (fun i=>17 - i) 0 ⟨Nat.zero_le _,rfl⟩ (by simp only[id,reduceCtorEq,reduceIte,Nat.reduceMul,Nat.reduceAdd,Nat.reduceLT,Nat.reduceLeDiff,Nat.reduceEqDiff,Int.reduceLT,Int.reduceBEq,Int.reduceBNe,Nat.reduceBEq,Int.reduceToNat,qb13];exact⟨rfl,rfl⟩) ?_
  rintro i ⟨hi,ho⟩;(repeat refine Qc ?_);(refine Qa fun k hk=>?_;simp only[id,seval,qb11];refine hk _ ?_;clear hk k;try show Sat _ _ _ _ _);(repeat refine Qc ?_);refine Qe rfl (fun h=>?_) (fun h=>?_)
  · have h1:i<17:=by simp only[decide_eq_true_eq] at h;omega
    obtain⟨e0,e1⟩:=pair_get x y i h1;have e2:IntKind.i64.wrap ((i:Int)+1)=((i+1:Nat):Int):=by rw[w64 (by omega)];omega
    refine Sat.skip ?_;simp only[Qf];(repeat refine Qc ?_);refine Sat.block ?_;(repeat refine Qc ?_);refine Qa fun k hk=>?_;simp only[id,seval,e0,e1,qb11];refine⟨by omega,by omega,fun b4=>?_⟩;(refine hk _ ?_;clear hk k;try show Sat _ _ _ _ _);(repeat refine Qc ?_);(refine Qa fun k hk=>?_;simp only[id,reduceCtorEq,reduceIte,Nat.reduceMul,Nat.reduceAdd,Nat.reduceLT,Nat.reduceLeDiff,Nat.reduceEqDiff,Int.reduceLT,Int.reduceBEq,Int.reduceBNe,Nat.reduceBEq,Int.reduceToNat,qb11]);refine⟨by omega,by omega,?_⟩;refine Qd (cmpC F (x.wkeys.getD i 0) (y.wkeys.getD i 0)) rfl (by rintro _ rfl;exact Qh rfl) ?_;rintro r rfl;simp only[id,seval,qb11];(refine hk _ ?_;clear hk k;try show Sat _ _ _ _ _);(repeat refine Qc ?_);(refine Qa fun k hk=>?_;simp only[id,seval,qb11];refine hk _ ?_;clear hk k;try show Sat _ _ _ _ _);(repeat refine Qc ?_);refine Qe rfl (fun h2=>?_) (fun h2=>?_)
    · simp only[bne_iff_ne,ne_eq] at h2
      (repeat refine Qc ?_);(refine Qa fun k hk=>?_;simp only[id,seval,qb11];refine hk _ ?_;clear hk k;try show Sat _ _ _ _ _);refine Sat.ret ?_;simp only[Tryz.results97,id,seval,qb12];rw[← ho,cmpL_drop _ _ i (by exact h1) (by exact h1),if_pos h2]
    · simp only[bne_eq_false_iff_eq] at h2
      refine Sat.skip ?_;simp only[Qf,Qg];refine Qa fun k hk=>?_;simp only[id,seval,e2,qb11];refine hk _ ?_;simp only[Qf,Qg];refine⟨i+1,⟨by omega,?_⟩,by omega,?_⟩
      · rw[← ho,cmpL_drop _ _ i (by exact h1) (by exact h1),if_neg (by simp only[h2];decide)]
      · simp only[id,seval,qb13]
  · have h1:¬ i<17:=by simp only[decide_eq_false_iff_not] at h;omega
    refine Sat.exit ?_;simp only[Qf,Qg,reduceIte];(repeat refine Qc ?_);(refine Qa fun k hk=>?_;simp only[id,seval,qb11];refine hk _ ?_;clear hk k;try show Sat _ _ _ _ _);refine Sat.ret ?_;simp only[Tryz.results97,id,seval,qb12];rw[← ho,List.drop_eq_nil_of_le (show x.wkeys.length≤i from by show 17≤i;omega)];rfl
theorem pcompareCmp:resCmp 97 wLt:=fun x y=>⟨QL x y,rfl,fun F=>pcompareC F x y⟩
theorem wLt_irrefl (x:Res):wLt x x=false:=by
  unfold wLt QL;rw[Xp];rfl
theorem wLt_trans (x y z:Res) (h:wLt x y=true) (k:wLt y z=true):wLt x z=true:=by
  unfold wLt at *;simp only[decide_eq_true_eq] at *;exact ZO x.wkeys y.wkeys z.wkeys rfl rfl h k
theorem wLt_swo:SWO wLt:=by
  refine⟨wLt_irrefl,wLt_trans,fun x y z h k=>?_⟩;cases hz:wLt x z with
  | false=>rfl
  | true=>
    unfold wLt at *;simp only[decide_eq_true_eq,decide_eq_false_iff_not] at *;rcases cmpL_vals x.wkeys y.wkeys with h1|h1|h1
    · exact absurd (by unfold QL;omega) h
    · have e:=(Xo x.wkeys y.wkeys rfl).1 h1
      unfold QL at hz k;rw[e] at hz;exact absurd hz k
    · have h2:QL y x<0:=by unfold QL;rw[cmpL_neg];omega
      exact absurd (ZO y.wkeys x.wkeys z.wkeys rfl rfl h2 hz) k
theorem wLt_in {a b:Res} (h1:w64i a.dst=a.dst) (h2:w64i a.from_=a.from_) (h3:w64i b.dst=b.dst) (h4:w64i b.from_=b.from_):wLt a b=Xb a b:=by
  unfold wLt Xb QL ZY;rw[wkeys_in h1 h2,wkeys_in h3 h4]
end Go.Proofs.YtfeiiadligkamaaGreat
