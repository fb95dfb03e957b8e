import Derived.Test.YtabgkfjfmjdfiaaGreatDoorPk5
import Derived.Test.YtabgkfjfmjdfiaaGreatDoorShelf
import Derived.Shelf.Strings.SlTrimAscii
import Derived.Lib.SlTrimSet
import Derived.Lib.AppendIntMem
import Derived.Test.YtabgkfjfmjdfiaaGreatDoorPk4
import Derived.Test.YtabgkfjfmjdfiaaGreatDoorNxA
import Derived.Test.YtabgkfjfmjdfiaaGreatDoorAddE
import Derived.Test.YtabgkfjfmjdfiaaGreatDoorCodesR
import Derived.Test.YtabgkfjfmjdfiaaGreatDoorDrwB
import Derived.Test.YtabgkfjfmjdfiaaGreatDoorFldE
import Derived.Test.YtabgkfjfmjdfiaaGreatDoorWalkE
import Derived.Test.YtabgkfjfmjdfiaaGreatDoorNfB
namespace Go.Proofs.YtabgkfjfmjdfiaaGreatDoor
set_option linter.unusedSimpArgs false
set_option linter.unusedVariables false
set_option linter.defProp false
section
namespace Tq
open Go.RowKit Eng
def mkB (l:List UInt8):ByteArray:=⟨l.toArray⟩
abbrev sB (l:List UInt8):SV:=.v (.string (mkB l))
theorem Qn (l:List UInt8):(mkB l).size=l.length:=by simp [mkB,ByteArray.size]
theorem mkB_list (l:List UInt8):(mkB l).data.toList=l:=rfl
theorem mkB_inj {a b:ByteArray} (h:a.data.toList=b.data.toList):a=b:=WideShapes.bytes_inj h
theorem Qu (l m:List UInt8):mkB l ++ mkB m=mkB (l ++ m):=mkB_inj (by simp [mkB,ByteArray.data_append])
def TxT (w:World):Prop:=Lib.TabIs Tryz.prog w "internal/strconv.uint64pow10" .u64 Lib.pow10Tab
theorem tx_low:LowFact (1+1) TxT:=tab_low (g:=1) (by kernel_rfl) (by decide)
abbrev FrA:Frm:=Frm.tab (1+1) TxT tx_low
theorem ofCallsT {P:Program} {f:FuncId} {fn:Func} {c:Code} {args:List SV} {post:SV→Prop} {N:Nat} {T:World→Prop} {hT:LowFact N T} (hf:P.funcs[f]? = some fn) (hb:fn.body=some c) (hname:(fn.name == "runtime.NumGoroutine")=false)
    (h:∀ (R:Nat→Prop) (w:World),T w→(∀ s∈args,s.ok R w)→(∀ b,R b→b<w.heap.size)→Calls P f (args.map SV.den).toArray w fun e w'=>∃ r,e=.returned r.den∧post r∧r.ok (fun b=>R b∨(w.heap.size≤b∧b<w'.heap.size)) w'∧Below w.heap.size w w') :
    Contract (Frm.tab N T hT) P f args post:=by
  refine⟨fun vs w=>?_,fun R w hinv hargs hR=>?_⟩
  · have hn:¬ fn.name = "runtime.NumGoroutine" := by simpa using hname
    simp [callFunc,hf,hn,hb]
  · refine (h R w hinv.2 hargs fun b hb=>(hR b hb).1).mono ?_
    rintro e w' ⟨r,he,hp,hok,hbel⟩;exact⟨r,he,hp,hok,⟨hbel.os,hbel.tape,hbel.output,hbel.size,fun b hb _=>hbel.block b hb⟩,(Frm.tab N T hT).stab w w' w.heap.size hinv (fun b hm=>(Frm.tab N T hT).lt w b hinv hm) fun b hb=>hbel.block b hb⟩
theorem itoaC (n:Int) (h0:-9223372036854775808≤n) (h1:n≤9223372036854775807):Contract FrA Tryz.prog 83 [.i .i64 n] (fun r=>r=sB (Lib.itoa n)):=by
  refine ofCallsT Tryz.func83 rfl (by kernel_rfl) fun R w hT hs hR=>?_;refine (Tryz.strconv_Itoa n h0 h1 w hT).mono ?_;rintro e w' ⟨rfl,k,os,rfl⟩;refine⟨_,rfl,rfl,trivial,?_⟩;exact Lib.below_grow _ _ (Nat.le_refl _) _ _
theorem repeatC (F:Frm) (l:List UInt8) (c:Nat) (hc:c≤1000) (hl:l.length≤1000):Contract F Tryz.prog 84 [sB l,.i .i64 c] (fun r=>r=sB (Lib.repeatL l c)):=by
  refine Zl Tryz.func84 rfl (by kernel_rfl) fun R w hs hR=>?_;have hm:l.length * c≤1000 * 1000:=Nat.mul_le_mul hl hc;refine (Tryz.strings_Repeat (mkB l) c w (by omega) (by rw[Qn];omega)).mono ?_;rintro e w' ⟨rfl,hb⟩;exact⟨_,rfl,rfl,trivial,hb⟩
theorem joinC (F:Frm) {a:Option Addr} {len cap:Nat} {rd:Nat→Nat→SV} (xs:List ByteArray) (sep:ByteArray) (hl:xs.length=len) (hrd:∀ (j:Nat) x,xs[j]? = some x→rd j 0=.v (.string x)) (h0:0<len) (hN:len≤140737488355328) (hlen:(Lib.join (xs.map (·.data.toList)) sep.data.toList).length≤140737488355328) :
    Contract F Tryz.prog 86 [.sl a len cap 1 rd,.v (.string sep)] (fun r=>r=.v (.string ⟨(Lib.join (xs.map (·.data.toList)) sep.data.toList).toArray⟩)):=by
  subst hl;refine Zl Tryz.func86 rfl (by kernel_rfl) fun R w hs hR=>?_;obtain⟨h1,h2,h3⟩:=hs _ List.mem_cons_self;rcases h3 with h3|⟨blk,off,rfl,hr,hc⟩
  · omega
  refine (Tryz.strings_Join blk off cap xs sep w (fun j x hx=>?_) (hR _ hr) hN h1 hlen).mono ?_
  · have hj:j<xs.length:=(List.getElem?_eq_some_iff.1 hx).1
    have h9:=(hc j 0 hj (by decide)).1;rw[hrd j x hx,Nat.mul_one,Nat.add_zero] at h9;exact h9
  · rintro e w' ⟨rfl,hb⟩
    exact⟨_,rfl,rfl,trivial,hb⟩
def digSet:List UInt8:=[48,49,50,51,52,53,54,55,56,57]
theorem trimC (F:Frm) (l:List UInt8) (hl:l.length≤140737488355328):Contract F Tryz.prog 90 [sB l,sB digSet] (fun r=>r=sB (Lib.trimS l digSet)):=by
  refine Zl Tryz.func90 rfl (by kernel_rfl) fun R w hs hR=>?_;refine (Any.strings_Trim_laid Tryz.lays160 (by kernel_rfl) (mkB l) (mkB digSet) w (by rw[Qn];omega) (by decide) (ascii_of_all (by decide))).mono ?_;rintro e w' ⟨rfl,hb⟩;exact⟨_,rfl,rfl,trivial,hb⟩
def strRd (xs:List (List UInt8)):Nat→Nat→SV:=fun i _=>sB (xs.getD i [])
theorem getD_setS {xs:List (List UInt8)} (i j:Nat) (v:List UInt8) (h:i<xs.length):(xs.set i v).getD j []=if i=j then v else xs.getD j []:=by
  simp only[List.getD,List.getElem?_set];by_cases e:i=j
  · subst e;simp [h]
  · simp [e]
theorem str_set2 {ys:List (List UInt8)} {n i j:Nat} {u v:List UInt8} (hi:i<ys.length) (hj:j<ys.length):rdEq n 1 (rdSet (rdSet (strRd ys) i 0 [sB u]) j 0 [sB v]) (strRd ((ys.set i u).set j v)):=by
  intro p q hp hq;obtain rfl:q=0:=by omega
  have e:strRd ((ys.set i u).set j v) p 0=sB (if j=p then v else if i=p then u else ys.getD p []):=by
    unfold strRd;rw[getD_setS _ _ _ (by rw[List.length_set];exact hj),getD_setS _ _ _ hi]
  rw[e];unfold rdSet;by_cases h1:p=j
  · subst h1;simp
  · by_cases h2:p=i
    · subst h2;simp [h1,Ne.symm h1]
    · simp [h1,h2,Ne.symm h1,Ne.symm h2,strRd]
theorem str_0 (xs:List (List UInt8)) (i:Nat):strRd xs i 0=sB (xs.getD i []):=rfl
structure RevInv (xs:List (List UInt8)) (i:Nat) (ys:List (List UInt8)):Prop where
  len:ys.length=xs.length
  at_:∀ j,j<xs.length→ys.getD j []=if j<i∨xs.length - 1 - j<i then xs.getD (xs.length - 1 - j) [] else xs.getD j []
theorem RevInv.step {xs ys:List (List UInt8)} {i:Nat} (h:RevInv xs i ys) (hi:i<xs.length - 1 - i):RevInv xs (i+1) ((ys.set i (ys.getD (xs.length - 1 - i) [])).set (xs.length - 1 - i) (ys.getD i [])):=by
  have hl:=h.len;refine⟨by rw[List.length_set,List.length_set];exact h.len,fun j hj=>?_⟩;rw[getD_setS _ _ _ (by rw[List.length_set];omega),getD_setS _ _ _ (by omega)];by_cases h1:xs.length - 1 - i=j
  · rw[if_pos h1,h.at_ i (by omega),if_neg (by omega),if_pos (by omega)]
    congr 1
    omega
  · rw[if_neg h1]
    by_cases h2:i=j
    · subst h2
      rw[if_pos rfl,h.at_ _ (by omega),if_neg (by omega),if_pos (by omega)]
    · rw[if_neg h2,h.at_ j hj]
      by_cases h3:j<i∨xs.length - 1 - j<i
      · rw[if_pos h3,if_pos (by omega)]
      · rw[if_neg h3,if_neg (by omega)]
theorem RevInv.done {xs ys:List (List UInt8)} {i:Nat} (h:RevInv xs i ys) (hi:¬ (i:Int)<(xs.length:Int) - 1 - i):ys=xs.reverse:=by
  have hl:=h.len;apply List.ext_getElem?;intro j;by_cases hj:j<xs.length
  · have:=h.at_ j hj
    rw[List.getElem?_reverse hj];have e1:ys[j]? = some (ys.getD j []):=by simp [List.getD,show j<ys.length by omega]
    have e2:xs[xs.length - 1 - j]? = some (xs.getD (xs.length - 1 - j) []):=by simp [List.getD,show xs.length - 1 - j<xs.length by omega]
    rw[e1,e2,this];split
    · rfl
    · congr 2;omega
  · rw[List.getElem?_eq_none (by omega),List.getElem?_eq_none (by rw[List.length_reverse];omega)]
def qb45:=And.intro @evr (And.intro @str_0 (@evn))
set_option maxRecDepth 100000 in
theorem reverseC (F:Frm) (a:Option Addr) (cap:Nat) (xs:List (List UInt8)) (hl:xs.length≤100000):ContractM F Tryz.prog 85 [.os 0 a xs.length cap] (.row a 9 xs.length cap 1 (strRd xs)) (fun r o1=>r=QW []∧o1=.row a 9 xs.length cap 1 (strRd xs.reverse)):=by
  refine contractM_of Tryz.func85 rfl (by kernel_rfl) (by rintro r o1 ⟨rfl,rfl⟩;cases a<;>rfl) ?_;simp only[Tryz.ntmps85,Qm];have e0:IntKind.i64.wrap ((xs.length:Int) - 1)=(xs.length:Int) - 1 - ((0:Nat):Int):=by rw[w64 (by omega)];omega
  (repeat refine Qb ?_);refine Qa fun k hk=>?_;simp -implicitDefEqProofs only[id,reduceCtorEq,reduceIte,Nat.reduceMul,Nat.reduceAdd,Nat.reduceLT,Nat.reduceLeDiff,Nat.reduceEqDiff,Int.reduceLT,Int.reduceBEq,Int.reduceBNe,Nat.reduceBEq,e0,qb45];(refine hk _ ?_;clear hk k;try show Sat _ _ _ _ _);refine Sat.block ?_;(repeat refine Qb ?_);refine Sat.loop (ι:=Nat×List (List UInt8)) (fun x=>⟨28,[(2,.i .i64 x.1),(3,.i .i64 ((xs.length:Int) - 1 - (x.1:Nat))),(0,.os 0 a xs.length cap)],[.row a 9 xs.length cap 1 (strRd x.2)]⟩) (fun x=>RevInv xs x.1 x.2) (fun x=>xs.length - x.1) (0,xs) ⟨rfl,fun j hj=>by rw[if_neg (by omega)]⟩ (by simp -implicitDefEqProofs only[id,reduceCtorEq,reduceIte,Nat.reduceMul,Nat.reduceAdd,Nat.reduceLT,Nat.reduceLeDiff,Nat.reduceEqDiff,Int.reduceLT,Int.reduceBEq,Int.reduceBNe,Nat.reduceBEq,evl,qb45];repeat' (first|rfl|(refine And.intro ?_ ?_))) ?_;rintro⟨i,ys⟩ hinv;simp only at hinv ⊢;have hlen:=hinv.len;(repeat refine Qb ?_);(refine Qa fun k hk=>?_;simp -implicitDefEqProofs only[id,reduceCtorEq,reduceIte,Nat.reduceMul,Nat.reduceAdd,Nat.reduceLT,Nat.reduceLeDiff,Nat.reduceEqDiff,Int.reduceLT,Int.reduceBEq,Int.reduceBNe,Nat.reduceBEq,qb45];refine hk _ ?_;clear hk k;try show Sat _ _ _ _ _);(repeat refine Qb ?_);refine Qd rfl (fun h=>?_) (fun h=>?_)
  · have h1:i<xs.length - 1 - i:=by have:=of_decide_eq_true h;omega
    clear h;have hj:(xs.length:Int) - 1 - (i:Nat)=((xs.length - 1 - i:Nat):Int):=by omega
    have e1:IntKind.i64.wrap ((i:Int)+1)=((i+1:Nat):Int):=by rw[w64 (by omega)];omega
    have e2:IntKind.i64.wrap (((xs.length - 1 - i:Nat):Int) - 1)=(xs.length:Int) - 1 - ((i+1:Nat):Int):=by rw[w64 (by omega)];omega
    have hnew:=hinv.step h1;refine Sat.skip ?_;simp only[Qg,hj];(repeat refine Qb ?_);refine Sat.block ?_;(repeat refine Qb ?_);(refine QD [⟨0,15,1,0⟩,⟨0,16,4,0⟩,⟨0,17,1,0⟩,⟨0,18,8,0⟩,⟨0,19,1,0⟩,⟨0,20,8,0⟩,⟨48,21,786432,0⟩,⟨64,22,1048576,1⟩,⟨0,23,1,0⟩,⟨0,24,4,0⟩,⟨768,25,12582912,0⟩,⟨1024,26,16777216,1⟩,⟨2291,27,49152,0⟩,⟨6387,0,69206016,2⟩,⟨16383,28,196608,0⟩,⟨32767,0,167772160,2⟩] [0,1,2,3,4,5,6,8,9,10,7,11,12] [(13,false),(14,false),(15,false)] [] (by kernel_rfl) (by kernel_rfl) (fun _ _ h=>h) fun k hk=>?_;simp only[List.map_cons,List.map_nil,List.getD_cons_zero,List.getD_cons_succ,Q0,QZ,Zb];simp -implicitDefEqProofs only[id,reduceCtorEq,reduceIte,Nat.reduceMul,Nat.reduceAdd,Nat.reduceLT,Nat.reduceLeDiff,Nat.reduceEqDiff,Int.reduceLT,Int.reduceBEq,Int.reduceBNe,Nat.reduceBEq,qb45]);refine⟨by omega,by omega,by omega,by omega,by omega,by omega,by omega,by omega,?_⟩;(refine hk _ ?_;clear hk k;try show Sat _ _ _ _ _);try simp only[Qg,Qk]
    refine Qa fun k hk=>?_;simp -implicitDefEqProofs only[id,reduceCtorEq,reduceIte,Nat.reduceMul,Nat.reduceAdd,Nat.reduceLT,Nat.reduceLeDiff,Nat.reduceEqDiff,Int.reduceLT,Int.reduceBEq,Int.reduceBNe,Nat.reduceBEq,e1,e2,qb45];refine hk _ ?_;simp only[Qg,Qk];refine⟨(i+1,_),hnew,by show _ - (i+1)<_ - i;omega,?_⟩;have es:=str_set2 (ys:=ys) (n:=xs.length) (i:=i) (j:=xs.length - 1 - i) (u:=ys.getD (xs.length - 1 - i) []) (v:=ys.getD i []) (by omega) (by omega);simp -implicitDefEqProofs only[id,reduceCtorEq,reduceIte,Nat.reduceMul,Nat.reduceAdd,Nat.reduceLT,Nat.reduceLeDiff,Nat.reduceEqDiff,Int.reduceLT,Int.reduceBEq,Int.reduceBNe,Nat.reduceBEq,evl,qb45]
    repeat' (first|exact es|rfl|(refine And.intro ?_ ?_))
  · obtain rfl:=hinv.done (of_decide_eq_false h)
    refine Sat.exit ?_;simp only[Qg,Qk,reduceIte];simp only[retM,retMK,Tryz.results85,evr,id,seval,List.append_nil,Int.toNat_zero,Nat.sub_self,str_0];exact⟨_,_,rfl,rfl⟩
end Tq
end

section
namespace Tq
open Eng Lmb Go.RowKit
theorem itoa_nat (n:Nat):Lib.itoa (n:Int)=Lib.decDigits n:=by unfold Lib.itoa;rw[if_neg (by omega)];rfl
theorem cat_ok {x y:ByteArray} (h:x.size+y.size≤1000000):(((x.size+y.size:Nat):Int)≤IntKind.i64.max)=True:=by
  apply eq_true
  have:IntKind.i64.max=9223372036854775807:=rfl
  omega
theorem str_app (xs:List (List UInt8)) (x:List UInt8):rdEq (xs.length+1) 1 (Q3 xs.length (strRd xs) (rdL [sB x] 1)) (strRd (xs ++ [x])):=by
  intro i j hi hj;obtain rfl:j=0:=by omega
  unfold Q3 strRd;split
  · rename_i h
    simp [List.getD,List.getElem?_append_left h]
  · rename_i h
    have e:i=xs.length:=by omega
    subst e;simp [List.getD,rdL]
def qb46:=And.intro @evr (And.intro @str_0 (@evn))
def qb47:=And.intro @evr (And.intro @List.append_nil.{0} (And.intro @Int.toNat_zero (And.intro @Nat.sub_self (@str_0))))
def qb48:=And.intro @evr (And.intro @str_0 (And.intro @evl (@evn)))
set_option maxHeartbeats 1000000 in
set_option maxRecDepth 100000 in
theorem textC {s:SV} {n:Nat} (hs:Nats s n) (hn:n<2 ^ 7680) (h256:(n:Int)<pw 256):Contract FrA Tryz.prog 22 [s] (fun r=>r=sB (Lib.decDigits n)):=by
  have hs1:=hs;obtain⟨a1,c1,z1,r1,x1,rfl,_⟩:=hs;have hl:=hs1.len;have hl0:=hs1.len0;refine Qf Tryz.func22 rfl (by kernel_rfl) ?_;simp only[Tryz.ntmps22,Qm];(repeat refine Qb ?_);(refine Qa fun k hk=>?_;simp -implicitDefEqProofs only[id,reduceCtorEq,reduceIte,Nat.reduceMul,Nat.reduceAdd,Nat.reduceLT,Nat.reduceLeDiff,Nat.reduceEqDiff,Int.reduceLT,Int.reduceBEq,Int.reduceBNe,Nat.reduceBEq,qb46];refine hk _ ?_;clear hk k;try show Sat _ _ _ _ _);(repeat refine Qb ?_);(refine Qa fun k hk=>?_;simp -implicitDefEqProofs only[id,reduceCtorEq,reduceIte,Nat.reduceMul,Nat.reduceAdd,Nat.reduceLT,Nat.reduceLeDiff,Nat.reduceEqDiff,Int.reduceLT,Int.reduceBEq,Int.reduceBNe,Nat.reduceBEq,qb46];refine hk _ ?_;clear hk k;try show Sat _ _ _ _ _);refine Qd rfl (fun h=>?_) (fun h=>?_)
  · rw[hl0] at h
    have h0:n=0:=of_decide_eq_true h;(repeat refine Qb ?_);(refine Qa fun k hk=>?_;simp -implicitDefEqProofs only[id,reduceCtorEq,reduceIte,Nat.reduceMul,Nat.reduceAdd,Nat.reduceLT,Nat.reduceLeDiff,Nat.reduceEqDiff,Int.reduceLT,Int.reduceBEq,Int.reduceBNe,Nat.reduceBEq,qb46];refine hk _ ?_;clear hk k;try show Sat _ _ _ _ _);refine Sat.ret ?_;simp only[Tryz.results22,id,seval,qb47];rw[h0,Za (by decide)];rfl
  have hn0:0<n:=by
    rw[hl0] at h;have:=of_decide_eq_false h;omega
  clear h;refine Sat.skip ?_;simp only[Qg];(repeat refine Qb ?_);(refine Qa fun k hk=>?_;simp -implicitDefEqProofs only[id,reduceCtorEq,reduceIte,Nat.reduceMul,Nat.reduceAdd,Nat.reduceLT,Nat.reduceLeDiff,Nat.reduceEqDiff,Int.reduceLT,Int.reduceBEq,Int.reduceBNe,Nat.reduceBEq,qb46];refine hk _ ?_;clear hk k;try show Sat _ _ _ _ _);(repeat refine Qb ?_);(refine Qa fun k hk=>?_;simp -implicitDefEqProofs only[id,reduceCtorEq,reduceIte,Nat.reduceMul,Nat.reduceAdd,Nat.reduceLT,Nat.reduceLeDiff,Nat.reduceEqDiff,Int.reduceLT,Int.reduceBEq,Int.reduceBNe,Nat.reduceBEq,qb46];refine hk _ ?_;clear hk k;try show Sat _ _ _ _ _);(repeat refine Qb ?_);refine Sat.block ?_;refine Zr 3 9 1 (strRd []) rfl ?_;refine Sat.loop (ι:=Nat×SV×Option Addr×Nat×List (List UInt8)) (fun x=>⟨38,[(4,x.2.1),(3,.os 0 x.2.2.1 x.2.2.2.2.length x.2.2.2.1)],[.row x.2.2.1 9 x.2.2.2.2.length x.2.2.2.1 1 (strRd x.2.2.2.2)]⟩)
    (fun x=>Nats x.2.1 x.1∧(x.1:Int)<pw 256∧TextInv n x.1 x.2.2.2.2∧x.2.2.2.2.length≤7680) (fun x=>x.1) (n,.sl a1 x1.length c1 z1 r1,none,0,[]) ⟨hs1,h256,TextInv.start hn0,Nat.zero_le _⟩ (by simp -implicitDefEqProofs only[id,reduceCtorEq,reduceIte,Nat.reduceMul,Nat.reduceAdd,Nat.reduceLT,Nat.reduceLeDiff,Nat.reduceEqDiff,Int.reduceLT,Int.reduceBEq,Int.reduceBNe,Nat.reduceBEq,qb48]) ?_
  rintro⟨r,sr,a,cap,parts⟩ ⟨hr,hr256,hinv,hpl⟩;simp only at hr hr256 hinv hpl ⊢;have hr1:=hr;obtain⟨a2,c2,z2,r2,x2,rfl,_⟩:=hr;have hl2:=hr1.len;(repeat refine Qb ?_);(refine Qa fun k hk=>?_;simp -implicitDefEqProofs only[id,reduceCtorEq,reduceIte,Nat.reduceMul,Nat.reduceAdd,Nat.reduceLT,Nat.reduceLeDiff,Nat.reduceEqDiff,Int.reduceLT,Int.reduceBEq,Int.reduceBNe,Nat.reduceBEq,qb46];refine hk _ ?_;clear hk k;try show Sat _ _ _ _ _);(repeat refine Qb ?_);refine Qd rfl (fun h=>?_) (fun h=>?_)
  · have hr0:0<r:=by
      have h9:=of_decide_eq_true h;rw[hl2] at h9;exact h9
    clear h;have hstep:=hinv.step hr0;have hplt:=hinv.len hr0 hn;have hmod:r % 1000000000<10 ^ (8+1):=Nat.mod_lt _ (by decide);obtain⟨hd9,_⟩:=pad_dec 8 _ hmod;have e9:IntKind.i64.wrap (9 - ((Lib.decDigits (r % 1000000000)).length:Int))=((9 - (Lib.decDigits (r % 1000000000)).length:Nat):Int):=by rw[w64 (by omega)];omega
    have itC:=itoaC ((r % 1000000000:Nat):Int) (by omega) (by omega);rw[itoa_nat] at itC;have rpC:=repeatC FrA [48] (9 - (Lib.decDigits (r % 1000000000)).length) (by omega) (by decide);have rlen:=Lib.repeatL_length [48] (9 - (Lib.decDigits (r % 1000000000)).length);have ct:((((mkB (Lib.repeatL [48] (9 - (Lib.decDigits (r % 1000000000)).length))).size+(mkB (Lib.decDigits (r % 1000000000))).size:Nat):Int)≤IntKind.i64.max)=True:=cat_ok (by rw[Qn,Qn,rlen];simp;omega);refine Sat.skip ?_;simp only[Qg];(repeat refine Qb ?_);refine Sat.block ?_;(repeat refine Qb ?_);(refine Qa fun k hk=>?_;simp -implicitDefEqProofs only[id,reduceCtorEq,reduceIte,Nat.reduceMul,Nat.reduceAdd,Nat.reduceLT,Nat.reduceLeDiff,Nat.reduceEqDiff,Int.reduceLT,Int.reduceBEq,Int.reduceBNe,Nat.reduceBEq,qb46];refine hk _ ?_;clear hk k;try show Sat _ _ _ _ _);(repeat refine Qb ?_);(refine Qa fun k hk=>?_;simp -implicitDefEqProofs only[id,reduceCtorEq,reduceIte,Nat.reduceMul,Nat.reduceAdd,Nat.reduceLT,Nat.reduceLeDiff,Nat.reduceEqDiff,Int.reduceLT,Int.reduceBEq,Int.reduceBNe,Nat.reduceBEq,qb46]);refine Qc (smallC FrA 1000000000 hr1 hr256 (by decide) (by decide)) rfl (by simp -implicitDefEqProofs only[id,reduceCtorEq,reduceIte,Nat.reduceMul,Nat.reduceAdd,Nat.reduceLT,Nat.reduceLeDiff,Nat.reduceEqDiff,Int.reduceLT,Int.reduceBEq,Int.reduceBNe,Nat.reduceBEq,qb46];rfl) ?_;rintro rr ⟨s3,rfl,hs3⟩;have hs2:=hs3;obtain⟨a3,c3,z3,r3,x3,rfl,_⟩:=hs3;have hl3:=hs2.len;simp -implicitDefEqProofs only[id,reduceCtorEq,reduceIte,Nat.reduceMul,Nat.reduceAdd,Nat.reduceLT,Nat.reduceLeDiff,Nat.reduceEqDiff,Int.reduceLT,Int.reduceBEq,Int.reduceBNe,Nat.reduceBEq,qb46];(refine hk _ ?_;clear hk k;try show Sat _ _ _ _ _);(repeat refine Qb ?_);(refine Qa fun k hk=>?_;simp -implicitDefEqProofs only[id,reduceCtorEq,reduceIte,Nat.reduceMul,Nat.reduceAdd,Nat.reduceLT,Nat.reduceLeDiff,Nat.reduceEqDiff,Int.reduceLT,Int.reduceBEq,Int.reduceBNe,Nat.reduceBEq,qb46]);refine Qe itC rfl (by rintro _ rfl;exact Qi rfl) ?_;rintro rr rfl;simp -implicitDefEqProofs only[id,reduceCtorEq,reduceIte,Nat.reduceMul,Nat.reduceAdd,Nat.reduceLT,Nat.reduceLeDiff,Nat.reduceEqDiff,Int.reduceLT,Int.reduceBEq,Int.reduceBNe,Nat.reduceBEq,qb46];(refine hk _ ?_;clear hk k;try show Sat _ _ _ _ _);(repeat refine Qb ?_);(refine Qa fun k hk=>?_;simp -implicitDefEqProofs only[id,reduceCtorEq,reduceIte,Nat.reduceMul,Nat.reduceAdd,Nat.reduceLT,Nat.reduceLeDiff,Nat.reduceEqDiff,Int.reduceLT,Int.reduceBEq,Int.reduceBNe,Nat.reduceBEq,qb46];refine hk _ ?_;clear hk k;try show Sat _ _ _ _ _);refine Sat.join (fun _:Unit=>⟨38,[(6,sB (chunk r)),(4,.sl a3 x3.length c3 z3 r3),(3,.os 0 a parts.length cap)],[.row a 9 parts.length cap 1 (strRd parts)]⟩) (fun _=>True) ?_ (fun _ _=>?_)
    · refine Qd rfl (fun h=>?_) (fun h=>?_)
      · have h9:=of_decide_eq_true h
        rw[hl3] at h9;have ec:chunk r=Lib.repeatL [48] (9 - (Lib.decDigits (r % 1000000000)).length) ++ Lib.decDigits (r % 1000000000):=by unfold chunk;rw[if_pos h9]
        refine Qa fun k hk=>?_;simp -implicitDefEqProofs only[id,reduceCtorEq,reduceIte,Nat.reduceMul,Nat.reduceAdd,Nat.reduceLT,Nat.reduceLeDiff,Nat.reduceEqDiff,Int.reduceLT,Int.reduceBEq,Int.reduceBNe,Nat.reduceBEq,Qn,e9,qb46];refine Qe rpC rfl (by rintro _ rfl;exact Qi rfl) ?_;rintro rr rfl;simp -implicitDefEqProofs only[id,reduceCtorEq,reduceIte,Nat.reduceMul,Nat.reduceAdd,Nat.reduceLT,Nat.reduceLeDiff,Nat.reduceEqDiff,Int.reduceLT,Int.reduceBEq,Int.reduceBNe,Nat.reduceBEq,ct,qb46];simp only[Qu];refine hk _ ?_;simp only[Qg];refine⟨(),trivial,?_⟩;rw[ec];simp -implicitDefEqProofs only[id,reduceCtorEq,reduceIte,Nat.reduceMul,Nat.reduceAdd,Nat.reduceLT,Nat.reduceLeDiff,Nat.reduceEqDiff,Int.reduceLT,Int.reduceBEq,Int.reduceBNe,Nat.reduceBEq,qb48]
        repeat' (first|rfl|(refine And.intro ?_ ?_))
      · have h9:=of_decide_eq_false h
        rw[hl3] at h9;have ec:chunk r=Lib.decDigits (r % 1000000000):=by unfold chunk;rw[if_neg h9]
        refine Sat.skip ?_;simp only[Qg];refine⟨(),trivial,?_⟩;rw[ec];simp -implicitDefEqProofs only[id,reduceCtorEq,reduceIte,Nat.reduceMul,Nat.reduceAdd,Nat.reduceLT,Nat.reduceLeDiff,Nat.reduceEqDiff,Int.reduceLT,Int.reduceBEq,Int.reduceBNe,Nat.reduceBEq,qb48]
        repeat' (first|rfl|(refine And.intro ?_ ?_))
    · refine Qa fun k hk=>?_
      simp -implicitDefEqProofs only[id,reduceCtorEq,reduceIte,Nat.reduceMul,Nat.reduceAdd,Nat.reduceLT,Nat.reduceLeDiff,Nat.reduceEqDiff,Int.reduceLT,Int.reduceBEq,Int.reduceBNe,Nat.reduceBEq,qb46];intro blk;refine⟨⟨by unfold maxLen;omega,by omega⟩,fun a4 cap4=>?_⟩;refine hk _ ?_;simp only[Qg,Qk];refine⟨(r / 1000000000,_,a4,cap4,parts ++ [chunk r]),⟨hs2,by omega,hstep,by simp;omega⟩,by show r / 1000000000<r;omega,?_⟩;have ea:=str_app parts (chunk r);simp only[List.length_append,List.length_cons,List.length_nil];simp -implicitDefEqProofs only[id,reduceCtorEq,reduceIte,Nat.reduceMul,Nat.reduceAdd,Nat.reduceLT,Nat.reduceLeDiff,Nat.reduceEqDiff,Int.reduceLT,Int.reduceBEq,Int.reduceBNe,Nat.reduceBEq,qb48]
      repeat' (first|exact ea|rfl|(refine And.intro ?_ ?_))
  · have hr0:r=0:=by
      have h9:=of_decide_eq_false h;rw[hl2] at h9;omega
    obtain⟨hfl,hp0⟩:=hinv.done hr0
    have hjn:Lib.join ((parts.reverse.map mkB).map (·.data.toList)) (⟨#[]⟩:ByteArray).data.toList=Lib.decDigits n:=by
      rw[List.map_map]
      have e:(parts.reverse.map ((fun x:ByteArray=>x.data.toList) ∘ mkB))=parts.reverse:=by
        apply List.map_id'';intro x;rfl
      rw[e];exact (join_none _).trans hfl
    have hdl:=dec_two 7680 n hn
    have jnC:=joinC FrA (a:=a) (len:=parts.length) (cap:=cap) (rd:=strRd parts.reverse) (parts.reverse.map mkB) ⟨#[]⟩ (by simp) (fun j x hx=>by
      rw[List.getElem?_map] at hx;cases hj:parts.reverse[j]? with
      | none=>rw[hj] at hx;cases hx
      | some y=>
        rw[hj] at hx;cases hx
        unfold strRd
        simp [List.getD,hj]) hp0 (by omega) (by rw[hjn];omega)
    rw[hjn] at jnC;refine Sat.exit ?_;simp only[Qg,Qk,reduceIte];(repeat refine Qb ?_);(refine Qa fun k hk=>?_;simp -implicitDefEqProofs only[id,reduceCtorEq,reduceIte,Nat.reduceMul,Nat.reduceAdd,Nat.reduceLT,Nat.reduceLeDiff,Nat.reduceEqDiff,Int.reduceLT,Int.reduceBEq,Int.reduceBNe,Nat.reduceBEq,qb46]);refine wcall_mut 0 (reverseC FrA a cap parts (by omega)) rfl rfl ?_;rintro rr o1 ⟨rfl,rfl⟩;simp -implicitDefEqProofs only[id,reduceCtorEq,reduceIte,Nat.reduceMul,Nat.reduceAdd,Nat.reduceLT,Nat.reduceLeDiff,Nat.reduceEqDiff,Int.reduceLT,Int.reduceBEq,Int.reduceBNe,Nat.reduceBEq,qb46];(refine hk _ ?_;clear hk k;try show Sat _ _ _ _ _);(repeat refine Qb ?_);(refine Qa fun k hk=>?_;simp -implicitDefEqProofs only[id,reduceCtorEq,reduceIte,Nat.reduceMul,Nat.reduceAdd,Nat.reduceLT,Nat.reduceLeDiff,Nat.reduceEqDiff,Int.reduceLT,Int.reduceBEq,Int.reduceBNe,Nat.reduceBEq,qb46]);refine Qe jnC (by simp -implicitDefEqProofs only[id,reduceCtorEq,reduceIte,Nat.reduceMul,Nat.reduceAdd,Nat.reduceLT,Nat.reduceLeDiff,Nat.reduceEqDiff,Int.reduceLT,Int.reduceBEq,Int.reduceBNe,Nat.reduceBEq,qb46];try rfl) (by rintro _ rfl;exact Qi rfl) ?_;rintro rr rfl;simp -implicitDefEqProofs only[id,reduceCtorEq,reduceIte,Nat.reduceMul,Nat.reduceAdd,Nat.reduceLT,Nat.reduceLeDiff,Nat.reduceEqDiff,Int.reduceLT,Int.reduceBEq,Int.reduceBNe,Nat.reduceBEq,qb46];(refine hk _ ?_;clear hk k;try show Sat _ _ _ _ _);refine Sat.ret ?_;simp only[Tryz.results22,id,seval,qb47];try rfl
end Tq
end

section
namespace Tq
open Eng Lmb Go.RowKit
theorem dig_in {c:UInt8} (h:isDig c):digSet.contains c=true:=by
  obtain⟨h1,h2⟩:=h;have e:c=UInt8.ofNat c.toNat:=by simp
  rw[e];generalize c.toNat=m at h1 h2;rcases (show m=48∨m=49∨m=50∨m=51∨m=52∨m=53∨m=54∨m=55∨m=56∨m=57 by omega) with rfl|rfl|rfl|rfl|rfl|rfl|rfl|rfl|rfl|rfl<;>decide
theorem QA (l:List UInt8):(mkB l).toList=l:=by rw[ByteArray.toList_eq];rfl
theorem QY:(⟨#[]⟩:ByteArray).toList=[]:=by rw[ByteArray.toList_eq]
theorem byte_get (l:List UInt8) (i:Nat) (h:i<(mkB l).size):(mkB l)[i]'h=l[i]'(by rw[Qn] at h;exact h):=by
  rw[ByteArray.getElem_eq_getElem_data];simp [mkB]
theorem byte_at (l:List UInt8) (i:Nat) (c:UInt8) (h:l[i]? = some c):byteAt (mkB l) i=c.toNat:=by
  obtain⟨hi,e⟩:=List.getElem?_eq_some_iff.1 h;unfold byteAt;rw[getElem?_pos (mkB l) i (by rw[Qn];exact hi),byte_get,e];rfl
end Tq
end

section
namespace Tq
open Eng Lmb Go.RowKit
theorem bytes_dch (n:Nat) (h:n<10):bytesOf [48+(n:Int)]=mkB [dch n]:=by
  apply mkB_inj;unfold bytesOf dch;simp only[List.foldl_cons,List.foldl_nil,Nat.mod_eq_of_lt h];rw[show (48+(n:Int)).toNat=48+n by omega];rfl
theorem decB_mk (n:Nat):decB n=mkB (Lib.decDigits n):=by
  induction n using Nat.strongRecOn with
  | ind n ih=>
  by_cases h:n<10
  · rw[decB_small h,Za h,bytes_dch n h]
  · rw[decB_big h,dec_big (by omega),ih (n / 10) (by omega),bytes_dch _ (by omega),Qu]
    congr 2
    unfold dch;rw[Nat.mod_mod]
theorem decC (F:Frm) (n:Nat) (h:n<9223372036854775808):Contract F Tryz.prog 87 [.i .i64 n] (fun r=>r=sB (Lib.decDigits n)):=by
  have:=refDecimalC F n h
  rwa [decB_mk] at this
theorem mkB_ext (l:List UInt8) (i j:Nat):(mkB l).extract i j=mkB ((l.drop i).take (j - i)):=by
  apply mkB_inj;simp [mkB,ByteArray.data_extract,List.extract_eq_take_drop]
theorem limb0 {xs:List Int} {n:Nat} (d:Dig xs n) (h:xs.length≤1):xs.getD 0 0=(n:Int):=by
  have hv:=d.val;cases xs with
  | nil=>rw[QE] at hv;rw[← hv];rfl
  | cons x t=>
    have:t=[]:=by
      cases t with
      | nil=>rfl
      | cons y t=>simp at h
    subst this
    simpa [Qz,QE] using hv
def qb49:=And.intro @evr (And.intro @QA (And.intro @QY (@evn)))
def qb50:=And.intro @evr (And.intro @QA (And.intro @QY (And.intro @evl (@evn))))
set_option maxHeartbeats 1000000 in
set_option maxRecDepth 100000 in
theorem refTextC (F:Frm) {s:SV} {N:Nat} (hs:Nats s N) (hN:N<2 ^ 7680) (h256:(N:Int)<pw 256):Contract F Tryz.prog 23 [s] (fun r=>r=sB (Lib.decDigits N)):=by
  have hs1:=hs;obtain⟨a0,c0,z0,r0,x0,rfl,_⟩:=hs;refine Qf Tryz.func23 rfl (by kernel_rfl) ?_;simp only[Tryz.ntmps23,Qm];(repeat refine Qb ?_);(refine Qa fun k hk=>?_;simp -implicitDefEqProofs only[id,reduceCtorEq,reduceIte,Nat.reduceMul,Nat.reduceAdd,Nat.reduceLT,Nat.reduceLeDiff,Nat.reduceEqDiff,Int.reduceLT,Int.reduceBEq,Int.reduceBNe,Nat.reduceBEq,qb49];refine hk _ ?_;clear hk k;try show Sat _ _ _ _ _);(repeat refine Qb ?_);(refine Qa fun k hk=>?_;simp -implicitDefEqProofs only[id,reduceCtorEq,reduceIte,Nat.reduceMul,Nat.reduceAdd,Nat.reduceLT,Nat.reduceLeDiff,Nat.reduceEqDiff,Int.reduceLT,Int.reduceBEq,Int.reduceBNe,Nat.reduceBEq,qb49];refine hk _ ?_;clear hk k;try show Sat _ _ _ _ _);(repeat refine Qb ?_);refine Sat.block ?_;refine Sat.loop (ι:=Nat×Nat×SV) (fun x=>⟨73,[(0,x.2.2),(3,sB (padN (9 * x.1) N))],[]⟩)
    (fun x=>Nats x.2.2 x.2.1∧RtI N x.1 x.2.1∧x.1≤7680) (fun x=>x.2.1) (0,N,.sl a0 x0.length c0 z0 r0) ⟨hs1,RtI.start N,Nat.zero_le _⟩ (by
      simp -implicitDefEqProofs only[id,reduceCtorEq,reduceIte,Nat.reduceMul,Nat.reduceAdd,Nat.reduceLT,Nat.reduceLeDiff,Nat.reduceEqDiff,Int.reduceLT,Int.reduceBEq,Int.reduceBNe,Nat.reduceBEq,qb50]
      repeat' (first|rfl|(refine And.intro ?_ ?_))) ?_
  rintro⟨j,n,sn⟩ ⟨hn,hI,hjle⟩;simp only at hn hI hjle ⊢;have hnN:n≤N:=by have:=hI.small;have h9:0<2 ^ j:=Nat.pow_pos (by decide);exact Nat.le_trans (Nat.le_mul_of_pos_right _ h9) this
  obtain⟨xs,hi1,d1⟩:=hn.ints;have hlim:=hi1;have l1:=(d1.len_le 256).2 (by omega);obtain⟨a1,c1,z1,r1,rfl,hz1,hr1⟩:=hi1;have hlen0:=hn.len0;(repeat refine Qb ?_);(refine Qa fun k hk=>?_;simp -implicitDefEqProofs only[id,reduceCtorEq,reduceIte,Nat.reduceMul,Nat.reduceAdd,Nat.reduceLT,Nat.reduceLeDiff,Nat.reduceEqDiff,Int.reduceLT,Int.reduceBEq,Int.reduceBNe,Nat.reduceBEq,qb49];refine hk _ ?_;clear hk k;try show Sat _ _ _ _ _);(repeat refine Qb ?_);refine Qd rfl (fun h=>?_) (fun h=>?_)
  · simp only[decide_eq_true_eq] at h
    have hge:1073741824≤n:=by
      rcases Nat.lt_or_ge n 1073741824 with h9|h9
      · have:=(d1.len_le 1).2 (by rw[QF,Q8];omega)
        omega
      · exact h9
    have hsz1:z1=1:=by
      rcases hz1 with hz|hz
      · omega
      · exact hz
    subst hsz1;have hjlt:=hI.len (by omega) hN;have hstep:=hI.step (by omega);have e0:IntKind.i64.wrap ((xs.length:Int) - 1)=(xs.length:Int) - 1:=w64 (by omega);refine Sat.skip ?_;simp only[Qg];(repeat refine Qb ?_);refine Sat.block ?_;(repeat refine Qb ?_);(refine Qa fun k hk=>?_;simp -implicitDefEqProofs only[id,reduceCtorEq,reduceIte,Nat.reduceMul,Nat.reduceAdd,Nat.reduceLT,Nat.reduceLeDiff,Nat.reduceEqDiff,Int.reduceLT,Int.reduceBEq,Int.reduceBNe,Nat.reduceBEq,qb49]);refine⟨by omega,fun a cap=>?_⟩;(refine hk _ ?_;clear hk k;try show Sat _ _ _ _ _);(repeat refine Qb ?_);(refine Qa fun k hk=>?_;simp -implicitDefEqProofs only[id,reduceCtorEq,reduceIte,Nat.reduceMul,Nat.reduceAdd,Nat.reduceLT,Nat.reduceLeDiff,Nat.reduceEqDiff,Int.reduceLT,Int.reduceBEq,Int.reduceBNe,Nat.reduceBEq,qb49];refine hk _ ?_;clear hk k;try show Sat _ _ _ _ _);(repeat refine Qb ?_);refine Qa fun k hk=>?_;simp -implicitDefEqProofs only[id,reduceCtorEq,reduceIte,Nat.reduceMul,Nat.reduceAdd,Nat.reduceLT,Nat.reduceLeDiff,Nat.reduceEqDiff,Int.reduceLT,Int.reduceBEq,Int.reduceBNe,Nat.reduceBEq,e0,qb49];(refine hk _ ?_;clear hk k;try show Sat _ _ _ _ _);(repeat refine Qb ?_);refine Sat.block ?_;(repeat refine Qb ?_);refine Sat.loop (ι:=Nat×Int×List Int) (fun x=>⟨73,[(6,.i .i64 ((x.1:Int) - 1)),(5,.i .i64 x.2.1),(4,.os 0 a xs.length cap),(0,.sl a1 xs.length c1 1 r1),(3,sB (padN (9 * j) N))],[.row a 3 xs.length cap 1 (fun p _=>.i .i64 (x.2.2.getD p 0))]⟩)
      (fun x=>x.1≤xs.length∧SmallInv xs 1000000000 x.1 x.2.2 x.2.1) (fun x=>x.1) (xs.length,0,List.replicate xs.length 0) ⟨Nat.le_refl _,SmallInv.start xs 1000000000 (by decide)⟩ (by
        simp -implicitDefEqProofs only[id,reduceCtorEq,reduceIte,Nat.reduceMul,Nat.reduceAdd,Nat.reduceLT,Nat.reduceLeDiff,Nat.reduceEqDiff,Int.reduceLT,Int.reduceBEq,Int.reduceBNe,Nat.reduceBEq,qb50]
        repeat' (first|exact rd_zero (fun p=>rfl)|rfl|(refine And.intro ?_ ?_))) ?_
    rintro⟨q,rest,qs⟩ ⟨hq,hinv⟩;simp only at hq hinv ⊢;have t1:=hinv.r0;have t2:=hinv.r1;have t3:=hinv.len;(repeat refine Qb ?_);(refine Qa fun k hk=>?_;simp -implicitDefEqProofs only[id,reduceCtorEq,reduceIte,Nat.reduceMul,Nat.reduceAdd,Nat.reduceLT,Nat.reduceLeDiff,Nat.reduceEqDiff,Int.reduceLT,Int.reduceBEq,Int.reduceBNe,Nat.reduceBEq,qb49];refine hk _ ?_;clear hk k;try show Sat _ _ _ _ _);(repeat refine Qb ?_);refine Qd rfl (fun h2=>?_) (fun h2=>?_)
    · simp only[decide_eq_true_eq] at h2
      obtain⟨i,rfl⟩:∃ i,q=i+1:=⟨q - 1,by omega⟩;have hj:i<xs.length:=by omega
      have ej:(((i+1:Nat):Int) - 1)=(i:Int):=by omega
      have ej2:IntKind.i64.wrap ((i:Int) - 1)=(i:Int) - 1:=w64 (by omega);have g1:=hr1 i hj;have bx:=Qh d1.limbs i;have hnext:=hinv.step d1.limbs hj;have w1:IntKind.i64.wrap (rest * 1073741824)=rest * 1073741824:=w64 (by omega);have w2:IntKind.i64.wrap (rest * 1073741824+xs.getD i 0)=rest * 1073741824+xs.getD i 0:=by rw[w64 (by omega)]
      have tq:IntKind.i64.wrap ((rest * 1073741824+xs.getD i 0).tdiv 1000000000)=(rest * 1073741824+xs.getD i 0) / 1000000000:=by
        rw[Int.tdiv_eq_ediv_of_nonneg (by omega),w64 (by omega)]
      have tm:(rest * 1073741824+xs.getD i 0).tmod 1000000000=(rest * 1073741824+xs.getD i 0) % 1000000000:=Int.tmod_eq_emod_of_nonneg (by omega);refine Sat.skip ?_;simp only[Qg,ej];(repeat refine Qb ?_);refine Sat.block ?_;(repeat refine Qb ?_);refine Qa fun k hk=>?_;simp -implicitDefEqProofs only[id,reduceCtorEq,reduceIte,Nat.reduceMul,Nat.reduceAdd,Nat.reduceLT,Nat.reduceLeDiff,Nat.reduceEqDiff,Int.reduceLT,Int.reduceBEq,Int.reduceBNe,Nat.reduceBEq,qb49];refine⟨by omega,?_⟩;rw[g1];simp -implicitDefEqProofs only[id,reduceCtorEq,reduceIte,Nat.reduceMul,Nat.reduceAdd,Nat.reduceLT,Nat.reduceLeDiff,Nat.reduceEqDiff,Int.reduceLT,Int.reduceBEq,Int.reduceBNe,Nat.reduceBEq,w1,w2,qb49];(refine hk _ ?_;clear hk k;try show Sat _ _ _ _ _);(repeat refine Qb ?_);refine Qa fun k hk=>?_;simp -implicitDefEqProofs only[id,reduceCtorEq,reduceIte,Nat.reduceMul,Nat.reduceAdd,Nat.reduceLT,Nat.reduceLeDiff,Nat.reduceEqDiff,Int.reduceLT,Int.reduceBEq,Int.reduceBNe,Nat.reduceBEq,tq,qb49];refine⟨by decide,by omega,by omega,?_⟩;(refine hk _ ?_;clear hk k;try show Sat _ _ _ _ _);refine Qa fun k hk=>?_;simp -implicitDefEqProofs only[id,reduceCtorEq,reduceIte,Nat.reduceMul,Nat.reduceAdd,Nat.reduceLT,Nat.reduceLeDiff,Nat.reduceEqDiff,Int.reduceLT,Int.reduceBEq,Int.reduceBNe,Nat.reduceBEq,tm,qb49];refine⟨by decide,?_⟩;refine hk _ ?_;clear hk k;simp only[Qg,Qk];(repeat refine Qb ?_);refine Qa fun k hk=>?_;simp -implicitDefEqProofs only[id,reduceCtorEq,reduceIte,Nat.reduceMul,Nat.reduceAdd,Nat.reduceLT,Nat.reduceLeDiff,Nat.reduceEqDiff,Int.reduceLT,Int.reduceBEq,Int.reduceBNe,Nat.reduceBEq,ej2,qb49];refine hk _ ?_;simp only[Qg,Qk];refine⟨(i,(rest * 1073741824+xs.getD i 0) % 1000000000,qs.set i ((rest * 1073741824+xs.getD i 0) / 1000000000)),⟨by show i≤xs.length;omega,hnext⟩,by show i<i+1;omega,?_⟩;have es:=rd_set (qs:=qs) (n:=xs.length) (ix:=i) (x:=(rest * 1073741824+xs.getD i 0) / 1000000000) rfl (by omega);simp -implicitDefEqProofs only[id,reduceCtorEq,reduceIte,Nat.reduceMul,Nat.reduceAdd,Nat.reduceLT,Nat.reduceLeDiff,Nat.reduceEqDiff,Int.reduceLT,Int.reduceBEq,Int.reduceBNe,Nat.reduceBEq,qb50]
      repeat' (first|exact es|rfl|(refine And.intro ?_ ?_))
    · simp only[decide_eq_false_iff_not] at h2
      obtain rfl:q=0:=by omega
      obtain⟨hd,hrest⟩:=hinv.done (n:=n) (c:=1000000000) d1.val rfl
      have hv:(val qs).toNat=n / 1000000000:=by
        have h8:=hd.val;rw[trim_val] at h8;omega
      refine Sat.exit ?_;simp only[Qg,Qk,reduceIte];(repeat refine Qb ?_);(refine Qa fun k hk=>?_;simp -implicitDefEqProofs only[id,reduceCtorEq,reduceIte,Nat.reduceMul,Nat.reduceAdd,Nat.reduceLT,Nat.reduceLeDiff,Nat.reduceEqDiff,Int.reduceLT,Int.reduceBEq,Int.reduceBNe,Nat.reduceBEq,qb49]);refine Qc (refTrimC F (s:=.sl a qs.length cap 1 (fun p _=>.i .i64 (qs.getD p 0))) ⟨a,cap,1,_,rfl,.inr rfl,fun p _=>rfl⟩ hinv.limbs) (by simp -implicitDefEqProofs only[id,reduceCtorEq,reduceIte,Nat.reduceMul,Nat.reduceAdd,Nat.reduceLT,Nat.reduceLeDiff,Nat.reduceEqDiff,Int.reduceLT,Int.reduceBEq,Int.reduceBNe,Nat.reduceBEq,qb49];try rfl) (by simp -implicitDefEqProofs only[id,reduceCtorEq,reduceIte,Nat.reduceMul,Nat.reduceAdd,Nat.reduceLT,Nat.reduceLeDiff,Nat.reduceEqDiff,Int.reduceLT,Int.reduceBEq,Int.reduceBNe,Nat.reduceBEq,t3,qb49];try rfl) ?_;intro y hy;rw[hv] at hy;have hs8:=hy;obtain⟨a8,c8,z8,r8,x8,rfl,_⟩:=hy;simp -implicitDefEqProofs only[id,reduceCtorEq,reduceIte,Nat.reduceMul,Nat.reduceAdd,Nat.reduceLT,Nat.reduceLeDiff,Nat.reduceEqDiff,Int.reduceLT,Int.reduceBEq,Int.reduceBNe,Nat.reduceBEq,qb49];(refine hk _ ?_;clear hk k;try show Sat _ _ _ _ _);subst hrest;have hmod:n % 1000000000<10 ^ (8+1):=Nat.mod_lt _ (by decide);obtain⟨hd9,hpad⟩:=pad_dec 8 _ hmod;have hdp:=dec_pos (n % 1000000000);(repeat refine Qb ?_);(refine Qa fun k hk=>?_;simp -implicitDefEqProofs only[id,reduceCtorEq,reduceIte,Nat.reduceMul,Nat.reduceAdd,Nat.reduceLT,Nat.reduceLeDiff,Nat.reduceEqDiff,Int.reduceLT,Int.reduceBEq,Int.reduceBNe,Nat.reduceBEq,qb49]);refine Qe (decC F (n % 1000000000) (by omega)) rfl (by rintro _ rfl;exact Qi rfl) ?_;rintro r rfl;simp -implicitDefEqProofs only[id,reduceCtorEq,reduceIte,Nat.reduceMul,Nat.reduceAdd,Nat.reduceLT,Nat.reduceLeDiff,Nat.reduceEqDiff,Int.reduceLT,Int.reduceBEq,Int.reduceBNe,Nat.reduceBEq,qb49];(refine hk _ ?_;clear hk k;try show Sat _ _ _ _ _);(repeat refine Qb ?_);refine Sat.block ?_;refine Sat.loop (ι:=Nat) (fun m=>⟨73,[(8,sB (Lib.repeatL [48] m ++ Lib.decDigits (n % 1000000000))),(0,.sl a8 x8.length c8 z8 r8),(3,sB (padN (9 * j) N))],[]⟩)
        (fun m=>m+(Lib.decDigits (n % 1000000000)).length≤9) (fun m=>9 - m) 0 (by show 0+_≤9;omega) (by
          simp -implicitDefEqProofs only[id,reduceCtorEq,reduceIte,Nat.reduceMul,Nat.reduceAdd,Nat.reduceLT,Nat.reduceLeDiff,Nat.reduceEqDiff,Int.reduceLT,Int.reduceBEq,Int.reduceBNe,Nat.reduceBEq,qb50]
          repeat' (first|rfl|(refine And.intro ?_ ?_))) ?_
      intro m hm;have hm:m+(Lib.decDigits (n % 1000000000)).length≤9:=hm;have hml:(mkB (Lib.repeatL [48] m ++ Lib.decDigits (n % 1000000000))).size=m+(Lib.decDigits (n % 1000000000)).length:=by rw[Qn,List.length_append,rep_len]
      (repeat refine Qb ?_);refine Qa fun k hk=>?_;simp -implicitDefEqProofs only[id,reduceCtorEq,reduceIte,Nat.reduceMul,Nat.reduceAdd,Nat.reduceLT,Nat.reduceLeDiff,Nat.reduceEqDiff,Int.reduceLT,Int.reduceBEq,Int.reduceBNe,Nat.reduceBEq,hml,qb49];(refine hk _ ?_;clear hk k;try show Sat _ _ _ _ _);(repeat refine Qb ?_);refine Qd rfl (fun h3=>?_) (fun h3=>?_)
      · have h3:=of_decide_eq_true h3
        have ct:(((((⟨#[48]⟩:ByteArray)).size+(mkB (Lib.repeatL [48] m ++ Lib.decDigits (n % 1000000000))).size:Nat):Int)≤IntKind.i64.max)=True:=cat_ok (by rw[hml];show 1+_≤_;omega);have ce:(⟨#[48]⟩:ByteArray) ++ mkB (Lib.repeatL [48] m ++ Lib.decDigits (n % 1000000000))=mkB (Lib.repeatL [48] (m+1) ++ Lib.decDigits (n % 1000000000)):=Qu [48] _;refine Sat.skip ?_;simp only[Qg];(repeat refine Qb ?_);refine Sat.block ?_;refine Qa fun k hk=>?_;simp -implicitDefEqProofs only[id,reduceCtorEq,reduceIte,Nat.reduceMul,Nat.reduceAdd,Nat.reduceLT,Nat.reduceLeDiff,Nat.reduceEqDiff,Int.reduceLT,Int.reduceBEq,Int.reduceBNe,Nat.reduceBEq,ct,ce,qb49];refine hk _ ?_;simp only[Qg,Qk];refine⟨m+1,by show m+1+_≤9;omega,by show 9 - (m+1)<9 - m;omega,?_⟩;simp -implicitDefEqProofs only[id,reduceCtorEq,reduceIte,Nat.reduceMul,Nat.reduceAdd,Nat.reduceLT,Nat.reduceLeDiff,Nat.reduceEqDiff,Int.reduceLT,Int.reduceBEq,Int.reduceBNe,Nat.reduceBEq,qb50]
        repeat' (first|rfl|(refine And.intro ?_ ?_))
      · have h3:=of_decide_eq_false h3
        obtain rfl:m=9 - (Lib.decDigits (n % 1000000000)).length:=by omega
        rw[hpad];have pl:=padN_len (9 * j) N;have ct:((((mkB (padN (8+1) (n % 1000000000))).size+(mkB (padN (9 * j) N)).size:Nat):Int)≤IntKind.i64.max)=True:=cat_ok (by rw[Qn,Qn,padN_len,padN_len];omega);have ce:mkB (padN (8+1) (n % 1000000000)) ++ mkB (padN (9 * j) N)=mkB (padN (9 * (j+1)) N):=by rw[Qu];congr 1;exact hI.cat
        refine Sat.exit ?_;simp only[Qg,Qk,reduceIte];refine Qa fun k hk=>?_;simp -implicitDefEqProofs only[id,reduceCtorEq,reduceIte,Nat.reduceMul,Nat.reduceAdd,Nat.reduceLT,Nat.reduceLeDiff,Nat.reduceEqDiff,Int.reduceLT,Int.reduceBEq,Int.reduceBNe,Nat.reduceBEq,ct,ce,qb49];refine hk _ ?_;simp only[Qg,Qk];refine⟨(j+1,n / 1000000000,_),⟨hs8,hstep,by show j+1≤7680;omega⟩,by show n / 1000000000<n;omega,?_⟩;simp -implicitDefEqProofs only[id,reduceCtorEq,reduceIte,Nat.reduceMul,Nat.reduceAdd,Nat.reduceLT,Nat.reduceLeDiff,Nat.reduceEqDiff,Int.reduceLT,Int.reduceBEq,Int.reduceBNe,Nat.reduceBEq,qb50]
        repeat' (first|rfl|(refine And.intro ?_ ?_))
  · simp only[decide_eq_false_iff_not] at h
    have hle1:xs.length≤1:=by omega
    have hx:=limb0 d1 hle1
    have hlt:n<1073741824:=by
      have:=(d1.len_le 1).1 hle1;rw[QF,Q8] at this;omega
    obtain⟨m0,hm0,hm1,hm2⟩:=hI.done;refine Sat.exit ?_;simp only[Qg,Qk,reduceIte];(repeat refine Qb ?_);(refine Qa fun k hk=>?_;simp -implicitDefEqProofs only[id,reduceCtorEq,reduceIte,Nat.reduceMul,Nat.reduceAdd,Nat.reduceLT,Nat.reduceLeDiff,Nat.reduceEqDiff,Int.reduceLT,Int.reduceBEq,Int.reduceBNe,Nat.reduceBEq,qb49]);refine Qe (refLimbC F hlim 0) rfl (by rintro _ rfl;exact Qi rfl) ?_;rintro r rfl;simp -implicitDefEqProofs only[id,reduceCtorEq,reduceIte,Nat.reduceMul,Nat.reduceAdd,Nat.reduceLT,Nat.reduceLeDiff,Nat.reduceEqDiff,Int.reduceLT,Int.reduceBEq,Int.reduceBNe,Nat.reduceBEq,hx,qb49];refine Qe (decC F n (by omega)) rfl (by rintro _ rfl;exact Qi rfl) ?_;rintro r rfl;simp -implicitDefEqProofs only[id,reduceCtorEq,reduceIte,Nat.reduceMul,Nat.reduceAdd,Nat.reduceLT,Nat.reduceLeDiff,Nat.reduceEqDiff,Int.reduceLT,Int.reduceBEq,Int.reduceBNe,Nat.reduceBEq,qb49];(refine hk _ ?_;clear hk k;try show Sat _ _ _ _ _);have hdl:=dec_two 30 n (by omega);have pl:=padN_len (9 * j) N;have hNl:=dec_two 7680 N hN;(repeat refine Qb ?_);refine Qj ⟨73,[(58,.b (decide (n=0∧j≠0))),(9,sB (Lib.decDigits n)),(3,sB (padN (9 * j) N))],[]⟩ (fun k hk=>?_) ?_
    · simp -implicitDefEqProofs only[id,reduceCtorEq,reduceIte,Nat.reduceMul,Nat.reduceAdd,Nat.reduceLT,Nat.reduceLeDiff,Nat.reduceEqDiff,Int.reduceLT,Int.reduceBEq,Int.reduceBNe,Nat.reduceBEq,hlen0,qb49]
      refine⟨fun h9=>?_,fun h9=>?_⟩
      · have h0:=h9
        have e:(!padN (9 * j) N == [])=decide (n=0∧j≠0):=by
          show (padN (9 * j) N != [])=_;apply Bool.eq_iff_iff.2;rw[bne_iff_ne,decide_eq_true_eq];constructor
          · intro h8
            refine⟨h0,fun h7=>h8 ?_⟩;rw[h7];rfl
          · rintro⟨_,h8⟩ h7
            have:=congrArg List.length h7;rw[padN_len] at this;simp at this;omega
        refine hk _ ?_;rw[e];simp -implicitDefEqProofs only[id,reduceCtorEq,reduceIte,Nat.reduceMul,Nat.reduceAdd,Nat.reduceLT,Nat.reduceLeDiff,Nat.reduceEqDiff,Int.reduceLT,Int.reduceBEq,Int.reduceBNe,Nat.reduceBEq,qb50]
        repeat' (first|rfl|(refine And.intro ?_ ?_))
      · have e:decide (n=0∧j≠0)=false:=decide_eq_false (fun h8=>h9 h8.1)
        refine hk _ ?_;rw[e];simp only[h9];simp -implicitDefEqProofs only[id,reduceCtorEq,reduceIte,Nat.reduceMul,Nat.reduceAdd,Nat.reduceLT,Nat.reduceLeDiff,Nat.reduceEqDiff,Int.reduceLT,Int.reduceBEq,Int.reduceBNe,Nat.reduceBEq,qb50]
        repeat' (first|rfl|(refine And.intro ?_ ?_))
    simp only[Qg];refine Sat.join (fun _:Unit=>⟨73,[(9,sB (if n=0∧j≠0 then [] else Lib.decDigits n)),(3,sB (padN (9 * j) N))],[]⟩) (fun _=>True) ?_ (fun _ _=>?_)
    · refine Qd rfl (fun h9=>?_) (fun h9=>?_)
      · rw[if_pos (of_decide_eq_true h9)]
        refine Qa fun k hk=>?_;simp -implicitDefEqProofs only[id,reduceCtorEq,reduceIte,Nat.reduceMul,Nat.reduceAdd,Nat.reduceLT,Nat.reduceLeDiff,Nat.reduceEqDiff,Int.reduceLT,Int.reduceBEq,Int.reduceBNe,Nat.reduceBEq,qb49];refine hk _ ?_;simp only[Qg];refine⟨(),trivial,?_⟩;simp -implicitDefEqProofs only[id,reduceCtorEq,reduceIte,Nat.reduceMul,Nat.reduceAdd,Nat.reduceLT,Nat.reduceLeDiff,Nat.reduceEqDiff,Int.reduceLT,Int.reduceBEq,Int.reduceBNe,Nat.reduceBEq,qb50]
        repeat' (first|rfl|(refine And.intro ?_ ?_))
      · rw[if_neg (of_decide_eq_false h9)]
        refine Sat.skip ?_;simp only[Qg];refine⟨(),trivial,?_⟩;simp -implicitDefEqProofs only[id,reduceCtorEq,reduceIte,Nat.reduceMul,Nat.reduceAdd,Nat.reduceLT,Nat.reduceLeDiff,Nat.reduceEqDiff,Int.reduceLT,Int.reduceBEq,Int.reduceBNe,Nat.reduceBEq,qb50]
        repeat' (first|rfl|(refine And.intro ?_ ?_))
    have ct:((((mkB (if n=0∧j≠0 then [] else Lib.decDigits n)).size+(mkB (padN (9 * j) N)).size:Nat):Int)≤IntKind.i64.max)=True:=cat_ok (by
      rw[Qn,Qn,pl];split
      · simp;omega
      · omega)
    have ce:mkB (if n=0∧j≠0 then [] else Lib.decDigits n) ++ mkB (padN (9 * j) N)=mkB (Lib.repeatL [48] m0 ++ Lib.decDigits N):=by rw[Qu,hm0]
    (repeat refine Qb ?_);refine Qa fun k hk=>?_;simp -implicitDefEqProofs only[id,reduceCtorEq,reduceIte,Nat.reduceMul,Nat.reduceAdd,Nat.reduceLT,Nat.reduceLeDiff,Nat.reduceEqDiff,Int.reduceLT,Int.reduceBEq,Int.reduceBNe,Nat.reduceBEq,ct,ce,qb49];(refine hk _ ?_;clear hk k;try show Sat _ _ _ _ _);(repeat refine Qb ?_);refine Sat.block ?_
    refine Sat.loop (ι:=Nat) (fun m=>⟨73,[(3,sB (Lib.repeatL [48] m ++ Lib.decDigits N))],[]⟩) (fun m=>(N=0→m=0)∧m≤m0) (fun m=>m) m0 ⟨hm1,Nat.le_refl _⟩ (by
      simp -implicitDefEqProofs only[id,reduceCtorEq,reduceIte,Nat.reduceMul,Nat.reduceAdd,Nat.reduceLT,Nat.reduceLeDiff,Nat.reduceEqDiff,Int.reduceLT,Int.reduceBEq,Int.reduceBNe,Nat.reduceBEq,qb50]
      repeat' (first|rfl|(refine And.intro ?_ ?_))) ?_
    rintro m ⟨hmz,hmm⟩;have hml:(mkB (Lib.repeatL [48] m ++ Lib.decDigits N)).size=m+(Lib.decDigits N).length:=by rw[Qn,List.length_append,rep_len]
    have hdp:=dec_pos N;(repeat refine Qb ?_);refine Qj ⟨73,[(69,.b (decide (0<m))),(3,sB (Lib.repeatL [48] m ++ Lib.decDigits N))],[]⟩ (fun k hk=>?_) ?_
    · simp -implicitDefEqProofs only[id,reduceCtorEq,reduceIte,Nat.reduceMul,Nat.reduceAdd,Nat.reduceLT,Nat.reduceLeDiff,Nat.reduceEqDiff,Int.reduceLT,Int.reduceBEq,Int.reduceBNe,Nat.reduceBEq,hml,qb49]
      refine⟨fun h9=>?_,fun h9=>?_⟩
      · refine⟨⟨by decide,by omega⟩,?_⟩
        have eb:(byteAt (mkB (Lib.repeatL [48] m ++ Lib.decDigits N)) 0 == 48)=decide (0<m):=by
          cases m with
          | succ m=>
            rw[rep_zero_cons,byte_at _ 0 48 rfl];rfl
          | zero=>
            have hN0:0<N:=by
              rcases Nat.eq_zero_or_pos N with h8|h8
              · subst h8
                rw[Za (by decide)] at h9;simp at h9
              · exact h8
            obtain⟨c,hc⟩:∃ c,(Lib.decDigits N)[0]? = some c:=⟨_,List.getElem?_eq_getElem (by omega)⟩;have hne:=dec_head hN0;rw[hc] at hne;rw[show Lib.repeatL [48] 0 ++ Lib.decDigits N=Lib.decDigits N from rfl,byte_at _ 0 c hc];apply Bool.eq_iff_iff.2;rw[beq_iff_eq,decide_eq_true_eq];constructor
            · intro h8
              exfalso;apply hne;have e:c=UInt8.ofNat c.toNat:=by simp
              rw[e,show c.toNat=48 by omega];rfl
            · intro h8;omega
        refine hk _ ?_;rw[eb];simp -implicitDefEqProofs only[id,reduceCtorEq,reduceIte,Nat.reduceMul,Nat.reduceAdd,Nat.reduceLT,Nat.reduceLeDiff,Nat.reduceEqDiff,Int.reduceLT,Int.reduceBEq,Int.reduceBNe,Nat.reduceBEq,qb50]
        repeat' (first|rfl|(refine And.intro ?_ ?_))
      · have e:decide (0<m)=false:=decide_eq_false (by omega)
        refine hk _ ?_;rw[e,decide_eq_false h9];simp -implicitDefEqProofs only[id,reduceCtorEq,reduceIte,Nat.reduceMul,Nat.reduceAdd,Nat.reduceLT,Nat.reduceLeDiff,Nat.reduceEqDiff,Int.reduceLT,Int.reduceBEq,Int.reduceBNe,Nat.reduceBEq,qb50]
        repeat' (first|rfl|(refine And.intro ?_ ?_))
    simp only[Qg];refine Qd rfl (fun h9=>?_) (fun h9=>?_)
    · have h9:=of_decide_eq_true h9
      obtain⟨m,rfl⟩:∃ q,m=q+1:=⟨m - 1,by omega⟩
      have hx9:(mkB (Lib.repeatL [48] (m+1) ++ Lib.decDigits N)).extract 1 (m+1+(Lib.decDigits N).length)=mkB (Lib.repeatL [48] m ++ Lib.decDigits N):=by
        rw[mkB_ext,rep_zero_cons,List.cons_append,List.drop_succ_cons,List.drop_zero,List.take_of_length_le (by rw[List.length_append,rep_len];omega)]
      refine Sat.skip ?_;simp only[Qg];(repeat refine Qb ?_);refine Sat.block ?_;refine Qa fun k hk=>?_;simp -implicitDefEqProofs only[id,reduceCtorEq,reduceIte,Nat.reduceMul,Nat.reduceAdd,Nat.reduceLT,Nat.reduceLeDiff,Nat.reduceEqDiff,Int.reduceLT,Int.reduceBEq,Int.reduceBNe,Nat.reduceBEq,hml,qb49];refine⟨by omega,?_⟩;rw[show Int.toNat 1=1 from rfl,hx9];refine hk _ ?_;simp only[Qg,Qk];refine⟨m,⟨fun h8=>by have:=hmz h8;omega,by omega⟩,by show m<m+1;omega,?_⟩;simp -implicitDefEqProofs only[id,reduceCtorEq,reduceIte,Nat.reduceMul,Nat.reduceAdd,Nat.reduceLT,Nat.reduceLeDiff,Nat.reduceEqDiff,Int.reduceLT,Int.reduceBEq,Int.reduceBNe,Nat.reduceBEq,qb50]
      repeat' (first|rfl|(refine And.intro ?_ ?_))
    · have h9:=of_decide_eq_false h9
      obtain rfl:m=0:=by omega
      refine Sat.exit ?_;simp only[Qg,Qk,reduceIte];(repeat refine Qb ?_);(refine Qa fun k hk=>?_;simp -implicitDefEqProofs only[id,reduceCtorEq,reduceIte,Nat.reduceMul,Nat.reduceAdd,Nat.reduceLT,Nat.reduceLeDiff,Nat.reduceEqDiff,Int.reduceLT,Int.reduceBEq,Int.reduceBNe,Nat.reduceBEq,qb49];refine hk _ ?_;clear hk k;try show Sat _ _ _ _ _);refine Sat.ret ?_;simp only[Tryz.results23,evr,id,seval,List.append_nil,Int.toNat_zero,Nat.sub_self,QA,QY];rfl
end Tq
end

section
namespace Tq
open Eng Lmb Go.RowKit
theorem Zp (l:List UInt8) (i:Nat):byteAt (mkB l) i=((l.getD i 0).toNat:Int):=by
  unfold byteAt;by_cases h:i<l.length
  · have h1:(mkB l)[i]? = some ((mkB l)[i]'(by rw[Qn];exact h)):=getElem?_pos _ _ _
    rw[h1,List.getD_eq_getElem?_getD,List.getElem?_eq_getElem h];rfl
  · have h1:(mkB l)[i]? = none:=getElem?_neg _ _ (by rw[Qn];exact h)
    rw[h1,List.getD_eq_getElem?_getD,List.getElem?_eq_none (by omega)]
theorem byte_eq (a b:UInt8):(((a.toNat:Nat):Int) == ((b.toNat:Nat):Int))=decide (a=b):=by
  apply Bool.eq_iff_iff.2;simp only[beq_iff_eq,decide_eq_true_eq];constructor
  · intro h
    exact UInt8.toNat_inj.1 (by omega)
  · intro h;rw[h]
def Zm:=And.intro @evr (And.intro @Qn (And.intro @Zp (And.intro @mkB_ext (And.intro @Qu (And.intro @QA (@evn))))))
def qb52:=And.intro @evr (And.intro @Qn (And.intro @Zp (And.intro @mkB_ext (And.intro @Qu (And.intro @QA (And.intro @evl (@evn)))))))
def qb53:=And.intro @evr (And.intro @List.append_nil.{0} (And.intro @Int.toNat_zero (And.intro @Nat.sub_self (And.intro @Qn (And.intro @Zp (And.intro @mkB_ext (And.intro @Qu (@QA))))))))
set_option maxRecDepth 100000 in
theorem rfDigitsC (F:Frm) (l:List UInt8) (hl:l.length≤100000):Contract F Tryz.prog 91 [sB l] (fun r=>r=.b (digB l)):=by
  refine Qf Tryz.func91 rfl (by kernel_rfl) ?_;simp only[Tryz.ntmps91,Qm];(repeat refine Qb ?_);(refine Qa fun k hk=>?_;simp -implicitDefEqProofs only[id,reduceCtorEq,reduceIte,Nat.reduceMul,Nat.reduceAdd,Nat.reduceLT,Nat.reduceLeDiff,Nat.reduceEqDiff,Int.reduceLT,Int.reduceBEq,Int.reduceBNe,Nat.reduceBEq,Int.reduceNeg,Zm];refine hk _ ?_;clear hk k;try show Sat _ _ _ _ _);(repeat refine Qb ?_);(refine Qa fun k hk=>?_;simp -implicitDefEqProofs only[id,reduceCtorEq,reduceIte,Nat.reduceMul,Nat.reduceAdd,Nat.reduceLT,Nat.reduceLeDiff,Nat.reduceEqDiff,Int.reduceLT,Int.reduceBEq,Int.reduceBNe,Nat.reduceBEq,Int.reduceNeg,Zm];refine hk _ ?_;clear hk k;try show Sat _ _ _ _ _);(repeat refine Qb ?_);refine Sat.block ?_;refine Sat.loop (ι:=Nat) (fun i=>⟨33,[(3,.i .i64 i),(0,sB l)],[]⟩) (fun i=>i≤l.length∧(l.take i).all isDb=true) (fun i=>l.length - i) 0 ⟨Nat.zero_le _,rfl⟩ (by simp -implicitDefEqProofs only[id,reduceCtorEq,reduceIte,Nat.reduceMul,Nat.reduceAdd,Nat.reduceLT,Nat.reduceLeDiff,Nat.reduceEqDiff,Int.reduceLT,Int.reduceBEq,Int.reduceBNe,Nat.reduceBEq,Int.reduceNeg,qb52];try rfl) ?_;rintro i ⟨hi,hall⟩;have e1:IntKind.i64.wrap ((i:Int)+1)=((i+1:Nat):Int):=by rw[w64 (by omega)];omega
  (repeat refine Qb ?_);(refine Qa fun k hk=>?_;simp -implicitDefEqProofs only[id,reduceCtorEq,reduceIte,Nat.reduceMul,Nat.reduceAdd,Nat.reduceLT,Nat.reduceLeDiff,Nat.reduceEqDiff,Int.reduceLT,Int.reduceBEq,Int.reduceBNe,Nat.reduceBEq,Int.reduceNeg,Zm];refine hk _ ?_;clear hk k;try show Sat _ _ _ _ _);(repeat refine Qb ?_);refine Qd rfl (fun h=>?_) (fun h=>?_)
  · have hlt:i<l.length:=by simp only[decide_eq_true_eq] at h;omega
    clear h;have hmem:l.getD i 0∈l:=by rw[List.getD_eq_getElem?_getD,List.getElem?_eq_getElem hlt];exact List.getElem_mem _
    have htk:l.take (i+1)=l.take i ++ [l.getD i 0]:=by
      rw[List.take_add_one,List.getElem?_eq_getElem hlt,List.getD_eq_getElem?_getD,List.getElem?_eq_getElem hlt];rfl
    refine Sat.skip ?_;simp only[Qg];(repeat refine Qb ?_);refine Sat.block ?_;(repeat refine Qb ?_);refine Qj ⟨33,[(19,.b (!isDb (l.getD i 0))),(3,.i .i64 i),(0,sB l)],[]⟩ (fun k hk=>?_) ?_
    · simp -implicitDefEqProofs only[id,reduceCtorEq,reduceIte,Nat.reduceMul,Nat.reduceAdd,Nat.reduceLT,Nat.reduceLeDiff,Nat.reduceEqDiff,Int.reduceLT,Int.reduceBEq,Int.reduceBNe,Nat.reduceBEq,Int.reduceNeg,Zm]
      refine⟨by omega,fun h=>?_,fun h=>?_⟩
      · refine hk _ ?_
        have e:(!isDb (l.getD i 0))=true:=by
          generalize l.getD i 0=c at h ⊢;unfold isDb;simp;omega
        simp only[e];simp -implicitDefEqProofs only[id,reduceCtorEq,reduceIte,Nat.reduceMul,Nat.reduceAdd,Nat.reduceLT,Nat.reduceLeDiff,Nat.reduceEqDiff,Int.reduceLT,Int.reduceBEq,Int.reduceBNe,Nat.reduceBEq,Int.reduceNeg,qb52]
      · refine⟨by omega,?_⟩
        refine hk _ ?_
        have e:decide (57<((l.getD i 0).toNat:Int))=(!isDb (l.getD i 0)):=by
          generalize l.getD i 0=c at h ⊢;unfold isDb;apply Bool.eq_iff_iff.2;simp;omega
        simp only[e];simp -implicitDefEqProofs only[id,reduceCtorEq,reduceIte,Nat.reduceMul,Nat.reduceAdd,Nat.reduceLT,Nat.reduceLeDiff,Nat.reduceEqDiff,Int.reduceLT,Int.reduceBEq,Int.reduceBNe,Nat.reduceBEq,Int.reduceNeg,qb52]
    try simp only[Qg]
    refine Qd rfl (fun h=>?_) (fun h=>?_)
    · (repeat refine Qb ?_)
      (refine Qa fun k hk=>?_;simp -implicitDefEqProofs only[id,reduceCtorEq,reduceIte,Nat.reduceMul,Nat.reduceAdd,Nat.reduceLT,Nat.reduceLeDiff,Nat.reduceEqDiff,Int.reduceLT,Int.reduceBEq,Int.reduceBNe,Nat.reduceBEq,Int.reduceNeg,Zm];refine hk _ ?_;clear hk k;try show Sat _ _ _ _ _);refine Sat.ret ?_;simp only[Tryz.results91,id,seval,Int.reduceNeg,qb53]
      have:digB l=false:=by
        unfold digB
        have h2:l.all isDb=false:=by
          apply Bool.eq_false_iff.2;intro h3;have:=List.all_eq_true.1 h3 _ hmem;rw[this] at h;cases h
        rw[h2];rfl
      rw[this]
    · refine Sat.skip ?_
      simp only[Qg,Qk];refine Qa fun k hk=>?_;simp -implicitDefEqProofs only[id,reduceCtorEq,reduceIte,Nat.reduceMul,Nat.reduceAdd,Nat.reduceLT,Nat.reduceLeDiff,Nat.reduceEqDiff,Int.reduceLT,Int.reduceBEq,Int.reduceBNe,Nat.reduceBEq,Int.reduceNeg,e1,Zm];refine hk _ ?_;simp only[Qg,Qk];refine⟨i+1,⟨hlt,?_⟩,by omega,?_⟩
      · rw[htk,List.all_append,hall]
        simpa using h
      · simp -implicitDefEqProofs only[id,reduceCtorEq,reduceIte,Nat.reduceMul,Nat.reduceAdd,Nat.reduceLT,Nat.reduceLeDiff,Nat.reduceEqDiff,Int.reduceLT,Int.reduceBEq,Int.reduceBNe,Nat.reduceBEq,Int.reduceNeg,qb52]
  · have hiN:i=l.length:=by simp only[decide_eq_false_iff_not] at h;omega
    subst hiN;rw[List.take_length] at hall;refine Sat.exit ?_;simp only[Qg,Qk,reduceIte];(repeat refine Qb ?_);refine Qj ⟨33,[(2,.b (digB l))],[]⟩ (fun k hk=>?_) ?_
    · have eB:digB l=(decide (0<l.length) && (decide (l.length=1) || decide (l.getD 0 0≠48))):=by unfold digB;rw[hall,Bool.true_and]
      simp -implicitDefEqProofs only[id,reduceCtorEq,reduceIte,Nat.reduceMul,Nat.reduceAdd,Nat.reduceLT,Nat.reduceLeDiff,Nat.reduceEqDiff,Int.reduceLT,Int.reduceBEq,Int.reduceBNe,Nat.reduceBEq,Int.reduceNeg,Zm];refine⟨fun h1=>⟨fun h2=>?_,fun h2=>?_⟩,fun h1=>?_⟩
      · refine hk _ ?_
        have e:digB l=true:=by
          rw[eB]
          have:l.length=1:=by simp at h2;omega
          simp [this]
        simp only[e];simp -implicitDefEqProofs only[id,reduceCtorEq,reduceIte,Nat.reduceMul,Nat.reduceAdd,Nat.reduceLT,Nat.reduceLeDiff,Nat.reduceEqDiff,Int.reduceLT,Int.reduceBEq,Int.reduceBNe,Nat.reduceBEq,Int.reduceNeg,qb52]
      · refine⟨by omega,?_⟩
        refine hk _ ?_
        have e:(((l.getD 0 0).toNat:Int) != 48)=digB l:=by
          rw[eB];have h3:l.length≠1:=by simp at h2;omega
          have h4:(((l.getD 0 0).toNat:Int) == 48)=decide (l.getD 0 0=48):=byte_eq _ 48;have h5:0<l.length:=by omega
          simp only[bne,h4,decide_eq_true h5,decide_eq_false h3];by_cases h6:l.getD 0 0=48<;>simp [h6]
        simp only[e];simp -implicitDefEqProofs only[id,reduceCtorEq,reduceIte,Nat.reduceMul,Nat.reduceAdd,Nat.reduceLT,Nat.reduceLeDiff,Nat.reduceEqDiff,Int.reduceLT,Int.reduceBEq,Int.reduceBNe,Nat.reduceBEq,Int.reduceNeg,qb52]
      · refine hk _ ?_
        have e:digB l=false:=by
          rw[eB]
          have:¬ 0<l.length:=by omega
          simp [this]
        simp only[e];simp -implicitDefEqProofs only[id,reduceCtorEq,reduceIte,Nat.reduceMul,Nat.reduceAdd,Nat.reduceLT,Nat.reduceLeDiff,Nat.reduceEqDiff,Int.reduceLT,Int.reduceBEq,Int.reduceBNe,Nat.reduceBEq,Int.reduceNeg,qb52]
    try simp only[Qg]
    refine Sat.ret ?_;simp only[Tryz.results91,id,seval,Int.reduceNeg,qb53]
set_option maxRecDepth 100000 in
theorem refPlusLC (F:Frm) {sa sb:SV} {xs ys:List Int} (hi1:Ints sa xs) (hi2:Ints sb ys) (d1:Qv xs) (d2:Qv ys) (l1:xs.length≤512) (l2:ys.length≤512):Contract F Tryz.prog 70 [sa,sb] (fun r=>∃ os,Ints r os∧Qv os∧val os=val xs+val ys):=by
  have hj1:=hi1;have hj2:=hi2;obtain⟨a1,c1,z1,r1,rfl,_⟩:=hi1;obtain⟨a2,c2,z2,r2,rfl,_⟩:=hi2;refine Qf Tryz.func70 rfl (by kernel_rfl) ?_;simp only[Tryz.ntmps70,Qm];(repeat refine Qb ?_);(refine Qa fun k hk=>?_;simp -implicitDefEqProofs only[id,reduceCtorEq,reduceIte,Nat.reduceMul,Nat.reduceAdd,Nat.reduceLT,Nat.reduceLeDiff,Nat.reduceEqDiff,Int.reduceLT,Int.reduceBEq,Int.reduceBNe,Nat.reduceBEq,Int.reduceNeg,Zm];refine hk _ ?_;clear hk k;try show Sat _ _ _ _ _);(repeat refine Qb ?_);(refine Qa fun k hk=>?_;simp -implicitDefEqProofs only[id,reduceCtorEq,reduceIte,Nat.reduceMul,Nat.reduceAdd,Nat.reduceLT,Nat.reduceLeDiff,Nat.reduceEqDiff,Int.reduceLT,Int.reduceBEq,Int.reduceBNe,Nat.reduceBEq,Int.reduceNeg,Zm];refine hk _ ?_;clear hk k;try show Sat _ _ _ _ _);(repeat refine Qb ?_);(refine Qa fun k hk=>?_;simp -implicitDefEqProofs only[id,reduceCtorEq,reduceIte,Nat.reduceMul,Nat.reduceAdd,Nat.reduceLT,Nat.reduceLeDiff,Nat.reduceEqDiff,Int.reduceLT,Int.reduceBEq,Int.reduceBNe,Nat.reduceBEq,Int.reduceNeg,Zm];refine hk _ ?_;clear hk k;try show Sat _ _ _ _ _);(repeat refine Qb ?_);(refine Qa fun k hk=>?_;simp -implicitDefEqProofs only[id,reduceCtorEq,reduceIte,Nat.reduceMul,Nat.reduceAdd,Nat.reduceLT,Nat.reduceLeDiff,Nat.reduceEqDiff,Int.reduceLT,Int.reduceBEq,Int.reduceBNe,Nat.reduceBEq,Int.reduceNeg,Zm];refine hk _ ?_;clear hk k;try show Sat _ _ _ _ _);(repeat refine Qb ?_);refine Sat.block ?_;refine Zr 5 3 1 (fun p _=>.i .i64 (([]:List Int).getD p 0)) rfl ?_;refine Sat.loop (ι:=Nat×Int×List Int×Option Addr×Nat) (fun x=>⟨42,[(7,.i .i64 x.1),(6,.i .i64 x.2.1),(0,.sl a1 xs.length c1 z1 r1),(1,.sl a2 ys.length c2 z2 r2),(5,.os 0 x.2.2.2.1 x.1 x.2.2.2.2)],[.row x.2.2.2.1 3 x.1 x.2.2.2.2 1 (fun p _=>.i .i64 (x.2.2.1.getD p 0))]⟩)
    (fun x=>PlusInv xs ys x.2.2.1 x.1 x.2.1) (fun x=>2000 - x.1) (0,0,[],none,0) (PlusInv.start xs ys) (by simp -implicitDefEqProofs only[id,reduceCtorEq,reduceIte,Nat.reduceMul,Nat.reduceAdd,Nat.reduceLT,Nat.reduceLeDiff,Nat.reduceEqDiff,Int.reduceLT,Int.reduceBEq,Int.reduceBNe,Nat.reduceBEq,Int.reduceNeg,qb52];try rfl) ?_
  rintro⟨i,c,os,a,cap⟩ hinv;simp only at hinv ⊢;have t1:=hinv.tight;have t2:=hinv.c0;have t3:=hinv.c1;have t4:=hinv.len;have bx:=Qh d1 i;have bY:=Qh d2 i;have hi:i≤513:=by omega
  (repeat refine Qb ?_);refine Qj ⟨42,[(22,.b (decide (i<xs.length∨i<ys.length∨0<c))),(7,.i .i64 i),(6,.i .i64 c),(0,.sl a1 xs.length c1 z1 r1),(1,.sl a2 ys.length c2 z2 r2),(5,.os 0 a i cap)],[.row a 3 i cap 1 (fun p _=>.i .i64 (os.getD p 0))]⟩ (fun k hk=>?_) ?_
  · simp -implicitDefEqProofs only[id,reduceCtorEq,reduceIte,Nat.reduceMul,Nat.reduceAdd,Nat.reduceLT,Nat.reduceLeDiff,Nat.reduceEqDiff,Int.reduceLT,Int.reduceBEq,Int.reduceBNe,Nat.reduceBEq,Int.reduceNeg,Zm]
    refine⟨fun h=>?_,fun h=>⟨fun h2=>?_,fun h2=>?_⟩⟩
    · refine hk _ ?_
      have e:decide (i<xs.length∨i<ys.length∨0<c)=true:=decide_eq_true (.inl (by omega));rw[e];simp -implicitDefEqProofs only[id,reduceCtorEq,reduceIte,Nat.reduceMul,Nat.reduceAdd,Nat.reduceLT,Nat.reduceLeDiff,Nat.reduceEqDiff,Int.reduceLT,Int.reduceBEq,Int.reduceBNe,Nat.reduceBEq,Int.reduceNeg,qb52]
    · refine hk _ ?_
      have e:decide (i<xs.length∨i<ys.length∨0<c)=true:=decide_eq_true (.inr (.inl (by omega)));rw[e];simp -implicitDefEqProofs only[id,reduceCtorEq,reduceIte,Nat.reduceMul,Nat.reduceAdd,Nat.reduceLT,Nat.reduceLeDiff,Nat.reduceEqDiff,Int.reduceLT,Int.reduceBEq,Int.reduceBNe,Nat.reduceBEq,Int.reduceNeg,qb52]
    · refine hk _ ?_
      have e:decide (i<xs.length∨i<ys.length∨0<c)=decide (0<c):=by
        congr 1
        apply propext;constructor
        · rintro (h3|h3|h3)
          · omega
          · omega
          · exact h3
        · exact fun h3=>.inr (.inr h3)
      rw[e];simp -implicitDefEqProofs only[id,reduceCtorEq,reduceIte,Nat.reduceMul,Nat.reduceAdd,Nat.reduceLT,Nat.reduceLeDiff,Nat.reduceEqDiff,Int.reduceLT,Int.reduceBEq,Int.reduceBNe,Nat.reduceBEq,Int.reduceNeg,qb52]
  simp only[Qg];refine Qd rfl (fun h=>?_) (fun h=>?_)
  · have hg:i<xs.length∨i<ys.length∨0<c:=of_decide_eq_true h
    have hnext:=hinv.step d1 d2 hg;refine Sat.skip ?_;simp only[Qg];(repeat refine Qb ?_);refine Sat.block ?_;(repeat refine Qb ?_);(refine Qa fun k hk=>?_;simp -implicitDefEqProofs only[id,reduceCtorEq,reduceIte,Nat.reduceMul,Nat.reduceAdd,Nat.reduceLT,Nat.reduceLeDiff,Nat.reduceEqDiff,Int.reduceLT,Int.reduceBEq,Int.reduceBNe,Nat.reduceBEq,Int.reduceNeg,Zm]);refine Qe (refLimbC F hj1 i) (by simp -implicitDefEqProofs only[id,reduceCtorEq,reduceIte,Nat.reduceMul,Nat.reduceAdd,Nat.reduceLT,Nat.reduceLeDiff,Nat.reduceEqDiff,Int.reduceLT,Int.reduceBEq,Int.reduceBNe,Nat.reduceBEq,Int.reduceNeg,Zm];try rfl) (by rintro _ rfl;exact Qi rfl) ?_;rintro y rfl;simp -implicitDefEqProofs only[id,reduceCtorEq,reduceIte,Nat.reduceMul,Nat.reduceAdd,Nat.reduceLT,Nat.reduceLeDiff,Nat.reduceEqDiff,Int.reduceLT,Int.reduceBEq,Int.reduceBNe,Nat.reduceBEq,Int.reduceNeg,Zm];refine Qe (refLimbC F hj2 i) (by simp -implicitDefEqProofs only[id,reduceCtorEq,reduceIte,Nat.reduceMul,Nat.reduceAdd,Nat.reduceLT,Nat.reduceLeDiff,Nat.reduceEqDiff,Int.reduceLT,Int.reduceBEq,Int.reduceBNe,Nat.reduceBEq,Int.reduceNeg,Zm];try rfl) (by rintro _ rfl;exact Qi rfl) ?_;rintro y rfl;have w1:IntKind.i64.wrap (xs.getD i 0+ys.getD i 0)=xs.getD i 0+ys.getD i 0:=w64 (by omega);have w2:IntKind.i64.wrap (xs.getD i 0+ys.getD i 0+c)=xs.getD i 0+ys.getD i 0+c:=w64 (by omega);simp -implicitDefEqProofs only[id,reduceCtorEq,reduceIte,Nat.reduceMul,Nat.reduceAdd,Nat.reduceLT,Nat.reduceLeDiff,Nat.reduceEqDiff,Int.reduceLT,Int.reduceBEq,Int.reduceBNe,Nat.reduceBEq,Int.reduceNeg,w1,w2,Zm];refine hk _ ?_;clear hk k;try show Sat _ _ _ _ _
    have tm:(xs.getD i 0+ys.getD i 0+c).tmod 1073741824=(xs.getD i 0+ys.getD i 0+c) % 1073741824:=Int.tmod_eq_emod_of_nonneg (by omega)
    have td:IntKind.i64.wrap ((xs.getD i 0+ys.getD i 0+c).tdiv 1073741824)=(xs.getD i 0+ys.getD i 0+c) / 1073741824:=by
      rw[Int.tdiv_eq_ediv_of_nonneg (by omega),w64 (by omega)]
    have ti:IntKind.i64.wrap ((i:Int)+1)=((i+1:Nat):Int):=by rw[w64 (by omega)];omega
    (repeat refine Qb ?_);(refine Qa fun k hk=>?_;simp -implicitDefEqProofs only[id,reduceCtorEq,reduceIte,Nat.reduceMul,Nat.reduceAdd,Nat.reduceLT,Nat.reduceLeDiff,Nat.reduceEqDiff,Int.reduceLT,Int.reduceBEq,Int.reduceBNe,Nat.reduceBEq,Int.reduceNeg,Zm]);refine⟨by decide,fun blk=>?_⟩;refine⟨⟨by unfold maxLen;omega,by omega⟩,fun a2_1 cap2=>?_⟩;(refine hk _ ?_;clear hk k;try show Sat _ _ _ _ _);(repeat refine Qb ?_);refine Qa fun k hk=>?_;simp -implicitDefEqProofs only[id,reduceCtorEq,reduceIte,Nat.reduceMul,Nat.reduceAdd,Nat.reduceLT,Nat.reduceLeDiff,Nat.reduceEqDiff,Int.reduceLT,Int.reduceBEq,Int.reduceBNe,Nat.reduceBEq,Int.reduceNeg,td,Zm];refine⟨by decide,?_⟩;refine hk _ ?_;clear hk k;simp only[Qg,Qk];(repeat refine Qb ?_);refine Qa fun k hk=>?_;simp -implicitDefEqProofs only[id,reduceCtorEq,reduceIte,Nat.reduceMul,Nat.reduceAdd,Nat.reduceLT,Nat.reduceLeDiff,Nat.reduceEqDiff,Int.reduceLT,Int.reduceBEq,Int.reduceBNe,Nat.reduceBEq,Int.reduceNeg,ti,Zm];refine hk _ ?_;simp only[Qg,Qk];refine⟨(i+1,_,_,a2_1,cap2),hnext,by show 2000 - (i+1)<2000 - i;omega,?_⟩;simp -implicitDefEqProofs only[id,reduceCtorEq,reduceIte,Nat.reduceMul,Nat.reduceAdd,Nat.reduceLT,Nat.reduceLeDiff,Nat.reduceEqDiff,Int.reduceLT,Int.reduceBEq,Int.reduceBNe,Nat.reduceBEq,Int.reduceNeg,qb52];exact rd_snoc t4 tm
  · have hg:¬ (i<xs.length∨i<ys.length∨0<c):=of_decide_eq_false h
    have hd:val os=val xs+val ys:=by
      have h8:=hinv.eq;rw[List.take_of_length_le (by omega),List.take_of_length_le (by omega),show c=0 by omega,Int.mul_zero,Int.add_zero] at h8;exact h8
    refine Sat.exit ?_;simp only[Qg,Qk,reduceIte];(repeat refine Qb ?_);(refine Qa fun k hk=>?_;simp -implicitDefEqProofs only[id,reduceCtorEq,reduceIte,Nat.reduceMul,Nat.reduceAdd,Nat.reduceLT,Nat.reduceLeDiff,Nat.reduceEqDiff,Int.reduceLT,Int.reduceBEq,Int.reduceBNe,Nat.reduceBEq,Int.reduceNeg,Zm];refine hk _ ?_;clear hk k;try show Sat _ _ _ _ _);refine Sat.ret ?_;simp only[Tryz.results70,id,seval,Int.reduceNeg,qb53];subst t4;exact⟨os,⟨_,_,1,_,rfl,.inr rfl,fun p hp=>rfl⟩,hinv.limbs,hd⟩
theorem ints_lit {a:Option Addr} {cap:Nat} {z:Int}:Ints (.sl a 1 cap 1 (rdL [SV.i .i64 z] 1)) [z]:=⟨a,cap,1,_,rfl,.inr rfl,fun i hi=>by
  obtain rfl:i=0:=by simpa using hi
  rfl⟩
theorem natsLit {a:Option Addr} {cap:Nat} {z:Int} {x:Nat} (e:z=x) (h1:x<1073741824) (h0:0<x):Nats (.sl a 1 cap 1 (rdL [SV.i .i64 z] 1)) x:=
  Ints.nats ints_lit ⟨QB.2 ⟨by omega,QJ⟩,norm_one.2 (by omega),by simp [Lmb.val];omega⟩
def parV (l:List UInt8):Nat:=if parE l=0 then Zx l else 0
theorem ten_two:∀ n:Nat,10 ^ n≤2 ^ (4 * n)
  | 0=>Nat.le_refl _
  | n+1=>by
    rw[Nat.pow_succ,show 4 * (n+1)=4 * n+4 by omega,Nat.pow_add];exact Nat.mul_le_mul (ten_two n) (by decide)
theorem lt512_dec {l:List UInt8} (h:∀ c∈l,isDig c) (hl:l.length≤2400) (i:Nat):((Zx (l.take i):Nat):Int)<pw 330:=
  lt_pw (Nat.le_of_lt (Nat.lt_of_lt_of_le (valD_take h i) (ten_two _))) (by omega)
set_option maxHeartbeats 1000000 in
set_option maxRecDepth 100000 in
theorem refParseC (F:Frm) (l:List UInt8) (hl:l.length≤100000):Contract F Tryz.prog 34 [sB l] (numRes (parE l) (parV l)):=by
  refine Qf Tryz.func34 rfl (by kernel_rfl) ?_;simp only[Tryz.ntmps34,Qm];(repeat refine Qb ?_);(refine Qa fun k hk=>?_;simp -implicitDefEqProofs only[id,reduceCtorEq,reduceIte,Nat.reduceMul,Nat.reduceAdd,Nat.reduceLT,Nat.reduceLeDiff,Nat.reduceEqDiff,Int.reduceLT,Int.reduceBEq,Int.reduceBNe,Nat.reduceBEq,Int.reduceNeg,Zm];refine hk _ ?_;clear hk k;try show Sat _ _ _ _ _);(repeat refine Qb ?_);(refine Qa fun k hk=>?_;simp -implicitDefEqProofs only[id,reduceCtorEq,reduceIte,Nat.reduceMul,Nat.reduceAdd,Nat.reduceLT,Nat.reduceLeDiff,Nat.reduceEqDiff,Int.reduceLT,Int.reduceBEq,Int.reduceBNe,Nat.reduceBEq,Int.reduceNeg,Zm]);refine Qe (rfDigitsC F l hl) rfl (by rintro _ rfl;exact Qi rfl) ?_;rintro _ rfl;simp -implicitDefEqProofs only[id,reduceCtorEq,reduceIte,Nat.reduceMul,Nat.reduceAdd,Nat.reduceLT,Nat.reduceLeDiff,Nat.reduceEqDiff,Int.reduceLT,Int.reduceBEq,Int.reduceBNe,Nat.reduceBEq,Int.reduceNeg,Zm];(refine hk _ ?_;clear hk k;try show Sat _ _ _ _ _);refine Qd rfl (fun h=>?_) (fun h=>?_)
  · have h9:digB l=false:=by simpa using h
    (repeat refine Qb ?_);(refine Qa fun k hk=>?_;simp -implicitDefEqProofs only[id,reduceCtorEq,reduceIte,Nat.reduceMul,Nat.reduceAdd,Nat.reduceLT,Nat.reduceLeDiff,Nat.reduceEqDiff,Int.reduceLT,Int.reduceBEq,Int.reduceBNe,Nat.reduceBEq,Int.reduceNeg,Zm];refine hk _ ?_;clear hk k;try show Sat _ _ _ _ _);refine Sat.ret ?_;simp only[Tryz.results34,id,seval,Int.reduceNeg,qb53];rw[parV,parE_form h9];exact⟨_,rfl,Nats.nil⟩
  have hd9:digB l=true:=by simpa using h
  obtain⟨hne,hdig,_⟩:=(digB_iff l).1 hd9;refine Sat.skip ?_;simp only[Qg];(repeat refine Qb ?_);(refine Qa fun k hk=>?_;simp -implicitDefEqProofs only[id,reduceCtorEq,reduceIte,Nat.reduceMul,Nat.reduceAdd,Nat.reduceLT,Nat.reduceLeDiff,Nat.reduceEqDiff,Int.reduceLT,Int.reduceBEq,Int.reduceBNe,Nat.reduceBEq,Int.reduceNeg,Zm];refine hk _ ?_;clear hk k;try show Sat _ _ _ _ _);refine Qd rfl (fun h=>?_) (fun h=>?_)
  · have h9:=of_decide_eq_true h
    (repeat refine Qb ?_);(refine Qa fun k hk=>?_;simp -implicitDefEqProofs only[id,reduceCtorEq,reduceIte,Nat.reduceMul,Nat.reduceAdd,Nat.reduceLT,Nat.reduceLeDiff,Nat.reduceEqDiff,Int.reduceLT,Int.reduceBEq,Int.reduceBNe,Nat.reduceBEq,Int.reduceNeg,Zm];refine hk _ ?_;clear hk k;try show Sat _ _ _ _ _);refine Sat.ret ?_;simp only[Tryz.results34,id,seval,Int.reduceNeg,qb53];rw[parV,parE_long hd9 (by omega)];exact⟨_,rfl,Nats.nil⟩
  have h9:=of_decide_eq_false h;have hlen:l.length≤2400:=by omega
  refine Sat.skip ?_;simp only[Qg];(repeat refine Qb ?_);(refine Qa fun k hk=>?_;simp -implicitDefEqProofs only[id,reduceCtorEq,reduceIte,Nat.reduceMul,Nat.reduceAdd,Nat.reduceLT,Nat.reduceLeDiff,Nat.reduceEqDiff,Int.reduceLT,Int.reduceBEq,Int.reduceBNe,Nat.reduceBEq,Int.reduceNeg,Zm];refine hk _ ?_;clear hk k;try show Sat _ _ _ _ _);(repeat refine Qb ?_);(refine Qa fun k hk=>?_;simp -implicitDefEqProofs only[id,reduceCtorEq,reduceIte,Nat.reduceMul,Nat.reduceAdd,Nat.reduceLT,Nat.reduceLeDiff,Nat.reduceEqDiff,Int.reduceLT,Int.reduceBEq,Int.reduceBNe,Nat.reduceBEq,Int.reduceNeg,Zm];refine hk _ ?_;clear hk k;try show Sat _ _ _ _ _);(repeat refine Qb ?_);refine Sat.block ?_;refine Sat.loop (ι:=Nat×SV) (fun x=>⟨33,[(5,.i .i64 x.1),(4,x.2),(0,sB l)],[]⟩)
    (fun x=>x.1≤l.length∧Nats x.2 (Zx (l.take x.1))) (fun x=>l.length - x.1) (0,.sl none 0 0 0 fun _ _=>.v undef) ⟨Nat.zero_le _,Nats.nil⟩ (by
      simp -implicitDefEqProofs only[id,reduceCtorEq,reduceIte,Nat.reduceMul,Nat.reduceAdd,Nat.reduceLT,Nat.reduceLeDiff,Nat.reduceEqDiff,Int.reduceLT,Int.reduceBEq,Int.reduceBNe,Nat.reduceBEq,Int.reduceNeg,qb52]
      repeat' (first|rfl|(refine And.intro ?_ ?_))) ?_
  rintro⟨i,sn⟩ ⟨hi,hn⟩;simp only at hi hn ⊢;have hn1:=hn;obtain⟨a1,c1,z1,r1,x1,rfl,_⟩:=hn;(repeat refine Qb ?_);(refine Qa fun k hk=>?_;simp -implicitDefEqProofs only[id,reduceCtorEq,reduceIte,Nat.reduceMul,Nat.reduceAdd,Nat.reduceLT,Nat.reduceLeDiff,Nat.reduceEqDiff,Int.reduceLT,Int.reduceBEq,Int.reduceBNe,Nat.reduceBEq,Int.reduceNeg,Zm];refine hk _ ?_;clear hk k;try show Sat _ _ _ _ _);(repeat refine Qb ?_);refine Qd rfl (fun h=>?_) (fun h=>?_)
  · have hlt:i<l.length:=by have:=of_decide_eq_true h;omega
    have hb:=lt512_dec hdig hlen i;have hmem:l.getD i 0∈l:=by rw[List.getD_eq_getElem?_getD,List.getElem?_eq_getElem hlt];exact List.getElem_mem _
    obtain⟨g1,g2⟩:=hdig _ hmem
    have htk:l.take (i+1)=l.take i ++ [l.getD i 0]:=by
      rw[List.take_add_one,List.getElem?_eq_getElem hlt,List.getD_eq_getElem?_getD,List.getElem?_eq_getElem hlt];rfl
    have hvs:Zx (l.take (i+1))=10 * Zx (l.take i)+((l.getD i 0).toNat - 48):=by rw[htk,valD_snoc]
    refine Sat.skip ?_;simp only[Qg];(repeat refine Qb ?_);refine Sat.block ?_;(repeat refine Qb ?_);have hb5:((Zx (l.take i):Nat):Int)<pw 512:=Int.lt_of_lt_of_le hb (QI (by decide))
    have hb6:((Zx (l.take i) * 10:Nat):Int)<pw 512:=by
      refine Int.lt_of_lt_of_le ?_ (QI (show 331≤512 by decide));rw[QF];omega
    have e1:IntKind.u8.wrap (((l.getD i 0).toNat:Int) - 48)=(((l.getD i 0).toNat - 48:Nat):Int):=by
      have hw:∀ z:Int,IntKind.u8.wrap z=z % 256:=fun z=>by unfold IntKind.wrap;simp [IntKind.bits,IntKind.signed]
      rw[hw];omega
    have e2:IntKind.i64.wrap (((l.getD i 0).toNat - 48:Nat):Int)=(((l.getD i 0).toNat - 48:Nat):Int):=w64 (by omega);have e3:IntKind.i64.wrap ((i:Int)+1)=((i+1:Nat):Int):=by rw[w64 (by omega)];omega
    (refine Zd (.keep [0,3,4,5,6,7] [1,2] (.alt 1 (.alt 2 (.one 8 (.one 9 (.one 10 (.one 11 .done)))) (.alt 8 (.one 2 (.one 9 (.one 10 (.one 11 .done)))) .none)) (.alt 8 (.one 1 (.one 2 (.one 9 (.one 10 (.one 11 .done))))) .none))) (by kernel_rfl) (by kernel_rfl) (fun _ _ h=>h) fun k hk=>?_;simp only[WOT,List.map_cons,List.map_nil,List.getD_cons_zero,List.getD_cons_succ];simp -implicitDefEqProofs only[id,reduceCtorEq,reduceIte,Nat.reduceMul,Nat.reduceAdd,Nat.reduceLT,Nat.reduceLeDiff,Nat.reduceEqDiff,Int.reduceLT,Int.reduceBEq,Int.reduceBNe,Nat.reduceBEq,Int.reduceNeg,WOT,Zm]);refine⟨by omega,fun blk=>⟨?_,fun blk1=>?_⟩,fun blk1 blk=>?_⟩
    · refine Qc (Q9 F hn1 (natsLit (a:=some ⟨blk,0,none⟩) (cap:=1) (z:=10) (x:=10) rfl (by decide) (by decide)) hb5 (Int.lt_of_lt_of_le (by rw[QF,Q8];decide:((10:Nat):Int)<pw 1) (QI (by decide)))) (by simp -implicitDefEqProofs only[id,reduceCtorEq,reduceIte,Nat.reduceMul,Nat.reduceAdd,Nat.reduceLT,Nat.reduceLeDiff,Nat.reduceEqDiff,Int.reduceLT,Int.reduceBEq,Int.reduceBNe,Nat.reduceBEq,Int.reduceNeg,Zm];try rfl) (by simp -implicitDefEqProofs only[id,reduceCtorEq,reduceIte,Nat.reduceMul,Nat.reduceAdd,Nat.reduceLT,Nat.reduceLeDiff,Nat.reduceEqDiff,Int.reduceLT,Int.reduceBEq,Int.reduceBNe,Nat.reduceBEq,Int.reduceNeg,Zm];try rfl) ?_
      intro y hy;obtain⟨ys,hy2,dy⟩:=hy.ints;have hy3:=hy2;have ly:=(dy.len_le 512).2 hb6;obtain⟨a5,c5,z5,r5,rfl,_⟩:=hy2;simp -implicitDefEqProofs only[id,reduceCtorEq,reduceIte,Nat.reduceMul,Nat.reduceAdd,Nat.reduceLT,Nat.reduceLeDiff,Nat.reduceEqDiff,Int.reduceLT,Int.reduceBEq,Int.reduceBNe,Nat.reduceBEq,Int.reduceNeg,e1,e2,Zm];intro blk2;refine Qc (refPlusLC F hy3 (ints_lit (a:=some ⟨blk2,0,none⟩) (cap:=1) (z:=(((l.getD i 0).toNat - 48:Nat):Int))) dy.limbs (QB.2 ⟨by omega,QJ⟩) ly (by show 1≤512;decide)) (by simp -implicitDefEqProofs only[id,reduceCtorEq,reduceIte,Nat.reduceMul,Nat.reduceAdd,Nat.reduceLT,Nat.reduceLeDiff,Nat.reduceEqDiff,Int.reduceLT,Int.reduceBEq,Int.reduceBNe,Nat.reduceBEq,Int.reduceNeg,Zm];try rfl) (by simp -implicitDefEqProofs only[id,reduceCtorEq,reduceIte,Nat.reduceMul,Nat.reduceAdd,Nat.reduceLT,Nat.reduceLeDiff,Nat.reduceEqDiff,Int.reduceLT,Int.reduceBEq,Int.reduceBNe,Nat.reduceBEq,Int.reduceNeg,Zm];try rfl) ?_;rintro y ⟨os,ho,lo,hv⟩;have ho2:=ho;obtain⟨a6,c6,z6,r6,rfl,_⟩:=ho;simp -implicitDefEqProofs only[id,reduceCtorEq,reduceIte,Nat.reduceMul,Nat.reduceAdd,Nat.reduceLT,Nat.reduceLeDiff,Nat.reduceEqDiff,Int.reduceLT,Int.reduceBEq,Int.reduceBNe,Nat.reduceBEq,Int.reduceNeg,Zm];refine Qc (refTrimC F ho2 lo) (by simp -implicitDefEqProofs only[id,reduceCtorEq,reduceIte,Nat.reduceMul,Nat.reduceAdd,Nat.reduceLT,Nat.reduceLeDiff,Nat.reduceEqDiff,Int.reduceLT,Int.reduceBEq,Int.reduceBNe,Nat.reduceBEq,Int.reduceNeg,Zm];try rfl) (by simp -implicitDefEqProofs only[id,reduceCtorEq,reduceIte,Nat.reduceMul,Nat.reduceAdd,Nat.reduceLT,Nat.reduceLeDiff,Nat.reduceEqDiff,Int.reduceLT,Int.reduceBEq,Int.reduceBNe,Nat.reduceBEq,Int.reduceNeg,Zm];try rfl) ?_;intro y hy
      have hval:(val os).toNat=Zx (l.take (i+1)):=by
        rw[hv,dy.val,hvs];simp [Lmb.val];omega
      rw[hval] at hy;have hs7:=hy;obtain⟨a7,c7,z7,r7,x7,rfl,_⟩:=hy;simp -implicitDefEqProofs only[id,reduceCtorEq,reduceIte,Nat.reduceMul,Nat.reduceAdd,Nat.reduceLT,Nat.reduceLeDiff,Nat.reduceEqDiff,Int.reduceLT,Int.reduceBEq,Int.reduceBNe,Nat.reduceBEq,Int.reduceNeg,Zm];refine hk _ ?_;clear hk k;simp only[Qg,Qk];refine Qa fun k hk=>?_;simp -implicitDefEqProofs only[id,reduceCtorEq,reduceIte,Nat.reduceMul,Nat.reduceAdd,Nat.reduceLT,Nat.reduceLeDiff,Nat.reduceEqDiff,Int.reduceLT,Int.reduceBEq,Int.reduceBNe,Nat.reduceBEq,Int.reduceNeg,e3,Zm];refine hk _ ?_;simp only[Qg,Qk];refine⟨(i+1,_),⟨hlt,hs7⟩,by show l.length - (i+1)<l.length - i;omega,?_⟩;simp -implicitDefEqProofs only[id,reduceCtorEq,reduceIte,Nat.reduceMul,Nat.reduceAdd,Nat.reduceLT,Nat.reduceLeDiff,Nat.reduceEqDiff,Int.reduceLT,Int.reduceBEq,Int.reduceBNe,Nat.reduceBEq,Int.reduceNeg,qb52]
      repeat' (first|rfl|(refine And.intro ?_ ?_))
    · simp -implicitDefEqProofs only[id,reduceCtorEq,reduceIte,Nat.reduceMul,Nat.reduceAdd,Nat.reduceLT,Nat.reduceLeDiff,Nat.reduceEqDiff,Int.reduceLT,Int.reduceBEq,Int.reduceBNe,Nat.reduceBEq,Int.reduceNeg,e1,e2,Zm]
      refine Qc (Q9 F hn1 (natsLit (a:=some ⟨blk,0,none⟩) (cap:=1) (z:=10) (x:=10) rfl (by decide) (by decide)) hb5 (Int.lt_of_lt_of_le (by rw[QF,Q8];decide:((10:Nat):Int)<pw 1) (QI (by decide)))) (by simp -implicitDefEqProofs only[id,reduceCtorEq,reduceIte,Nat.reduceMul,Nat.reduceAdd,Nat.reduceLT,Nat.reduceLeDiff,Nat.reduceEqDiff,Int.reduceLT,Int.reduceBEq,Int.reduceBNe,Nat.reduceBEq,Int.reduceNeg,Zm];try rfl) (by simp -implicitDefEqProofs only[id,reduceCtorEq,reduceIte,Nat.reduceMul,Nat.reduceAdd,Nat.reduceLT,Nat.reduceLeDiff,Nat.reduceEqDiff,Int.reduceLT,Int.reduceBEq,Int.reduceBNe,Nat.reduceBEq,Int.reduceNeg,Zm];try rfl) ?_;intro y hy;obtain⟨ys,hy2,dy⟩:=hy.ints;have hy3:=hy2;have ly:=(dy.len_le 512).2 hb6;obtain⟨a5,c5,z5,r5,rfl,_⟩:=hy2;simp -implicitDefEqProofs only[id,reduceCtorEq,reduceIte,Nat.reduceMul,Nat.reduceAdd,Nat.reduceLT,Nat.reduceLeDiff,Nat.reduceEqDiff,Int.reduceLT,Int.reduceBEq,Int.reduceBNe,Nat.reduceBEq,Int.reduceNeg,Zm];refine Qc (refPlusLC F hy3 (ints_lit (a:=some ⟨blk1,0,none⟩) (cap:=1) (z:=(((l.getD i 0).toNat - 48:Nat):Int))) dy.limbs (QB.2 ⟨by omega,QJ⟩) ly (by show 1≤512;decide)) (by simp -implicitDefEqProofs only[id,reduceCtorEq,reduceIte,Nat.reduceMul,Nat.reduceAdd,Nat.reduceLT,Nat.reduceLeDiff,Nat.reduceEqDiff,Int.reduceLT,Int.reduceBEq,Int.reduceBNe,Nat.reduceBEq,Int.reduceNeg,Zm];try rfl) (by simp -implicitDefEqProofs only[id,reduceCtorEq,reduceIte,Nat.reduceMul,Nat.reduceAdd,Nat.reduceLT,Nat.reduceLeDiff,Nat.reduceEqDiff,Int.reduceLT,Int.reduceBEq,Int.reduceBNe,Nat.reduceBEq,Int.reduceNeg,Zm];try rfl) ?_;rintro y ⟨os,ho,lo,hv⟩;have ho2:=ho;obtain⟨a6,c6,z6,r6,rfl,_⟩:=ho;simp -implicitDefEqProofs only[id,reduceCtorEq,reduceIte,Nat.reduceMul,Nat.reduceAdd,Nat.reduceLT,Nat.reduceLeDiff,Nat.reduceEqDiff,Int.reduceLT,Int.reduceBEq,Int.reduceBNe,Nat.reduceBEq,Int.reduceNeg,Zm];refine Qc (refTrimC F ho2 lo) (by simp -implicitDefEqProofs only[id,reduceCtorEq,reduceIte,Nat.reduceMul,Nat.reduceAdd,Nat.reduceLT,Nat.reduceLeDiff,Nat.reduceEqDiff,Int.reduceLT,Int.reduceBEq,Int.reduceBNe,Nat.reduceBEq,Int.reduceNeg,Zm];try rfl) (by simp -implicitDefEqProofs only[id,reduceCtorEq,reduceIte,Nat.reduceMul,Nat.reduceAdd,Nat.reduceLT,Nat.reduceLeDiff,Nat.reduceEqDiff,Int.reduceLT,Int.reduceBEq,Int.reduceBNe,Nat.reduceBEq,Int.reduceNeg,Zm];try rfl) ?_;intro y hy
      have hval:(val os).toNat=Zx (l.take (i+1)):=by
        rw[hv,dy.val,hvs];simp [Lmb.val];omega
      rw[hval] at hy;have hs7:=hy;obtain⟨a7,c7,z7,r7,x7,rfl,_⟩:=hy;simp -implicitDefEqProofs only[id,reduceCtorEq,reduceIte,Nat.reduceMul,Nat.reduceAdd,Nat.reduceLT,Nat.reduceLeDiff,Nat.reduceEqDiff,Int.reduceLT,Int.reduceBEq,Int.reduceBNe,Nat.reduceBEq,Int.reduceNeg,Zm];refine hk _ ?_;clear hk k;simp only[Qg,Qk];refine Qa fun k hk=>?_;simp -implicitDefEqProofs only[id,reduceCtorEq,reduceIte,Nat.reduceMul,Nat.reduceAdd,Nat.reduceLT,Nat.reduceLeDiff,Nat.reduceEqDiff,Int.reduceLT,Int.reduceBEq,Int.reduceBNe,Nat.reduceBEq,Int.reduceNeg,e3,Zm];refine hk _ ?_;simp only[Qg,Qk];refine⟨(i+1,_),⟨hlt,hs7⟩,by show l.length - (i+1)<l.length - i;omega,?_⟩;simp -implicitDefEqProofs only[id,reduceCtorEq,reduceIte,Nat.reduceMul,Nat.reduceAdd,Nat.reduceLT,Nat.reduceLeDiff,Nat.reduceEqDiff,Int.reduceLT,Int.reduceBEq,Int.reduceBNe,Nat.reduceBEq,Int.reduceNeg,qb52]
      repeat' (first|rfl|(refine And.intro ?_ ?_))
    · simp -implicitDefEqProofs only[id,reduceCtorEq,reduceIte,Nat.reduceMul,Nat.reduceAdd,Nat.reduceLT,Nat.reduceLeDiff,Nat.reduceEqDiff,Int.reduceLT,Int.reduceBEq,Int.reduceBNe,Nat.reduceBEq,Int.reduceNeg,e1,e2,Zm]
      refine Qc (Q9 F hn1 (natsLit (a:=some ⟨blk,0,none⟩) (cap:=1) (z:=10) (x:=10) rfl (by decide) (by decide)) hb5 (Int.lt_of_lt_of_le (by rw[QF,Q8];decide:((10:Nat):Int)<pw 1) (QI (by decide)))) (by simp -implicitDefEqProofs only[id,reduceCtorEq,reduceIte,Nat.reduceMul,Nat.reduceAdd,Nat.reduceLT,Nat.reduceLeDiff,Nat.reduceEqDiff,Int.reduceLT,Int.reduceBEq,Int.reduceBNe,Nat.reduceBEq,Int.reduceNeg,Zm];try rfl) (by simp -implicitDefEqProofs only[id,reduceCtorEq,reduceIte,Nat.reduceMul,Nat.reduceAdd,Nat.reduceLT,Nat.reduceLeDiff,Nat.reduceEqDiff,Int.reduceLT,Int.reduceBEq,Int.reduceBNe,Nat.reduceBEq,Int.reduceNeg,Zm];try rfl) ?_;intro y hy;obtain⟨ys,hy2,dy⟩:=hy.ints;have hy3:=hy2;have ly:=(dy.len_le 512).2 hb6;obtain⟨a5,c5,z5,r5,rfl,_⟩:=hy2;simp -implicitDefEqProofs only[id,reduceCtorEq,reduceIte,Nat.reduceMul,Nat.reduceAdd,Nat.reduceLT,Nat.reduceLeDiff,Nat.reduceEqDiff,Int.reduceLT,Int.reduceBEq,Int.reduceBNe,Nat.reduceBEq,Int.reduceNeg,Zm];refine Qc (refPlusLC F hy3 (ints_lit (a:=some ⟨blk1,0,none⟩) (cap:=1) (z:=(((l.getD i 0).toNat - 48:Nat):Int))) dy.limbs (QB.2 ⟨by omega,QJ⟩) ly (by show 1≤512;decide)) (by simp -implicitDefEqProofs only[id,reduceCtorEq,reduceIte,Nat.reduceMul,Nat.reduceAdd,Nat.reduceLT,Nat.reduceLeDiff,Nat.reduceEqDiff,Int.reduceLT,Int.reduceBEq,Int.reduceBNe,Nat.reduceBEq,Int.reduceNeg,Zm];try rfl) (by simp -implicitDefEqProofs only[id,reduceCtorEq,reduceIte,Nat.reduceMul,Nat.reduceAdd,Nat.reduceLT,Nat.reduceLeDiff,Nat.reduceEqDiff,Int.reduceLT,Int.reduceBEq,Int.reduceBNe,Nat.reduceBEq,Int.reduceNeg,Zm];try rfl) ?_;rintro y ⟨os,ho,lo,hv⟩;have ho2:=ho;obtain⟨a6,c6,z6,r6,rfl,_⟩:=ho;simp -implicitDefEqProofs only[id,reduceCtorEq,reduceIte,Nat.reduceMul,Nat.reduceAdd,Nat.reduceLT,Nat.reduceLeDiff,Nat.reduceEqDiff,Int.reduceLT,Int.reduceBEq,Int.reduceBNe,Nat.reduceBEq,Int.reduceNeg,Zm];refine Qc (refTrimC F ho2 lo) (by simp -implicitDefEqProofs only[id,reduceCtorEq,reduceIte,Nat.reduceMul,Nat.reduceAdd,Nat.reduceLT,Nat.reduceLeDiff,Nat.reduceEqDiff,Int.reduceLT,Int.reduceBEq,Int.reduceBNe,Nat.reduceBEq,Int.reduceNeg,Zm];try rfl) (by simp -implicitDefEqProofs only[id,reduceCtorEq,reduceIte,Nat.reduceMul,Nat.reduceAdd,Nat.reduceLT,Nat.reduceLeDiff,Nat.reduceEqDiff,Int.reduceLT,Int.reduceBEq,Int.reduceBNe,Nat.reduceBEq,Int.reduceNeg,Zm];try rfl) ?_;intro y hy
      have hval:(val os).toNat=Zx (l.take (i+1)):=by
        rw[hv,dy.val,hvs];simp [Lmb.val];omega
      rw[hval] at hy;have hs7:=hy;obtain⟨a7,c7,z7,r7,x7,rfl,_⟩:=hy;simp -implicitDefEqProofs only[id,reduceCtorEq,reduceIte,Nat.reduceMul,Nat.reduceAdd,Nat.reduceLT,Nat.reduceLeDiff,Nat.reduceEqDiff,Int.reduceLT,Int.reduceBEq,Int.reduceBNe,Nat.reduceBEq,Int.reduceNeg,Zm];refine hk _ ?_;clear hk k;simp only[Qg,Qk];refine Qa fun k hk=>?_;simp -implicitDefEqProofs only[id,reduceCtorEq,reduceIte,Nat.reduceMul,Nat.reduceAdd,Nat.reduceLT,Nat.reduceLeDiff,Nat.reduceEqDiff,Int.reduceLT,Int.reduceBEq,Int.reduceBNe,Nat.reduceBEq,Int.reduceNeg,e3,Zm];refine hk _ ?_;simp only[Qg,Qk];refine⟨(i+1,_),⟨hlt,hs7⟩,by show l.length - (i+1)<l.length - i;omega,?_⟩;simp -implicitDefEqProofs only[id,reduceCtorEq,reduceIte,Nat.reduceMul,Nat.reduceAdd,Nat.reduceLT,Nat.reduceLeDiff,Nat.reduceEqDiff,Int.reduceLT,Int.reduceBEq,Int.reduceBNe,Nat.reduceBEq,Int.reduceNeg,qb52]
      repeat' (first|rfl|(refine And.intro ?_ ?_))
  · have hiN:i=l.length:=by have:=of_decide_eq_false h;omega
    subst hiN;rw[List.take_length] at hn1;refine Sat.exit ?_;simp only[Qg,Qk,reduceIte];(repeat refine Qb ?_);(refine Qa fun k hk=>?_;simp -implicitDefEqProofs only[id,reduceCtorEq,reduceIte,Nat.reduceMul,Nat.reduceAdd,Nat.reduceLT,Nat.reduceLeDiff,Nat.reduceEqDiff,Int.reduceLT,Int.reduceBEq,Int.reduceBNe,Nat.reduceBEq,Int.reduceNeg,Zm]);refine Qc (refLimitedC F hn1) rfl rfl ?_;rintro y ⟨s6,rfl,hs6⟩;have hs7:=hs6;obtain⟨a6,c6,z6,r6,x6,rfl,_⟩:=hs6;simp -implicitDefEqProofs only[id,reduceCtorEq,reduceIte,Nat.reduceMul,Nat.reduceAdd,Nat.reduceLT,Nat.reduceLeDiff,Nat.reduceEqDiff,Int.reduceLT,Int.reduceBEq,Int.reduceBNe,Nat.reduceBEq,Int.reduceNeg,Zm];(refine hk _ ?_;clear hk k;try show Sat _ _ _ _ _);refine Sat.ret ?_;simp only[Tryz.results34,id,seval,Int.reduceNeg,qb53];by_cases h8:((Zx l:Nat):Int)<pw 256
    · rw[limE_ok h8] at *
      rw[limV_ok h8] at hs7;rw[parV,parE_ok hd9 (by omega) h8];exact⟨_,rfl,hs7⟩
    · rw[limE_big h8] at *
      rw[limV_big h8] at hs7;rw[parV,parE_big hd9 (by omega) h8];exact⟨_,rfl,hs7⟩
end Tq
end

section
namespace Tq
open Eng Lmb Go.RowKit
theorem resultLongC (F:Frm) {s:SV} {xs:List Int} (h:Ints s xs) (hlen:256<(trim xs).length):Contract F Tryz.prog 68 [s] (numRes 5 0):=by
  refine Zl Tryz.func68 rfl (by kernel_rfl) fun R w hargs hR=>?_;refine (@Zn.result_rd_long (zoneOf R w) _ _ w (rd_to (hargs s (by simp)) h hR) hlen).mono ?_;rintro e w' ⟨rfl,rfl⟩;exact⟨QW [.sl none 0 0 0 (fun _ _=>default),.i .i64 5],rfl,⟨_,rfl,Nats.nil⟩,tup2_ok ⟨Nat.le_refl _,by simp [maxLen],.inl rfl⟩ trivial,Below.refl _ _⟩
def qb54:=And.intro @evr (@evn)
def qb57:=And.intro @evr (And.intro @List.append_nil.{0} (And.intro @Int.toNat_zero (@Nat.sub_self)))
def qb55:=And.intro @evr (And.intro @QA (And.intro @QY (@evn)))
def qb56:=And.intro @evr (And.intro @evl (@evn))
set_option maxHeartbeats 1000000 in
set_option maxRecDepth 100000 in
theorem natParseOkC (F:Frm) (l:List UInt8) (hd9:digB l=true) (hbig:l.length≤100000):Contract F Tryz.prog 33 [sB l] (numRes (parE l) (parV l)):=by
  obtain⟨hne,hd,h0⟩:=(digB_iff l).1 hd9;have hlen:0<l.length:=List.length_pos_iff.2 hne;have htr:Lib.trimS l digSet=[]:=trim_all fun c hc=>dig_in (hd c hc);have tC:=trimC F l (by omega);rw[htr] at tC;refine Qf Tryz.func33 rfl (by kernel_rfl) ?_;simp only[Tryz.ntmps33,Qm];(repeat refine Qb ?_);(refine Qa fun k hk=>?_;simp -implicitDefEqProofs only[id,reduceCtorEq,reduceIte,Nat.reduceMul,Nat.reduceAdd,Nat.reduceLT,Nat.reduceLeDiff,Nat.reduceEqDiff,Int.reduceLT,Int.reduceBEq,Int.reduceBNe,Nat.reduceBEq,qb54];refine hk _ ?_;clear hk k;try show Sat _ _ _ _ _);(repeat refine Qb ?_);have q1:(l == [])=false:=by rw[beq_eq_false_iff_ne];exact hne
  have q2:(([]:List UInt8) != [])=false:=by decide
  obtain⟨c,hc⟩:∃ c,l[0]? = some c:=⟨_,List.getElem?_eq_getElem hlen⟩;refine Qj ⟨68,[(27,.b false),(0,sB l),(2,.sl none 0 0 0 fun _ _=>.v undef),(3,.i .i64 0)],[]⟩ (fun k hk=>?_) ?_
  · simp -implicitDefEqProofs only[id,reduceCtorEq,reduceIte,Nat.reduceMul,Nat.reduceAdd,Nat.reduceLT,Nat.reduceLeDiff,Nat.reduceEqDiff,Int.reduceLT,Int.reduceBEq,Int.reduceBNe,Nat.reduceBEq,q1,qb55]
    refine Qe tC rfl (by rintro _ rfl;exact Qi rfl) ?_;rintro rr rfl;simp -implicitDefEqProofs only[id,reduceCtorEq,reduceIte,Nat.reduceMul,Nat.reduceAdd,Nat.reduceLT,Nat.reduceLeDiff,Nat.reduceEqDiff,Int.reduceLT,Int.reduceBEq,Int.reduceBNe,Nat.reduceBEq,q2,qb55];rw[byte_at l 0 c hc]
    have hc48:((c.toNat:Int) == 48)=true→l.length=1:=fun h9=>by
      rw[beq_iff_eq] at h9;rcases h0 with h0|h0
      · exact h0
      · exfalso
        apply h0;rw[hc];have e:c=UInt8.ofNat c.toNat:=by simp
        rw[e,show c.toNat=48 by omega];rfl
    refine⟨⟨by omega,by rw[Qn];omega⟩,fun h9=>?_,fun h9=>?_⟩
    · have e9:decide (1<((mkB l).size:Int))=false:=decide_eq_false (by rw[Qn,hc48 h9];decide)
      refine hk _ ?_;simp only[e9];simp -implicitDefEqProofs only[id,reduceCtorEq,reduceIte,Nat.reduceMul,Nat.reduceAdd,Nat.reduceLT,Nat.reduceLeDiff,Nat.reduceEqDiff,Int.reduceLT,Int.reduceBEq,Int.reduceBNe,Nat.reduceBEq,qb56]
      repeat' (first|rfl|(refine And.intro ?_ ?_))
    · refine hk _ ?_
      simp -implicitDefEqProofs only[id,reduceCtorEq,reduceIte,Nat.reduceMul,Nat.reduceAdd,Nat.reduceLT,Nat.reduceLeDiff,Nat.reduceEqDiff,Int.reduceLT,Int.reduceBEq,Int.reduceBNe,Nat.reduceBEq,qb56]
      repeat' (first|rfl|(refine And.intro ?_ ?_))
  refine Qd rfl (fun h=>absurd h (by decide)) (fun _=>?_);refine Sat.skip ?_;simp only[Qg];(repeat refine Qb ?_);(refine Qa fun k hk=>?_;simp -implicitDefEqProofs only[id,reduceCtorEq,reduceIte,Nat.reduceMul,Nat.reduceAdd,Nat.reduceLT,Nat.reduceLeDiff,Nat.reduceEqDiff,Int.reduceLT,Int.reduceBEq,Int.reduceBNe,Nat.reduceBEq,qb54];refine hk _ ?_;clear hk k;try show Sat _ _ _ _ _);refine Qd rfl (fun h=>?_) (fun h=>?_)
  · have h9:=of_decide_eq_true h
    rw[Qn] at h9;(repeat refine Qb ?_);(refine Qa fun k hk=>?_;simp -implicitDefEqProofs only[id,reduceCtorEq,reduceIte,Nat.reduceMul,Nat.reduceAdd,Nat.reduceLT,Nat.reduceLeDiff,Nat.reduceEqDiff,Int.reduceLT,Int.reduceBEq,Int.reduceBNe,Nat.reduceBEq,qb54];refine hk _ ?_;clear hk k;try show Sat _ _ _ _ _);refine Sat.ret ?_;simp only[Tryz.results33,id,seval,qb57];rw[parV,parE_long hd9 (by omega)];exact⟨_,rfl,Nats.nil⟩
  have hl:l.length≤2400:=by
    have h9:=of_decide_eq_false h;rw[Qn] at h9;omega
  refine Sat.skip ?_;simp only[Qg];(repeat refine Qb ?_);(refine Qa fun k hk=>?_;simp -implicitDefEqProofs only[id,reduceCtorEq,reduceIte,Nat.reduceMul,Nat.reduceAdd,Nat.reduceLT,Nat.reduceLeDiff,Nat.reduceEqDiff,Int.reduceLT,Int.reduceBEq,Int.reduceBNe,Nat.reduceBEq,qb54];refine hk _ ?_;clear hk k;try show Sat _ _ _ _ _);(repeat refine Qb ?_);refine Sat.region_range (by decide) (by decide) (by kernel_rfl) rfl ?_;intro blk;simp only[Qg];refine Zr 4 3 1 (fun p _=>.i .i64 (([]:List Int).getD p 0)) rfl ?_;simp -implicitDefEqProofs only[id,reduceCtorEq,reduceIte,Nat.reduceMul,Nat.reduceAdd,Nat.reduceLT,Nat.reduceLeDiff,Nat.reduceEqDiff,Int.reduceLT,Int.reduceBEq,Int.reduceBNe,Nat.reduceBEq,qb54];(repeat refine Qb ?_);try refine Sat.block ?_
  refine Sat.loop (ι:=Nat×Option Addr×Nat×List Int) (fun x=>⟨68,[(32,.v (.pointer (some ⟨blk,0,none⟩))),(4,.os 1 x.2.1 x.2.2.2.length x.2.2.1)],[.res blk (IterAt blk (mkB l) x.1),.row x.2.1 3 x.2.2.2.length x.2.2.1 1 (fun p _=>.i .i64 (x.2.2.2.getD p 0))]⟩)
    (fun x=>x.1≤l.length∧Qv x.2.2.2∧val x.2.2.2=(Zx (l.take x.1):Int)∧x.2.2.2.length≤x.1) (fun x=>l.length - x.1) (0,none,0,[]) ⟨Nat.zero_le _,QJ,rfl,Nat.le_refl _⟩ (by
      simp -implicitDefEqProofs only[id,reduceCtorEq,reduceIte,Nat.reduceMul,Nat.reduceAdd,Nat.reduceLT,Nat.reduceLeDiff,Nat.reduceEqDiff,Int.reduceLT,Int.reduceBEq,Int.reduceBNe,Nat.reduceBEq,qb56]
      repeat' (first|rfl|(refine And.intro ?_ ?_))) ?_
  rintro⟨pos,a,cap,xs⟩ ⟨hpos,hlim,hval,hxl⟩;simp only at hpos hlim hval hxl ⊢;(repeat refine Qb ?_)
  refine Sat.region_next (oid:=0) (s:=mkB l) (pos:=pos) (by decide) rfl rfl (fun h=>by
    rw[byte_get];have:=hd _ (List.getElem_mem (by rw[Qn] at h;exact h))
    exact Nat.lt_of_le_of_lt this.2 (by decide)) (fun h k hk=>?_) (fun h k hk=>?_)
  · have hp:pos<l.length:=by rw[Qn] at h;exact h
    have hdig:=hd _ (List.getElem_mem hp);have hgc:=byte_get l pos h;have htk:l.take (pos+1)=l.take pos ++ [l[pos]]:=by rw[List.take_add_one,List.getElem?_eq_getElem hp];rfl
    have hvs:Zx (l.take (pos+1))=10 * Zx (l.take pos)+(l[pos].toNat - 48):=by rw[htk,valD_snoc]
    simp only[hgc];generalize l[pos]=c9 at hdig hvs ⊢;obtain⟨g1,g2⟩:=hdig
    have e1:IntKind.i32.wrap ((c9.toNat:Int) - 48)=((c9.toNat - 48:Nat):Int):=by
      rw[IntWalk.i32_in _ ⟨by omega,by omega⟩];omega
    have e2:IntKind.i64.wrap ((c9.toNat - 48:Nat):Int)=((c9.toNat - 48:Nat):Int):=w64 (by omega);simp -implicitDefEqProofs only[id,reduceCtorEq,reduceIte,Nat.reduceMul,Nat.reduceAdd,Nat.reduceLT,Nat.reduceLeDiff,Nat.reduceEqDiff,Int.reduceLT,Int.reduceBEq,Int.reduceBNe,Nat.reduceBEq,qb54];refine hk _ ?_;clear hk k;simp only[Qg];(repeat refine Qb ?_);refine Qd rfl (fun _=>?_) (fun h9=>absurd h9 (by decide));refine Sat.skip ?_;simp only[Qg];(repeat refine Qb ?_);refine Sat.block ?_;(repeat refine Qb ?_);(refine Qa fun k hk=>?_;simp -implicitDefEqProofs only[id,reduceCtorEq,reduceIte,Nat.reduceMul,Nat.reduceAdd,Nat.reduceLT,Nat.reduceLeDiff,Nat.reduceEqDiff,Int.reduceLT,Int.reduceBEq,Int.reduceBNe,Nat.reduceBEq,qb54];refine hk _ ?_;clear hk k;try show Sat _ _ _ _ _);(repeat refine Qb ?_);refine Qa fun k hk=>?_;simp -implicitDefEqProofs only[id,reduceCtorEq,reduceIte,Nat.reduceMul,Nat.reduceAdd,Nat.reduceLT,Nat.reduceLeDiff,Nat.reduceEqDiff,Int.reduceLT,Int.reduceBEq,Int.reduceBNe,Nat.reduceBEq,e1,e2,qb54];(refine hk _ ?_;clear hk k;try show Sat _ _ _ _ _);(repeat refine Qb ?_);(refine Qa fun k hk=>?_;simp -implicitDefEqProofs only[id,reduceCtorEq,reduceIte,Nat.reduceMul,Nat.reduceAdd,Nat.reduceLT,Nat.reduceLeDiff,Nat.reduceEqDiff,Int.reduceLT,Int.reduceBEq,Int.reduceBNe,Nat.reduceBEq,qb54];refine hk _ ?_;clear hk k;try show Sat _ _ _ _ _);(repeat refine Qb ?_);refine Sat.block ?_;refine Sat.loop (ι:=Nat×List Int×Int) (fun x=>⟨68,[(41,.i .i64 x.1),(40,.i .i64 xs.length),(39,.os 1 a xs.length cap),(7,.i .i64 x.2.2),(32,.v (.pointer (some ⟨blk,0,none⟩))),(4,.os 1 a xs.length cap)],[.res blk (IterAt blk (mkB l) (pos+1)),.row a 3 xs.length cap 1 (fun p _=>.i .i64 (x.2.1.getD p 0))]⟩)
      (fun x=>x.1≤xs.length∧DigInv xs ((c9.toNat - 48:Nat):Int) x.1 x.2.1 x.2.2) (fun x=>xs.length - x.1) (0,xs,((c9.toNat - 48:Nat):Int)) ⟨Nat.zero_le _,DigInv.start hlim (by omega) (by omega)⟩ (by
        simp -implicitDefEqProofs only[id,reduceCtorEq,reduceIte,Nat.reduceMul,Nat.reduceAdd,Nat.reduceLT,Nat.reduceLeDiff,Nat.reduceEqDiff,Int.reduceLT,Int.reduceBEq,Int.reduceBNe,Nat.reduceBEq,qb56]
        repeat' (first|rfl|(refine And.intro ?_ ?_))) ?_
    rintro⟨i,ys,carry⟩ ⟨hi,hinv⟩;simp only at hi hinv ⊢;(repeat refine Qb ?_);(refine Qa fun k hk=>?_;simp -implicitDefEqProofs only[id,reduceCtorEq,reduceIte,Nat.reduceMul,Nat.reduceAdd,Nat.reduceLT,Nat.reduceLeDiff,Nat.reduceEqDiff,Int.reduceLT,Int.reduceBEq,Int.reduceBNe,Nat.reduceBEq,qb54];refine hk _ ?_;clear hk k;try show Sat _ _ _ _ _);(repeat refine Qb ?_);refine Qd rfl (fun h9=>?_) (fun h9=>?_)
    · have hi1:i<xs.length:=by have:=of_decide_eq_true h9;omega
      clear h9;have hnew:=hinv.step hlim hi1;have hc0:=hinv.c_lo;have hc1:=hinv.c_hi;have hyl:=hinv.len
      have hyi:0≤ys.getD i 0∧ys.getD i 0<1073741824:=by
        have e:ys.getD i 0=ys[i]'(by omega):=by simp [List.getD,show i<ys.length by omega]
        rw[e];exact hinv.limbs _ (List.getElem_mem _)
      have f1:IntKind.i64.wrap (10 * ys.getD i 0)=10 * ys.getD i 0:=w64 (by omega);have f2:IntKind.i64.wrap (10 * ys.getD i 0+carry)=10 * ys.getD i 0+carry:=w64 (by omega);have f3:bits .and .i64 (10 * ys.getD i 0+carry) 1073741823=(10 * ys.getD i 0+carry) % 1073741824:=Zn.and_limb _
      have f4:(10 * ys.getD i 0+carry).fdiv (2 ^ min (Int.toNat 30) IntKind.i64.bits)=(10 * ys.getD i 0+carry) / 1073741824:=by
        show (10 * ys.getD i 0+carry).fdiv 1073741824=_;rw[Int.fdiv_eq_ediv_of_nonneg _ (by decide)]
      have f5:IntKind.i64.wrap ((10 * ys.getD i 0+carry) / 1073741824)=(10 * ys.getD i 0+carry) / 1073741824:=w64 (by omega);have f6:IntKind.i64.wrap ((i:Int)+1)=((i+1:Nat):Int):=by rw[w64 (by omega)];omega
      refine Sat.skip ?_;simp only[Qg];(repeat refine Qb ?_);refine Sat.block ?_;(repeat refine Qb ?_);(refine Qa fun k hk=>?_;simp -implicitDefEqProofs only[id,reduceCtorEq,reduceIte,Nat.reduceMul,Nat.reduceAdd,Nat.reduceLT,Nat.reduceLeDiff,Nat.reduceEqDiff,Int.reduceLT,Int.reduceBEq,Int.reduceBNe,Nat.reduceBEq,qb54]);refine⟨by omega,hi1,?_⟩;(refine hk _ ?_;clear hk k;try show Sat _ _ _ _ _);(repeat refine Qb ?_);refine Qa fun k hk=>?_;simp -implicitDefEqProofs only[id,reduceCtorEq,reduceIte,Nat.reduceMul,Nat.reduceAdd,Nat.reduceLT,Nat.reduceLeDiff,Nat.reduceEqDiff,Int.reduceLT,Int.reduceBEq,Int.reduceBNe,Nat.reduceBEq,f1,f2,qb54];(refine hk _ ?_;clear hk k;try show Sat _ _ _ _ _);refine Qa fun k hk=>?_;simp -implicitDefEqProofs only[id,reduceCtorEq,reduceIte,Nat.reduceMul,Nat.reduceAdd,Nat.reduceLT,Nat.reduceLeDiff,Nat.reduceEqDiff,Int.reduceLT,Int.reduceBEq,Int.reduceBNe,Nat.reduceBEq,f3,f4,f5,qb54];refine⟨by decide,by omega,hi1,?_⟩;refine hk _ ?_;clear hk k;simp only[Qg,Qk];refine Qa fun k hk=>?_;simp -implicitDefEqProofs only[id,reduceCtorEq,reduceIte,Nat.reduceMul,Nat.reduceAdd,Nat.reduceLT,Nat.reduceLeDiff,Nat.reduceEqDiff,Int.reduceLT,Int.reduceBEq,Int.reduceBNe,Nat.reduceBEq,f6,qb54];refine hk _ ?_;simp only[Qg,Qk];refine⟨(i+1,ys.set i ((10 * ys.getD i 0+carry) % 1073741824),(10 * ys.getD i 0+carry) / 1073741824),⟨by omega,hnew⟩,by show _ - (i+1)<_ - i;omega,?_⟩;have es:=rd_set (qs:=ys) (n:=xs.length) (ix:=i) (x:=(10 * ys.getD i 0+carry) % 1073741824) rfl (by omega);simp -implicitDefEqProofs only[id,reduceCtorEq,reduceIte,Nat.reduceMul,Nat.reduceAdd,Nat.reduceLT,Nat.reduceLeDiff,Nat.reduceEqDiff,Int.reduceLT,Int.reduceBEq,Int.reduceBNe,Nat.reduceBEq,qb56]
      repeat' (first|exact es|rfl|(refine And.intro ?_ ?_))
    · have hi1:i=xs.length:=by have:=of_decide_eq_false h9;omega
      subst hi1;clear h9;have hyl:=hinv.len;have hv9:=hinv.val;rw[List.take_of_length_le (by omega),List.take_of_length_le (Nat.le_refl _),hval] at hv9;have hc0:=hinv.c_lo;have hc1:=hinv.c_hi;refine Sat.exit ?_;simp only[Qg,Qk,reduceIte];(repeat refine Qb ?_);(refine Qa fun k hk=>?_;simp -implicitDefEqProofs only[id,reduceCtorEq,reduceIte,Nat.reduceMul,Nat.reduceAdd,Nat.reduceLT,Nat.reduceLeDiff,Nat.reduceEqDiff,Int.reduceLT,Int.reduceBEq,Int.reduceBNe,Nat.reduceBEq,qb54];refine hk _ ?_;clear hk k;try show Sat _ _ _ _ _);refine Qd rfl (fun h9=>?_) (fun h9=>?_)
      · have h9:=of_decide_eq_true h9
        refine Qa fun k hk=>?_;simp -implicitDefEqProofs only[id,reduceCtorEq,reduceIte,Nat.reduceMul,Nat.reduceAdd,Nat.reduceLT,Nat.reduceLeDiff,Nat.reduceEqDiff,Int.reduceLT,Int.reduceBEq,Int.reduceBNe,Nat.reduceBEq,qb54];intro blk2;refine⟨⟨by unfold maxLen;omega,by omega⟩,fun a2 cap2=>?_⟩;refine hk _ ?_;simp only[Qg,Qk];refine⟨(pos+1,a2,cap2,ys ++ [carry]),⟨by omega,limbs_append.2 ⟨hinv.limbs,QB.2 ⟨by omega,QJ⟩⟩,?_,by simp;omega⟩,by show _ - (pos+1)<_ - pos;omega,?_⟩
        · rw[val_append,hyl,show Lmb.val [carry]=carry by simp [Lmb.val],hv9,hvs]
          omega
        · have es:=rd_snoc (os:=ys) (x:=carry) (n:=xs.length) hyl rfl
          simp only[List.length_append,List.length_cons,List.length_nil,hyl];simp -implicitDefEqProofs only[id,reduceCtorEq,reduceIte,Nat.reduceMul,Nat.reduceAdd,Nat.reduceLT,Nat.reduceLeDiff,Nat.reduceEqDiff,Int.reduceLT,Int.reduceBEq,Int.reduceBNe,Nat.reduceBEq,qb56]
          repeat' (first|exact es|rfl|(refine And.intro ?_ ?_))
      · have h9:=of_decide_eq_false h9
        have hcz:carry=0:=by omega
        subst hcz;refine Sat.skip ?_;simp only[Qg,Qk];refine⟨(pos+1,a,cap,ys),⟨by omega,hinv.limbs,?_,by show ys.length≤pos+1;omega⟩,by show _ - (pos+1)<_ - pos;omega,?_⟩
        · rw[Int.mul_zero,Int.add_zero] at hv9
          rw[hv9,hvs];omega
        · simp only[hyl]
          simp -implicitDefEqProofs only[id,reduceCtorEq,reduceIte,Nat.reduceMul,Nat.reduceAdd,Nat.reduceLT,Nat.reduceLeDiff,Nat.reduceEqDiff,Int.reduceLT,Int.reduceBEq,Int.reduceBNe,Nat.reduceBEq,qb56]
          repeat' (first|rfl|(refine And.intro ?_ ?_))
  · have hp:pos=l.length:=by rw[Qn] at h;omega
    subst hp;rw[List.take_length] at hval;have hval2:(val xs).toNat=Zx l:=by omega
    have hint:Ints (.sl a xs.length cap 1 (fun p _=>.i .i64 (xs.getD p 0))) xs:=⟨a,cap,1,_,rfl,.inr rfl,fun _ _=>rfl⟩;simp -implicitDefEqProofs only[id,reduceCtorEq,reduceIte,Nat.reduceMul,Nat.reduceAdd,Nat.reduceLT,Nat.reduceLeDiff,Nat.reduceEqDiff,Int.reduceLT,Int.reduceBEq,Int.reduceBNe,Nat.reduceBEq,qb54];refine hk _ ?_;clear hk k;simp only[Qg];(repeat refine Qb ?_);refine Qd rfl (fun h9=>absurd h9 (by decide)) (fun _=>?_);refine Sat.exit ?_;simp only[Qg,Qk,reduceIte];by_cases hv:((Zx l:Nat):Int)<pw 256
    · have htr2:(trim xs).length≤256:=((Ze hlim).len_le 256).2 (by rw[hval2];exact hv)
      have rC:=resultC F hint hlim htr2;rw[hval2] at rC;(repeat refine Qb ?_);(refine Qa fun k hk=>?_;simp -implicitDefEqProofs only[id,reduceCtorEq,reduceIte,Nat.reduceMul,Nat.reduceAdd,Nat.reduceLT,Nat.reduceLeDiff,Nat.reduceEqDiff,Int.reduceLT,Int.reduceBEq,Int.reduceBNe,Nat.reduceBEq,qb54]);refine Qc rC rfl (by simp -implicitDefEqProofs only[id,reduceCtorEq,reduceIte,Nat.reduceMul,Nat.reduceAdd,Nat.reduceLT,Nat.reduceLeDiff,Nat.reduceEqDiff,Int.reduceLT,Int.reduceBEq,Int.reduceBNe,Nat.reduceBEq,qb54];try rfl) ?_;rintro r ⟨s9,rfl,hs9⟩;have hs8:=hs9;obtain⟨a3,c3,z3,r3,x3,rfl,_⟩:=hs9;simp -implicitDefEqProofs only[id,reduceCtorEq,reduceIte,Nat.reduceMul,Nat.reduceAdd,Nat.reduceLT,Nat.reduceLeDiff,Nat.reduceEqDiff,Int.reduceLT,Int.reduceBEq,Int.reduceBNe,Nat.reduceBEq,qb54];(refine hk _ ?_;clear hk k;try show Sat _ _ _ _ _);refine Sat.ret ?_;simp only[Tryz.results33,id,seval,qb57];rw[parV,parE_ok hd9 (by omega) hv];exact⟨_,rfl,hs8⟩
    · have htr2:256<(trim xs).length:=by
        rcases Nat.lt_or_ge 256 (trim xs).length with h9|h9
        · exact h9
        · exfalso
          apply hv;have:=((Ze hlim).len_le 256).1 h9;rw[hval2] at this;exact this
      have rC:=resultLongC F hint htr2;(repeat refine Qb ?_);(refine Qa fun k hk=>?_;simp -implicitDefEqProofs only[id,reduceCtorEq,reduceIte,Nat.reduceMul,Nat.reduceAdd,Nat.reduceLT,Nat.reduceLeDiff,Nat.reduceEqDiff,Int.reduceLT,Int.reduceBEq,Int.reduceBNe,Nat.reduceBEq,qb54]);refine Qc rC rfl (by simp -implicitDefEqProofs only[id,reduceCtorEq,reduceIte,Nat.reduceMul,Nat.reduceAdd,Nat.reduceLT,Nat.reduceLeDiff,Nat.reduceEqDiff,Int.reduceLT,Int.reduceBEq,Int.reduceBNe,Nat.reduceBEq,qb54];try rfl) ?_;rintro r ⟨s9,rfl,hs9⟩;have hs8:=hs9;obtain⟨a3,c3,z3,r3,x3,rfl,_⟩:=hs9;simp -implicitDefEqProofs only[id,reduceCtorEq,reduceIte,Nat.reduceMul,Nat.reduceAdd,Nat.reduceLT,Nat.reduceLeDiff,Nat.reduceEqDiff,Int.reduceLT,Int.reduceBEq,Int.reduceBNe,Nat.reduceBEq,qb54];(refine hk _ ?_;clear hk k;try show Sat _ _ _ _ _);refine Sat.ret ?_;simp only[Tryz.results33,id,seval,qb57];rw[parV,parE_big hd9 (by omega) hv];exact⟨_,rfl,hs8⟩
set_option maxRecDepth 100000 in
theorem natParseBadC (F:Frm) (l:List UInt8) (hd9:digB l=false) (hbig:l.length≤100000):Contract F Tryz.prog 33 [sB l] (numRes 2 0):=by
  have tC:=trimC F l (by omega);refine Qf Tryz.func33 rfl (by kernel_rfl) ?_;simp only[Tryz.ntmps33,Qm];(repeat refine Qb ?_);(refine Qa fun k hk=>?_;simp -implicitDefEqProofs only[id,reduceCtorEq,reduceIte,Nat.reduceMul,Nat.reduceAdd,Nat.reduceLT,Nat.reduceLeDiff,Nat.reduceEqDiff,Int.reduceLT,Int.reduceBEq,Int.reduceBNe,Nat.reduceBEq,qb54];refine hk _ ?_;clear hk k;try show Sat _ _ _ _ _);(repeat refine Qb ?_);refine Qj ⟨68,[(27,.b true)],[]⟩ (fun k hk=>?_) ?_
  · by_cases q1:l=[]
    · subst q1
      have q0:(([]:List UInt8) == [])=true:=rfl;simp -implicitDefEqProofs only[id,reduceCtorEq,reduceIte,Nat.reduceMul,Nat.reduceAdd,Nat.reduceLT,Nat.reduceLeDiff,Nat.reduceEqDiff,Int.reduceLT,Int.reduceBEq,Int.reduceBNe,Nat.reduceBEq,q0,qb55];refine hk _ ?_;simp -implicitDefEqProofs only[id,reduceCtorEq,reduceIte,Nat.reduceMul,Nat.reduceAdd,Nat.reduceLT,Nat.reduceLeDiff,Nat.reduceEqDiff,Int.reduceLT,Int.reduceBEq,Int.reduceBNe,Nat.reduceBEq,qb56]
    · have q2:(l == [])=false:=by rw[beq_eq_false_iff_ne];exact q1
      have hlen:0<l.length:=List.length_pos_iff.2 q1;obtain⟨c,hc⟩:∃ c,l[0]? = some c:=⟨_,List.getElem?_eq_getElem hlen⟩;simp -implicitDefEqProofs only[id,reduceCtorEq,reduceIte,Nat.reduceMul,Nat.reduceAdd,Nat.reduceLT,Nat.reduceLeDiff,Nat.reduceEqDiff,Int.reduceLT,Int.reduceBEq,Int.reduceBNe,Nat.reduceBEq,q2,qb55];refine Qe tC rfl (by rintro _ rfl;exact Qi rfl) ?_;rintro rr rfl;by_cases q3:Lib.trimS l digSet=[]
      · have q4:(([]:List UInt8) != [])=false:=by decide
        have q5:(!(([]:List UInt8) == []))=false:=by decide
        have hdig:∀ c∈l,isDig c:=fun c hc=>set_dig (trim_some q3 c hc)
        have h2:¬ (l.length=1∨l[0]?≠some 48):=fun h=>by
          rw[(digB_iff l).2 ⟨q1,hdig,h⟩] at hd9;cases hd9
        have h48:c=48:=by
          rw[hc] at h2;by_cases h9:c=48
          · exact h9
          · exact absurd (.inr (fun h8=>h9 (Option.some.inj h8))) h2
        have hl1:1<l.length:=by
          rcases Nat.lt_or_ge 1 l.length with h9|h9
          · exact h9
          · exact absurd (.inl (by omega)) h2
        simp -implicitDefEqProofs only[id,reduceCtorEq,reduceIte,Nat.reduceMul,Nat.reduceAdd,Nat.reduceLT,Nat.reduceLeDiff,Nat.reduceEqDiff,Int.reduceLT,Int.reduceBEq,Int.reduceBNe,Nat.reduceBEq,q3,q4,q5,qb55];rw[byte_at l 0 c hc,h48];refine⟨⟨by omega,by rw[Qn];omega⟩,fun h9=>?_,fun h9=>absurd h9 (by decide)⟩;have e9:decide (1<((mkB l).size:Int))=true:=decide_eq_true (by rw[Qn];omega);refine hk _ ?_;simp only[e9];simp -implicitDefEqProofs only[id,reduceCtorEq,reduceIte,Nat.reduceMul,Nat.reduceAdd,Nat.reduceLT,Nat.reduceLeDiff,Nat.reduceEqDiff,Int.reduceLT,Int.reduceBEq,Int.reduceBNe,Nat.reduceBEq,qb56]
      · have q4:(Lib.trimS l digSet != [])=true:=by rw[bne_iff_ne];exact q3
        have q5:(!(Lib.trimS l digSet == []))=true:=q4;simp -implicitDefEqProofs only[id,reduceCtorEq,reduceIte,Nat.reduceMul,Nat.reduceAdd,Nat.reduceLT,Nat.reduceLeDiff,Nat.reduceEqDiff,Int.reduceLT,Int.reduceBEq,Int.reduceBNe,Nat.reduceBEq,q4,q5,qb55];refine hk _ ?_;simp -implicitDefEqProofs only[id,reduceCtorEq,reduceIte,Nat.reduceMul,Nat.reduceAdd,Nat.reduceLT,Nat.reduceLeDiff,Nat.reduceEqDiff,Int.reduceLT,Int.reduceBEq,Int.reduceBNe,Nat.reduceBEq,qb56]
  simp only[Qg];refine Qd rfl (fun _=>?_) (fun h=>absurd h (by decide));(repeat refine Qb ?_);(refine Qa fun k hk=>?_;simp -implicitDefEqProofs only[id,reduceCtorEq,reduceIte,Nat.reduceMul,Nat.reduceAdd,Nat.reduceLT,Nat.reduceLeDiff,Nat.reduceEqDiff,Int.reduceLT,Int.reduceBEq,Int.reduceBNe,Nat.reduceBEq,qb54];refine hk _ ?_;clear hk k;try show Sat _ _ _ _ _);refine Sat.ret ?_;simp only[Tryz.results33,id,seval,qb57];exact⟨_,rfl,Nats.nil⟩
theorem natParseC (F:Frm) (l:List UInt8) (hbig:l.length≤100000):Contract F Tryz.prog 33 [sB l] (numRes (parE l) (parV l)):=by
  cases h:digB l with
  | true=>exact natParseOkC F l h hbig
  | false=>
    have h1:=parE_form h;rw[parV,h1];exact natParseBadC F l h hbig
end Tq
end

section
namespace Tq
open Go.RowKit Eng
theorem mkB_extract (l:List UInt8) (i j:Nat):(mkB l).extract i j=mkB ((l.drop i).take (j - i)):=mkB_inj (by
  rw[mkB_list,ByteArray.data_extract,Array.toList_extract,List.extract_eq_take_drop];rfl)
theorem indexOneC (F:Frm) (s:ByteArray) (c:UInt8):Contract F Tryz.prog 138 [.v (.string s),.v (.string ⟨#[c]⟩)] (fun r=>r=.i .i64 (Lib.indexByte s.data.toList c)):=by
  refine Zl Tryz.func138 rfl (by kernel_rfl) fun R w hs hR=>?_;refine (Tryz.stringslite_Index_one s c w).mono ?_;rintro e w' ⟨rfl,rfl⟩;exact⟨_,rfl,rfl,trivial,Below.refl _ _⟩
def qb59:=And.intro @evr (And.intro @List.append_nil.{0} (And.intro @Int.toNat_zero (@Nat.sub_self)))
def qb58:=And.intro @evr (@evn)
set_option maxRecDepth 100000 in
theorem slCutC2 (F:Frm) (c:UInt8) (s:ByteArray) (n:Nat) (hn:Lib.indexByte s.data.toList c=(n:Int)) (hs:n<s.size) (hs2:s.size<4294967296):Contract F Tryz.prog 127 [.v (.string s),.v (.string ⟨#[c]⟩)] (fun r=>r=QW [.v (.string (s.extract 0 n)),.v (.string (s.extract (n+1) s.size)),.b true]):=by
  refine Qf Tryz.func127 rfl (by kernel_rfl) ?_;simp only[Tryz.ntmps127,Qm];have e1:IntKind.i64.wrap ((n:Int)+1)=((n+1:Nat):Int):=by rw[w64 (by omega)];omega
  (repeat refine Qb ?_);(refine Qa fun k hk=>?_;simp -implicitDefEqProofs only[id,reduceCtorEq,reduceIte,Nat.reduceMul,Nat.reduceAdd,Nat.reduceLT,Nat.reduceLeDiff,Nat.reduceEqDiff,Int.reduceLT,Int.reduceBEq,Int.reduceBNe,Nat.reduceBEq,Int.reduceNeg,qb58];refine hk _ ?_;clear hk k;try show Sat _ _ _ _ _);(repeat refine Qb ?_);(refine Qa fun k hk=>?_;simp -implicitDefEqProofs only[id,reduceCtorEq,reduceIte,Nat.reduceMul,Nat.reduceAdd,Nat.reduceLT,Nat.reduceLeDiff,Nat.reduceEqDiff,Int.reduceLT,Int.reduceBEq,Int.reduceBNe,Nat.reduceBEq,Int.reduceNeg,qb58]);refine Qe (indexOneC F s c) rfl (by rintro _ rfl;exact Qi rfl) ?_;rintro r rfl;rw[hn];simp -implicitDefEqProofs only[id,reduceCtorEq,reduceIte,Nat.reduceMul,Nat.reduceAdd,Nat.reduceLT,Nat.reduceLeDiff,Nat.reduceEqDiff,Int.reduceLT,Int.reduceBEq,Int.reduceBNe,Nat.reduceBEq,Int.reduceNeg,qb58];(refine hk _ ?_;clear hk k;try show Sat _ _ _ _ _);(repeat refine Qb ?_);(refine Qa fun k hk=>?_;simp -implicitDefEqProofs only[id,reduceCtorEq,reduceIte,Nat.reduceMul,Nat.reduceAdd,Nat.reduceLT,Nat.reduceLeDiff,Nat.reduceEqDiff,Int.reduceLT,Int.reduceBEq,Int.reduceBNe,Nat.reduceBEq,Int.reduceNeg,qb58];refine hk _ ?_;clear hk k;try show Sat _ _ _ _ _);refine Qd rfl (fun h=>?_) (fun h=>absurd h (by decide));(repeat refine Qb ?_);(refine Zd (.keep [0,1,3,4,5,6,7] [] (.alt 2 (.free 9 (.one 8 (.one 10 (.one 11 .done)))) (.alt 8 (.one 2 (.one 9 (.one 10 (.one 11 .done)))) .none))) (by kernel_rfl) (by kernel_rfl) (fun _ _ h=>h) fun k hk=>?_;simp only[WOT,List.map_cons,List.map_nil,List.getD_cons_zero,List.getD_cons_succ];simp -implicitDefEqProofs only[id,reduceCtorEq,reduceIte,Nat.reduceMul,Nat.reduceAdd,Nat.reduceLT,Nat.reduceLeDiff,Nat.reduceEqDiff,Int.reduceLT,Int.reduceBEq,Int.reduceBNe,Nat.reduceBEq,Int.reduceNeg,WOT,qb58]);have es:(((⟨#[c]⟩:ByteArray).size:Nat):Int)=1:=rfl;simp only[es,e1,Int.toNat_natCast]
  repeat' refine And.intro ?_ ?_
  all_goals first|omega|skip
  all_goals
    refine hk _ ?_;clear hk;try simp only[Qg]
    refine Sat.ret ?_;simp only[Tryz.results127,id,seval,Int.reduceNeg,qb59]
set_option maxRecDepth 100000 in
theorem cutC2 (F:Frm) (c:UInt8) (s:ByteArray) (n:Nat) (hn:Lib.indexByte s.data.toList c=(n:Int)) (hs:n<s.size) (hs2:s.size<4294967296):Contract F Tryz.prog 106 [.v (.string s),.v (.string ⟨#[c]⟩)] (fun r=>r=QW [.v (.string (s.extract 0 n)),.v (.string (s.extract (n+1) s.size)),.b true]):=by
  refine Qf Tryz.func106 rfl (by kernel_rfl) ?_;simp only[Tryz.ntmps106,Qm];(repeat refine Qb ?_);(refine Qa fun k hk=>?_;simp -implicitDefEqProofs only[id,reduceCtorEq,reduceIte,Nat.reduceMul,Nat.reduceAdd,Nat.reduceLT,Nat.reduceLeDiff,Nat.reduceEqDiff,Int.reduceLT,Int.reduceBEq,Int.reduceBNe,Nat.reduceBEq,Int.reduceNeg,qb58];refine hk _ ?_;clear hk k;try show Sat _ _ _ _ _);(repeat refine Qb ?_);(refine Qa fun k hk=>?_;simp -implicitDefEqProofs only[id,reduceCtorEq,reduceIte,Nat.reduceMul,Nat.reduceAdd,Nat.reduceLT,Nat.reduceLeDiff,Nat.reduceEqDiff,Int.reduceLT,Int.reduceBEq,Int.reduceBNe,Nat.reduceBEq,Int.reduceNeg,qb58]);refine Qc (slCutC2 F c s n hn hs hs2) rfl (by simp -implicitDefEqProofs only[id,reduceCtorEq,reduceIte,Nat.reduceMul,Nat.reduceAdd,Nat.reduceLT,Nat.reduceLeDiff,Nat.reduceEqDiff,Int.reduceLT,Int.reduceBEq,Int.reduceBNe,Nat.reduceBEq,Int.reduceNeg,qb58];try rfl) ?_;rintro r rfl;simp -implicitDefEqProofs only[id,reduceCtorEq,reduceIte,Nat.reduceMul,Nat.reduceAdd,Nat.reduceLT,Nat.reduceLeDiff,Nat.reduceEqDiff,Int.reduceLT,Int.reduceBEq,Int.reduceBNe,Nat.reduceBEq,Int.reduceNeg,qb58];(refine hk _ ?_;clear hk k;try show Sat _ _ _ _ _);refine Sat.ret ?_;simp only[Tryz.results106,id,seval,Int.reduceNeg,qb59]
set_option maxRecDepth 100000 in
theorem slCutNoC2 (F:Frm) (c:UInt8) (s:ByteArray) (hn:Lib.indexByte s.data.toList c=-1):Contract F Tryz.prog 127 [.v (.string s),.v (.string ⟨#[c]⟩)] (fun r=>r=QW [.v (.string s),.v (.string ⟨#[]⟩),.b false]):=by
  refine Qf Tryz.func127 rfl (by kernel_rfl) ?_;simp only[Tryz.ntmps127,Qm];(repeat refine Qb ?_);(refine Qa fun k hk=>?_;simp -implicitDefEqProofs only[id,reduceCtorEq,reduceIte,Nat.reduceMul,Nat.reduceAdd,Nat.reduceLT,Nat.reduceLeDiff,Nat.reduceEqDiff,Int.reduceLT,Int.reduceBEq,Int.reduceBNe,Nat.reduceBEq,Int.reduceNeg,qb58];refine hk _ ?_;clear hk k;try show Sat _ _ _ _ _);(repeat refine Qb ?_);(refine Qa fun k hk=>?_;simp -implicitDefEqProofs only[id,reduceCtorEq,reduceIte,Nat.reduceMul,Nat.reduceAdd,Nat.reduceLT,Nat.reduceLeDiff,Nat.reduceEqDiff,Int.reduceLT,Int.reduceBEq,Int.reduceBNe,Nat.reduceBEq,Int.reduceNeg,qb58]);refine Qe (indexOneC F s c) rfl (by rintro _ rfl;exact Qi rfl) ?_;rintro r rfl;rw[hn];simp -implicitDefEqProofs only[id,reduceCtorEq,reduceIte,Nat.reduceMul,Nat.reduceAdd,Nat.reduceLT,Nat.reduceLeDiff,Nat.reduceEqDiff,Int.reduceLT,Int.reduceBEq,Int.reduceBNe,Nat.reduceBEq,Int.reduceNeg,qb58];(refine hk _ ?_;clear hk k;try show Sat _ _ _ _ _);(repeat refine Qb ?_);(refine Qa fun k hk=>?_;simp -implicitDefEqProofs only[id,reduceCtorEq,reduceIte,Nat.reduceMul,Nat.reduceAdd,Nat.reduceLT,Nat.reduceLeDiff,Nat.reduceEqDiff,Int.reduceLT,Int.reduceBEq,Int.reduceBNe,Nat.reduceBEq,Int.reduceNeg,qb58];refine hk _ ?_;clear hk k;try show Sat _ _ _ _ _);refine Qd rfl (fun h=>absurd h (by decide)) (fun h=>?_);refine Sat.skip ?_;simp only[Qg];(repeat refine Qb ?_);(refine Qa fun k hk=>?_;simp -implicitDefEqProofs only[id,reduceCtorEq,reduceIte,Nat.reduceMul,Nat.reduceAdd,Nat.reduceLT,Nat.reduceLeDiff,Nat.reduceEqDiff,Int.reduceLT,Int.reduceBEq,Int.reduceBNe,Nat.reduceBEq,Int.reduceNeg,qb58];refine hk _ ?_;clear hk k;try show Sat _ _ _ _ _);refine Sat.ret ?_;simp only[Tryz.results127,id,seval,Int.reduceNeg,qb59]
set_option maxRecDepth 100000 in
theorem cutNoC2 (F:Frm) (c:UInt8) (s:ByteArray) (hn:Lib.indexByte s.data.toList c=-1):Contract F Tryz.prog 106 [.v (.string s),.v (.string ⟨#[c]⟩)] (fun r=>r=QW [.v (.string s),.v (.string ⟨#[]⟩),.b false]):=by
  refine Qf Tryz.func106 rfl (by kernel_rfl) ?_;simp only[Tryz.ntmps106,Qm];(repeat refine Qb ?_);(refine Qa fun k hk=>?_;simp -implicitDefEqProofs only[id,reduceCtorEq,reduceIte,Nat.reduceMul,Nat.reduceAdd,Nat.reduceLT,Nat.reduceLeDiff,Nat.reduceEqDiff,Int.reduceLT,Int.reduceBEq,Int.reduceBNe,Nat.reduceBEq,Int.reduceNeg,qb58];refine hk _ ?_;clear hk k;try show Sat _ _ _ _ _);(repeat refine Qb ?_);(refine Qa fun k hk=>?_;simp -implicitDefEqProofs only[id,reduceCtorEq,reduceIte,Nat.reduceMul,Nat.reduceAdd,Nat.reduceLT,Nat.reduceLeDiff,Nat.reduceEqDiff,Int.reduceLT,Int.reduceBEq,Int.reduceBNe,Nat.reduceBEq,Int.reduceNeg,qb58]);refine Qc (slCutNoC2 F c s hn) rfl (by simp -implicitDefEqProofs only[id,reduceCtorEq,reduceIte,Nat.reduceMul,Nat.reduceAdd,Nat.reduceLT,Nat.reduceLeDiff,Nat.reduceEqDiff,Int.reduceLT,Int.reduceBEq,Int.reduceBNe,Nat.reduceBEq,Int.reduceNeg,qb58];try rfl) ?_;rintro r rfl;simp -implicitDefEqProofs only[id,reduceCtorEq,reduceIte,Nat.reduceMul,Nat.reduceAdd,Nat.reduceLT,Nat.reduceLeDiff,Nat.reduceEqDiff,Int.reduceLT,Int.reduceBEq,Int.reduceBNe,Nat.reduceBEq,Int.reduceNeg,qb58];(refine hk _ ?_;clear hk k;try show Sat _ _ _ _ _);refine Sat.ret ?_;simp only[Tryz.results106,id,seval,Int.reduceNeg,qb59]
theorem cutL (F:Frm) (c:UInt8) (l r:List UInt8) (h:∀ x∈l,x≠c) (hl:l.length+r.length<1000000):Contract F Tryz.prog 106 [sB (l ++ c :: r),.v (.string ⟨#[c]⟩)] (fun x=>x=QW [sB l,sB r,.b true]):=by
  have h9:=cutC2 F c (mkB (l ++ c :: r)) l.length (index_at h) (by rw[Qn];simp) (by rw[Qn];simp;omega);rw[mkB_extract,mkB_extract,Qn] at h9;have e1:((l ++ c :: r).drop 0).take (l.length - 0)=l:=by simp
  have e2:((l ++ c :: r).drop (l.length+1)).take ((l ++ c :: r).length - (l.length+1))=r:=by
    have:(l ++ c :: r).drop (l.length+1)=r:=by
      rw[← List.drop_drop,List.drop_left];rfl
    rw[this];exact List.take_of_length_le (by simp only[List.length_append,List.length_cons];omega)
  rw[e1,e2] at h9;exact h9
theorem cutNoL (F:Frm) (c:UInt8) (l:List UInt8) (h:∀ x∈l,x≠c):Contract F Tryz.prog 106 [sB l,.v (.string ⟨#[c]⟩)] (fun r=>r=QW [sB l,sB [],.b false]):=cutNoC2 F c (mkB l) (index_no h)
end Tq
end

section
open Eng Lmb Go.RowKit
theorem digit_at:∀ n,n<10→(⟨#[48,49,50,51,52,53,54,55,56,57,97,98,99,100,101,102,103,104,105,106,107,108,109,110,111,112,113,114,115,116,117,118,119,120,121,122]⟩:ByteArray).extract n (n+1)=bytesOf [48+(n:Int)]:=by decide
def Zy:=And.intro @evr (@evn)
def qb61:=And.intro @evr (And.intro @List.append_nil.{0} (And.intro @Int.toNat_zero (@Nat.sub_self)))
set_option maxRecDepth 100000 in
theorem scSmallC (F:Frm) (n:Nat) (hn:n<10):Contract F Tryz.prog 139 [.i .i64 n] (fun r=>r=.v (.string (decB n))):=by
  refine Qf Tryz.func139 rfl (by kernel_rfl) ?_;simp only[Tryz.ntmps139,Qm];have e1:IntKind.i64.wrap ((n:Int)+1)=((n+1:Nat):Int):=by rw[w64 (by omega)];omega
  (repeat refine Qb ?_);(refine Qa fun k hk=>?_;simp -implicitDefEqProofs only[id,reduceCtorEq,reduceIte,Nat.reduceMul,Nat.reduceAdd,Nat.reduceLT,Nat.reduceLeDiff,Nat.reduceEqDiff,Int.reduceLT,Int.reduceBEq,Int.reduceBNe,Nat.reduceBEq,frS,Zy];refine hk _ ?_;clear hk k;try show Sat _ _ _ _ _);(repeat refine Qb ?_);(refine Qa fun k hk=>?_;simp -implicitDefEqProofs only[id,reduceCtorEq,reduceIte,Nat.reduceMul,Nat.reduceAdd,Nat.reduceLT,Nat.reduceLeDiff,Nat.reduceEqDiff,Int.reduceLT,Int.reduceBEq,Int.reduceBNe,Nat.reduceBEq,frS,Zy];refine hk _ ?_;clear hk k;try show Sat _ _ _ _ _);refine Qd rfl (fun h=>?_) (fun h=>absurd (of_decide_eq_false h) (by omega));(repeat refine Qb ?_);refine Qa fun k hk=>?_;simp -implicitDefEqProofs only[id,reduceCtorEq,reduceIte,Nat.reduceMul,Nat.reduceAdd,Nat.reduceLT,Nat.reduceLeDiff,Nat.reduceEqDiff,Int.reduceLT,Int.reduceBEq,Int.reduceBNe,Nat.reduceBEq,frS,e1,Zy];refine⟨⟨by omega,by show ((n+1:Nat):Int)≤36;omega⟩,?_⟩;rw[digit_at n hn,← decB_small hn];(refine hk _ ?_;clear hk k;try show Sat _ _ _ _ _);refine Sat.ret ?_;simp only[Tryz.results139,id,seval,frS,qb61]
set_option maxRecDepth 100000 in
theorem formatIntC (F:Frm) (n:Nat) (hn:n<10):Contract F Tryz.prog 128 [.i .i64 n,.i .i64 10] (fun r=>r=.v (.string (decB n))):=by
  refine Qf Tryz.func128 rfl (by kernel_rfl) ?_;simp only[Tryz.ntmps128,Qm];(repeat refine Qb ?_);(refine Qa fun k hk=>?_;simp -implicitDefEqProofs only[id,reduceCtorEq,reduceIte,Nat.reduceMul,Nat.reduceAdd,Nat.reduceLT,Nat.reduceLeDiff,Nat.reduceEqDiff,Int.reduceLT,Int.reduceBEq,Int.reduceBNe,Nat.reduceBEq,frS,Zy];refine hk _ ?_;clear hk k;try show Sat _ _ _ _ _);(repeat refine Qb ?_);(refine Qa fun k hk=>?_;simp -implicitDefEqProofs only[id,reduceCtorEq,reduceIte,Nat.reduceMul,Nat.reduceAdd,Nat.reduceLT,Nat.reduceLeDiff,Nat.reduceEqDiff,Int.reduceLT,Int.reduceBEq,Int.reduceBNe,Nat.reduceBEq,frS,Zy];refine hk _ ?_;clear hk k;try show Sat _ _ _ _ _);refine Qd rfl (fun h=>?_) (fun h=>absurd h (by decide));(repeat refine Qb ?_);refine Qj ⟨54,[(17,.b true),(0,.i .i64 n)],[]⟩ (fun k hk=>?_) ?_
  · simp -implicitDefEqProofs only[id,reduceCtorEq,reduceIte,Nat.reduceMul,Nat.reduceAdd,Nat.reduceLT,Nat.reduceLeDiff,Nat.reduceEqDiff,Int.reduceLT,Int.reduceBEq,Int.reduceBNe,Nat.reduceBEq,frS,Zy]
    refine hk _ ?_;rw[decide_eq_true (show (n:Int)<100 by omega)];simp -implicitDefEqProofs only[id,reduceCtorEq,reduceIte,Nat.reduceMul,Nat.reduceAdd,Nat.reduceLT,Nat.reduceLeDiff,Nat.reduceEqDiff,Int.reduceLT,Int.reduceBEq,Int.reduceBNe,Nat.reduceBEq,frS,evl,Zy]
  simp only[Qg];refine Qd rfl (fun h=>?_) (fun h=>by cases h);(repeat refine Qb ?_);(refine Qa fun k hk=>?_;simp -implicitDefEqProofs only[id,reduceCtorEq,reduceIte,Nat.reduceMul,Nat.reduceAdd,Nat.reduceLT,Nat.reduceLeDiff,Nat.reduceEqDiff,Int.reduceLT,Int.reduceBEq,Int.reduceBNe,Nat.reduceBEq,frS,Zy]);refine Qe (scSmallC F n hn) rfl (by rintro _ rfl;exact Qi rfl) ?_;rintro r rfl;simp -implicitDefEqProofs only[id,reduceCtorEq,reduceIte,Nat.reduceMul,Nat.reduceAdd,Nat.reduceLT,Nat.reduceLeDiff,Nat.reduceEqDiff,Int.reduceLT,Int.reduceBEq,Int.reduceBNe,Nat.reduceBEq,frS,Zy];(refine hk _ ?_;clear hk k;try show Sat _ _ _ _ _);refine Sat.ret ?_;simp only[Tryz.results128,id,seval,frS,qb61]
set_option maxRecDepth 100000 in
theorem itoaInC (F:Frm) (n:Nat) (hn:n<10):Contract F Tryz.prog 111 [.i .i64 n] (fun r=>r=.v (.string (decB n))):=by
  refine Qf Tryz.func111 rfl (by kernel_rfl) ?_;simp only[Tryz.ntmps111,Qm];(repeat refine Qb ?_);(refine Qa fun k hk=>?_;simp -implicitDefEqProofs only[id,reduceCtorEq,reduceIte,Nat.reduceMul,Nat.reduceAdd,Nat.reduceLT,Nat.reduceLeDiff,Nat.reduceEqDiff,Int.reduceLT,Int.reduceBEq,Int.reduceBNe,Nat.reduceBEq,frS,Zy];refine hk _ ?_;clear hk k;try show Sat _ _ _ _ _);(repeat refine Qb ?_);(refine Qa fun k hk=>?_;simp -implicitDefEqProofs only[id,reduceCtorEq,reduceIte,Nat.reduceMul,Nat.reduceAdd,Nat.reduceLT,Nat.reduceLeDiff,Nat.reduceEqDiff,Int.reduceLT,Int.reduceBEq,Int.reduceBNe,Nat.reduceBEq,frS,Zy]);refine Qe (formatIntC F n hn) rfl (by rintro _ rfl;exact Qi rfl) ?_;rintro r rfl;simp -implicitDefEqProofs only[id,reduceCtorEq,reduceIte,Nat.reduceMul,Nat.reduceAdd,Nat.reduceLT,Nat.reduceLeDiff,Nat.reduceEqDiff,Int.reduceLT,Int.reduceBEq,Int.reduceBNe,Nat.reduceBEq,frS,Zy];(refine hk _ ?_;clear hk k;try show Sat _ _ _ _ _);refine Sat.ret ?_;simp only[Tryz.results111,id,seval,frS,qb61]
set_option maxRecDepth 100000 in
theorem itoaC (F:Frm) (n:Nat) (hn:n<10):Contract F Tryz.prog 83 [.i .i64 n] (fun r=>r=.v (.string (decB n))):=by
  refine Qf Tryz.func83 rfl (by kernel_rfl) ?_;simp only[Tryz.ntmps83,Qm];(repeat refine Qb ?_);(refine Qa fun k hk=>?_;simp -implicitDefEqProofs only[id,reduceCtorEq,reduceIte,Nat.reduceMul,Nat.reduceAdd,Nat.reduceLT,Nat.reduceLeDiff,Nat.reduceEqDiff,Int.reduceLT,Int.reduceBEq,Int.reduceBNe,Nat.reduceBEq,frS,Zy];refine hk _ ?_;clear hk k;try show Sat _ _ _ _ _);(repeat refine Qb ?_);(refine Qa fun k hk=>?_;simp -implicitDefEqProofs only[id,reduceCtorEq,reduceIte,Nat.reduceMul,Nat.reduceAdd,Nat.reduceLT,Nat.reduceLeDiff,Nat.reduceEqDiff,Int.reduceLT,Int.reduceBEq,Int.reduceBNe,Nat.reduceBEq,frS,Zy]);refine Qe (itoaInC F n hn) rfl (by rintro _ rfl;exact Qi rfl) ?_;rintro r rfl;simp -implicitDefEqProofs only[id,reduceCtorEq,reduceIte,Nat.reduceMul,Nat.reduceAdd,Nat.reduceLT,Nat.reduceLeDiff,Nat.reduceEqDiff,Int.reduceLT,Int.reduceBEq,Int.reduceBNe,Nat.reduceBEq,frS,Zy];(refine hk _ ?_;clear hk k;try show Sat _ _ _ _ _);refine Sat.ret ?_;simp only[Tryz.results83,id,seval,frS,qb61]
set_option maxRecDepth 100000 in
theorem joinOneC (F:Frm) (a:Option Addr) (cap:Nat) (rd:Nat→Nat→SV) (s sep:ByteArray) (hrd:rd 0 0=.v (.string s)):Contract F Tryz.prog 86 [.sl a 1 cap 1 rd,.v (.string sep)] (fun r=>r=.v (.string s)):=by
  refine Qf Tryz.func86 rfl (by kernel_rfl) ?_;simp only[Tryz.ntmps86,Qm];(repeat refine Qb ?_);(refine Qa fun k hk=>?_;simp -implicitDefEqProofs only[id,reduceCtorEq,reduceIte,Nat.reduceMul,Nat.reduceAdd,Nat.reduceLT,Nat.reduceLeDiff,Nat.reduceEqDiff,Int.reduceLT,Int.reduceBEq,Int.reduceBNe,Nat.reduceBEq,frS,Zy];refine hk _ ?_;clear hk k;try show Sat _ _ _ _ _);(repeat refine Qb ?_);(refine Qa fun k hk=>?_;simp -implicitDefEqProofs only[id,reduceCtorEq,reduceIte,Nat.reduceMul,Nat.reduceAdd,Nat.reduceLT,Nat.reduceLeDiff,Nat.reduceEqDiff,Int.reduceLT,Int.reduceBEq,Int.reduceBNe,Nat.reduceBEq,frS,Zy];refine hk _ ?_;clear hk k;try show Sat _ _ _ _ _);(repeat refine Qb ?_);refine Sat.block ?_;(repeat refine Qb ?_);(refine Qa fun k hk=>?_;simp -implicitDefEqProofs only[id,reduceCtorEq,reduceIte,Nat.reduceMul,Nat.reduceAdd,Nat.reduceLT,Nat.reduceLeDiff,Nat.reduceEqDiff,Int.reduceLT,Int.reduceBEq,Int.reduceBNe,Nat.reduceBEq,frS,Zy];refine hk _ ?_;clear hk k;try show Sat _ _ _ _ _);refine Qd rfl (fun h=>absurd h (by decide)) (fun h=>?_);(repeat refine Qb ?_);(refine Qa fun k hk=>?_;simp -implicitDefEqProofs only[id,reduceCtorEq,reduceIte,Nat.reduceMul,Nat.reduceAdd,Nat.reduceLT,Nat.reduceLeDiff,Nat.reduceEqDiff,Int.reduceLT,Int.reduceBEq,Int.reduceBNe,Nat.reduceBEq,frS,Zy];refine hk _ ?_;clear hk k;try show Sat _ _ _ _ _);refine Qd rfl (fun h=>?_) (fun h=>absurd h (by decide));(repeat refine Qb ?_);(refine Qa fun k hk=>?_;simp -implicitDefEqProofs only[id,reduceCtorEq,reduceIte,Nat.reduceMul,Nat.reduceAdd,Nat.reduceLT,Nat.reduceLeDiff,Nat.reduceEqDiff,Int.reduceLT,Int.reduceBEq,Int.reduceBNe,Nat.reduceBEq,frS,Zy]);rw[hrd];refine⟨by decide,?_⟩;(refine hk _ ?_;clear hk k;try show Sat _ _ _ _ _);refine Sat.ret ?_;simp only[Qg,Qk,Tryz.results86,id,seval,frS,qb61]
set_option maxRecDepth 100000 in
theorem reverseOneC (F:Frm) (a:Option Addr) (cap:Nat) (rd:Nat→Nat→SV):Contract F Tryz.prog 85 [.sl a 1 cap 1 rd] (fun r=>r=QW []):=by
  refine Qf Tryz.func85 rfl (by kernel_rfl) ?_;simp only[Tryz.ntmps85,Qm];have e0:IntKind.i64.wrap ((1:Nat) - 1:Int)=0:=by decide
  (repeat refine Qb ?_);refine Qa fun k hk=>?_;simp -implicitDefEqProofs only[id,reduceCtorEq,reduceIte,Nat.reduceMul,Nat.reduceAdd,Nat.reduceLT,Nat.reduceLeDiff,Nat.reduceEqDiff,Int.reduceLT,Int.reduceBEq,Int.reduceBNe,Nat.reduceBEq,frS,e0,Zy];(refine hk _ ?_;clear hk k;try show Sat _ _ _ _ _);refine Sat.block ?_;(repeat refine Qb ?_);refine Sat.loop (ι:=Unit) (fun _=>⟨28,[(2,.i .i64 0),(3,.i .i64 0)],[]⟩) (fun _=>True) (fun _=>0) () trivial (by simp -implicitDefEqProofs only[id,reduceCtorEq,reduceIte,Nat.reduceMul,Nat.reduceAdd,Nat.reduceLT,Nat.reduceLeDiff,Nat.reduceEqDiff,Int.reduceLT,Int.reduceBEq,Int.reduceBNe,Nat.reduceBEq,frS,evl,Zy]) ?_;rintro _ _;(repeat refine Qb ?_);(refine Qa fun k hk=>?_;simp -implicitDefEqProofs only[id,reduceCtorEq,reduceIte,Nat.reduceMul,Nat.reduceAdd,Nat.reduceLT,Nat.reduceLeDiff,Nat.reduceEqDiff,Int.reduceLT,Int.reduceBEq,Int.reduceBNe,Nat.reduceBEq,frS,Zy];refine hk _ ?_;clear hk k;try show Sat _ _ _ _ _);(repeat refine Qb ?_);refine Qd rfl (fun h=>absurd h (by decide)) (fun h=>?_);refine Sat.exit ?_;simp only[Qg,Qk,reduceIte];simp only[Tryz.results85,id,seval,frS,qb61]
theorem smallC (F:Frm) {sa:SV} {n:Nat} (c:Nat) (ha:Nats sa n) (hn:(n:Int)<pw 256) (h0:1≤c) (h1:c≤1073741824):Contract F Tryz.prog 75 [sa,.i .i64 c] (fun r=>∃ s,r=QW [s,.i .i64 (n % c:Nat)]∧Nats s (n / c)):=by
  refine Zl Tryz.func75 rfl (by kernel_rfl) fun R w hargs hR=>?_;refine (@Zn.small_nat (zoneOf R w) _ n c c w (nat_to (hargs sa (by simp)) ha hR) hn rfl (by omega) (by omega)).mono ?_;rintro e w' ⟨v,rfl,hv,hbel⟩;obtain⟨s,rfl,hs,hok⟩:=nat_from hv;exact⟨QW [s,.i .i64 (n % c:Nat)],rfl,⟨s,rfl,hs⟩,tup2_ok hok trivial,hbel⟩
set_option maxRecDepth 100000 in
theorem natText1C (F:Frm) {s:SV} {n:Nat} (hs:Nats s n) (h0:0<n) (hn:n<10):Contract F Tryz.prog 22 [s] (fun r=>r=.v (.string (decB n))):=by
  have hs1:=hs;obtain⟨a1,c1,z1,r1,x1,rfl,_⟩:=hs;have hl:=hs1.len;have hl0:=hs1.len0;refine Qf Tryz.func22 rfl (by kernel_rfl) ?_;simp only[Tryz.ntmps22,Qm];(repeat refine Qb ?_);(refine Qa fun k hk=>?_;simp -implicitDefEqProofs only[id,reduceCtorEq,reduceIte,Nat.reduceMul,Nat.reduceAdd,Nat.reduceLT,Nat.reduceLeDiff,Nat.reduceEqDiff,Int.reduceLT,Int.reduceBEq,Int.reduceBNe,Nat.reduceBEq,frS,Zy];refine hk _ ?_;clear hk k;try show Sat _ _ _ _ _);(repeat refine Qb ?_);(refine Qa fun k hk=>?_;simp -implicitDefEqProofs only[id,reduceCtorEq,reduceIte,Nat.reduceMul,Nat.reduceAdd,Nat.reduceLT,Nat.reduceLeDiff,Nat.reduceEqDiff,Int.reduceLT,Int.reduceBEq,Int.reduceBNe,Nat.reduceBEq,frS,Zy];refine hk _ ?_;clear hk k;try show Sat _ _ _ _ _);refine Qd rfl (fun h=>by rw[hl0] at h;have:=of_decide_eq_true h;omega) (fun h=>?_);refine Sat.skip ?_;simp only[Qg];(repeat refine Qb ?_);(refine Qa fun k hk=>?_;simp -implicitDefEqProofs only[id,reduceCtorEq,reduceIte,Nat.reduceMul,Nat.reduceAdd,Nat.reduceLT,Nat.reduceLeDiff,Nat.reduceEqDiff,Int.reduceLT,Int.reduceBEq,Int.reduceBNe,Nat.reduceBEq,frS,Zy];refine hk _ ?_;clear hk k;try show Sat _ _ _ _ _);(repeat refine Qb ?_);(refine Qa fun k hk=>?_;simp -implicitDefEqProofs only[id,reduceCtorEq,reduceIte,Nat.reduceMul,Nat.reduceAdd,Nat.reduceLT,Nat.reduceLeDiff,Nat.reduceEqDiff,Int.reduceLT,Int.reduceBEq,Int.reduceBNe,Nat.reduceBEq,frS,Zy];refine hk _ ?_;clear hk k;try show Sat _ _ _ _ _);(repeat refine Qb ?_);refine Sat.block ?_;refine Zr 3 9 1 (fun _ _=>.v (.string (decB n))) rfl ?_;refine Sat.loop (ι:=Nat×SV×Option Addr×Nat) (fun x=>⟨38,[(4,x.2.1),(3,.os 0 x.2.2.1 x.1 x.2.2.2)],[.row x.2.2.1 9 x.1 x.2.2.2 1 (fun _ _=>.v (.string (decB n)))]⟩)
    (fun x=>(x.1=0∧Nats x.2.1 n)∨(x.1=1∧Nats x.2.1 0)) (fun x=>1 - x.1) (0,.sl a1 x1.length c1 z1 r1,none,0) (.inl ⟨rfl,hs1⟩) (by simp -implicitDefEqProofs only[id,reduceCtorEq,reduceIte,Nat.reduceMul,Nat.reduceAdd,Nat.reduceLT,Nat.reduceLeDiff,Nat.reduceEqDiff,Int.reduceLT,Int.reduceBEq,Int.reduceBNe,Nat.reduceBEq,frS,evl,Zy]) ?_
  rintro⟨d,sr,a,cap⟩ hd;simp only at hd ⊢;rcases hd with ⟨rfl,hr⟩|⟨rfl,hr⟩
  · have hr1:=hr
    obtain⟨a2,c2,z2,r2,x2,rfl,_⟩:=hr;have hl2:=hr1.len;(repeat refine Qb ?_);(refine Qa fun k hk=>?_;simp -implicitDefEqProofs only[id,reduceCtorEq,reduceIte,Nat.reduceMul,Nat.reduceAdd,Nat.reduceLT,Nat.reduceLeDiff,Nat.reduceEqDiff,Int.reduceLT,Int.reduceBEq,Int.reduceBNe,Nat.reduceBEq,frS,Zy];refine hk _ ?_;clear hk k;try show Sat _ _ _ _ _);(repeat refine Qb ?_);refine Qd rfl (fun h=>?_) (fun h=>by have h9:=of_decide_eq_false h;rw[hl2] at h9;omega);refine Sat.skip ?_;simp only[Qg];(repeat refine Qb ?_);refine Sat.block ?_;(repeat refine Qb ?_);(refine Qa fun k hk=>?_;simp -implicitDefEqProofs only[id,reduceCtorEq,reduceIte,Nat.reduceMul,Nat.reduceAdd,Nat.reduceLT,Nat.reduceLeDiff,Nat.reduceEqDiff,Int.reduceLT,Int.reduceBEq,Int.reduceBNe,Nat.reduceBEq,frS,Zy];refine hk _ ?_;clear hk k;try show Sat _ _ _ _ _);(repeat refine Qb ?_);(refine Qa fun k hk=>?_;simp -implicitDefEqProofs only[id,reduceCtorEq,reduceIte,Nat.reduceMul,Nat.reduceAdd,Nat.reduceLT,Nat.reduceLeDiff,Nat.reduceEqDiff,Int.reduceLT,Int.reduceBEq,Int.reduceBNe,Nat.reduceBEq,frS,Zy]);refine Qc (smallC F 1000000000 hr1 (lt_pw (a:=4) (by omega) (by decide)) (by decide) (by decide)) rfl (by simp -implicitDefEqProofs only[id,reduceCtorEq,reduceIte,Nat.reduceMul,Nat.reduceAdd,Nat.reduceLT,Nat.reduceLeDiff,Nat.reduceEqDiff,Int.reduceLT,Int.reduceBEq,Int.reduceBNe,Nat.reduceBEq,frS,Zy];rfl) ?_;rintro r ⟨s,rfl,hs⟩;rw[Nat.div_eq_of_lt (by omega)] at hs;rw[Nat.mod_eq_of_lt (by omega)];have hs2:=hs;obtain⟨a3,c3,z3,r3,x3,rfl,_⟩:=hs;have hl3:=hs2.len;simp -implicitDefEqProofs only[id,reduceCtorEq,reduceIte,Nat.reduceMul,Nat.reduceAdd,Nat.reduceLT,Nat.reduceLeDiff,Nat.reduceEqDiff,Int.reduceLT,Int.reduceBEq,Int.reduceBNe,Nat.reduceBEq,frS,Zy];(refine hk _ ?_;clear hk k;try show Sat _ _ _ _ _);(repeat refine Qb ?_);(refine Qa fun k hk=>?_;simp -implicitDefEqProofs only[id,reduceCtorEq,reduceIte,Nat.reduceMul,Nat.reduceAdd,Nat.reduceLT,Nat.reduceLeDiff,Nat.reduceEqDiff,Int.reduceLT,Int.reduceBEq,Int.reduceBNe,Nat.reduceBEq,frS,Zy]);refine Qe (itoaC F n hn) rfl (by rintro _ rfl;exact Qi rfl) ?_;rintro r rfl;simp -implicitDefEqProofs only[id,reduceCtorEq,reduceIte,Nat.reduceMul,Nat.reduceAdd,Nat.reduceLT,Nat.reduceLeDiff,Nat.reduceEqDiff,Int.reduceLT,Int.reduceBEq,Int.reduceBNe,Nat.reduceBEq,frS,Zy];(refine hk _ ?_;clear hk k;try show Sat _ _ _ _ _);(repeat refine Qb ?_);(refine Qa fun k hk=>?_;simp -implicitDefEqProofs only[id,reduceCtorEq,reduceIte,Nat.reduceMul,Nat.reduceAdd,Nat.reduceLT,Nat.reduceLeDiff,Nat.reduceEqDiff,Int.reduceLT,Int.reduceBEq,Int.reduceBNe,Nat.reduceBEq,frS,Zy];refine hk _ ?_;clear hk k;try show Sat _ _ _ _ _);refine Qd rfl (fun h=>by have h9:=of_decide_eq_true h;rw[hl3] at h9;omega) (fun h=>?_);refine Sat.skip ?_;simp only[Qg];(refine Qa fun k hk=>?_;simp -implicitDefEqProofs only[id,reduceCtorEq,reduceIte,Nat.reduceMul,Nat.reduceAdd,Nat.reduceLT,Nat.reduceLeDiff,Nat.reduceEqDiff,Int.reduceLT,Int.reduceBEq,Int.reduceBNe,Nat.reduceBEq,frS,Zy]);intro blk;refine⟨by unfold maxLen;omega,fun a4 cap4=>?_⟩;refine hk _ ?_;simp only[Qg,Qk];refine⟨(1,_,a4,cap4),.inr ⟨rfl,hs2⟩,by show 1 - 1<1 - 0;omega,?_⟩;simp -implicitDefEqProofs only[id,reduceCtorEq,reduceIte,Nat.reduceMul,Nat.reduceAdd,Nat.reduceLT,Nat.reduceLeDiff,Nat.reduceEqDiff,Int.reduceLT,Int.reduceBEq,Int.reduceBNe,Nat.reduceBEq,frS,evl,Zy];intro i j hi hj;obtain rfl:i=0:=by omega
    obtain rfl:j=0:=by omega
    rfl
  · have hr1:=hr
    obtain⟨a2,c2,z2,r2,x2,rfl,_⟩:=hr;have hl2:=hr1.len;(repeat refine Qb ?_);(refine Qa fun k hk=>?_;simp -implicitDefEqProofs only[id,reduceCtorEq,reduceIte,Nat.reduceMul,Nat.reduceAdd,Nat.reduceLT,Nat.reduceLeDiff,Nat.reduceEqDiff,Int.reduceLT,Int.reduceBEq,Int.reduceBNe,Nat.reduceBEq,frS,Zy];refine hk _ ?_;clear hk k;try show Sat _ _ _ _ _);(repeat refine Qb ?_);refine Qd rfl (fun h=>by have h9:=of_decide_eq_true h;rw[hl2] at h9;omega) (fun h=>?_);refine Sat.exit ?_;simp only[Qg,Qk,reduceIte];(repeat refine Qb ?_);(refine Qa fun k hk=>?_;simp -implicitDefEqProofs only[id,reduceCtorEq,reduceIte,Nat.reduceMul,Nat.reduceAdd,Nat.reduceLT,Nat.reduceLeDiff,Nat.reduceEqDiff,Int.reduceLT,Int.reduceBEq,Int.reduceBNe,Nat.reduceBEq,frS,Zy]);refine Qe (reverseOneC F a cap _) (by simp -implicitDefEqProofs only[id,reduceCtorEq,reduceIte,Nat.reduceMul,Nat.reduceAdd,Nat.reduceLT,Nat.reduceLeDiff,Nat.reduceEqDiff,Int.reduceLT,Int.reduceBEq,Int.reduceBNe,Nat.reduceBEq,frS,Zy];try rfl) (by rintro _ rfl;exact Zz rfl) ?_;rintro r rfl;simp -implicitDefEqProofs only[id,reduceCtorEq,reduceIte,Nat.reduceMul,Nat.reduceAdd,Nat.reduceLT,Nat.reduceLeDiff,Nat.reduceEqDiff,Int.reduceLT,Int.reduceBEq,Int.reduceBNe,Nat.reduceBEq,frS,Zy];(refine hk _ ?_;clear hk k;try show Sat _ _ _ _ _);(repeat refine Qb ?_);(refine Qa fun k hk=>?_;simp -implicitDefEqProofs only[id,reduceCtorEq,reduceIte,Nat.reduceMul,Nat.reduceAdd,Nat.reduceLT,Nat.reduceLeDiff,Nat.reduceEqDiff,Int.reduceLT,Int.reduceBEq,Int.reduceBNe,Nat.reduceBEq,frS,Zy]);refine Qe (joinOneC F a cap _ (decB n) _ rfl) (by simp -implicitDefEqProofs only[id,reduceCtorEq,reduceIte,Nat.reduceMul,Nat.reduceAdd,Nat.reduceLT,Nat.reduceLeDiff,Nat.reduceEqDiff,Int.reduceLT,Int.reduceBEq,Int.reduceBNe,Nat.reduceBEq,frS,Zy];try rfl) (by rintro _ rfl;exact Qi rfl) ?_;rintro r rfl;simp -implicitDefEqProofs only[id,reduceCtorEq,reduceIte,Nat.reduceMul,Nat.reduceAdd,Nat.reduceLT,Nat.reduceLeDiff,Nat.reduceEqDiff,Int.reduceLT,Int.reduceBEq,Int.reduceBNe,Nat.reduceBEq,frS,Zy];(refine hk _ ?_;clear hk k;try show Sat _ _ _ _ _);refine Sat.ret ?_;simp only[Tryz.results22,id,seval,frS,qb61]
set_option maxRecDepth 100000 in
theorem fracText32C (F:Frm) {sp sq:SV} (hp:Nats sp 3) (hq:Nats sq 2):Contract F Tryz.prog 59 [frS false sp sq] (fun r=>r=.v (.string ⟨#[51,47,50]⟩)):=by
  have hp':=hp;have hq':=hq;obtain⟨a1,c1,z1,r1,x1,rfl,_⟩:=hp;obtain⟨a2,c2,z2,r2,x2,rfl,_⟩:=hq;refine Qf Tryz.func59 rfl (by kernel_rfl) ?_;simp only[Tryz.ntmps59,Qm,frS];(repeat refine Qb ?_);(refine Qa fun k hk=>?_;simp -implicitDefEqProofs only[id,reduceCtorEq,reduceIte,Nat.reduceMul,Nat.reduceAdd,Nat.reduceLT,Nat.reduceLeDiff,Nat.reduceEqDiff,Int.reduceLT,Int.reduceBEq,Int.reduceBNe,Nat.reduceBEq,frS,Zy]);intro b1;(refine hk _ ?_;clear hk k;try show Sat _ _ _ _ _);(repeat refine Qb ?_);(refine Qa fun k hk=>?_;simp -implicitDefEqProofs only[id,reduceCtorEq,reduceIte,Nat.reduceMul,Nat.reduceAdd,Nat.reduceLT,Nat.reduceLeDiff,Nat.reduceEqDiff,Int.reduceLT,Int.reduceBEq,Int.reduceBNe,Nat.reduceBEq,frS,Zy]);refine Qc (fractionReduceC F false hp' hq' (lt_pw (a:=4) (by decide) (by decide)) (lt_pw (a:=4) (by decide) (by decide)) (by decide)) rfl (by simp only[frS,id,seval,frS,qb61];try rfl) ?_;rintro r ⟨sp3,sq3,rfl,h3,h4⟩;have h3':Nats sp3 3:=h3;have h4':Nats sq3 2:=h4;have h3b:=h3';have h4b:=h4';clear h3 h4;obtain⟨a3,c3,z3,r3,x3,rfl,_⟩:=h3b;obtain⟨a4,c4,z4,r4,x4,rfl,_⟩:=h4b;simp only[frS,id,seval,frS,Bool.false_and,qb61];(refine hk _ ?_;clear hk k;try show Sat _ _ _ _ _);(repeat refine Qb ?_);(refine Qa fun k hk=>?_;simp -implicitDefEqProofs only[id,reduceCtorEq,reduceIte,Nat.reduceMul,Nat.reduceAdd,Nat.reduceLT,Nat.reduceLeDiff,Nat.reduceEqDiff,Int.reduceLT,Int.reduceBEq,Int.reduceBNe,Nat.reduceBEq,frS,Zy]);refine Qe (natText1C F h3' (by decide) (by decide)) (by simp -implicitDefEqProofs only[id,reduceCtorEq,reduceIte,Nat.reduceMul,Nat.reduceAdd,Nat.reduceLT,Nat.reduceLeDiff,Nat.reduceEqDiff,Int.reduceLT,Int.reduceBEq,Int.reduceBNe,Nat.reduceBEq,frS,Zy];try rfl) (by rintro _ rfl;exact Qi rfl) ?_;rintro r rfl;simp -implicitDefEqProofs only[id,reduceCtorEq,reduceIte,Nat.reduceMul,Nat.reduceAdd,Nat.reduceLT,Nat.reduceLeDiff,Nat.reduceEqDiff,Int.reduceLT,Int.reduceBEq,Int.reduceBNe,Nat.reduceBEq,frS,Zy];(refine hk _ ?_;clear hk k;try show Sat _ _ _ _ _);(repeat refine Qb ?_);(refine Qa fun k hk=>?_;simp -implicitDefEqProofs only[id,reduceCtorEq,reduceIte,Nat.reduceMul,Nat.reduceAdd,Nat.reduceLT,Nat.reduceLeDiff,Nat.reduceEqDiff,Int.reduceLT,Int.reduceBEq,Int.reduceBNe,Nat.reduceBEq,frS,Zy];refine hk _ ?_;clear hk k;try show Sat _ _ _ _ _);refine Qd rfl (fun h=>by cases h) (fun h=>?_);refine Sat.skip ?_;simp only[Qg];(repeat refine Qb ?_);(refine Qa fun k hk=>?_;simp -implicitDefEqProofs only[id,reduceCtorEq,reduceIte,Nat.reduceMul,Nat.reduceAdd,Nat.reduceLT,Nat.reduceLeDiff,Nat.reduceEqDiff,Int.reduceLT,Int.reduceBEq,Int.reduceBNe,Nat.reduceBEq,frS,Zy]);refine Qe (natText1C F h4' (by decide) (by decide)) (by simp -implicitDefEqProofs only[id,reduceCtorEq,reduceIte,Nat.reduceMul,Nat.reduceAdd,Nat.reduceLT,Nat.reduceLeDiff,Nat.reduceEqDiff,Int.reduceLT,Int.reduceBEq,Int.reduceBNe,Nat.reduceBEq,frS,Zy];try rfl) (by rintro _ rfl;exact Qi rfl) ?_;rintro r rfl;simp -implicitDefEqProofs only[id,reduceCtorEq,reduceIte,Nat.reduceMul,Nat.reduceAdd,Nat.reduceLT,Nat.reduceLeDiff,Nat.reduceEqDiff,Int.reduceLT,Int.reduceBEq,Int.reduceBNe,Nat.reduceBEq,frS,Zy];(refine hk _ ?_;clear hk k;try show Sat _ _ _ _ _);have e2:decB 2=(⟨#[50]⟩:ByteArray):=by rw[decB_small (by omega)];decide
  have e3:decB 3=(⟨#[51]⟩:ByteArray):=by rw[decB_small (by omega)];decide
  rw[e2,e3];have d1:(!(⟨#[50]⟩:ByteArray).toList == (⟨#[49]⟩:ByteArray).toList)=true:=by decide +kernel
  (repeat refine Qb ?_);refine Qa fun k hk=>?_;simp -implicitDefEqProofs only[id,reduceCtorEq,reduceIte,Nat.reduceMul,Nat.reduceAdd,Nat.reduceLT,Nat.reduceLeDiff,Nat.reduceEqDiff,Int.reduceLT,Int.reduceBEq,Int.reduceBNe,Nat.reduceBEq,frS,d1,Zy];(refine hk _ ?_;clear hk k;try show Sat _ _ _ _ _);refine Qd rfl (fun h=>?_) (fun h=>by cases h);have s1:((⟨#[47]⟩:ByteArray).size+(⟨#[50]⟩:ByteArray).size:Nat)=2:=rfl;have c1:((⟨#[47]⟩:ByteArray) ++ ⟨#[50]⟩)=⟨#[47,50]⟩:=by decide
  have s2:((⟨#[51]⟩:ByteArray).size+(⟨#[47,50]⟩:ByteArray).size:Nat)=3:=rfl;have c2:((⟨#[51]⟩:ByteArray) ++ ⟨#[47,50]⟩)=⟨#[51,47,50]⟩:=by decide
  (repeat refine Qb ?_);(refine Qa fun k hk=>?_;simp -implicitDefEqProofs only[id,reduceCtorEq,reduceIte,Nat.reduceMul,Nat.reduceAdd,Nat.reduceLT,Nat.reduceLeDiff,Nat.reduceEqDiff,Int.reduceLT,Int.reduceBEq,Int.reduceBNe,Nat.reduceBEq,frS,Zy]);rw[s1,if_pos (by decide),c1];simp -implicitDefEqProofs only[id,reduceCtorEq,reduceIte,Nat.reduceMul,Nat.reduceAdd,Nat.reduceLT,Nat.reduceLeDiff,Nat.reduceEqDiff,Int.reduceLT,Int.reduceBEq,Int.reduceBNe,Nat.reduceBEq,frS,Zy];rw[s2,if_pos (by decide),c2];simp -implicitDefEqProofs only[id,reduceCtorEq,reduceIte,Nat.reduceMul,Nat.reduceAdd,Nat.reduceLT,Nat.reduceLeDiff,Nat.reduceEqDiff,Int.reduceLT,Int.reduceBEq,Int.reduceBNe,Nat.reduceBEq,frS,Zy];(refine hk _ ?_;clear hk k;try show Sat _ _ _ _ _);(repeat refine Qb ?_);(refine Qa fun k hk=>?_;simp -implicitDefEqProofs only[id,reduceCtorEq,reduceIte,Nat.reduceMul,Nat.reduceAdd,Nat.reduceLT,Nat.reduceLeDiff,Nat.reduceEqDiff,Int.reduceLT,Int.reduceBEq,Int.reduceBNe,Nat.reduceBEq,frS,Zy];refine hk _ ?_;clear hk k;try show Sat _ _ _ _ _);refine Sat.ret ?_;simp only[Tryz.results59,id,seval,frS,qb61]
end

section
open Eng Lmb Go.RowKit
theorem limb_choice (u v:Int) (hu:0≤u) (hv:0≤v):∀ y:Nat,y<5→∃ x:Int,rdL [SV.i .i64 0,SV.i .i64 1,SV.i .i64 1073741823,SV.i .i64 u,SV.i .i64 v] 1 y 0=.i .i64 x∧0≤x:=by
  intro y hy;rcases (show y=0∨y=1∨y=2∨y=3∨y=4 by omega) with rfl|rfl|rfl|rfl|rfl
  · exact⟨0,rfl,by decide⟩
  · exact⟨1,rfl,by decide⟩
  · exact⟨1073741823,rfl,by decide⟩
  · exact⟨u,rfl,hu⟩
  · exact⟨v,rfl,hv⟩
def NatPost (n:Nat) (r:SV):Prop:=∃ m,Nats r m∧(m:Int)<pw n
def qb62:=And.intro @evr (@evn)
def qb64:=And.intro @evr (And.intro @List.append_nil.{0} (And.intro @Int.toNat_zero (@Nat.sub_self)))
def qb63:=And.intro @evr (And.intro @evl (@evn))
set_option maxRecDepth 100000 in
theorem naturalC (cb:Nat) (n:Nat) (hn:n≤100):Contract (Frm.codes cb) Tryz.prog 7 [ptr cb,.i .i64 n] (NatPost n):=by
  refine Qf Tryz.func7 rfl (by kernel_rfl) ?_;simp only[Tryz.ntmps7,Qm];have e1:IntKind.i64.wrap ((n:Int)+1)=((n+1:Nat):Int):=by rw[w64 (by omega)];omega
  (repeat refine Qb ?_);(refine Qa fun k hk=>?_;simp -implicitDefEqProofs only[id,reduceCtorEq,reduceIte,Nat.reduceMul,Nat.reduceAdd,Nat.reduceLT,Nat.reduceLeDiff,Nat.reduceEqDiff,Int.reduceLT,Int.reduceBEq,Int.reduceBNe,Nat.reduceBEq,frS,ptr,qb62];refine hk _ ?_;clear hk k;try show Sat _ _ _ _ _);(repeat refine Qb ?_);(refine Qa fun k hk=>?_;simp -implicitDefEqProofs only[id,reduceCtorEq,reduceIte,Nat.reduceMul,Nat.reduceAdd,Nat.reduceLT,Nat.reduceLeDiff,Nat.reduceEqDiff,Int.reduceLT,Int.reduceBEq,Int.reduceBNe,Nat.reduceBEq,frS,ptr,qb62];refine hk _ ?_;clear hk k;try show Sat _ _ _ _ _);(repeat refine Qb ?_);refine Qa fun k hk=>?_;simp -implicitDefEqProofs only[id,reduceCtorEq,reduceIte,Nat.reduceMul,Nat.reduceAdd,Nat.reduceLT,Nat.reduceLeDiff,Nat.reduceEqDiff,Int.reduceLT,Int.reduceBEq,Int.reduceBNe,Nat.reduceBEq,frS,ptr,e1,qb62];refine Qe (nextC cb ((n+1:Nat):Int) (by omega) (by omega)) rfl (by rintro _ ⟨x,rfl,_⟩;exact Qi rfl) ?_;rintro r ⟨x,rfl,hx0,hx1⟩;obtain⟨t,rfl⟩:=Int.eq_ofNat_of_zero_le hx0;have ht:t≤n:=by omega
  simp -implicitDefEqProofs only[id,reduceCtorEq,reduceIte,Nat.reduceMul,Nat.reduceAdd,Nat.reduceLT,Nat.reduceLeDiff,Nat.reduceEqDiff,Int.reduceLT,Int.reduceBEq,Int.reduceBNe,Nat.reduceBEq,frS,ptr,qb62];(refine hk _ ?_;clear hk k;try show Sat _ _ _ _ _);(repeat refine Qb ?_);refine Sat.block ?_;refine Zr 5 3 1 (fun p _=>.i .i64 (([]:List Int).getD p 0)) rfl ?_;refine Sat.loop (ι:=Nat×List Int×Option Addr×Nat) (fun x=>⟨34,[(6,.i .i64 (x.1:Int)),(5,.os 0 x.2.2.1 x.2.1.length x.2.2.2),(0,ptr cb)],[.row x.2.2.1 3 x.2.1.length x.2.2.2 1 (fun p _=>.i .i64 (x.2.1.getD p 0))]⟩)
    (fun x=>Qv x.2.1∧x.1+x.2.1.length≤n) (fun x=>x.1) (t,[],none,0) ⟨QJ,by simpa using ht⟩ (by simp -implicitDefEqProofs only[id,reduceCtorEq,reduceIte,Nat.reduceMul,Nat.reduceAdd,Nat.reduceLT,Nat.reduceLeDiff,Nat.reduceEqDiff,Int.reduceLT,Int.reduceBEq,Int.reduceBNe,Nat.reduceBEq,frS,ptr,qb63];try rfl) ?_
  rintro⟨q,xs,a,c⟩ ⟨hlim,hlen⟩;simp only at hlim hlen ⊢;(repeat refine Qb ?_);(refine Qa fun k hk=>?_;simp -implicitDefEqProofs only[id,reduceCtorEq,reduceIte,Nat.reduceMul,Nat.reduceAdd,Nat.reduceLT,Nat.reduceLeDiff,Nat.reduceEqDiff,Int.reduceLT,Int.reduceBEq,Int.reduceBNe,Nat.reduceBEq,frS,ptr,qb62];refine hk _ ?_;clear hk k;try show Sat _ _ _ _ _);(repeat refine Qb ?_);refine Qd rfl (fun h=>?_) (fun h=>?_)
  · have hq:0<q:=by have:=of_decide_eq_true h;omega
    have eq1:IntKind.i64.wrap ((q:Int) - 1)=((q - 1:Nat):Int):=by rw[w64 (by omega)];omega
    refine Sat.skip ?_;simp only[Qg];(repeat refine Qb ?_);refine Sat.block ?_;(repeat refine Qb ?_);(refine Qa fun k hk=>?_;simp -implicitDefEqProofs only[id,reduceCtorEq,reduceIte,Nat.reduceMul,Nat.reduceAdd,Nat.reduceLT,Nat.reduceLeDiff,Nat.reduceEqDiff,Int.reduceLT,Int.reduceBEq,Int.reduceBNe,Nat.reduceBEq,frS,ptr,qb62]);refine Qe (nextC cb 256 (by decide) (by decide)) rfl (by rintro _ ⟨x,rfl,_⟩;exact Qi rfl) ?_;rintro r ⟨u,rfl,hu0,hu1⟩;simp -implicitDefEqProofs only[id,reduceCtorEq,reduceIte,Nat.reduceMul,Nat.reduceAdd,Nat.reduceLT,Nat.reduceLeDiff,Nat.reduceEqDiff,Int.reduceLT,Int.reduceBEq,Int.reduceBNe,Nat.reduceBEq,frS,ptr,qb62];refine Qe (nextC cb 65536 (by decide) (by decide)) rfl (by rintro _ ⟨x,rfl,_⟩;exact Qi rfl) ?_;rintro r ⟨v,rfl,hv0,hv1⟩;simp -implicitDefEqProofs only[id,reduceCtorEq,reduceIte,Nat.reduceMul,Nat.reduceAdd,Nat.reduceLT,Nat.reduceLeDiff,Nat.reduceEqDiff,Int.reduceLT,Int.reduceBEq,Int.reduceBNe,Nat.reduceBEq,frS,ptr,qb62];refine Qe (nextC cb 16000 (by decide) (by decide)) rfl (by rintro _ ⟨x,rfl,_⟩;exact Qi rfl) ?_;rintro r ⟨w,rfl,hw0,hw1⟩;have e2:IntKind.i64.wrap (1+w)=1+w:=w64 (by omega);have hvw:0≤v * (1+w):=Int.mul_nonneg hv0 (by omega);have hvw2:v * (1+w)≤65536 * 16001:=Int.mul_le_mul (by omega) (by omega) (by omega) (by omega);have e3:IntKind.i64.wrap (v * (1+w))=v * (1+w):=w64 (by omega);simp -implicitDefEqProofs only[id,reduceCtorEq,reduceIte,Nat.reduceMul,Nat.reduceAdd,Nat.reduceLT,Nat.reduceLeDiff,Nat.reduceEqDiff,Int.reduceLT,Int.reduceBEq,Int.reduceBNe,Nat.reduceBEq,frS,ptr,e2,e3,qb62];intro blk;refine Qe (nextC cb 5 (by decide) (by decide)) rfl (by rintro _ ⟨x,rfl,_⟩;exact Qi rfl) ?_;rintro r ⟨y0,rfl,hy0,hy1⟩;obtain⟨y,rfl⟩:=Int.eq_ofNat_of_zero_le hy0;obtain⟨xl,hxl,hxl0⟩:=limb_choice u (v * (1+w)) hu0 hvw y (by omega);have em:xl.tmod 1073741824=xl % 1073741824:=Int.tmod_eq_emod_of_nonneg hxl0;simp -implicitDefEqProofs only[id,reduceCtorEq,reduceIte,Nat.reduceMul,Nat.reduceAdd,Nat.reduceLT,Nat.reduceLeDiff,Nat.reduceEqDiff,Int.reduceLT,Int.reduceBEq,Int.reduceBNe,Nat.reduceBEq,frS,ptr,qb62];refine⟨by omega,by omega,?_⟩;rw[hxl];simp -implicitDefEqProofs only[id,reduceCtorEq,reduceIte,Nat.reduceMul,Nat.reduceAdd,Nat.reduceLT,Nat.reduceLeDiff,Nat.reduceEqDiff,Int.reduceLT,Int.reduceBEq,Int.reduceBNe,Nat.reduceBEq,frS,ptr,em,qb62];refine⟨by decide,fun blk2=>?_⟩;refine⟨⟨by unfold maxLen;omega,by omega⟩,fun a2 cap2=>?_⟩;refine hk _ ?_;clear hk k;simp only[Qg,Qk];(repeat refine Qb ?_);refine Qa fun k hk=>?_;simp -implicitDefEqProofs only[id,reduceCtorEq,reduceIte,Nat.reduceMul,Nat.reduceAdd,Nat.reduceLT,Nat.reduceLeDiff,Nat.reduceEqDiff,Int.reduceLT,Int.reduceBEq,Int.reduceBNe,Nat.reduceBEq,frS,ptr,eq1,qb62];refine hk _ ?_;simp only[Qg,Qk];refine⟨(q - 1,xs ++ [xl % 1073741824],a2,cap2),⟨limbs_append.2 ⟨hlim,QB.2 ⟨by omega,QJ⟩⟩,by simp;omega⟩,by show q - 1<q;omega,?_⟩;simp -implicitDefEqProofs only[id,reduceCtorEq,reduceIte,Nat.reduceMul,Nat.reduceAdd,Nat.reduceLT,Nat.reduceLeDiff,Nat.reduceEqDiff,Int.reduceLT,Int.reduceBEq,Int.reduceBNe,Nat.reduceBEq,frS,ptr,qb63];simp only[List.length_append,List.length_cons,List.length_nil];exact⟨trivial,trivial,rd_snoc rfl rfl⟩
  · have hq:q=0:=by have:=of_decide_eq_false h;omega
    subst hq;refine Sat.exit ?_;simp only[Qg,Qk,reduceIte];(repeat refine Qb ?_);(refine Qa fun k hk=>?_;simp -implicitDefEqProofs only[id,reduceCtorEq,reduceIte,Nat.reduceMul,Nat.reduceAdd,Nat.reduceLT,Nat.reduceLeDiff,Nat.reduceEqDiff,Int.reduceLT,Int.reduceBEq,Int.reduceBNe,Nat.reduceBEq,frS,ptr,qb62]);refine Qc (refTrimC (Frm.codes cb) (s:=.sl a xs.length c 1 (fun p _=>.i .i64 (xs.getD p 0))) ⟨a,c,1,_,rfl,.inr rfl,fun p _=>rfl⟩ hlim) (by simp -implicitDefEqProofs only[id,reduceCtorEq,reduceIte,Nat.reduceMul,Nat.reduceAdd,Nat.reduceLT,Nat.reduceLeDiff,Nat.reduceEqDiff,Int.reduceLT,Int.reduceBEq,Int.reduceBNe,Nat.reduceBEq,frS,ptr,qb62];try rfl) (by simp -implicitDefEqProofs only[id,reduceCtorEq,reduceIte,Nat.reduceMul,Nat.reduceAdd,Nat.reduceLT,Nat.reduceLeDiff,Nat.reduceEqDiff,Int.reduceLT,Int.reduceBEq,Int.reduceBNe,Nat.reduceBEq,frS,ptr,qb62];try rfl) ?_;intro z hz;have hz1:=hz;obtain⟨a8,c8,z8,r8,x8,rfl,_⟩:=hz;simp -implicitDefEqProofs only[id,reduceCtorEq,reduceIte,Nat.reduceMul,Nat.reduceAdd,Nat.reduceLT,Nat.reduceLeDiff,Nat.reduceEqDiff,Int.reduceLT,Int.reduceBEq,Int.reduceBNe,Nat.reduceBEq,frS,ptr,qb62];(refine hk _ ?_;clear hk k;try show Sat _ _ _ _ _);refine Sat.ret ?_;simp only[Tryz.results7,id,seval,frS,ptr,qb64];refine⟨_,hz1,?_⟩;rw[Int.toNat_of_nonneg (Qp hlim)];have h1:=val_lt hlim;have h2:=QI (show xs.length≤n by omega);omega
def FrcPost (n:Nat) (r:SV):Prop:=∃ neg p q,FrS r neg p q∧(p:Int)<pw n∧(q:Int)<pw n∧0<q∧(neg=true→0<p)
set_option maxRecDepth 100000 in
theorem fractionCdC (cb:Nat) (n:Nat) (hn:n≤100) (hn1:1≤n):Contract (Frm.codes cb) Tryz.prog 38 [ptr cb,.i .i64 n] (FrcPost n):=by
  have up:pw n≤pw 256:=QI (by omega);refine Qf Tryz.func38 rfl (by kernel_rfl) ?_;simp only[Tryz.ntmps38,Qm];(repeat refine Qb ?_);(refine Qa fun k hk=>?_;simp -implicitDefEqProofs only[id,reduceCtorEq,reduceIte,Nat.reduceMul,Nat.reduceAdd,Nat.reduceLT,Nat.reduceLeDiff,Nat.reduceEqDiff,Int.reduceLT,Int.reduceBEq,Int.reduceBNe,Nat.reduceBEq,frS,ptr,qb62]);intro b4;(refine hk _ ?_;clear hk k;try show Sat _ _ _ _ _);(repeat refine Qb ?_);(refine Qa fun k hk=>?_;simp -implicitDefEqProofs only[id,reduceCtorEq,reduceIte,Nat.reduceMul,Nat.reduceAdd,Nat.reduceLT,Nat.reduceLeDiff,Nat.reduceEqDiff,Int.reduceLT,Int.reduceBEq,Int.reduceBNe,Nat.reduceBEq,frS,ptr,qb62]);refine Qe (nextC cb 2 (by decide) (by decide)) rfl (by rintro _ ⟨x,rfl,_⟩;exact Qi rfl) ?_;rintro r ⟨x,rfl,hx0,hx1⟩;simp -implicitDefEqProofs only[id,reduceCtorEq,reduceIte,Nat.reduceMul,Nat.reduceAdd,Nat.reduceLT,Nat.reduceLeDiff,Nat.reduceEqDiff,Int.reduceLT,Int.reduceBEq,Int.reduceBNe,Nat.reduceBEq,frS,ptr,qb62];refine Qc (naturalC cb n hn) rfl rfl ?_;rintro r ⟨p,hp,hpn⟩;have hp1:=hp;obtain⟨a1,c1,z1,r1,x1,rfl,_⟩:=hp;simp -implicitDefEqProofs only[id,reduceCtorEq,reduceIte,Nat.reduceMul,Nat.reduceAdd,Nat.reduceLT,Nat.reduceLeDiff,Nat.reduceEqDiff,Int.reduceLT,Int.reduceBEq,Int.reduceBNe,Nat.reduceBEq,frS,ptr,qb62];refine Qc (naturalC cb n hn) rfl rfl ?_;rintro r ⟨q0,hq,hqn⟩;have hq1:=hq;obtain⟨a2,c2,z2,r2,x2,rfl,_⟩:=hq;simp -implicitDefEqProofs only[id,reduceCtorEq,reduceIte,Nat.reduceMul,Nat.reduceAdd,Nat.reduceLT,Nat.reduceLeDiff,Nat.reduceEqDiff,Int.reduceLT,Int.reduceBEq,Int.reduceBNe,Nat.reduceBEq,frS,ptr,qb62];intro b5;(refine hk _ ?_;clear hk k;try show Sat _ _ _ _ _);have hl1:=hp1.len;have hl2:=hq1.len0;(repeat refine Qb ?_);(refine Qa fun k hk=>?_;simp -implicitDefEqProofs only[id,reduceCtorEq,reduceIte,Nat.reduceMul,Nat.reduceAdd,Nat.reduceLT,Nat.reduceLeDiff,Nat.reduceEqDiff,Int.reduceLT,Int.reduceBEq,Int.reduceBNe,Nat.reduceBEq,frS,ptr,qb62];refine hk _ ?_;clear hk k;try show Sat _ _ _ _ _);refine Zq (ι:=Nat×SV) (fun z=>⟨40,[(5,.op 1 b5 0),(4,.op 0 b4 0),(0,ptr cb)],[.box b4 49 [.b false,.sl none 0 0 0 (fun _ _=>.v undef),.sl none 0 0 0 (fun _ _=>.v undef)],.box b5 49 [.b (x == 1),.sl a1 x1.length c1 z1 r1,z.2]]⟩)
    (fun z=>Nats z.2 z.1∧(z.1:Int)<pw n∧0<z.1) (fun hrest=>?_) ?_
  · refine Qd rfl (fun h=>?_) (fun h=>?_)
    · (repeat refine Qb ?_)
      (refine Qa fun k hk=>?_;simp -implicitDefEqProofs only[id,reduceCtorEq,reduceIte,Nat.reduceMul,Nat.reduceAdd,Nat.reduceLT,Nat.reduceLeDiff,Nat.reduceEqDiff,Int.reduceLT,Int.reduceBEq,Int.reduceBNe,Nat.reduceBEq,frS,ptr,qb62]);refine Qe (nextC cb 12 (by decide) (by decide)) rfl (by rintro _ ⟨x,rfl,_⟩;exact Qi rfl) ?_;rintro r ⟨y,rfl,hy0,hy1⟩;obtain⟨y,rfl⟩:=Int.eq_ofNat_of_zero_le hy0;have e1:IntKind.i64.wrap (1+(y:Int))=((y+1:Nat):Int):=by rw[w64 (by omega)];omega
      simp -implicitDefEqProofs only[id,reduceCtorEq,reduceIte,Nat.reduceMul,Nat.reduceAdd,Nat.reduceLT,Nat.reduceLeDiff,Nat.reduceEqDiff,Int.reduceLT,Int.reduceBEq,Int.reduceBNe,Nat.reduceBEq,frS,ptr,e1,qb62];intro blk;refine hk _ ?_;clear hk k;simp only[Qg];refine Sat.settleLeafF 1 2 rfl rfl rfl ?_;simp only[List.set_cons_succ,List.set_cons_zero];refine Sat.le (hrest (y+1,.sl (some ⟨blk,0,none⟩) 1 1 1 (rdL [SV.i .i64 ((y+1:Nat):Int)] 1)) ⟨nats_one (by omega) (by omega),?_,by show 0<y+1;omega⟩) ?_
      · have:=QI hn1
        rw[QF,Q8] at this;show ((y+1:Nat):Int)<pw n;omega
      · simp -implicitDefEqProofs only[id,reduceCtorEq,reduceIte,Nat.reduceMul,Nat.reduceAdd,Nat.reduceLT,Nat.reduceLeDiff,Nat.reduceEqDiff,Int.reduceLT,Int.reduceBEq,Int.reduceBNe,Nat.reduceBEq,frS,ptr,qb63]
    · rw[hl2] at h
      refine Sat.skip ?_;simp only[Qg];refine Sat.le (hrest (q0,_) ⟨hq1,hqn,by have:=of_decide_eq_false h;show 0<q0;omega⟩) ?_;simp -implicitDefEqProofs only[id,reduceCtorEq,reduceIte,Nat.reduceMul,Nat.reduceAdd,Nat.reduceLT,Nat.reduceLeDiff,Nat.reduceEqDiff,Int.reduceLT,Int.reduceBEq,Int.reduceBNe,Nat.reduceBEq,frS,ptr,qb63]
  clear hl2;rintro⟨q,sq⟩ ⟨hq,hqn2,hq0⟩;simp only at hq hqn2 hq0 ⊢;have hq2:=hq;obtain⟨a3,c3,z3,r3,x3,rfl,_⟩:=hq;(repeat refine Qb ?_);refine Zq (ι:=Unit) (fun _=>⟨40,[(5,.op 1 b5 0),(4,.op 0 b4 0),(0,ptr cb)],[.box b4 49 [.b false,.sl none 0 0 0 (fun _ _=>.v undef),.sl none 0 0 0 (fun _ _=>.v undef)],.box b5 49 [.b ((x == 1) && decide (0<p)),.sl a1 x1.length c1 z1 r1,.sl a3 x3.length c3 z3 r3]]⟩)
    (fun _=>True) (fun hrest=>?_) ?_
  · (refine Qa fun k hk=>?_;simp -implicitDefEqProofs only[id,reduceCtorEq,reduceIte,Nat.reduceMul,Nat.reduceAdd,Nat.reduceLT,Nat.reduceLeDiff,Nat.reduceEqDiff,Int.reduceLT,Int.reduceBEq,Int.reduceBNe,Nat.reduceBEq,frS,ptr,qb62])
    simp only[hl1];refine⟨fun h=>?_,fun h=>?_⟩
    · refine hk _ ?_
      clear hk k;simp only[Qg];refine Sat.le (hrest () trivial) ?_;rw[h,Bool.true_and];simp -implicitDefEqProofs only[id,reduceCtorEq,reduceIte,Nat.reduceMul,Nat.reduceAdd,Nat.reduceLT,Nat.reduceLeDiff,Nat.reduceEqDiff,Int.reduceLT,Int.reduceBEq,Int.reduceBNe,Nat.reduceBEq,frS,ptr,qb63]
    · refine hk _ ?_
      clear hk k;simp only[Qg];refine Sat.boxBools 1 rfl ?_;simp only[roB,List.map_cons,List.map_nil,List.set_cons_zero,List.set_cons_succ];refine Sat.le (hrest () trivial) ?_;rw[h,Bool.false_and];simp -implicitDefEqProofs only[id,reduceCtorEq,reduceIte,Nat.reduceMul,Nat.reduceAdd,Nat.reduceLT,Nat.reduceLeDiff,Nat.reduceEqDiff,Int.reduceLT,Int.reduceBEq,Int.reduceBNe,Nat.reduceBEq,frS,ptr,qb63]
  rintro _ _
  have hneg:((x == 1) && decide (0<p))=true→0<p:=fun h=>by
    rw[Bool.and_eq_true] at h;exact of_decide_eq_true h.2
  generalize ((x == 1) && decide (0<p))=neg at hneg;(repeat refine Qb ?_);(refine Qa fun k hk=>?_;simp -implicitDefEqProofs only[id,reduceCtorEq,reduceIte,Nat.reduceMul,Nat.reduceAdd,Nat.reduceLT,Nat.reduceLeDiff,Nat.reduceEqDiff,Int.reduceLT,Int.reduceBEq,Int.reduceBNe,Nat.reduceBEq,frS,ptr,qb62]);refine Qe (nextC cb 2 (by decide) (by decide)) rfl (by rintro _ ⟨x,rfl,_⟩;exact Qi rfl) ?_;rintro r ⟨y,rfl,hy0,hy1⟩;simp -implicitDefEqProofs only[id,reduceCtorEq,reduceIte,Nat.reduceMul,Nat.reduceAdd,Nat.reduceLT,Nat.reduceLeDiff,Nat.reduceEqDiff,Int.reduceLT,Int.reduceBEq,Int.reduceBNe,Nat.reduceBEq,frS,ptr,qb62];(refine hk _ ?_;clear hk k;try show Sat _ _ _ _ _);refine Qd rfl (fun h=>?_) (fun h=>?_)
  · have hg:0<Nat.gcd p q:=Nat.gcd_pos_of_pos_right _ hq0
    have e1:p / Nat.gcd p q * Nat.gcd p q=p:=Nat.div_mul_cancel (Nat.gcd_dvd_left p q);(repeat refine Qb ?_);(refine Qa fun k hk=>?_;simp -implicitDefEqProofs only[id,reduceCtorEq,reduceIte,Nat.reduceMul,Nat.reduceAdd,Nat.reduceLT,Nat.reduceLeDiff,Nat.reduceEqDiff,Int.reduceLT,Int.reduceBEq,Int.reduceBNe,Nat.reduceBEq,frS,ptr,qb62]);refine Qc (refReduceC (Frm.codes cb) neg hp1 hq2 (by omega) (by omega) hq0) rfl (by simp only[frS,id,seval,frS,ptr,qb64];try rfl) ?_;rintro r ⟨sp3,sq3,rfl,h3,h4⟩;have h3':=h3;have h4':=h4;obtain⟨a5,c5,z5,r5,x5,rfl,_⟩:=h3;obtain⟨a6,c6,z6,r6,x6,rfl,_⟩:=h4;simp only[frS,id,seval,frS,ptr,qb64];(refine hk _ ?_;clear hk k;try show Sat _ _ _ _ _);(repeat refine Qb ?_);(refine Qa fun k hk=>?_;simp -implicitDefEqProofs only[id,reduceCtorEq,reduceIte,Nat.reduceMul,Nat.reduceAdd,Nat.reduceLT,Nat.reduceLeDiff,Nat.reduceEqDiff,Int.reduceLT,Int.reduceBEq,Int.reduceBNe,Nat.reduceBEq,frS,ptr,qb62];refine hk _ ?_;clear hk k;try show Sat _ _ _ _ _);refine Sat.ret ?_;simp only[Tryz.results38,id,seval,frS,ptr,qb64];refine⟨_,_,_,⟨_,_,rfl,h3',h4'⟩,?_,?_,Nat.div_pos (Nat.le_of_dvd hq0 (Nat.gcd_dvd_right p q)) hg,fun h9=>?_⟩
    · have:=Nat.div_le_self p (Nat.gcd p q);omega
    · have:=Nat.div_le_self q (Nat.gcd p q);omega
    · rw[Bool.and_eq_true] at h9
      have h8:=hneg h9.1;rcases Nat.eq_zero_or_pos (p / Nat.gcd p q) with h7|h7
      · rw[h7] at e1;omega
      · exact h7
  · refine Sat.skip ?_
    simp only[Qg];(repeat refine Qb ?_);(refine Qa fun k hk=>?_;simp -implicitDefEqProofs only[id,reduceCtorEq,reduceIte,Nat.reduceMul,Nat.reduceAdd,Nat.reduceLT,Nat.reduceLeDiff,Nat.reduceEqDiff,Int.reduceLT,Int.reduceBEq,Int.reduceBNe,Nat.reduceBEq,frS,ptr,qb62];refine hk _ ?_;clear hk k;try show Sat _ _ _ _ _);refine Sat.ret ?_;simp only[Tryz.results38,id,seval,frS,ptr,qb64];exact⟨_,_,_,⟨_,_,rfl,hp1,hq2⟩,hpn,hqn2,hq0,hneg⟩
end

section
open Eng Lmb Go.RowKit
set_option maxRecDepth 100000 in
theorem awakeC (F:Frm):Contract F Tryz.prog 37 [] (fun r=>r=.b true):=by
  refine Qf Tryz.func37 rfl (by kernel_rfl) ?_;simp only[Tryz.ntmps37,Qm];(repeat refine Qb ?_);(refine Qa fun k hk=>?_;simp -implicitDefEqProofs only[evr,id,reduceCtorEq,reduceIte,Nat.reduceMul,Nat.reduceAdd,Nat.reduceLT,Nat.reduceLeDiff,Nat.reduceEqDiff,Int.reduceLT,Int.reduceBEq,Int.reduceBNe,Nat.reduceBEq,frS,ptr,evn];refine hk _ ?_;clear hk k;try show Sat _ _ _ _ _);(repeat refine Qb ?_);(refine Qa fun k hk=>?_;simp -implicitDefEqProofs only[evr,id,reduceCtorEq,reduceIte,Nat.reduceMul,Nat.reduceAdd,Nat.reduceLT,Nat.reduceLeDiff,Nat.reduceEqDiff,Int.reduceLT,Int.reduceBEq,Int.reduceBNe,Nat.reduceBEq,frS,ptr,evn]);refine Qc (fracFromC F (-6) (-4) (by omega) (by omega) (by omega) (by omega) (by omega)) rfl rfl ?_;rintro r ⟨f,rfl,sp,sq,rfl,hp,hq⟩;have hp3:Nats sp 3:=hp;have hq2:Nats sq 2:=hq;have hp':=hp3;have hq':=hq2;clear hp hq;obtain⟨a1,c1,z1,r1,x1,rfl,_⟩:=hp3;obtain⟨a2,c2,z2,r2,x2,rfl,_⟩:=hq2;have e:fromN (-6) (-4)=false:=by decide
  rw[e];simp -implicitDefEqProofs only[evr,id,reduceCtorEq,reduceIte,Nat.reduceMul,Nat.reduceAdd,Nat.reduceLT,Nat.reduceLeDiff,Nat.reduceEqDiff,Int.reduceLT,Int.reduceBEq,Int.reduceBNe,Nat.reduceBEq,frS,ptr,evn];intro b1;(refine hk _ ?_;clear hk k;try show Sat _ _ _ _ _);have d1:((⟨#[51,47,50]⟩:ByteArray).toList == (⟨#[51,47,50]⟩:ByteArray).toList)=true:=beq_self_eq_true _;(repeat refine Qb ?_);refine Qa fun k hk=>?_;simp -implicitDefEqProofs only[evr,id,reduceCtorEq,reduceIte,Nat.reduceMul,Nat.reduceAdd,Nat.reduceLT,Nat.reduceLeDiff,Nat.reduceEqDiff,Int.reduceLT,Int.reduceBEq,Int.reduceBNe,Nat.reduceBEq,frS,ptr,evn];refine Qe (fracText32C F hp' hq') (by simp -implicitDefEqProofs only[evr,id,reduceCtorEq,reduceIte,Nat.reduceMul,Nat.reduceAdd,Nat.reduceLT,Nat.reduceLeDiff,Nat.reduceEqDiff,Int.reduceLT,Int.reduceBEq,Int.reduceBNe,Nat.reduceBEq,frS,ptr,evn];try rfl) (by rintro _ rfl;exact Qi rfl) ?_;rintro r rfl;simp -implicitDefEqProofs only[evr,id,reduceCtorEq,reduceIte,Nat.reduceMul,Nat.reduceAdd,Nat.reduceLT,Nat.reduceLeDiff,Nat.reduceEqDiff,Int.reduceLT,Int.reduceBEq,Int.reduceBNe,Nat.reduceBEq,frS,ptr,d1,evn];(refine hk _ ?_;clear hk k;try show Sat _ _ _ _ _);refine Sat.ret ?_;simp only[Tryz.results37,evr,id,seval,List.append_nil,Int.toNat_zero,Nat.sub_self,frS,ptr]
theorem slB_bytes3 (a:Option Addr) (cap:Nat) (z:List Int) (hz:∀ n∈z,(Lit.int .u8 n).wf=true):isBytes (slB a cap z):=
  ⟨a,z.length,cap,_,rfl,fun i hi=>⟨z.getD i 0,by have:=bounds_u8 (hz _ (Q6 (d:=0) hi));omega,by have:=bounds_u8 (hz _ (Q6 (d:=0) hi));omega,rfl⟩⟩
theorem FrcPost.v {n:Nat} {r:SV} (h:FrcPost n r):∃ (x:Int) (d:Nat),FrV r x d (30 * n):=by
  obtain⟨neg,p,q,hs,hp,hq,h0,_⟩:=h;rw[pw_two] at hp hq;exact⟨sg neg p,q,neg,p,q,hs,rfl,h0,h0,by omega,by omega⟩
end

section
namespace Tq
open Eng Lmb Go.RowKit
theorem two_lt (a b:Nat) (h:a<b):2 ^ a<2 ^ b:=Nat.pow_lt_pow_right (by decide) h
theorem lt7680 {x k:Nat} (h:x≤2 ^ k) (hk:k<1900):x<2 ^ 7680:=Nat.lt_of_le_of_lt h (two_lt k 7680 (by omega))
theorem dec_le {x k:Nat} (h:x≤2 ^ k) (hk:k<1900):(Lib.decDigits x).length≤1901:=by
  have:=dec_two (k+1) x (Nat.lt_of_le_of_lt h (two_lt k (k+1) (by omega)));omega
theorem dec_one {q:Nat}:Lib.decDigits q=[49] ↔ q=1:=by
  have e:Lib.decDigits 1=[49]:=by rw[Za (by decide)];rfl
  constructor
  · intro h
    rw[← e] at h;exact dec_inj h
  · rintro rfl
    exact e
theorem emp49:(⟨#[49]⟩:ByteArray).toList=[49]:=by rw[ByteArray.toList_eq]
def qb65:=And.intro @evr (@evn)
def qb66:=And.intro @evr (And.intro @List.append_nil.{0} (And.intro @Int.toNat_zero (@Nat.sub_self)))
set_option maxHeartbeats 1000000 in
set_option maxRecDepth 100000 in
theorem fracTextC {a:SV} {n:Int} {d k1:Nat} (ha:FrV a n d k1) (hk:k1<1900):Contract FrA Tryz.prog 59 [a] (fun r=>r=sB (frText (rN n) (rP n d) (rQ n d))):=by
  have ha':=ha;have rd:=redV FrA (k1:=k1) ha hk;obtain⟨neg,a1,l1,c1,z1,r1,a2,l2,c2,z2,r2,rfl⟩:=ha.open;refine Qf Tryz.func59 rfl (by kernel_rfl) ?_;simp only[Tryz.ntmps59,Qm,frS];(repeat refine Qb ?_);(refine Qa fun k hk=>?_;simp -implicitDefEqProofs only[id,reduceCtorEq,reduceIte,Nat.reduceMul,Nat.reduceAdd,Nat.reduceLT,Nat.reduceLeDiff,Nat.reduceEqDiff,Int.reduceLT,Int.reduceBEq,Int.reduceBNe,Nat.reduceBEq,frS,qb65]);intro b1;(refine hk _ ?_;clear hk k;try show Sat _ _ _ _ _);(repeat refine Qb ?_);(refine Qa fun k hk=>?_;simp -implicitDefEqProofs only[id,reduceCtorEq,reduceIte,Nat.reduceMul,Nat.reduceAdd,Nat.reduceLT,Nat.reduceLeDiff,Nat.reduceEqDiff,Int.reduceLT,Int.reduceBEq,Int.reduceBNe,Nat.reduceBEq,frS,qb65]);refine Qc rd rfl (by simp -implicitDefEqProofs only[id,reduceCtorEq,reduceIte,Nat.reduceMul,Nat.reduceAdd,Nat.reduceLT,Nat.reduceLeDiff,Nat.reduceEqDiff,Int.reduceLT,Int.reduceBEq,Int.reduceBNe,Nat.reduceBEq,frS,frS,qb65]) ?_;rintro x ⟨⟨sp,sq,rfl,hp,hq⟩,hd0,hP,hQ⟩;have hp':=hp;have hq':=hq;obtain⟨a3,c3,z3,r3,x3,rfl,_⟩:=hp;obtain⟨a4,c4,z4,r4,x4,rfl,_⟩:=hq;simp -implicitDefEqProofs only[id,reduceCtorEq,reduceIte,Nat.reduceMul,Nat.reduceAdd,Nat.reduceLT,Nat.reduceLeDiff,Nat.reduceEqDiff,Int.reduceLT,Int.reduceBEq,Int.reduceBNe,Nat.reduceBEq,frS,qb65];(refine hk _ ?_;clear hk k;try show Sat _ _ _ _ _);have tP:=textC hp' (lt7680 hP hk) (QH hP hk);have tQ:=textC hq' (lt7680 hQ hk) (QH hQ hk);have lP:=dec_le hP hk;have lQ:=dec_le hQ hk;generalize rP n d=P at hp' hP tP lP ⊢;generalize rQ n d=Q at hq' hQ tQ lQ ⊢;generalize rN n=N at *;(repeat refine Qb ?_);(refine Qa fun k hk=>?_;simp -implicitDefEqProofs only[id,reduceCtorEq,reduceIte,Nat.reduceMul,Nat.reduceAdd,Nat.reduceLT,Nat.reduceLeDiff,Nat.reduceEqDiff,Int.reduceLT,Int.reduceBEq,Int.reduceBNe,Nat.reduceBEq,frS,qb65]);refine Qe tP rfl (by rintro _ rfl;exact Qi rfl) ?_;rintro r rfl;simp -implicitDefEqProofs only[id,reduceCtorEq,reduceIte,Nat.reduceMul,Nat.reduceAdd,Nat.reduceLT,Nat.reduceLeDiff,Nat.reduceEqDiff,Int.reduceLT,Int.reduceBEq,Int.reduceBNe,Nat.reduceBEq,frS,qb65];(refine hk _ ?_;clear hk k;try show Sat _ _ _ _ _);(repeat refine Qb ?_);(refine Qa fun k hk=>?_;simp -implicitDefEqProofs only[id,reduceCtorEq,reduceIte,Nat.reduceMul,Nat.reduceAdd,Nat.reduceLT,Nat.reduceLeDiff,Nat.reduceEqDiff,Int.reduceLT,Int.reduceBEq,Int.reduceBNe,Nat.reduceBEq,frS,qb65];refine hk _ ?_;clear hk k;try show Sat _ _ _ _ _);have ct1:(((((⟨#[45]⟩:ByteArray)).size+(mkB (Lib.decDigits P)).size:Nat):Int)≤IntKind.i64.max)=True:=cat_ok (by rw[Qn];show 1+_≤_;omega);have ce1:(⟨#[45]⟩:ByteArray) ++ mkB (Lib.decDigits P)=mkB (45 :: Lib.decDigits P):=Qu [45] _;have hls:((if N=true then 45 :: Lib.decDigits P else Lib.decDigits P):List UInt8).length≤1902:=by cases N<;>simp<;>omega
  refine Sat.join (fun _:Unit=>⟨24,[(3,sB (if N=true then 45 :: Lib.decDigits P else Lib.decDigits P)),(1,.op 0 b1 0)],[.box b1 49 [.b N,.sl a3 x3.length c3 z3 r3,.sl a4 x4.length c4 z4 r4]]⟩) (fun _=>True) ?_ (fun _ _=>?_)
  · refine Qd rfl (fun h=>?_) (fun h=>?_)
    · subst h
      refine Qa fun k hk=>?_;simp -implicitDefEqProofs only[id,reduceCtorEq,reduceIte,Nat.reduceMul,Nat.reduceAdd,Nat.reduceLT,Nat.reduceLeDiff,Nat.reduceEqDiff,Int.reduceLT,Int.reduceBEq,Int.reduceBNe,Nat.reduceBEq,frS,ct1,ce1,qb65];refine hk _ ?_;simp only[Qg];refine⟨(),trivial,?_⟩;simp only[if_true];simp -implicitDefEqProofs only[id,reduceCtorEq,reduceIte,Nat.reduceMul,Nat.reduceAdd,Nat.reduceLT,Nat.reduceLeDiff,Nat.reduceEqDiff,Int.reduceLT,Int.reduceBEq,Int.reduceBNe,Nat.reduceBEq,frS,evl,qb65]
      repeat' (first|rfl|(refine And.intro ?_ ?_))
    · subst h
      refine Sat.skip ?_;simp only[Qg];refine⟨(),trivial,?_⟩;simp only[Bool.false_eq_true,if_false];simp -implicitDefEqProofs only[id,reduceCtorEq,reduceIte,Nat.reduceMul,Nat.reduceAdd,Nat.reduceLT,Nat.reduceLeDiff,Nat.reduceEqDiff,Int.reduceLT,Int.reduceBEq,Int.reduceBNe,Nat.reduceBEq,frS,evl,qb65]
      repeat' (first|rfl|(refine And.intro ?_ ?_))
  have hft:frText N P Q=(if N=true then 45 :: Lib.decDigits P else Lib.decDigits P) ++ if Q=1 then [] else 47 :: Lib.decDigits Q:=by
    unfold frText frBody;cases N<;>simp
  rw[hft];generalize (if N=true then 45 :: Lib.decDigits P else Lib.decDigits P)=sl at hls ⊢;have ct2:(((((⟨#[47]⟩:ByteArray)).size+(mkB (Lib.decDigits Q)).size:Nat):Int)≤IntKind.i64.max)=True:=cat_ok (by rw[Qn];show 1+_≤_;omega);have ce2:(⟨#[47]⟩:ByteArray) ++ mkB (Lib.decDigits Q)=mkB (47 :: Lib.decDigits Q):=Qu [47] _;have ct3:((((mkB sl).size+(mkB (47 :: Lib.decDigits Q)).size:Nat):Int)≤IntKind.i64.max)=True:=cat_ok (by rw[Qn,Qn];simp;omega);have ce3:mkB sl ++ mkB (47 :: Lib.decDigits Q)=mkB (sl ++ 47 :: Lib.decDigits Q):=Qu _ _;(repeat refine Qb ?_);(refine Qa fun k hk=>?_;simp -implicitDefEqProofs only[id,reduceCtorEq,reduceIte,Nat.reduceMul,Nat.reduceAdd,Nat.reduceLT,Nat.reduceLeDiff,Nat.reduceEqDiff,Int.reduceLT,Int.reduceBEq,Int.reduceBNe,Nat.reduceBEq,frS,qb65]);refine Qe tQ rfl (by rintro _ rfl;exact Qi rfl) ?_;rintro r rfl;simp -implicitDefEqProofs only[id,reduceCtorEq,reduceIte,Nat.reduceMul,Nat.reduceAdd,Nat.reduceLT,Nat.reduceLeDiff,Nat.reduceEqDiff,Int.reduceLT,Int.reduceBEq,Int.reduceBNe,Nat.reduceBEq,frS,qb65];(refine hk _ ?_;clear hk k;try show Sat _ _ _ _ _);(repeat refine Qb ?_);refine Qa fun k hk=>?_;simp -implicitDefEqProofs only[id,reduceCtorEq,reduceIte,Nat.reduceMul,Nat.reduceAdd,Nat.reduceLT,Nat.reduceLeDiff,Nat.reduceEqDiff,Int.reduceLT,Int.reduceBEq,Int.reduceBNe,Nat.reduceBEq,frS,QA,emp49,qb65];(refine hk _ ?_;clear hk k;try show Sat _ _ _ _ _);refine Qd rfl (fun h=>?_) (fun h=>?_)
  · have hQ1:Q≠1:=fun e=>by rw[dec_one.2 e] at h;simp at h
    (repeat refine Qb ?_);refine Qa fun k hk=>?_;simp -implicitDefEqProofs only[id,reduceCtorEq,reduceIte,Nat.reduceMul,Nat.reduceAdd,Nat.reduceLT,Nat.reduceLeDiff,Nat.reduceEqDiff,Int.reduceLT,Int.reduceBEq,Int.reduceBNe,Nat.reduceBEq,frS,ct2,ce2,ct3,ce3,qb65];(refine hk _ ?_;clear hk k;try show Sat _ _ _ _ _);(repeat refine Qb ?_);(refine Qa fun k hk=>?_;simp -implicitDefEqProofs only[id,reduceCtorEq,reduceIte,Nat.reduceMul,Nat.reduceAdd,Nat.reduceLT,Nat.reduceLeDiff,Nat.reduceEqDiff,Int.reduceLT,Int.reduceBEq,Int.reduceBNe,Nat.reduceBEq,frS,qb65];refine hk _ ?_;clear hk k;try show Sat _ _ _ _ _);refine Sat.ret ?_;simp only[Qg,Tryz.results59,id,seval,frS,qb66];rw[if_neg hQ1]
  · have hQ1:Q=1:=dec_one.1 (by simpa using h)
    refine Sat.skip ?_;simp only[Qg];(repeat refine Qb ?_);(refine Qa fun k hk=>?_;simp -implicitDefEqProofs only[id,reduceCtorEq,reduceIte,Nat.reduceMul,Nat.reduceAdd,Nat.reduceLT,Nat.reduceLeDiff,Nat.reduceEqDiff,Int.reduceLT,Int.reduceBEq,Int.reduceBNe,Nat.reduceBEq,frS,qb65];refine hk _ ?_;clear hk k;try show Sat _ _ _ _ _);refine Sat.ret ?_;simp only[Tryz.results59,id,seval,frS,qb66];rw[if_pos hQ1,List.append_nil]
end Tq
end

section
namespace Tq
open Eng Lmb Go.RowKit
theorem cutPrefixC (F:Frm) (l:List UInt8):Contract F Tryz.prog 105 [sB l,.v (.string ⟨#[45]⟩)] (fun r=>r=QW [sB (Lib.trimPrefix l [45]),.b (Lib.hasPrefix l [45])]):=by
  refine Zl Tryz.func105 rfl (by kernel_rfl) fun R w hs hR=>?_;refine (Tryz.strings_CutPrefix (mkB l) ⟨#[45]⟩ w).mono ?_;rintro e w' ⟨rfl,rfl⟩;exact⟨_,rfl,rfl,tup2_ok trivial trivial,Below.refl _ _⟩
end Tq
end

section
namespace Tq
open Eng Lmb Go.RowKit Go.Sort
def strsRd (P:List (List UInt8)) (i j:Nat):SV:=sB (P.getD i [])
/-! ### Cut -/
structure CutInv (c:UInt8) (l:List UInt8) (i j:Nat) (ps:List (List UInt8)):Prop where
  le:j≤i
  hi:i≤l.length
  eq:splitB c l=ps ++ splitB c (l.drop j)
  free:∀ x∈(l.drop j).take (i - j),x≠c
theorem CutInv.hit {c:UInt8} {l:List UInt8} {i j:Nat} {ps:List (List UInt8)} (h:CutInv c l i j ps) (hlt:i<l.length) (hc:l.getD i 0=c):CutInv c l (i+1) (i+1) (ps ++ [(l.drop j).take (i - j)]):=by
  have hle:=h.le
  have e:l.drop j=(l.drop j).take (i - j) ++ c :: l.drop (i+1):=by
    have h1:(l.drop j).drop (i - j)=l.drop i:=by rw[List.drop_drop];congr 1;omega
    have h2:=List.drop_eq_getElem_cons hlt
    have h3:l[i]=c:=by
      rw[List.getD_eq_getElem?_getD,List.getElem?_eq_getElem hlt] at hc;exact hc
    rw[h3] at h2;rw[← h2,← h1,List.take_append_drop]
  refine⟨Nat.le_refl _,hlt,?_,fun x hx=>by simp at hx⟩;rw[h.eq,List.append_assoc]
  congr 1
  conv=>lhs;rw[e]
  rw[splitB_app c _ _ h.free];rfl
theorem CutInv.miss {c:UInt8} {l:List UInt8} {i j:Nat} {ps:List (List UInt8)} (h:CutInv c l i j ps) (hlt:i<l.length) (hc:l.getD i 0≠c):CutInv c l (i+1) j ps:=by
  have hle:=h.le;refine⟨by omega,hlt,h.eq,fun x hx=>?_⟩
  have e:(l.drop j).take (i+1 - j)=(l.drop j).take (i - j) ++ [l[i]]:=by
    rw[show i+1 - j=(i - j)+1 by omega,List.take_add_one]
    congr 1
    rw[List.getElem?_drop,show j+(i - j)=i by omega,List.getElem?_eq_getElem hlt];rfl
  rw[e] at hx;rcases List.mem_append.1 hx with hx|hx
  · exact h.free x hx
  · rw[List.mem_singleton.1 hx]
    rw[List.getD_eq_getElem?_getD,List.getElem?_eq_getElem hlt] at hc;exact hc
theorem CutInv.done {c:UInt8} {l:List UInt8} {j:Nat} {ps:List (List UInt8)} (h:CutInv c l l.length j ps):splitB c l=ps ++ [l.drop j]:=by
  have hf:=h.free;rw[List.take_of_length_le (by simp)] at hf;rw[h.eq,splitB_none c _ hf]
theorem split_len (c:UInt8):∀ l:List UInt8,(splitB c l).length≤l.length+1
  | []=>by simp [splitB]
  | x :: l=>by
    have h:=split_len c l;unfold splitB;split
    · simp;omega
    · split
      · rename_i p r hs
        rw[hs] at h;simp at h ⊢;omega
      · simp
def PcsPost (P:List (List UInt8)) (r:SV):Prop:=∃ a cap,r=.sl a P.length cap 1 (strsRd P)
def qb67:=And.intro @evr (And.intro @Qn (And.intro @Zp (And.intro @mkB_ext (And.intro @Qu (And.intro @QA (And.intro @QY (@evn)))))))
def qb68:=And.intro @evr (And.intro @Qn (And.intro @Zp (And.intro @mkB_ext (And.intro @Qu (And.intro @QA (And.intro @QY (And.intro @evl (@evn))))))))
def qb69:=And.intro @evr (And.intro @List.append_nil.{0} (And.intro @Int.toNat_zero (And.intro @Nat.sub_self (And.intro @Qn (And.intro @Zp (And.intro @mkB_ext (And.intro @Qu (And.intro @QA (@QY)))))))))
set_option maxRecDepth 100000 in
theorem rfCutC (F:Frm) (c:UInt8) (l:List UInt8) (hl:l.length≤100000):Contract F Tryz.prog 107 [sB l,.i .u8 (c.toNat:Nat)] (PcsPost (splitB c l)):=by
  have hPl:=split_len c l;refine Qf Tryz.func107 rfl (by kernel_rfl) ?_;simp only[Tryz.ntmps107,Qm];(repeat refine Qb ?_);(refine Qa fun k hk=>?_;simp -implicitDefEqProofs only[id,reduceCtorEq,reduceIte,Nat.reduceMul,Nat.reduceAdd,Nat.reduceLT,Nat.reduceLeDiff,Nat.reduceEqDiff,Int.reduceLT,Int.reduceBEq,Int.reduceBNe,Nat.reduceBEq,Int.reduceNeg,frS,qb67];refine hk _ ?_;clear hk k;try show Sat _ _ _ _ _);(repeat refine Qb ?_);(refine Qa fun k hk=>?_;simp -implicitDefEqProofs only[id,reduceCtorEq,reduceIte,Nat.reduceMul,Nat.reduceAdd,Nat.reduceLT,Nat.reduceLeDiff,Nat.reduceEqDiff,Int.reduceLT,Int.reduceBEq,Int.reduceBNe,Nat.reduceBEq,Int.reduceNeg,frS,qb67];refine hk _ ?_;clear hk k;try show Sat _ _ _ _ _);(repeat refine Qb ?_);(refine Qa fun k hk=>?_;simp -implicitDefEqProofs only[id,reduceCtorEq,reduceIte,Nat.reduceMul,Nat.reduceAdd,Nat.reduceLT,Nat.reduceLeDiff,Nat.reduceEqDiff,Int.reduceLT,Int.reduceBEq,Int.reduceBNe,Nat.reduceBEq,Int.reduceNeg,frS,qb67];refine hk _ ?_;clear hk k;try show Sat _ _ _ _ _);(repeat refine Qb ?_);(refine Qa fun k hk=>?_;simp -implicitDefEqProofs only[id,reduceCtorEq,reduceIte,Nat.reduceMul,Nat.reduceAdd,Nat.reduceLT,Nat.reduceLeDiff,Nat.reduceEqDiff,Int.reduceLT,Int.reduceBEq,Int.reduceBNe,Nat.reduceBEq,Int.reduceNeg,frS,qb67];refine hk _ ?_;clear hk k;try show Sat _ _ _ _ _);(repeat refine Qb ?_);refine Sat.block ?_;refine Zr 5 9 1 (strsRd (splitB c l)) rfl ?_;refine Sat.loop (ι:=(Nat×Nat)×List (List UInt8)×Option Addr×Nat) (fun x=>⟨34,[(7,.i .i64 x.1.1),(6,.i .i64 x.1.2),(5,.os 0 x.2.2.1 x.2.1.length x.2.2.2),(0,sB l),(1,.i .u8 (c.toNat:Nat))],[.row x.2.2.1 9 x.2.1.length x.2.2.2 1 (strsRd (splitB c l))]⟩)
    (fun x=>CutInv c l x.1.1 x.1.2 x.2.1) (fun x=>l.length - x.1.1) ((0,0),[],none,0) ⟨Nat.le_refl _,Nat.zero_le _,rfl,fun x hx=>by cases hx⟩ (by simp -implicitDefEqProofs only[id,reduceCtorEq,reduceIte,Nat.reduceMul,Nat.reduceAdd,Nat.reduceLT,Nat.reduceLeDiff,Nat.reduceEqDiff,Int.reduceLT,Int.reduceBEq,Int.reduceBNe,Nat.reduceBEq,Int.reduceNeg,frS,qb68];rfl) ?_
  rintro⟨⟨i,j⟩,ps,ad,cap⟩ hI;simp only at hI ⊢;have hij:=hI.le;have hil:=hI.hi
  have hpl:ps.length+1≤(splitB c l).length:=by
    rw[hI.eq,List.length_append];have:=List.length_pos_iff.2 (splitB_ne c (l.drop j));omega
  have e1:IntKind.i64.wrap ((i:Int)+1)=((i+1:Nat):Int):=by rw[w64 (by omega)];omega
  (repeat refine Qb ?_);(refine Qa fun k hk=>?_;simp -implicitDefEqProofs only[id,reduceCtorEq,reduceIte,Nat.reduceMul,Nat.reduceAdd,Nat.reduceLT,Nat.reduceLeDiff,Nat.reduceEqDiff,Int.reduceLT,Int.reduceBEq,Int.reduceBNe,Nat.reduceBEq,Int.reduceNeg,frS,qb67];refine hk _ ?_;clear hk k;try show Sat _ _ _ _ _);(repeat refine Qb ?_);refine Qd rfl (fun h=>?_) (fun h=>?_)
  · have hi:i<l.length:=by simp only[decide_eq_true_eq] at h;omega
    clear h;refine Sat.skip ?_;simp only[Qg];(repeat refine Qb ?_);refine Sat.block ?_;(repeat refine Qb ?_);(refine Qa fun k hk=>?_;simp -implicitDefEqProofs only[id,reduceCtorEq,reduceIte,Nat.reduceMul,Nat.reduceAdd,Nat.reduceLT,Nat.reduceLeDiff,Nat.reduceEqDiff,Int.reduceLT,Int.reduceBEq,Int.reduceBNe,Nat.reduceBEq,Int.reduceNeg,frS,qb67]);refine⟨by omega,?_⟩;simp only[byte_eq];(refine hk _ ?_;clear hk k;try show Sat _ _ _ _ _);(repeat refine Qb ?_);refine Sat.atF (fun y:(Nat×List (List UInt8))×Option Addr×Nat=>⟨34,[(7,.i .i64 i),(6,.i .i64 y.1.1),(5,.os 0 y.2.1 y.1.2.length y.2.2),(0,sB l),(1,.i .u8 (c.toNat:Nat))],[.row y.2.1 9 y.1.2.length y.2.2 1 (strsRd (splitB c l))]⟩) (fun y=>CutInv c l (i+1) y.1.1 y.1.2) ?_ ?_
    · refine Qd rfl (fun h=>?_) (fun h=>?_)
      · simp only[decide_eq_true_eq] at h
        have hN:=hI.hit hi h
        have hat:(splitB c l).getD ps.length []=(l.drop j).take (i - j):=by
          rw[hN.eq,List.append_assoc,List.getD_eq_getElem?_getD];simp
        (repeat refine Qb ?_);(refine Qa fun k hk=>?_;simp -implicitDefEqProofs only[id,reduceCtorEq,reduceIte,Nat.reduceMul,Nat.reduceAdd,Nat.reduceLT,Nat.reduceLeDiff,Nat.reduceEqDiff,Int.reduceLT,Int.reduceBEq,Int.reduceBNe,Nat.reduceBEq,Int.reduceNeg,frS,qb67]);refine⟨by omega,fun blk=>?_⟩;refine⟨⟨by unfold maxLen;omega,by omega⟩,fun a2 cap2=>?_⟩;(refine hk _ ?_;clear hk k;try show Sat _ _ _ _ _);try (repeat refine Qb ?_)
        refine Qa fun k hk=>?_;simp -implicitDefEqProofs only[id,reduceCtorEq,reduceIte,Nat.reduceMul,Nat.reduceAdd,Nat.reduceLT,Nat.reduceLeDiff,Nat.reduceEqDiff,Int.reduceLT,Int.reduceBEq,Int.reduceBNe,Nat.reduceBEq,Int.reduceNeg,frS,e1,qb67];refine hk _ ?_;try simp only[Qg]
        refine⟨((i+1,ps ++ [(l.drop j).take (i - j)]),a2,cap2),hN,?_⟩;simp only[List.length_append,List.length_singleton];simp -implicitDefEqProofs only[id,reduceCtorEq,reduceIte,Nat.reduceMul,Nat.reduceAdd,Nat.reduceLT,Nat.reduceLeDiff,Nat.reduceEqDiff,Int.reduceLT,Int.reduceBEq,Int.reduceBNe,Nat.reduceBEq,Int.reduceNeg,frS,qb68];refine rdEq_one (rdEq_refl _ _ _) ?_;unfold strsRd;rw[hat]
      · simp only[decide_eq_false_iff_not] at h
        have hN:=hI.miss hi h;refine Sat.skip ?_;simp only[Qg];exact⟨((j,ps),ad,cap),hN,by simp -implicitDefEqProofs only[id,reduceCtorEq,reduceIte,Nat.reduceMul,Nat.reduceAdd,Nat.reduceLT,Nat.reduceLeDiff,Nat.reduceEqDiff,Int.reduceLT,Int.reduceBEq,Int.reduceBNe,Nat.reduceBEq,Int.reduceNeg,frS,qb68]⟩
    · rintro⟨⟨j2,ps2⟩,ad2,cap2⟩ hN
      simp only at hN;simp only[Qg,Qk];refine Qa fun k hk=>?_;simp -implicitDefEqProofs only[id,reduceCtorEq,reduceIte,Nat.reduceMul,Nat.reduceAdd,Nat.reduceLT,Nat.reduceLeDiff,Nat.reduceEqDiff,Int.reduceLT,Int.reduceBEq,Int.reduceBNe,Nat.reduceBEq,Int.reduceNeg,frS,e1,qb67];refine hk _ ?_;simp only[Qg,Qk];refine⟨((i+1,j2),ps2,ad2,cap2),hN,by show l.length - (i+1)<l.length - i;omega,?_⟩;simp -implicitDefEqProofs only[id,reduceCtorEq,reduceIte,Nat.reduceMul,Nat.reduceAdd,Nat.reduceLT,Nat.reduceLeDiff,Nat.reduceEqDiff,Int.reduceLT,Int.reduceBEq,Int.reduceBNe,Nat.reduceBEq,Int.reduceNeg,frS,qb68]
  · have hi:i=l.length:=by simp only[decide_eq_false_iff_not] at h;omega
    subst hi;have hD:=hI.done
    have hat:(splitB c l).getD ps.length []=l.drop j:=by
      rw[hD,List.getD_eq_getElem?_getD];simp
    have hlen:(splitB c l).length=ps.length+1:=by rw[hD];simp
    refine Sat.exit ?_;simp only[Qg,Qk,reduceIte];(repeat refine Qb ?_);(refine Qa fun k hk=>?_;simp -implicitDefEqProofs only[id,reduceCtorEq,reduceIte,Nat.reduceMul,Nat.reduceAdd,Nat.reduceLT,Nat.reduceLeDiff,Nat.reduceEqDiff,Int.reduceLT,Int.reduceBEq,Int.reduceBNe,Nat.reduceBEq,Int.reduceNeg,frS,qb67]);refine⟨by omega,fun blk=>?_⟩;refine⟨⟨by unfold maxLen;omega,by omega⟩,fun a2 cap2=>?_⟩;refine hk _ ?_;clear hk
    refine Sat.le (st':=⟨34,[(4,.os 0 a2 (splitB c l).length cap2)],[.row a2 9 (splitB c l).length cap2 1 (strsRd (splitB c l))]⟩) ?_ (by
      rw[hlen];simp -implicitDefEqProofs only[id,reduceCtorEq,reduceIte,Nat.reduceMul,Nat.reduceAdd,Nat.reduceLT,Nat.reduceLeDiff,Nat.reduceEqDiff,Int.reduceLT,Int.reduceBEq,Int.reduceBNe,Nat.reduceBEq,Int.reduceNeg,frS,qb68];refine rdEq_one (rdEq_refl _ _ _) ?_;unfold strsRd;rw[hat]
      first|rfl|(congr 2;rw[List.take_of_length_le (by simp)]))
    refine Sat.ret ?_;simp only[Tryz.results107,id,seval,Int.reduceNeg,frS,qb69];exact⟨_,_,rfl⟩
def frRes (e:Int) (N:Bool) (P Q:Nat) (r:SV):Prop:=∃ f,r=QW [f,.i .i64 e]∧FrS f N P Q
def fpT (l:List UInt8):Int×Bool×Nat×Nat:=match fpOut l with
  | none=>(2,false,0,0)
  | some (N,P,Q)=>if frOk N P Q=true then (0,N,P,Q) else (5,false,0,0)
def fpPost (l:List UInt8) (r:SV):Prop:=frRes (fpT l).1 (fpT l).2.1 (fpT l).2.2.1 (fpT l).2.2.2 r
theorem fp_none {l:List UInt8} {r f:SV} (h:fpOut l=none) (hr:r=QW [f,.i .i64 2]) (hf:FrS f false 0 0):fpPost l r:=by
  unfold fpPost fpT;rw[h];exact⟨f,hr,hf⟩
theorem fp_some {l:List UInt8} {r:SV} {N:Bool} {P Q:Nat} (h:fpOut l=some (N,P,Q)) (hr:limPost N P Q r):fpPost l r:=by
  unfold fpPost fpT;rw[h];rcases hr with ⟨h1,f,hr,hf⟩|⟨h1,f,hr,hf⟩
  · simp only[h1,if_true]
    exact⟨f,hr,hf⟩
  · simp only[h1,Bool.false_eq_true,if_false]
    exact⟨f,hr,hf⟩
theorem fp_bnd (l:List UInt8):(((fpT l).2.2.1:Nat):Int)<pw 512∧(((fpT l).2.2.2:Nat):Int)<pw 512:=by
  have h0:((0:Nat):Int)<pw 512:=Zu 512;have h64:pw 64≤pw 512:=QI (by decide);unfold fpT;cases h:fpOut l with
  | none=>exact⟨h0,h0⟩
  | some y=>
    obtain⟨N,P,Q⟩:=y;simp only;split
    · rename_i h9
      unfold frOk at h9;simp only[Bool.and_eq_true,decide_eq_true_eq] at h9;exact⟨by show (P:Int)<_;omega,by show (Q:Int)<_;omega⟩
    · exact⟨h0,h0⟩
theorem FrS.op {r:SV} {N:Bool} {P Q:Nat} (h:FrS r N P Q):∃ a1 l1 c1 z1 r1 a2 l2 c2 z2 r2,r=frS N (.sl a1 l1 c1 z1 r1) (.sl a2 l2 c2 z2 r2):=by
  obtain⟨sp,sq,rfl,⟨a1,c1,z1,r1,x1,rfl,_⟩,⟨a2,c2,z2,r2,x2,rfl,_⟩⟩:=h;exact⟨_,_,_,_,_,_,_,_,_,_,rfl⟩
set_option maxRecDepth 100000 in
theorem sameF (F:Frm) (e:Int) {a b:SV} {N:Bool} {P Q:Nat} (ha:FrS a N P Q) (hb:FrS b N P Q) (b1:(P:Int)<pw 512) (b2:(Q:Int)<pw 512):Contract F Tryz.prog 41 [a,.i .i64 e,b,.i .i64 e] (fun r=>r=.b true):=by
  obtain⟨sp,sq,rfl,hp,hq⟩:=ha;obtain⟨sr,ss,rfl,hr,hs⟩:=hb;have h0:=refSame3C F N N hp hq hr hs b1 b2 b1 b2;rw[decide_eq_true ⟨rfl,rfl,rfl⟩] at h0;obtain⟨a1,c1,z1,r1,x1,rfl,_⟩:=hp;obtain⟨a2,c2,z2,r2,x2,rfl,_⟩:=hq;obtain⟨a3,c3,z3,r3,x3,rfl,_⟩:=hr;obtain⟨a4,c4,z4,r4,x4,rfl,_⟩:=hs;refine Qf Tryz.func41 rfl (by kernel_rfl) ?_;simp only[Tryz.ntmps41,Qm,frS];(repeat refine Qb ?_);(refine Qa fun k hk=>?_;simp -implicitDefEqProofs only[id,reduceCtorEq,reduceIte,Nat.reduceMul,Nat.reduceAdd,Nat.reduceLT,Nat.reduceLeDiff,Nat.reduceEqDiff,Int.reduceLT,Int.reduceBEq,Int.reduceBNe,Nat.reduceBEq,Int.reduceNeg,frS,qb67]);intro k1 k2;(refine hk _ ?_;clear hk k;try show Sat _ _ _ _ _);(repeat refine Qb ?_);refine Qa fun k hk=>?_;simp -implicitDefEqProofs only[id,reduceCtorEq,reduceIte,Nat.reduceMul,Nat.reduceAdd,Nat.reduceLT,Nat.reduceLeDiff,Nat.reduceEqDiff,Int.reduceLT,Int.reduceBEq,Int.reduceBNe,Nat.reduceBEq,Int.reduceNeg,frS,beq_self_eq_true,qb67];refine Qe h0 (by simp -implicitDefEqProofs only[id,reduceCtorEq,reduceIte,Nat.reduceMul,Nat.reduceAdd,Nat.reduceLT,Nat.reduceLeDiff,Nat.reduceEqDiff,Int.reduceLT,Int.reduceBEq,Int.reduceBNe,Nat.reduceBEq,Int.reduceNeg,frS,qb67];try rfl) (by rintro _ rfl;exact Qi rfl) ?_;rintro _ rfl;simp -implicitDefEqProofs only[id,reduceCtorEq,reduceIte,Nat.reduceMul,Nat.reduceAdd,Nat.reduceLT,Nat.reduceLeDiff,Nat.reduceEqDiff,Int.reduceLT,Int.reduceBEq,Int.reduceBNe,Nat.reduceBEq,Int.reduceNeg,frS,qb67];(refine hk _ ?_;clear hk k;try show Sat _ _ _ _ _);refine Sat.ret ?_;simp only[Tryz.results41,id,seval,Int.reduceNeg,frS,qb69]
/-! ### From -/
def froE (d:Int):Int:=if d=0 then 14 else 0
def froN (n d:Int):Bool:=if d=0 then false else fromN n d
def froP (n d:Int):Nat:=if d=0 then 0 else n.natAbs / Nat.gcd n.natAbs d.natAbs
def froQ (n d:Int):Nat:=if d=0 then 0 else d.natAbs / Nat.gcd n.natAbs d.natAbs
section
variable (F:Frm) (n d:Int) (h1:-9223372036854775808≤n) (h2:n≤9223372036854775807) (h3:-9223372036854775808≤d) (h4:d≤9223372036854775807)
include h1 h2 h3 h4
set_option maxRecDepth 100000 in
theorem natFroC:Contract F Tryz.prog 48 [.i .i64 n,.i .i64 d] (frRes (froE d) (froN n d) (froP n d) (froQ n d)):=by
  unfold froE froN froP froQ;by_cases h0:d=0
  · subst h0
    refine Qf Tryz.func48 rfl (by kernel_rfl) ?_;simp only[Tryz.ntmps48,Qm];(repeat refine Qb ?_);(refine Qa fun k hk=>?_;simp -implicitDefEqProofs only[id,reduceCtorEq,reduceIte,Nat.reduceMul,Nat.reduceAdd,Nat.reduceLT,Nat.reduceLeDiff,Nat.reduceEqDiff,Int.reduceLT,Int.reduceBEq,Int.reduceBNe,Nat.reduceBEq,Int.reduceNeg,frS,qb67]);intro k1;(refine hk _ ?_;clear hk k;try show Sat _ _ _ _ _);(repeat refine Qb ?_);(refine Qa fun k hk=>?_;simp -implicitDefEqProofs only[id,reduceCtorEq,reduceIte,Nat.reduceMul,Nat.reduceAdd,Nat.reduceLT,Nat.reduceLeDiff,Nat.reduceEqDiff,Int.reduceLT,Int.reduceBEq,Int.reduceBNe,Nat.reduceBEq,Int.reduceNeg,frS,qb67];refine hk _ ?_;clear hk k;try show Sat _ _ _ _ _);refine Qd rfl (fun _=>?_) (fun h=>absurd h (by decide));(repeat refine Qb ?_);(refine Qa fun k hk=>?_;simp -implicitDefEqProofs only[id,reduceCtorEq,reduceIte,Nat.reduceMul,Nat.reduceAdd,Nat.reduceLT,Nat.reduceLeDiff,Nat.reduceEqDiff,Int.reduceLT,Int.reduceBEq,Int.reduceBNe,Nat.reduceBEq,Int.reduceNeg,frS,qb67];refine hk _ ?_;clear hk k;try show Sat _ _ _ _ _);refine Sat.ret ?_;simp only[Tryz.results48,id,seval,Int.reduceNeg,frS,qb69];exact⟨_,rfl,_,_,rfl,Nats.nil,Nats.nil⟩
  · rw[if_neg h0,if_neg h0,if_neg h0,if_neg h0]
    exact fracFromC F n d h1 h2 h3 h4 h0
set_option maxRecDepth 100000 in
theorem refFroC:Contract F Tryz.prog 49 [.i .i64 n,.i .i64 d] (frRes (froE d) (froN n d) (froP n d) (froQ n d)):=by
  unfold froE froN froP froQ;by_cases h0:d=0
  · subst h0
    refine Qf Tryz.func49 rfl (by kernel_rfl) ?_;simp only[Tryz.ntmps49,Qm];(repeat refine Qb ?_);(refine Qa fun k hk=>?_;simp -implicitDefEqProofs only[id,reduceCtorEq,reduceIte,Nat.reduceMul,Nat.reduceAdd,Nat.reduceLT,Nat.reduceLeDiff,Nat.reduceEqDiff,Int.reduceLT,Int.reduceBEq,Int.reduceBNe,Nat.reduceBEq,Int.reduceNeg,frS,qb67]);intro k1;(refine hk _ ?_;clear hk k;try show Sat _ _ _ _ _);(repeat refine Qb ?_);(refine Qa fun k hk=>?_;simp -implicitDefEqProofs only[id,reduceCtorEq,reduceIte,Nat.reduceMul,Nat.reduceAdd,Nat.reduceLT,Nat.reduceLeDiff,Nat.reduceEqDiff,Int.reduceLT,Int.reduceBEq,Int.reduceBNe,Nat.reduceBEq,Int.reduceNeg,frS,qb67];refine hk _ ?_;clear hk k;try show Sat _ _ _ _ _);refine Qd rfl (fun _=>?_) (fun h=>absurd h (by decide));(repeat refine Qb ?_);(refine Qa fun k hk=>?_;simp -implicitDefEqProofs only[id,reduceCtorEq,reduceIte,Nat.reduceMul,Nat.reduceAdd,Nat.reduceLT,Nat.reduceLeDiff,Nat.reduceEqDiff,Int.reduceLT,Int.reduceBEq,Int.reduceBNe,Nat.reduceBEq,Int.reduceNeg,frS,qb67];refine hk _ ?_;clear hk k;try show Sat _ _ _ _ _);refine Sat.ret ?_;simp only[Tryz.results49,id,seval,Int.reduceNeg,frS,qb69];exact⟨_,rfl,_,_,rfl,Nats.nil,Nats.nil⟩
  · rw[if_neg h0,if_neg h0,if_neg h0,if_neg h0]
    have h:=refFromC F n d h1 h2 h3 h4 h0
    have e:decide (0<n.natAbs)=decide (0<n.natAbs / Nat.gcd n.natAbs d.natAbs):=by
      have:=div_gcd_zero n.natAbs d.natAbs (by omega);generalize n.natAbs / Nat.gcd n.natAbs d.natAbs=y at this ⊢;apply Bool.eq_iff_iff.2;rw[decide_eq_true_eq,decide_eq_true_eq];omega
    rw[e] at h;exact h
end
theorem fro_bnd (n d:Int) (h1:-9223372036854775808≤n) (h2:n≤9223372036854775807) (h3:-9223372036854775808≤d) (h4:d≤9223372036854775807):((froP n d:Nat):Int)<pw 512∧((froQ n d:Nat):Int)<pw 512:=by
  have hb:∀ x:Nat,x≤9223372036854775808→(x:Int)<pw 512:=fun x hx=>lt_pw (a:=64) (by omega) (by decide);unfold froP froQ;have g1:=Nat.div_le_self n.natAbs (Nat.gcd n.natAbs d.natAbs);have g2:=Nat.div_le_self d.natAbs (Nat.gcd n.natAbs d.natAbs);generalize n.natAbs / Nat.gcd n.natAbs d.natAbs=y at g1 ⊢;generalize d.natAbs / Nat.gcd n.natAbs d.natAbs=z at g2 ⊢;constructor<;>(split<;>exact hb _ (by omega))
/-! ### Parse -/
theorem two256 {n:Nat} (h:(n:Int)<pw 256):n<2 ^ 7680:=by
  rw[pw_two,show 30 * 256=7680 from rfl] at h;exact Int.ofNat_lt.1 h
theorem gcd_lt {m n:Nat} (h1:(m:Int)<pw 256) (h2:(n:Int)<pw 256):((Nat.gcd m n:Nat):Int)<pw 256:=by
  rcases Nat.eq_zero_or_pos n with h|h
  · subst h;rw[Nat.gcd_zero_right];exact h1
  · have:=Nat.le_of_dvd h (Nat.gcd_dvd_right m n)
    omega
theorem emp48:(⟨#[48]⟩:ByteArray).toList=[48]:=by rw[ByteArray.toList_eq]
theorem beq_dec (a b:List UInt8):(a == b)=decide (a=b):=by
  apply Bool.eq_iff_iff.2;rw[beq_iff_eq,decide_eq_true_eq]
theorem par2 {l:List UInt8} (hl:l.length≤1000):(((parE l:Nat):Int) == 2)=!digB l:=by
  rw[par_small hl];cases digB l<;>rfl
def badP (l first last:List UInt8) (dv:Bool):Bool:=!digB first || (!digB last || ((dv && (decide (last=[48]) || decide (last=[49]))) || (negF l && decide (QT l=[48]))))
set_option maxHeartbeats 2000000 in
set_option maxRecDepth 100000 in
theorem fracParse2C (l:List UInt8) (hl:l.length≤1000):Contract FrA Tryz.prog 64 [sB l] (fpPost l):=by
  have cp:=cutPrefixC FrA l;rw[(pre_neg l).1,(pre_neg l).2] at cp;have hbl:=body_len l;have hmore:∃ first last0 dv last,Contract FrA Tryz.prog 106 [sB (QT l),.v (.string ⟨#[47]⟩)] (fun r=>r=QW [sB first,sB last0,.b dv])∧first.length≤1000∧last.length≤1000∧last=(if dv=true then last0 else [49]) ∧
      (badP l first last dv=true→fpOut l=none)∧(badP l first last dv=false→fpOut l=if Nat.gcd (Zx first) (Zx last)=1 then some (negF l,Zx first,Zx last) else none):=by
    cases hc:(cutF (QT l)).2 with
    | none=>
      obtain⟨e1,e2⟩:=cutF_none hc;refine⟨QT l,[],false,[49],cutNoL FrA 47 _ e2,by omega,by decide,rfl,fun hb=>?_,fun hb=>?_⟩
      · unfold fpOut
        rw[hc];simp only[e1];rw[if_pos];unfold badP at hb;rw[show digB [49]=true by decide] at hb;simp only[Bool.not_true,Bool.false_and,Bool.false_or,Bool.or_eq_true,Bool.not_eq_true',Bool.and_eq_true,decide_eq_true_eq] at hb;exact hb
      · unfold fpOut
        rw[hc];simp only[e1];rw[if_neg,show Zx [49]=1 by decide,if_pos (Nat.gcd_one_right _)];unfold badP at hb;rw[show digB [49]=true by decide] at hb;simp only[Bool.not_true,Bool.false_and,Bool.false_or,Bool.or_eq_false_iff,Bool.not_eq_false',Bool.and_eq_false_iff,decide_eq_false_iff_not] at hb;rintro (h9|⟨h9,h8⟩)
        · rw[hb.1] at h9;cases h9
        · rcases hb.2 with h7|h7
          · rw[h9] at h7;cases h7
          · exact h7 h8
    | some r=>
      obtain⟨e1,e2⟩:=cutF_some hc
      have hlen:(QT l).length=(cutF (QT l)).1.length+(r.length+1):=by
        have h9:=congrArg List.length e1
        rwa [List.length_append,List.length_cons] at h9
      have e48:QT l≠[48]:=fun h9=>by
        rw[h9] at e1;have:=congrArg (fun y=>y.contains (47:UInt8)) e1;simp at this
      have hcut:=cutL FrA 47 (cutF (QT l)).1 r e2 (by omega);rw[← e1] at hcut;refine⟨(cutF (QT l)).1,r,true,r,hcut,by omega,by omega,rfl,fun hb=>?_,fun hb=>?_⟩
      · unfold fpOut
        rw[hc];simp only;rw[if_pos];unfold badP at hb;simp only[decide_eq_false e48,Bool.and_false,Bool.or_false,Bool.true_and,Bool.or_eq_true,Bool.not_eq_true',decide_eq_true_eq] at hb;exact hb
      · unfold fpOut
        rw[hc];simp only;rw[if_neg];unfold badP at hb;simp only[decide_eq_false e48,Bool.and_false,Bool.or_false,Bool.true_and,Bool.or_eq_false_iff,Bool.not_eq_false',decide_eq_false_iff_not] at hb;rintro (h9|h9|h9|h9)
        · rw[hb.1] at h9;cases h9
        · rw[hb.2.1] at h9;cases h9
        · exact hb.2.2.1 h9
        · exact hb.2.2.2 h9
  obtain⟨first,last0,dv,last,hcut,hfl,hll,hla,hbad,hgood⟩:=hmore;have pF:=natParseC FrA first (by omega)
  have pL:=natParseC FrA last (by omega);have qF:=par2 hfl;have qL:=par2 hll;refine Qf Tryz.func64 rfl (by kernel_rfl) ?_;simp only[Tryz.ntmps64,Qm];(repeat refine Qb ?_);(refine Qa fun k hk=>?_;simp -implicitDefEqProofs only[id,reduceCtorEq,reduceIte,Nat.reduceMul,Nat.reduceAdd,Nat.reduceLT,Nat.reduceLeDiff,Nat.reduceEqDiff,Int.reduceLT,Int.reduceBEq,Int.reduceBNe,Nat.reduceBEq,Int.reduceNeg,frS,qb67]);intro b2;(refine hk _ ?_;clear hk k;try show Sat _ _ _ _ _);(repeat refine Qb ?_);(refine Qa fun k hk=>?_;simp -implicitDefEqProofs only[id,reduceCtorEq,reduceIte,Nat.reduceMul,Nat.reduceAdd,Nat.reduceLT,Nat.reduceLeDiff,Nat.reduceEqDiff,Int.reduceLT,Int.reduceBEq,Int.reduceBNe,Nat.reduceBEq,Int.reduceNeg,frS,qb67]);refine Qe cp rfl (by rintro _ rfl;exact Zz rfl) ?_;rintro r rfl;simp -implicitDefEqProofs only[id,reduceCtorEq,reduceIte,Nat.reduceMul,Nat.reduceAdd,Nat.reduceLT,Nat.reduceLeDiff,Nat.reduceEqDiff,Int.reduceLT,Int.reduceBEq,Int.reduceBNe,Nat.reduceBEq,Int.reduceNeg,frS,qb67];(refine hk _ ?_;clear hk k;try show Sat _ _ _ _ _);(repeat refine Qb ?_);(refine Qa fun k hk=>?_;simp -implicitDefEqProofs only[id,reduceCtorEq,reduceIte,Nat.reduceMul,Nat.reduceAdd,Nat.reduceLT,Nat.reduceLeDiff,Nat.reduceEqDiff,Int.reduceLT,Int.reduceBEq,Int.reduceBNe,Nat.reduceBEq,Int.reduceNeg,frS,qb67]);refine Qe hcut rfl (by rintro _ rfl;exact Zz rfl) ?_;rintro r rfl;simp -implicitDefEqProofs only[id,reduceCtorEq,reduceIte,Nat.reduceMul,Nat.reduceAdd,Nat.reduceLT,Nat.reduceLeDiff,Nat.reduceEqDiff,Int.reduceLT,Int.reduceBEq,Int.reduceBNe,Nat.reduceBEq,Int.reduceNeg,frS,qb67];(refine hk _ ?_;clear hk k;try show Sat _ _ _ _ _);(repeat refine Qb ?_);(refine Qa fun k hk=>?_;simp -implicitDefEqProofs only[id,reduceCtorEq,reduceIte,Nat.reduceMul,Nat.reduceAdd,Nat.reduceLT,Nat.reduceLeDiff,Nat.reduceEqDiff,Int.reduceLT,Int.reduceBEq,Int.reduceBNe,Nat.reduceBEq,Int.reduceNeg,frS,qb67];refine hk _ ?_;clear hk k;try show Sat _ _ _ _ _);refine Zq (ι:=Unit) (fun _=>⟨85,[(7,sB last),(6,sB first),(8,.b dv),(4,sB (QT l)),(5,.b (negF l)),(3,.i .i64 0),(2,.op 0 b2 0)],[.box b2 49 [.b false,.sl none 0 0 0 fun _ _=>.v undef,.sl none 0 0 0 fun _ _=>.v undef]]⟩) (fun _=>True) (fun hrest=>?_) ?_
  · refine Qd rfl (fun h=>?_) (fun h=>?_)
    · have hdv:dv=false:=by simpa using h
      subst hdv;rw[if_neg (by decide)] at hla;subst hla;refine Qa fun k hk=>?_;simp -implicitDefEqProofs only[id,reduceCtorEq,reduceIte,Nat.reduceMul,Nat.reduceAdd,Nat.reduceLT,Nat.reduceLeDiff,Nat.reduceEqDiff,Int.reduceLT,Int.reduceBEq,Int.reduceBNe,Nat.reduceBEq,Int.reduceNeg,frS,qb67];refine hk _ ?_;simp only[Qg];refine Sat.le (hrest () trivial) ?_;simp -implicitDefEqProofs only[id,reduceCtorEq,reduceIte,Nat.reduceMul,Nat.reduceAdd,Nat.reduceLT,Nat.reduceLeDiff,Nat.reduceEqDiff,Int.reduceLT,Int.reduceBEq,Int.reduceBNe,Nat.reduceBEq,Int.reduceNeg,frS,qb68]
      repeat' (first|rfl|(refine And.intro ?_ ?_))
    · have hdv:dv=true:=by simpa using h
      subst hdv;rw[if_pos rfl] at hla;subst hla;refine Sat.skip ?_;simp only[Qg];refine Sat.le (hrest () trivial) ?_;simp -implicitDefEqProofs only[id,reduceCtorEq,reduceIte,Nat.reduceMul,Nat.reduceAdd,Nat.reduceLT,Nat.reduceLeDiff,Nat.reduceEqDiff,Int.reduceLT,Int.reduceBEq,Int.reduceBNe,Nat.reduceBEq,Int.reduceNeg,frS,qb68]
      repeat' (first|rfl|(refine And.intro ?_ ?_))
  intro _ _;(repeat refine Qb ?_);(refine Qa fun k hk=>?_;simp -implicitDefEqProofs only[id,reduceCtorEq,reduceIte,Nat.reduceMul,Nat.reduceAdd,Nat.reduceLT,Nat.reduceLeDiff,Nat.reduceEqDiff,Int.reduceLT,Int.reduceBEq,Int.reduceBNe,Nat.reduceBEq,Int.reduceNeg,frS,qb67]);refine Qc pF rfl rfl ?_;rintro _ ⟨s1,rfl,hs1⟩;have hn1:=hs1;obtain⟨a1,c1,z1,r1,x1,rfl,_⟩:=hs1;simp -implicitDefEqProofs only[id,reduceCtorEq,reduceIte,Nat.reduceMul,Nat.reduceAdd,Nat.reduceLT,Nat.reduceLeDiff,Nat.reduceEqDiff,Int.reduceLT,Int.reduceBEq,Int.reduceBNe,Nat.reduceBEq,Int.reduceNeg,frS,qb67];(refine hk _ ?_;clear hk k;try show Sat _ _ _ _ _);(repeat refine Qb ?_);(refine Qa fun k hk=>?_;simp -implicitDefEqProofs only[id,reduceCtorEq,reduceIte,Nat.reduceMul,Nat.reduceAdd,Nat.reduceLT,Nat.reduceLeDiff,Nat.reduceEqDiff,Int.reduceLT,Int.reduceBEq,Int.reduceBNe,Nat.reduceBEq,Int.reduceNeg,frS,qb67]);refine Qc pL rfl rfl ?_;rintro _ ⟨s2,rfl,hs2⟩;have hn2:=hs2;obtain⟨a2,c2,z2,r2,x2,rfl,_⟩:=hs2;simp -implicitDefEqProofs only[id,reduceCtorEq,reduceIte,Nat.reduceMul,Nat.reduceAdd,Nat.reduceLT,Nat.reduceLeDiff,Nat.reduceEqDiff,Int.reduceLT,Int.reduceBEq,Int.reduceBNe,Nat.reduceBEq,Int.reduceNeg,frS,qb67];(refine hk _ ?_;clear hk k;try show Sat _ _ _ _ _);(repeat refine Qb ?_);refine Qj ⟨85,[(61,.b (badP l first last dv)),(10,.i .i64 (parE first:Nat)),(12,.i .i64 (parE last:Nat)),(9,.sl a1 x1.length c1 z1 r1),(11,.sl a2 x2.length c2 z2 r2),(5,.b (negF l)),(3,.i .i64 0),(2,.op 0 b2 0)],[.box b2 49 [.b false,.sl none 0 0 0 fun _ _=>.v undef,.sl none 0 0 0 fun _ _=>.v undef]]⟩ (fun k hk=>?_) ?_
  · simp -implicitDefEqProofs only[id,reduceCtorEq,reduceIte,Nat.reduceMul,Nat.reduceAdd,Nat.reduceLT,Nat.reduceLeDiff,Nat.reduceEqDiff,Int.reduceLT,Int.reduceBEq,Int.reduceBNe,Nat.reduceBEq,Int.reduceNeg,frS,emp48,emp49,beq_dec,qF,qL,qb67]
    refine⟨fun h1=>?_,fun h1=>⟨fun h2=>?_,fun h2=>⟨fun h3=>⟨fun h4=>?_,fun h4=>⟨fun h5=>?_,fun h5=>⟨fun h6=>?_,fun h6=>?_⟩⟩⟩,fun h3=>⟨fun h6=>?_,fun h6=>?_⟩⟩⟩⟩
    · have e:badP l first last dv=true:=by unfold badP;simp [h1]
      refine hk _ ?_;rw[e];simp -implicitDefEqProofs only[id,reduceCtorEq,reduceIte,Nat.reduceMul,Nat.reduceAdd,Nat.reduceLT,Nat.reduceLeDiff,Nat.reduceEqDiff,Int.reduceLT,Int.reduceBEq,Int.reduceBNe,Nat.reduceBEq,Int.reduceNeg,frS,qb68]
      repeat' (first|rfl|(refine And.intro ?_ ?_))
    · have e:badP l first last dv=true:=by unfold badP;simp [h1,h2]
      refine hk _ ?_;rw[e];simp -implicitDefEqProofs only[id,reduceCtorEq,reduceIte,Nat.reduceMul,Nat.reduceAdd,Nat.reduceLT,Nat.reduceLeDiff,Nat.reduceEqDiff,Int.reduceLT,Int.reduceBEq,Int.reduceBNe,Nat.reduceBEq,Int.reduceNeg,frS,qb68]
      repeat' (first|rfl|(refine And.intro ?_ ?_))
    · have e:badP l first last dv=true:=by unfold badP;simp [h1,h2,h3,h4]
      refine hk _ ?_;rw[e];simp -implicitDefEqProofs only[id,reduceCtorEq,reduceIte,Nat.reduceMul,Nat.reduceAdd,Nat.reduceLT,Nat.reduceLeDiff,Nat.reduceEqDiff,Int.reduceLT,Int.reduceBEq,Int.reduceBNe,Nat.reduceBEq,Int.reduceNeg,frS,qb68]
      repeat' (first|rfl|(refine And.intro ?_ ?_))
    · have e:badP l first last dv=true:=by unfold badP;simp [h1,h2,h3,h5]
      refine hk _ ?_;rw[e];simp -implicitDefEqProofs only[id,reduceCtorEq,reduceIte,Nat.reduceMul,Nat.reduceAdd,Nat.reduceLT,Nat.reduceLeDiff,Nat.reduceEqDiff,Int.reduceLT,Int.reduceBEq,Int.reduceBNe,Nat.reduceBEq,Int.reduceNeg,frS,qb68]
      repeat' (first|rfl|(refine And.intro ?_ ?_))
    · have e:badP l first last dv=decide (QT l=[48]):=by unfold badP;simp [h1,h2,h3,h4,h5,h6]
      refine hk _ ?_;rw[e];simp -implicitDefEqProofs only[id,reduceCtorEq,reduceIte,Nat.reduceMul,Nat.reduceAdd,Nat.reduceLT,Nat.reduceLeDiff,Nat.reduceEqDiff,Int.reduceLT,Int.reduceBEq,Int.reduceBNe,Nat.reduceBEq,Int.reduceNeg,frS,qb68]
      repeat' (first|rfl|(refine And.intro ?_ ?_))
    · have e:badP l first last dv=false:=by unfold badP;simp [h1,h2,h3,h4,h5,h6]
      refine hk _ ?_;rw[e];simp -implicitDefEqProofs only[id,reduceCtorEq,reduceIte,Nat.reduceMul,Nat.reduceAdd,Nat.reduceLT,Nat.reduceLeDiff,Nat.reduceEqDiff,Int.reduceLT,Int.reduceBEq,Int.reduceBNe,Nat.reduceBEq,Int.reduceNeg,frS,qb68]
      repeat' (first|rfl|(refine And.intro ?_ ?_))
    · have e:badP l first last dv=decide (QT l=[48]):=by unfold badP;simp [h1,h2,h3,h6]
      refine hk _ ?_;rw[e];simp -implicitDefEqProofs only[id,reduceCtorEq,reduceIte,Nat.reduceMul,Nat.reduceAdd,Nat.reduceLT,Nat.reduceLeDiff,Nat.reduceEqDiff,Int.reduceLT,Int.reduceBEq,Int.reduceBNe,Nat.reduceBEq,Int.reduceNeg,frS,qb68]
      repeat' (first|rfl|(refine And.intro ?_ ?_))
    · have e:badP l first last dv=false:=by unfold badP;simp [h1,h2,h3,h6]
      refine hk _ ?_;rw[e];simp -implicitDefEqProofs only[id,reduceCtorEq,reduceIte,Nat.reduceMul,Nat.reduceAdd,Nat.reduceLT,Nat.reduceLeDiff,Nat.reduceEqDiff,Int.reduceLT,Int.reduceBEq,Int.reduceBNe,Nat.reduceBEq,Int.reduceNeg,frS,qb68]
      repeat' (first|rfl|(refine And.intro ?_ ?_))
  simp only[Qg];refine Qd rfl (fun h=>?_) (fun h=>?_)
  · have h0:=hbad h
    (repeat refine Qb ?_);(refine Qa fun k hk=>?_;simp -implicitDefEqProofs only[id,reduceCtorEq,reduceIte,Nat.reduceMul,Nat.reduceAdd,Nat.reduceLT,Nat.reduceLeDiff,Nat.reduceEqDiff,Int.reduceLT,Int.reduceBEq,Int.reduceBNe,Nat.reduceBEq,Int.reduceNeg,frS,qb67];refine hk _ ?_;clear hk k;try show Sat _ _ _ _ _);refine Sat.ret ?_;simp only[Tryz.results64,id,seval,Int.reduceNeg,frS,qb69];exact fp_none h0 rfl ⟨_,_,rfl,Nats.nil,Nats.nil⟩
  have h0:=hgood h
  have hdF:digB first=true:=by
    unfold badP at h;cases hd:digB first with
    | true=>rfl
    | false=>rw[hd] at h;simp at h
  have hdL:digB last=true:=by
    unfold badP at h;cases hd:digB last with
    | true=>rfl
    | false=>rw[hd] at h;simp at h
  have e1:parE first=0:=by rw[par_small hfl,if_pos hdF]
  have e2:parE last=0:=by rw[par_small hll,if_pos hdL]
  have v1:parV first=Zx first:=by unfold parV;rw[if_pos e1]
  have v2:parV last=Zx last:=by unfold parV;rw[if_pos e2]
  have w1:=val_bnd hdF hfl;have w2:=val_bnd hdL hll;rw[v1] at hn1;rw[v2] at hn2;have i1:((parE first:Nat):Int)=0:=by rw[e1];rfl
  have i2:((parE last:Nat):Int)=0:=by rw[e2];rfl
  rw[i1,i2];refine Sat.skip ?_;simp only[Qg];(repeat refine Qb ?_);(refine Qa fun k hk=>?_;simp -implicitDefEqProofs only[id,reduceCtorEq,reduceIte,Nat.reduceMul,Nat.reduceAdd,Nat.reduceLT,Nat.reduceLeDiff,Nat.reduceEqDiff,Int.reduceLT,Int.reduceBEq,Int.reduceBNe,Nat.reduceBEq,Int.reduceNeg,frS,qb67];refine hk _ ?_;clear hk k;try show Sat _ _ _ _ _);refine Qd rfl (fun h=>absurd h (by decide)) (fun _=>?_);refine Sat.skip ?_;simp only[Qg];(repeat refine Qb ?_);(refine Qa fun k hk=>?_;simp -implicitDefEqProofs only[id,reduceCtorEq,reduceIte,Nat.reduceMul,Nat.reduceAdd,Nat.reduceLT,Nat.reduceLeDiff,Nat.reduceEqDiff,Int.reduceLT,Int.reduceBEq,Int.reduceBNe,Nat.reduceBEq,Int.reduceNeg,frS,qb67]);intro b3;(refine hk _ ?_;clear hk k;try show Sat _ _ _ _ _);(repeat refine Qb ?_);(refine Qa fun k hk=>?_;simp -implicitDefEqProofs only[id,reduceCtorEq,reduceIte,Nat.reduceMul,Nat.reduceAdd,Nat.reduceLT,Nat.reduceLeDiff,Nat.reduceEqDiff,Int.reduceLT,Int.reduceBEq,Int.reduceBNe,Nat.reduceBEq,Int.reduceNeg,frS,qb67]);refine Qc (gcdC FrA hn1 hn2 w1 w2) rfl rfl ?_;intro y hy;have hg:=hy;obtain⟨a3,c3,z3,r3,x3,rfl,_⟩:=hy;simp -implicitDefEqProofs only[id,reduceCtorEq,reduceIte,Nat.reduceMul,Nat.reduceAdd,Nat.reduceLT,Nat.reduceLeDiff,Nat.reduceEqDiff,Int.reduceLT,Int.reduceBEq,Int.reduceBNe,Nat.reduceBEq,Int.reduceNeg,frS,qb67];(refine hk _ ?_;clear hk k;try show Sat _ _ _ _ _);have g256:=gcd_lt w1 w2;have tC:=textC hg (two256 g256) g256
  have e49:(!(Lib.decDigits (Nat.gcd (Zx first) (Zx last)) == [49]))=!decide (Nat.gcd (Zx first) (Zx last)=1):=by
    rw[beq_dec]
    congr 1
    apply Bool.eq_iff_iff.2;rw[decide_eq_true_eq,decide_eq_true_eq,dec_one]
  (repeat refine Qb ?_);(refine Qa fun k hk=>?_;simp -implicitDefEqProofs only[id,reduceCtorEq,reduceIte,Nat.reduceMul,Nat.reduceAdd,Nat.reduceLT,Nat.reduceLeDiff,Nat.reduceEqDiff,Int.reduceLT,Int.reduceBEq,Int.reduceBNe,Nat.reduceBEq,Int.reduceNeg,frS,qb67]);refine Qe tC rfl (by rintro _ rfl;exact Qi rfl) ?_;rintro _ rfl;simp -implicitDefEqProofs only[id,reduceCtorEq,reduceIte,Nat.reduceMul,Nat.reduceAdd,Nat.reduceLT,Nat.reduceLeDiff,Nat.reduceEqDiff,Int.reduceLT,Int.reduceBEq,Int.reduceBNe,Nat.reduceBEq,Int.reduceNeg,frS,emp49,e49,qb67];(refine hk _ ?_;clear hk k;try show Sat _ _ _ _ _);refine Qd rfl (fun h9=>?_) (fun h9=>?_)
  · have hne:¬ Nat.gcd (Zx first) (Zx last)=1:=by simpa using h9
    rw[if_neg hne] at h0;(repeat refine Qb ?_);(refine Qa fun k hk=>?_;simp -implicitDefEqProofs only[id,reduceCtorEq,reduceIte,Nat.reduceMul,Nat.reduceAdd,Nat.reduceLT,Nat.reduceLeDiff,Nat.reduceEqDiff,Int.reduceLT,Int.reduceBEq,Int.reduceBNe,Nat.reduceBEq,Int.reduceNeg,frS,qb67];refine hk _ ?_;clear hk k;try show Sat _ _ _ _ _);refine Sat.ret ?_;simp only[Tryz.results64,id,seval,Int.reduceNeg,frS,qb69];exact fp_none h0 rfl ⟨_,_,rfl,Nats.nil,Nats.nil⟩
  · have heq:Nat.gcd (Zx first) (Zx last)=1:=by simpa using h9
    rw[if_pos heq] at h0;have h25:pw 256≤pw 512:=QI (by decide);refine Sat.skip ?_;simp only[Qg];(repeat refine Qb ?_);(refine Qa fun k hk=>?_;simp -implicitDefEqProofs only[id,reduceCtorEq,reduceIte,Nat.reduceMul,Nat.reduceAdd,Nat.reduceLT,Nat.reduceLeDiff,Nat.reduceEqDiff,Int.reduceLT,Int.reduceBEq,Int.reduceBNe,Nat.reduceBEq,Int.reduceNeg,frS,qb67]);refine Qc (checkedC FrA (negF l) hn1 hn2 (by omega) (by omega)) rfl (by simp -implicitDefEqProofs only[id,reduceCtorEq,reduceIte,Nat.reduceMul,Nat.reduceAdd,Nat.reduceLT,Nat.reduceLeDiff,Nat.reduceEqDiff,Int.reduceLT,Int.reduceBEq,Int.reduceBNe,Nat.reduceBEq,Int.reduceNeg,frS,qb67];try rfl) ?_;intro y hy;have hy1:limPost (negF l) (Zx first) (Zx last) y:=hy
    have hop:∃ f er,y=QW [f,.i .i64 er]∧∃ n1 a1 l1 c1 z1 r1 a2 l2 c2 z2 r2,f=frS n1 (.sl a1 l1 c1 z1 r1) (.sl a2 l2 c2 z2 r2):=by
      rcases hy1 with ⟨_,f,rfl,hf⟩|⟨_,f,rfl,hf⟩<;>exact⟨f,_,rfl,_,FrS.op hf⟩
    obtain⟨f,er,rfl,n9,a9,l9,c9,z9,r9,a10,l10,c10,z10,r10,rfl⟩:=hop;simp -implicitDefEqProofs only[id,reduceCtorEq,reduceIte,Nat.reduceMul,Nat.reduceAdd,Nat.reduceLT,Nat.reduceLeDiff,Nat.reduceEqDiff,Int.reduceLT,Int.reduceBEq,Int.reduceBNe,Nat.reduceBEq,Int.reduceNeg,frS,qb67];(refine hk _ ?_;clear hk k;try show Sat _ _ _ _ _);refine Sat.ret ?_;simp only[Tryz.results64,id,seval,Int.reduceNeg,frS,qb69];exact fp_some h0 hy1
theorem int1:Int.toNat 1=1:=rfl
theorem head_neg (l:List UInt8) (h:0<l.length):(((l.getD 0 0).toNat:Int) == 45)=negF l:=by
  have:=byte_eq (l.getD 0 0) 45;have h45:((UInt8.toNat 45:Nat):Int)=45:=rfl;rw[h45] at this;rw[this];unfold negF;cases l with
  | nil=>simp at h
  | cons c t=>
    show decide (c=45)=decide (some c=some 45);apply Bool.eq_iff_iff.2;simp
theorem neg_nil:negF []=false:=rfl
end Tq
end

section
namespace Tq
open Eng Lmb Go.RowKit
def pcsF (l:List UInt8):List (List UInt8):=splitB 47 (QT l)
def Zi (l:List UInt8):List UInt8:=(cutF (QT l)).1
def lastF (l:List UInt8):List UInt8:=(cutF (QT l)).2.getD []
def bad1F (l:List UInt8):Bool:=decide (2<(pcsF l).length) || (!digB (Zi l) || (negF l && (decide (Zi l=[48]) && decide ((pcsF l).length=1))))
def bad2F (l:List UInt8):Bool:=!digB (lastF l) || (decide (lastF l=[48]) || decide (lastF l=[49]))
def denF (l:List UInt8):List UInt8:=if (pcsF l).length=2 then lastF l else [49]
theorem pcs_cases (l:List UInt8):((cutF (QT l)).2=none∧pcsF l=[Zi l])∨(∃ r,(cutF (QT l)).2=some r∧lastF l=r∧pcsF l=[Zi l,r])∨(∃ r,(cutF (QT l)).2=some r∧lastF l=r∧digB r=false∧3≤(pcsF l).length∧∃ t,pcsF l=Zi l :: t):=by
  unfold pcsF Zi lastF;cases h:(cutF (QT l)).2 with
  | none=>exact .inl ⟨rfl,split_one h⟩
  | some r=>
    right;rw[split_more h];rcases split_rest r with ⟨_,h2⟩|⟨h1,h2⟩
    · left
      exact⟨r,rfl,rfl,by rw[h2]⟩
    · right
      exact⟨r,rfl,rfl,h1,by simp;omega,_,rfl⟩
theorem pcs_pos (l:List UInt8):0<(pcsF l).length:=split_pos _
theorem pcs0 (l:List UInt8):strsRd (pcsF l) 0 0=sB (Zi l):=by
  rcases pcs_cases l with ⟨_,h⟩|⟨r,_,_,h⟩|⟨r,_,_,_,_,t,h⟩<;>rw[h]<;>rfl
theorem pcs1 (l:List UInt8) (h2:(pcsF l).length=2):strsRd (pcsF l) 1 0=sB (lastF l):=by
  rcases pcs_cases l with ⟨_,h⟩|⟨r,_,h1,h⟩|⟨r,_,_,_,h9,_⟩
  · rw[h] at h2;simp at h2
  · rw[h,h1];rfl
  · omega
theorem bad1_out {l:List UInt8} (h:bad1F l=true):fpOut l=none:=by
  unfold bad1F at h;rw[Bool.or_eq_true,decide_eq_true_eq,Bool.or_eq_true,Bool.not_eq_true',Bool.and_eq_true,Bool.and_eq_true,decide_eq_true_eq,decide_eq_true_eq] at h;unfold fpOut;rcases pcs_cases l with ⟨hc,hp⟩|⟨r,hc,hr,hp⟩|⟨r,hc,hr,hd,hp,_⟩<;>rw[hc]<;>simp only
  · rw[hp] at h
    rw[if_pos];rcases h with h|h|h
    · simp at h
    · exact .inl h
    · exact .inr ⟨h.1,h.2.1⟩
  · rw[hp] at h
    rw[if_pos];rcases h with h|h|h
    · simp at h
    · exact .inl h
    · simp at h
  · rw[if_pos (.inr (.inl hd))]
theorem bad2_out {l:List UInt8} (h2:(pcsF l).length=2) (h:bad2F l=true):fpOut l=none:=by
  unfold bad2F at h;rw[Bool.or_eq_true,Bool.not_eq_true',Bool.or_eq_true,decide_eq_true_eq,decide_eq_true_eq] at h;unfold fpOut;rcases pcs_cases l with ⟨hc,hp⟩|⟨r,hc,hr,hp⟩|⟨r,hc,hr,hd,hp,_⟩
  · rw[hp] at h2;simp at h2
  · rw[hc]
    simp only;rw[hr] at h;rw[if_pos (.inr h)]
  · omega
theorem good_out {l:List UInt8} (h:bad1F l=false) (h2:(pcsF l).length=2→bad2F l=false):digB (Zi l)=true∧digB (denF l)=true∧(Zi l).length≤l.length∧(denF l).length≤l.length+1 ∧
    fpOut l=if Nat.gcd (Zx (Zi l)) (Zx (denF l))=1 then some (negF l,Zx (Zi l),Zx (denF l)) else none:=by
  have hbl:=body_len l;unfold bad1F at h;rw[Bool.or_eq_false_iff,decide_eq_false_iff_not,Bool.or_eq_false_iff,Bool.not_eq_false'] at h;obtain⟨h3,h4,h5⟩:=h;refine⟨h4,?_⟩;rcases pcs_cases l with ⟨hc,hp⟩|⟨r,hc,hr,hp⟩|⟨r,hc,hr,hd,hp,_⟩
  · have hn2:¬ (pcsF l).length=2:=by rw[hp];simp
    have hden:denF l=[49]:=if_neg hn2;have hfb:Zi l=QT l:=(cutF_none hc).1;rw[hden];refine⟨by decide,by rw[hfb];exact hbl,by simp,?_⟩;rw[show Zx [49]=1 by decide,if_pos (Nat.gcd_one_right _)];unfold fpOut;rw[hc];simp only;rw[if_neg]
    · rfl
    · rintro (h9|⟨h9,h8⟩)
      · exact absurd h4 (by show ¬ digB (cutF (QT l)).1=true;rw[h9];decide)
      · have h7:decide (Zi l=[48])=true:=decide_eq_true h8
        rw[h9,h7,hp] at h5;simp at h5
  · have hn2:(pcsF l).length=2:=by rw[hp];rfl
    have hden:denF l=r:=by unfold denF;rw[if_pos hn2,hr]
    have h6:=h2 hn2;unfold bad2F at h6;rw[Bool.or_eq_false_iff,Bool.not_eq_false',Bool.or_eq_false_iff,decide_eq_false_iff_not,decide_eq_false_iff_not,hr] at h6;obtain⟨h7,h8,h9⟩:=h6;have hlen:=congrArg List.length (cutF_some hc).1;rw[List.length_append,List.length_cons] at hlen;rw[hden];refine⟨h7,by show (cutF (QT l)).1.length≤_;omega,by omega,?_⟩;unfold fpOut;rw[hc];simp only;rw[if_neg]
    · rfl
    · rintro (h6|h6|h6|h6)
      · exact absurd h4 (by show ¬ digB (cutF (QT l)).1=true;rw[h6];decide)
      · rw[h7] at h6;cases h6
      · exact h8 h6
      · exact h9 h6
  · omega
theorem first_len (l:List UInt8):(Zi l).length≤(QT l).length:=by
  unfold Zi;cases h:(cutF (QT l)).2 with
  | none=>rw[(cutF_none h).1];exact Nat.le_refl _
  | some r=>
    have:=congrArg List.length (cutF_some h).1;rw[List.length_append,List.length_cons] at this;omega
theorem last_len (l:List UInt8):(lastF l).length≤(QT l).length:=by
  unfold lastF;cases h:(cutF (QT l)).2 with
  | none=>exact Nat.zero_le _
  | some r=>
    have:=congrArg List.length (cutF_some h).1;rw[List.length_append,List.length_cons] at this;show r.length≤_;omega
def qb70:=And.intro @evr (And.intro @Qn (And.intro @Zp (And.intro @mkB_ext (And.intro @Qu (And.intro @QA (And.intro @QY (@evn)))))))
def qb71:=And.intro @evr (And.intro @Qn (And.intro @Zp (And.intro @mkB_ext (And.intro @Qu (And.intro @QA (And.intro @QY (And.intro @evl (@evn))))))))
def qb73:=And.intro @evr (And.intro @List.append_nil.{0} (And.intro @Int.toNat_zero (And.intro @Nat.sub_self (And.intro @Qn (And.intro @Zp (And.intro @mkB_ext (And.intro @Qu (And.intro @QA (@QY)))))))))
def qb72:=And.intro @evr (And.intro @Qn (And.intro @Zp (And.intro @mkB_ext (And.intro @Qu (And.intro @QA (And.intro @QY (And.intro @emp48 (And.intro @beq_dec (@evn)))))))))
set_option maxHeartbeats 2000000 in
set_option maxRecDepth 100000 in
theorem refParse3C (F:Frm) (l:List UInt8) (hl:l.length≤900):Contract F Tryz.prog 65 [sB l] (fpPost l):=by
  have hbl:=body_len l;have hpp:=pcs_pos l;have hp0:=pcs0 l;have hfl:=first_len l;have hll:=last_len l;have cC:Contract F Tryz.prog 107 [sB (QT l),.i .u8 47] (PcsPost (pcsF l)):=rfCutC F 47 (QT l) (by omega);refine Qf Tryz.func65 rfl (by kernel_rfl) ?_;simp only[Tryz.ntmps65,Qm];(repeat refine Qb ?_);(refine Qa fun k hk=>?_;simp -implicitDefEqProofs only[id,reduceCtorEq,reduceIte,Nat.reduceMul,Nat.reduceAdd,Nat.reduceLT,Nat.reduceLeDiff,Nat.reduceEqDiff,Int.reduceLT,Int.reduceBEq,Int.reduceBNe,Nat.reduceBEq,Int.reduceNeg,frS,qb70]);intro b2;(refine hk _ ?_;clear hk k;try show Sat _ _ _ _ _);(repeat refine Qb ?_);(refine Qa fun k hk=>?_;simp -implicitDefEqProofs only[id,reduceCtorEq,reduceIte,Nat.reduceMul,Nat.reduceAdd,Nat.reduceLT,Nat.reduceLeDiff,Nat.reduceEqDiff,Int.reduceLT,Int.reduceBEq,Int.reduceBNe,Nat.reduceBEq,Int.reduceNeg,frS,qb70]);intro b4;(refine hk _ ?_;clear hk k;try show Sat _ _ _ _ _);(repeat refine Qb ?_);refine Qj ⟨103,[(19,.b (negF l)),(0,sB l),(4,.op 1 b4 0),(3,.i .i64 0),(2,.op 0 b2 0)],[.box b2 49 [.b false,.sl none 0 0 0 fun _ _=>.v undef,.sl none 0 0 0 fun _ _=>.v undef],.box b4 49 [.b false,.sl none 0 0 0 fun _ _=>.v undef,.sl none 0 0 0 fun _ _=>.v undef]]⟩ (fun k hk=>?_) ?_
  · simp -implicitDefEqProofs only[id,reduceCtorEq,reduceIte,Nat.reduceMul,Nat.reduceAdd,Nat.reduceLT,Nat.reduceLeDiff,Nat.reduceEqDiff,Int.reduceLT,Int.reduceBEq,Int.reduceBNe,Nat.reduceBEq,Int.reduceNeg,frS,qb70]
    refine⟨fun h9=>?_,fun h9=>?_⟩
    · have h8:0<l.length:=by omega
      have e:=head_neg l h8;refine⟨by omega,?_⟩;refine hk _ ?_;rw[e];simp -implicitDefEqProofs only[id,reduceCtorEq,reduceIte,Nat.reduceMul,Nat.reduceAdd,Nat.reduceLT,Nat.reduceLeDiff,Nat.reduceEqDiff,Int.reduceLT,Int.reduceBEq,Int.reduceBNe,Nat.reduceBEq,Int.reduceNeg,frS,qb71]
      repeat' (first|rfl|(refine And.intro ?_ ?_))
    · have h8:l=[]:=List.eq_nil_of_length_eq_zero (by omega)
      refine hk _ ?_;rw[h8,neg_nil];simp -implicitDefEqProofs only[id,reduceCtorEq,reduceIte,Nat.reduceMul,Nat.reduceAdd,Nat.reduceLT,Nat.reduceLeDiff,Nat.reduceEqDiff,Int.reduceLT,Int.reduceBEq,Int.reduceBNe,Nat.reduceBEq,Int.reduceNeg,frS,qb71]
      repeat' (first|rfl|(refine And.intro ?_ ?_))
  simp only[Qg];refine Zq (ι:=Unit) (fun _=>⟨103,[(0,sB (QT l)),(4,.op 1 b4 0),(3,.i .i64 0),(2,.op 0 b2 0)],[.box b2 49 [.b false,.sl none 0 0 0 fun _ _=>.v undef,.sl none 0 0 0 fun _ _=>.v undef],.box b4 49 [.b (negF l),.sl none 0 0 0 fun _ _=>.v undef,.sl none 0 0 0 fun _ _=>.v undef]]⟩) (fun _=>True) (fun hrest=>?_) ?_
  · refine Qd rfl (fun h=>?_) (fun h=>?_)
    · have h9:l.head? = some 45:=of_decide_eq_true h
      have h8:0<l.length:=by
        cases l with
        | nil=>cases h9
        | cons c t=>simp
      have eb:QT l=l.drop 1:=if_pos h9;have et:(l.drop 1).take (l.length - 1)=l.drop 1:=List.take_of_length_le (by simp);(repeat refine Qb ?_);(refine Qa fun k hk=>?_;simp -implicitDefEqProofs only[id,reduceCtorEq,reduceIte,Nat.reduceMul,Nat.reduceAdd,Nat.reduceLT,Nat.reduceLeDiff,Nat.reduceEqDiff,Int.reduceLT,Int.reduceBEq,Int.reduceBNe,Nat.reduceBEq,Int.reduceNeg,frS,qb70]);(refine hk _ ?_;clear hk k;try show Sat _ _ _ _ _);refine Sat.boxBools 1 rfl ?_;refine Qa fun k hk=>?_;simp -implicitDefEqProofs only[id,reduceCtorEq,reduceIte,Nat.reduceMul,Nat.reduceAdd,Nat.reduceLT,Nat.reduceLeDiff,Nat.reduceEqDiff,Int.reduceLT,Int.reduceBEq,Int.reduceBNe,Nat.reduceBEq,Int.reduceNeg,frS,qb70];refine⟨by omega,?_⟩;simp only[int1,et];refine hk _ ?_;simp only[Qg];refine Sat.le (hrest () trivial) ?_;rw[h,eb];simp -implicitDefEqProofs only[id,reduceCtorEq,reduceIte,Nat.reduceMul,Nat.reduceAdd,Nat.reduceLT,Nat.reduceLeDiff,Nat.reduceEqDiff,Int.reduceLT,Int.reduceBEq,Int.reduceBNe,Nat.reduceBEq,Int.reduceNeg,frS,qb71]
      repeat' (first|rfl|(refine And.intro ?_ ?_))
    · have h9:¬ l.head? = some 45:=of_decide_eq_false h
      have eb:QT l=l:=if_neg h9;refine Sat.skip ?_;simp only[Qg];refine Sat.le (hrest () trivial) ?_;rw[h,eb];simp -implicitDefEqProofs only[id,reduceCtorEq,reduceIte,Nat.reduceMul,Nat.reduceAdd,Nat.reduceLT,Nat.reduceLeDiff,Nat.reduceEqDiff,Int.reduceLT,Int.reduceBEq,Int.reduceBNe,Nat.reduceBEq,Int.reduceNeg,frS,qb71]
      repeat' (first|rfl|(refine And.intro ?_ ?_))
  intro _ _;(repeat refine Qb ?_);(refine Qa fun k hk=>?_;simp -implicitDefEqProofs only[id,reduceCtorEq,reduceIte,Nat.reduceMul,Nat.reduceAdd,Nat.reduceLT,Nat.reduceLeDiff,Nat.reduceEqDiff,Int.reduceLT,Int.reduceBEq,Int.reduceBNe,Nat.reduceBEq,Int.reduceNeg,frS,qb70]);refine Qc cC rfl rfl ?_;rintro _ ⟨ad,cap,rfl⟩;simp -implicitDefEqProofs only[id,reduceCtorEq,reduceIte,Nat.reduceMul,Nat.reduceAdd,Nat.reduceLT,Nat.reduceLeDiff,Nat.reduceEqDiff,Int.reduceLT,Int.reduceBEq,Int.reduceBNe,Nat.reduceBEq,Int.reduceNeg,frS,qb70];(refine hk _ ?_;clear hk k;try show Sat _ _ _ _ _);(repeat refine Qb ?_);refine Qj ⟨103,[(49,.b (bad1F l)),(5,.sl ad (pcsF l).length cap 1 (strsRd (pcsF l))),(4,.op 1 b4 0),(3,.i .i64 0),(2,.op 0 b2 0)],[.box b2 49 [.b false,.sl none 0 0 0 fun _ _=>.v undef,.sl none 0 0 0 fun _ _=>.v undef],.box b4 49 [.b (negF l),.sl none 0 0 0 fun _ _=>.v undef,.sl none 0 0 0 fun _ _=>.v undef]]⟩ (fun k hk=>?_) ?_
  · simp -implicitDefEqProofs only[id,reduceCtorEq,reduceIte,Nat.reduceMul,Nat.reduceAdd,Nat.reduceLT,Nat.reduceLeDiff,Nat.reduceEqDiff,Int.reduceLT,Int.reduceBEq,Int.reduceBNe,Nat.reduceBEq,Int.reduceNeg,frS,hp0,qb72]
    refine⟨fun h1=>?_,fun h1=>⟨⟨by omega,by omega⟩,?_⟩⟩
    · have e:bad1F l=true:=by unfold bad1F;rw[decide_eq_true (show 2<(pcsF l).length by omega)];rfl
      refine hk _ ?_;rw[e];simp -implicitDefEqProofs only[id,reduceCtorEq,reduceIte,Nat.reduceMul,Nat.reduceAdd,Nat.reduceLT,Nat.reduceLeDiff,Nat.reduceEqDiff,Int.reduceLT,Int.reduceBEq,Int.reduceBNe,Nat.reduceBEq,Int.reduceNeg,frS,qb71]
      repeat' (first|rfl|(refine And.intro ?_ ?_))
    · refine Qe (rfDigitsC F (Zi l) (by omega)) rfl (by rintro _ rfl;exact Qi rfl) ?_
      rintro _ rfl;simp -implicitDefEqProofs only[id,reduceCtorEq,reduceIte,Nat.reduceMul,Nat.reduceAdd,Nat.reduceLT,Nat.reduceLeDiff,Nat.reduceEqDiff,Int.reduceLT,Int.reduceBEq,Int.reduceBNe,Nat.reduceBEq,Int.reduceNeg,frS,hp0,qb72];have h1':¬ 2<(pcsF l).length:=by omega
      have eL:(((pcsF l).length:Int) == 1)=decide ((pcsF l).length=1):=by
        apply Bool.eq_iff_iff.2;rw[beq_iff_eq,decide_eq_true_eq];omega
      rw[eL];refine⟨fun h2=>?_,fun h2=>⟨fun h3=>⟨⟨by omega,by omega⟩,fun h4=>?_,fun h4=>?_⟩,fun h3=>?_⟩⟩
      · have e:bad1F l=true:=by unfold bad1F;rw[h2];simp
        refine hk _ ?_;rw[e];simp -implicitDefEqProofs only[id,reduceCtorEq,reduceIte,Nat.reduceMul,Nat.reduceAdd,Nat.reduceLT,Nat.reduceLeDiff,Nat.reduceEqDiff,Int.reduceLT,Int.reduceBEq,Int.reduceBNe,Nat.reduceBEq,Int.reduceNeg,frS,qb71]
        repeat' (first|rfl|(refine And.intro ?_ ?_))
      · have e:bad1F l=decide ((pcsF l).length=1):=by unfold bad1F;simp only[h2,h3,decide_eq_false h1',decide_eq_true h4,Bool.false_or,Bool.true_and]
        refine hk _ ?_;rw[e];simp -implicitDefEqProofs only[id,reduceCtorEq,reduceIte,Nat.reduceMul,Nat.reduceAdd,Nat.reduceLT,Nat.reduceLeDiff,Nat.reduceEqDiff,Int.reduceLT,Int.reduceBEq,Int.reduceBNe,Nat.reduceBEq,Int.reduceNeg,frS,qb71]
        repeat' (first|rfl|(refine And.intro ?_ ?_))
      · have e:bad1F l=false:=by unfold bad1F;simp only[h2,h3,decide_eq_false h1',decide_eq_false h4,Bool.false_or,Bool.true_and,Bool.false_and]
        refine hk _ ?_;rw[e];simp -implicitDefEqProofs only[id,reduceCtorEq,reduceIte,Nat.reduceMul,Nat.reduceAdd,Nat.reduceLT,Nat.reduceLeDiff,Nat.reduceEqDiff,Int.reduceLT,Int.reduceBEq,Int.reduceBNe,Nat.reduceBEq,Int.reduceNeg,frS,qb71]
        repeat' (first|rfl|(refine And.intro ?_ ?_))
      · have e:bad1F l=false:=by unfold bad1F;simp only[h2,h3,decide_eq_false h1',Bool.false_or,Bool.false_and]
        refine hk _ ?_;rw[e];simp -implicitDefEqProofs only[id,reduceCtorEq,reduceIte,Nat.reduceMul,Nat.reduceAdd,Nat.reduceLT,Nat.reduceLeDiff,Nat.reduceEqDiff,Int.reduceLT,Int.reduceBEq,Int.reduceBNe,Nat.reduceBEq,Int.reduceNeg,frS,qb71]
        repeat' (first|rfl|(refine And.intro ?_ ?_))
  simp only[Qg];refine Qd rfl (fun h=>?_) (fun h=>?_)
  · have h0:=bad1_out h
    (repeat refine Qb ?_);(refine Qa fun k hk=>?_;simp -implicitDefEqProofs only[id,reduceCtorEq,reduceIte,Nat.reduceMul,Nat.reduceAdd,Nat.reduceLT,Nat.reduceLeDiff,Nat.reduceEqDiff,Int.reduceLT,Int.reduceBEq,Int.reduceBNe,Nat.reduceBEq,Int.reduceNeg,frS,qb70];refine hk _ ?_;clear hk k;try show Sat _ _ _ _ _);refine Sat.ret ?_;simp only[Tryz.results65,id,seval,Int.reduceNeg,frS,qb73];exact fp_none h0 rfl ⟨_,_,rfl,Nats.nil,Nats.nil⟩
  have hb1:=h;refine Sat.skip ?_;simp only[Qg];(repeat refine Qb ?_);(refine Qa fun k hk=>?_;simp -implicitDefEqProofs only[id,reduceCtorEq,reduceIte,Nat.reduceMul,Nat.reduceAdd,Nat.reduceLT,Nat.reduceLeDiff,Nat.reduceEqDiff,Int.reduceLT,Int.reduceBEq,Int.reduceBNe,Nat.reduceBEq,Int.reduceNeg,frS,qb70];refine hk _ ?_;clear hk k;try show Sat _ _ _ _ _);(repeat refine Qb ?_);(refine Qa fun k hk=>?_;simp -implicitDefEqProofs only[id,reduceCtorEq,reduceIte,Nat.reduceMul,Nat.reduceAdd,Nat.reduceLT,Nat.reduceLeDiff,Nat.reduceEqDiff,Int.reduceLT,Int.reduceBEq,Int.reduceBNe,Nat.reduceBEq,Int.reduceNeg,frS,qb70];refine hk _ ?_;clear hk k;try show Sat _ _ _ _ _)
  have eL2:(((pcsF l).length:Int) == 2)=decide ((pcsF l).length=2):=by
    apply Bool.eq_iff_iff.2;rw[beq_iff_eq,decide_eq_true_eq];omega
  rw[eL2];refine Zq (ι:=Unit) (fun _=>⟨103,[(6,sB (denF l)),(5,.sl ad (pcsF l).length cap 1 (strsRd (pcsF l))),(4,.op 1 b4 0),(3,.i .i64 0),(2,.op 0 b2 0)],[.box b2 49 [.b false,.sl none 0 0 0 fun _ _=>.v undef,.sl none 0 0 0 fun _ _=>.v undef],.box b4 49 [.b (negF l),.sl none 0 0 0 fun _ _=>.v undef,.sl none 0 0 0 fun _ _=>.v undef]]⟩) (fun _=>(pcsF l).length=2→bad2F l=false) (fun hrest=>?_) ?_
  · refine Qd rfl (fun h=>?_) (fun h=>?_)
    · have h2:=of_decide_eq_true h
      have hp1:=pcs1 l h2;have hden:denF l=lastF l:=if_pos h2;(repeat refine Qb ?_);refine Qa fun k hk=>?_;simp -implicitDefEqProofs only[id,reduceCtorEq,reduceIte,Nat.reduceMul,Nat.reduceAdd,Nat.reduceLT,Nat.reduceLeDiff,Nat.reduceEqDiff,Int.reduceLT,Int.reduceBEq,Int.reduceBNe,Nat.reduceBEq,Int.reduceNeg,frS,int1,hp1,qb70];refine⟨by omega,?_⟩;refine hk _ ?_;clear hk k;try show Sat _ _ _ _ _
      (repeat refine Qb ?_);refine Qj ⟨103,[(67,.b (bad2F l)),(6,sB (lastF l)),(5,.sl ad (pcsF l).length cap 1 (strsRd (pcsF l))),(4,.op 1 b4 0),(3,.i .i64 0),(2,.op 0 b2 0)],[.box b2 49 [.b false,.sl none 0 0 0 fun _ _=>.v undef,.sl none 0 0 0 fun _ _=>.v undef],.box b4 49 [.b (negF l),.sl none 0 0 0 fun _ _=>.v undef,.sl none 0 0 0 fun _ _=>.v undef]]⟩ (fun k hk=>?_) ?_
      · simp -implicitDefEqProofs only[id,reduceCtorEq,reduceIte,Nat.reduceMul,Nat.reduceAdd,Nat.reduceLT,Nat.reduceLeDiff,Nat.reduceEqDiff,Int.reduceLT,Int.reduceBEq,Int.reduceBNe,Nat.reduceBEq,Int.reduceNeg,frS,qb70]
        refine Qe (rfDigitsC F (lastF l) (by omega)) rfl (by rintro _ rfl;exact Qi rfl) ?_;rintro _ rfl;simp -implicitDefEqProofs only[id,reduceCtorEq,reduceIte,Nat.reduceMul,Nat.reduceAdd,Nat.reduceLT,Nat.reduceLeDiff,Nat.reduceEqDiff,Int.reduceLT,Int.reduceBEq,Int.reduceBNe,Nat.reduceBEq,Int.reduceNeg,frS,emp49,qb72];refine⟨fun h3=>?_,fun h3=>⟨fun h4=>?_,fun h4=>?_⟩⟩
        · have e:bad2F l=true:=by unfold bad2F;rw[h3];rfl
          refine hk _ ?_;rw[e];simp -implicitDefEqProofs only[id,reduceCtorEq,reduceIte,Nat.reduceMul,Nat.reduceAdd,Nat.reduceLT,Nat.reduceLeDiff,Nat.reduceEqDiff,Int.reduceLT,Int.reduceBEq,Int.reduceBNe,Nat.reduceBEq,Int.reduceNeg,frS,qb71]
          repeat' (first|rfl|(refine And.intro ?_ ?_))
        · have e:bad2F l=true:=by unfold bad2F;rw[decide_eq_true h4,Bool.true_or,Bool.or_true]
          refine hk _ ?_;rw[e];simp -implicitDefEqProofs only[id,reduceCtorEq,reduceIte,Nat.reduceMul,Nat.reduceAdd,Nat.reduceLT,Nat.reduceLeDiff,Nat.reduceEqDiff,Int.reduceLT,Int.reduceBEq,Int.reduceBNe,Nat.reduceBEq,Int.reduceNeg,frS,qb71]
          repeat' (first|rfl|(refine And.intro ?_ ?_))
        · have e:bad2F l=decide (lastF l=[49]):=by unfold bad2F;rw[h3,decide_eq_false h4,Bool.false_or,Bool.false_or]
          refine hk _ ?_;rw[e];simp -implicitDefEqProofs only[id,reduceCtorEq,reduceIte,Nat.reduceMul,Nat.reduceAdd,Nat.reduceLT,Nat.reduceLeDiff,Nat.reduceEqDiff,Int.reduceLT,Int.reduceBEq,Int.reduceBNe,Nat.reduceBEq,Int.reduceNeg,frS,qb71]
          repeat' (first|rfl|(refine And.intro ?_ ?_))
      simp only[Qg];refine Qd rfl (fun h3=>?_) (fun h3=>?_)
      · have h0:=bad2_out h2 h3
        (repeat refine Qb ?_);(refine Qa fun k hk=>?_;simp -implicitDefEqProofs only[id,reduceCtorEq,reduceIte,Nat.reduceMul,Nat.reduceAdd,Nat.reduceLT,Nat.reduceLeDiff,Nat.reduceEqDiff,Int.reduceLT,Int.reduceBEq,Int.reduceBNe,Nat.reduceBEq,Int.reduceNeg,frS,qb70];refine hk _ ?_;clear hk k;try show Sat _ _ _ _ _);refine Sat.ret ?_;simp only[Tryz.results65,id,seval,Int.reduceNeg,frS,qb73];exact fp_none h0 rfl ⟨_,_,rfl,Nats.nil,Nats.nil⟩
      · refine Sat.skip ?_
        simp only[Qg];refine Sat.le (hrest () (fun _=>h3)) ?_;rw[hden];simp -implicitDefEqProofs only[id,reduceCtorEq,reduceIte,Nat.reduceMul,Nat.reduceAdd,Nat.reduceLT,Nat.reduceLeDiff,Nat.reduceEqDiff,Int.reduceLT,Int.reduceBEq,Int.reduceBNe,Nat.reduceBEq,Int.reduceNeg,frS,qb71]
        repeat' (first|rfl|(refine And.intro ?_ ?_))
    · have h2:=of_decide_eq_false h
      have hden:denF l=[49]:=if_neg h2;refine Sat.skip ?_;simp only[Qg];refine Sat.le (hrest () (fun h9=>absurd h9 h2)) ?_;rw[hden];simp -implicitDefEqProofs only[id,reduceCtorEq,reduceIte,Nat.reduceMul,Nat.reduceAdd,Nat.reduceLT,Nat.reduceLeDiff,Nat.reduceEqDiff,Int.reduceLT,Int.reduceBEq,Int.reduceBNe,Nat.reduceBEq,Int.reduceNeg,frS,qb71]
      repeat' (first|rfl|(refine And.intro ?_ ?_))
  intro _ hb2;obtain⟨hdF,hdL,hF1,hL1,h0⟩:=good_out hb1 hb2;have e1:parE (Zi l)=0:=by rw[par_small (by omega),if_pos hdF]
  have e2:parE (denF l)=0:=by rw[par_small (by omega),if_pos hdL]
  have v1:parV (Zi l)=Zx (Zi l):=by unfold parV;rw[if_pos e1]
  have v2:parV (denF l)=Zx (denF l):=by unfold parV;rw[if_pos e2]
  have w1:=val_bnd hdF (by omega);have w2:=val_bnd hdL (by omega);have pF:=refParseC F (Zi l) (by omega);have pL:=refParseC F (denF l) (by omega);rw[e1,v1] at pF;rw[e2,v2] at pL;(repeat refine Qb ?_);refine Qa fun k hk=>?_;simp -implicitDefEqProofs only[id,reduceCtorEq,reduceIte,Nat.reduceMul,Nat.reduceAdd,Nat.reduceLT,Nat.reduceLeDiff,Nat.reduceEqDiff,Int.reduceLT,Int.reduceBEq,Int.reduceBNe,Nat.reduceBEq,Int.reduceNeg,frS,hp0,qb70];refine⟨by omega,?_⟩;refine Qc pF (by simp -implicitDefEqProofs only[id,reduceCtorEq,reduceIte,Nat.reduceMul,Nat.reduceAdd,Nat.reduceLT,Nat.reduceLeDiff,Nat.reduceEqDiff,Int.reduceLT,Int.reduceBEq,Int.reduceBNe,Nat.reduceBEq,Int.reduceNeg,frS,hp0,qb70];try rfl) (by simp -implicitDefEqProofs only[id,reduceCtorEq,reduceIte,Nat.reduceMul,Nat.reduceAdd,Nat.reduceLT,Nat.reduceLeDiff,Nat.reduceEqDiff,Int.reduceLT,Int.reduceBEq,Int.reduceBNe,Nat.reduceBEq,Int.reduceNeg,frS,hp0,qb70];try rfl) ?_;rintro _ ⟨s1,rfl,hs1⟩;have hn1:=hs1;obtain⟨a1,c1,z1,r1,x1,rfl,_⟩:=hs1;simp -implicitDefEqProofs only[id,reduceCtorEq,reduceIte,Nat.reduceMul,Nat.reduceAdd,Nat.reduceLT,Nat.reduceLeDiff,Nat.reduceEqDiff,Int.reduceLT,Int.reduceBEq,Int.reduceBNe,Nat.reduceBEq,Int.reduceNeg,frS,qb70];(refine hk _ ?_;clear hk k;try show Sat _ _ _ _ _);(repeat refine Qb ?_);(refine Qa fun k hk=>?_;simp -implicitDefEqProofs only[id,reduceCtorEq,reduceIte,Nat.reduceMul,Nat.reduceAdd,Nat.reduceLT,Nat.reduceLeDiff,Nat.reduceEqDiff,Int.reduceLT,Int.reduceBEq,Int.reduceBNe,Nat.reduceBEq,Int.reduceNeg,frS,qb70]);refine Qc pL rfl rfl ?_;rintro _ ⟨s2,rfl,hs2⟩;have hn2:=hs2;obtain⟨a2,c2,z2,r2,x2,rfl,_⟩:=hs2;simp -implicitDefEqProofs only[id,reduceCtorEq,reduceIte,Nat.reduceMul,Nat.reduceAdd,Nat.reduceLT,Nat.reduceLeDiff,Nat.reduceEqDiff,Int.reduceLT,Int.reduceBEq,Int.reduceBNe,Nat.reduceBEq,Int.reduceNeg,frS,qb70];(refine hk _ ?_;clear hk k;try show Sat _ _ _ _ _);rw[show ((0:Nat):Int)=(0:Int) from rfl];(repeat refine Qb ?_);(refine Qa fun k hk=>?_;simp -implicitDefEqProofs only[id,reduceCtorEq,reduceIte,Nat.reduceMul,Nat.reduceAdd,Nat.reduceLT,Nat.reduceLeDiff,Nat.reduceEqDiff,Int.reduceLT,Int.reduceBEq,Int.reduceBNe,Nat.reduceBEq,Int.reduceNeg,frS,qb70];refine hk _ ?_;clear hk k;try show Sat _ _ _ _ _);refine Qd rfl (fun h=>absurd h (by decide)) (fun _=>?_);refine Sat.skip ?_;simp only[Qg];(repeat refine Qb ?_);(refine Qa fun k hk=>?_;simp -implicitDefEqProofs only[id,reduceCtorEq,reduceIte,Nat.reduceMul,Nat.reduceAdd,Nat.reduceLT,Nat.reduceLeDiff,Nat.reduceEqDiff,Int.reduceLT,Int.reduceBEq,Int.reduceBNe,Nat.reduceBEq,Int.reduceNeg,frS,qb70]);refine Qc (refGcd2C F hn1 hn2 w1 w2) rfl rfl ?_;intro y hy;have hg:=hy;obtain⟨a3,c3,z3,r3,x3,rfl,_⟩:=hy;simp -implicitDefEqProofs only[id,reduceCtorEq,reduceIte,Nat.reduceMul,Nat.reduceAdd,Nat.reduceLT,Nat.reduceLeDiff,Nat.reduceEqDiff,Int.reduceLT,Int.reduceBEq,Int.reduceBNe,Nat.reduceBEq,Int.reduceNeg,frS,qb70];intro b5;have g256:=gcd_lt w1 w2;have h25:pw 256≤pw 512:=QI (by decide);refine Qe (refCompareC F hg (nats_one (a:=some ⟨b5,0,none⟩) (cap:=1) (x:=1) (by omega) (by omega)) (by omega)) (by simp -implicitDefEqProofs only[id,reduceCtorEq,reduceIte,Nat.reduceMul,Nat.reduceAdd,Nat.reduceLT,Nat.reduceLeDiff,Nat.reduceEqDiff,Int.reduceLT,Int.reduceBEq,Int.reduceBNe,Nat.reduceBEq,Int.reduceNeg,frS,qb70];try rfl) (by rintro _ rfl;exact Qi rfl) ?_;rintro _ rfl;simp -implicitDefEqProofs only[id,reduceCtorEq,reduceIte,Nat.reduceMul,Nat.reduceAdd,Nat.reduceLT,Nat.reduceLeDiff,Nat.reduceEqDiff,Int.reduceLT,Int.reduceBEq,Int.reduceBNe,Nat.reduceBEq,Int.reduceNeg,frS,qb70];(refine hk _ ?_;clear hk k;try show Sat _ _ _ _ _)
  have hcm:∀ x y:Int,(cmpI x y != 0)=!decide (x=y):=fun x y=>by
    unfold bne
    congr 1
    by_cases h:x<y
    · rw[ZA h,decide_eq_false (by omega)];rfl
    · by_cases h2:y<x
      · rw[cmpI_gt h2,decide_eq_false (by omega)];rfl
      · rw[cmpI_eq (by omega),decide_eq_true (by omega)];rfl
  rw[hcm];refine Qd rfl (fun h9=>?_) (fun h9=>?_)
  · have hne:¬ Nat.gcd (Zx (Zi l)) (Zx (denF l))=1:=by
      intro h8;rw[h8] at h9;exact absurd h9 (by decide)
    rw[if_neg hne] at h0;(repeat refine Qb ?_);(refine Qa fun k hk=>?_;simp -implicitDefEqProofs only[id,reduceCtorEq,reduceIte,Nat.reduceMul,Nat.reduceAdd,Nat.reduceLT,Nat.reduceLeDiff,Nat.reduceEqDiff,Int.reduceLT,Int.reduceBEq,Int.reduceBNe,Nat.reduceBEq,Int.reduceNeg,frS,qb70];refine hk _ ?_;clear hk k;try show Sat _ _ _ _ _);refine Sat.ret ?_;simp only[Tryz.results65,id,seval,Int.reduceNeg,frS,qb73];exact fp_none h0 rfl ⟨_,_,rfl,Nats.nil,Nats.nil⟩
  · have heq:Nat.gcd (Zx (Zi l)) (Zx (denF l))=1:=by
      simp only[Bool.not_eq_false',decide_eq_true_eq] at h9;omega
    rw[if_pos heq] at h0;refine Sat.skip ?_;simp only[Qg];(repeat refine Qb ?_);(refine Qa fun k hk=>?_;simp -implicitDefEqProofs only[id,reduceCtorEq,reduceIte,Nat.reduceMul,Nat.reduceAdd,Nat.reduceLT,Nat.reduceLeDiff,Nat.reduceEqDiff,Int.reduceLT,Int.reduceBEq,Int.reduceBNe,Nat.reduceBEq,Int.reduceNeg,frS,qb70]);(refine hk _ ?_;clear hk k;try show Sat _ _ _ _ _);(repeat refine Qb ?_);(refine Qa fun k hk=>?_;simp -implicitDefEqProofs only[id,reduceCtorEq,reduceIte,Nat.reduceMul,Nat.reduceAdd,Nat.reduceLT,Nat.reduceLeDiff,Nat.reduceEqDiff,Int.reduceLT,Int.reduceBEq,Int.reduceBNe,Nat.reduceBEq,Int.reduceNeg,frS,qb70]);refine Qc (refLimited3C F (negF l) hn1 hn2 w1 w2) rfl (by simp -implicitDefEqProofs only[id,reduceCtorEq,reduceIte,Nat.reduceMul,Nat.reduceAdd,Nat.reduceLT,Nat.reduceLeDiff,Nat.reduceEqDiff,Int.reduceLT,Int.reduceBEq,Int.reduceBNe,Nat.reduceBEq,Int.reduceNeg,frS,qb70];try rfl) ?_;intro y hy;have hy1:=hy
    have hop:∃ f er,y=QW [f,.i .i64 er]∧∃ n1 a1 l1 c1 z1 r1 a2 l2 c2 z2 r2,f=frS n1 (.sl a1 l1 c1 z1 r1) (.sl a2 l2 c2 z2 r2):=by
      rcases hy1 with ⟨_,f,rfl,hf⟩|⟨_,f,rfl,hf⟩<;>exact⟨f,_,rfl,_,FrS.op hf⟩
    obtain⟨f,er,rfl,n9,a9,l9,c9,z9,r9,a10,l10,c10,z10,r10,rfl⟩:=hop;simp -implicitDefEqProofs only[id,reduceCtorEq,reduceIte,Nat.reduceMul,Nat.reduceAdd,Nat.reduceLT,Nat.reduceLeDiff,Nat.reduceEqDiff,Int.reduceLT,Int.reduceBEq,Int.reduceBNe,Nat.reduceBEq,Int.reduceNeg,frS,qb70];(refine hk _ ?_;clear hk k;try show Sat _ _ _ _ _);refine Sat.ret ?_;simp only[Tryz.results65,id,seval,Int.reduceNeg,frS,qb73];exact fp_some h0 hy1
end Tq
end

section
namespace Tq
open Eng Lmb Go.RowKit
theorem one_limb {a:Option Addr} {len cap sz n:Nat} {rd:Nat→Nat→SV} (h:Nats (.sl a len cap sz rd) n) (h0:0<n) (hl:¬ 1<(len:Int)):len=1∧sz=1∧rd 0 0=.i .i64 (n:Int):=by
  obtain⟨xs,⟨a',c',z',r',e,hz,hr⟩,hd⟩:=h.ints;simp only[SV.sl.injEq] at e;obtain⟨_,rfl,_,rfl,rfl⟩:=e
  have h1:xs.length=1:=by
    rcases Nat.eq_zero_or_pos xs.length with h9|h9
    · have:=List.eq_nil_of_length_eq_zero h9
      rw[this] at hd;have hv:=hd.val;rw[QE] at hv;omega
    · omega
  refine⟨h1,hz.resolve_left (by omega),?_⟩;rw[hr 0 (by omega),limb0 hd (by omega)]
def qb74:=And.intro @evr (@evn)
def qb75:=And.intro @evr (And.intro @evl (@evn))
def qb76:=And.intro @evr (And.intro @List.append_nil.{0} (And.intro @Int.toNat_zero (@Nat.sub_self)))
set_option maxRecDepth 100000 in
theorem refText3V (F:Frm) {a:SV} {n:Int} {d k1:Nat} (ha:FrV a n d k1) (hk:k1<1900):Contract F Tryz.prog 60 [a] (fun r=>r=sB (frText (rN n) (rP n d) (rQ n d))):=by
  have ha':=ha;have rd:=redV3 F (k1:=k1) ha hk;obtain⟨neg,a1,l1,c1,z1,r1,a2,l2,c2,z2,r2,rfl⟩:=ha.open;refine Qf Tryz.func60 rfl (by kernel_rfl) ?_;simp only[Tryz.ntmps60,Qm,frS];(repeat refine Qb ?_);(refine Qa fun k hk=>?_;simp -implicitDefEqProofs only[id,reduceCtorEq,reduceIte,Nat.reduceMul,Nat.reduceAdd,Nat.reduceLT,Nat.reduceLeDiff,Nat.reduceEqDiff,Int.reduceLT,Int.reduceBEq,Int.reduceBNe,Nat.reduceBEq,frS,qb74]);intro b1;(refine hk _ ?_;clear hk k;try show Sat _ _ _ _ _);(repeat refine Qb ?_);(refine Qa fun k hk=>?_;simp -implicitDefEqProofs only[id,reduceCtorEq,reduceIte,Nat.reduceMul,Nat.reduceAdd,Nat.reduceLT,Nat.reduceLeDiff,Nat.reduceEqDiff,Int.reduceLT,Int.reduceBEq,Int.reduceBNe,Nat.reduceBEq,frS,qb74]);refine Qc rd rfl (by simp -implicitDefEqProofs only[id,reduceCtorEq,reduceIte,Nat.reduceMul,Nat.reduceAdd,Nat.reduceLT,Nat.reduceLeDiff,Nat.reduceEqDiff,Int.reduceLT,Int.reduceBEq,Int.reduceBNe,Nat.reduceBEq,frS,frS,qb74]) ?_;rintro x ⟨⟨sp,sq,rfl,hp,hq⟩,hd0,hP,hQ⟩;have hp':=hp;have hq':=hq;obtain⟨a3,c3,z3,r3,x3,rfl,_⟩:=hp;obtain⟨a4,c4,z4,r4,x4,rfl,_⟩:=hq;simp -implicitDefEqProofs only[id,reduceCtorEq,reduceIte,Nat.reduceMul,Nat.reduceAdd,Nat.reduceLT,Nat.reduceLeDiff,Nat.reduceEqDiff,Int.reduceLT,Int.reduceBEq,Int.reduceBNe,Nat.reduceBEq,frS,qb74];(refine hk _ ?_;clear hk k;try show Sat _ _ _ _ _);have tP:=refTextC F hp' (lt7680 hP hk) (QH hP hk);have tQ:=refTextC F hq' (lt7680 hQ hk) (QH hQ hk);have lP:=dec_le hP hk;have lQ:=dec_le hQ hk;have hQ0:=rQ_pos (n:=n) hd0;generalize rP n d=P at hp' hP tP lP ⊢;generalize rQ n d=Q at hq' hQ tQ lQ hQ0 ⊢;generalize rN n=N at *;(repeat refine Qb ?_);(refine Qa fun k hk=>?_;simp -implicitDefEqProofs only[id,reduceCtorEq,reduceIte,Nat.reduceMul,Nat.reduceAdd,Nat.reduceLT,Nat.reduceLeDiff,Nat.reduceEqDiff,Int.reduceLT,Int.reduceBEq,Int.reduceBNe,Nat.reduceBEq,frS,qb74]);refine Qe tP rfl (by rintro _ rfl;exact Qi rfl) ?_;rintro r rfl;simp -implicitDefEqProofs only[id,reduceCtorEq,reduceIte,Nat.reduceMul,Nat.reduceAdd,Nat.reduceLT,Nat.reduceLeDiff,Nat.reduceEqDiff,Int.reduceLT,Int.reduceBEq,Int.reduceBNe,Nat.reduceBEq,frS,qb74];(refine hk _ ?_;clear hk k;try show Sat _ _ _ _ _);(repeat refine Qb ?_);(refine Qa fun k hk=>?_;simp -implicitDefEqProofs only[id,reduceCtorEq,reduceIte,Nat.reduceMul,Nat.reduceAdd,Nat.reduceLT,Nat.reduceLeDiff,Nat.reduceEqDiff,Int.reduceLT,Int.reduceBEq,Int.reduceBNe,Nat.reduceBEq,frS,qb74];refine hk _ ?_;clear hk k;try show Sat _ _ _ _ _);have ct1:(((((⟨#[45]⟩:ByteArray)).size+(mkB (Lib.decDigits P)).size:Nat):Int)≤IntKind.i64.max)=True:=cat_ok (by rw[Qn];show 1+_≤_;omega);have ce1:(⟨#[45]⟩:ByteArray) ++ mkB (Lib.decDigits P)=mkB (45 :: Lib.decDigits P):=Qu [45] _;have hls:((if N=true then 45 :: Lib.decDigits P else Lib.decDigits P):List UInt8).length≤1902:=by cases N<;>simp<;>omega
  refine Sat.join (fun _:Unit=>⟨31,[(3,sB (if N=true then 45 :: Lib.decDigits P else Lib.decDigits P)),(1,.op 0 b1 0)],[.box b1 49 [.b N,.sl a3 x3.length c3 z3 r3,.sl a4 x4.length c4 z4 r4]]⟩) (fun _=>True) ?_ (fun _ _=>?_)
  · refine Qd rfl (fun h=>?_) (fun h=>?_)
    · subst h
      refine Qa fun k hk=>?_;simp -implicitDefEqProofs only[id,reduceCtorEq,reduceIte,Nat.reduceMul,Nat.reduceAdd,Nat.reduceLT,Nat.reduceLeDiff,Nat.reduceEqDiff,Int.reduceLT,Int.reduceBEq,Int.reduceBNe,Nat.reduceBEq,frS,ct1,ce1,qb74];refine hk _ ?_;simp only[Qg];refine⟨(),trivial,?_⟩;simp only[if_true];simp -implicitDefEqProofs only[id,reduceCtorEq,reduceIte,Nat.reduceMul,Nat.reduceAdd,Nat.reduceLT,Nat.reduceLeDiff,Nat.reduceEqDiff,Int.reduceLT,Int.reduceBEq,Int.reduceBNe,Nat.reduceBEq,frS,qb75]
      repeat' (first|rfl|(refine And.intro ?_ ?_))
    · subst h
      refine Sat.skip ?_;simp only[Qg];refine⟨(),trivial,?_⟩;simp only[Bool.false_eq_true,if_false];simp -implicitDefEqProofs only[id,reduceCtorEq,reduceIte,Nat.reduceMul,Nat.reduceAdd,Nat.reduceLT,Nat.reduceLeDiff,Nat.reduceEqDiff,Int.reduceLT,Int.reduceBEq,Int.reduceBNe,Nat.reduceBEq,frS,qb75]
      repeat' (first|rfl|(refine And.intro ?_ ?_))
  have hft:frText N P Q=(if N=true then 45 :: Lib.decDigits P else Lib.decDigits P) ++ if Q=1 then [] else 47 :: Lib.decDigits Q:=by
    unfold frText frBody;cases N<;>simp
  rw[hft];generalize (if N=true then 45 :: Lib.decDigits P else Lib.decDigits P)=sl at hls ⊢;have ct2:(((((⟨#[47]⟩:ByteArray)).size+(mkB (Lib.decDigits Q)).size:Nat):Int)≤IntKind.i64.max)=True:=cat_ok (by rw[Qn];show 1+_≤_;omega);have ce2:(⟨#[47]⟩:ByteArray) ++ mkB (Lib.decDigits Q)=mkB (47 :: Lib.decDigits Q):=Qu [47] _;have ct3:((((mkB sl).size+(mkB (47 :: Lib.decDigits Q)).size:Nat):Int)≤IntKind.i64.max)=True:=cat_ok (by rw[Qn,Qn];simp;omega);have ce3:mkB sl ++ mkB (47 :: Lib.decDigits Q)=mkB (sl ++ 47 :: Lib.decDigits Q):=Qu _ _
  have hQ2:∀ (h:(1<(x4.length:Int))),Q≠1:=fun h=>by
    intro e;obtain⟨xs,hi,dd⟩:=hq'.ints;obtain⟨a',c',z',r',e',_,_⟩:=hi;simp only[SV.sl.injEq] at e';obtain⟨_,hxl,_⟩:=e';have:=(dd.len_le 1).2 (by rw[e,QF,Q8];decide);omega
  (repeat refine Qb ?_);refine Qj ⟨31,[(23,.b (!decide (Q=1))),(3,sB sl),(1,.op 0 b1 0)],[.box b1 49 [.b N,.sl a3 x3.length c3 z3 r3,.sl a4 x4.length c4 z4 r4]]⟩ (fun k hk=>?_) ?_
  · simp -implicitDefEqProofs only[id,reduceCtorEq,reduceIte,Nat.reduceMul,Nat.reduceAdd,Nat.reduceLT,Nat.reduceLeDiff,Nat.reduceEqDiff,Int.reduceLT,Int.reduceBEq,Int.reduceBNe,Nat.reduceBEq,frS,qb74]
    refine⟨fun h9=>?_,fun h9=>?_⟩
    · have e:(!decide (Q=1))=true:=by rw[decide_eq_false (hQ2 h9)];rfl
      refine hk _ ?_;rw[e];simp -implicitDefEqProofs only[id,reduceCtorEq,reduceIte,Nat.reduceMul,Nat.reduceAdd,Nat.reduceLT,Nat.reduceLeDiff,Nat.reduceEqDiff,Int.reduceLT,Int.reduceBEq,Int.reduceBNe,Nat.reduceBEq,frS,qb75]
      repeat' (first|rfl|(refine And.intro ?_ ?_))
    · obtain⟨hl0,hz4,h00⟩:=one_limb hq' hQ0 h9
      subst hz4;refine⟨by omega,?_⟩;rw[h00];simp -implicitDefEqProofs only[id,reduceCtorEq,reduceIte,Nat.reduceMul,Nat.reduceAdd,Nat.reduceLT,Nat.reduceLeDiff,Nat.reduceEqDiff,Int.reduceLT,Int.reduceBEq,Int.reduceBNe,Nat.reduceBEq,frS,qb74]
      have e:(((Q:Nat):Int) != 1)=!decide (Q=1):=by
        unfold bne
        congr 1
        apply Bool.eq_iff_iff.2;rw[beq_iff_eq,decide_eq_true_eq];omega
      refine hk _ ?_;rw[e];simp -implicitDefEqProofs only[id,reduceCtorEq,reduceIte,Nat.reduceMul,Nat.reduceAdd,Nat.reduceLT,Nat.reduceLeDiff,Nat.reduceEqDiff,Int.reduceLT,Int.reduceBEq,Int.reduceBNe,Nat.reduceBEq,frS,qb75]
      repeat' (first|rfl|(refine And.intro ?_ ?_))
  simp only[Qg];refine Qd rfl (fun h=>?_) (fun h=>?_)
  · have hQ1:Q≠1:=by simpa using h
    (repeat refine Qb ?_);(refine Qa fun k hk=>?_;simp -implicitDefEqProofs only[id,reduceCtorEq,reduceIte,Nat.reduceMul,Nat.reduceAdd,Nat.reduceLT,Nat.reduceLeDiff,Nat.reduceEqDiff,Int.reduceLT,Int.reduceBEq,Int.reduceBNe,Nat.reduceBEq,frS,qb74]);refine Qe tQ (by simp -implicitDefEqProofs only[id,reduceCtorEq,reduceIte,Nat.reduceMul,Nat.reduceAdd,Nat.reduceLT,Nat.reduceLeDiff,Nat.reduceEqDiff,Int.reduceLT,Int.reduceBEq,Int.reduceBNe,Nat.reduceBEq,frS,qb74];try rfl) (by rintro _ rfl;exact Qi rfl) ?_;rintro r rfl;simp -implicitDefEqProofs only[id,reduceCtorEq,reduceIte,Nat.reduceMul,Nat.reduceAdd,Nat.reduceLT,Nat.reduceLeDiff,Nat.reduceEqDiff,Int.reduceLT,Int.reduceBEq,Int.reduceBNe,Nat.reduceBEq,frS,ct2,ce2,ct3,ce3,qb74];(refine hk _ ?_;clear hk k;try show Sat _ _ _ _ _);(repeat refine Qb ?_);(refine Qa fun k hk=>?_;simp -implicitDefEqProofs only[id,reduceCtorEq,reduceIte,Nat.reduceMul,Nat.reduceAdd,Nat.reduceLT,Nat.reduceLeDiff,Nat.reduceEqDiff,Int.reduceLT,Int.reduceBEq,Int.reduceBNe,Nat.reduceBEq,frS,qb74];refine hk _ ?_;clear hk k;try show Sat _ _ _ _ _);refine Sat.ret ?_;simp only[Qg,Tryz.results60,id,seval,frS,qb76];rw[if_neg hQ1]
  · have hQ1:Q=1:=by simpa using h
    refine Sat.skip ?_;simp only[Qg];(repeat refine Qb ?_);(refine Qa fun k hk=>?_;simp -implicitDefEqProofs only[id,reduceCtorEq,reduceIte,Nat.reduceMul,Nat.reduceAdd,Nat.reduceLT,Nat.reduceLeDiff,Nat.reduceEqDiff,Int.reduceLT,Int.reduceBEq,Int.reduceBNe,Nat.reduceBEq,frS,qb74];refine hk _ ?_;clear hk k;try show Sat _ _ _ _ _);refine Sat.ret ?_;simp only[Tryz.results60,id,seval,frS,qb76];rw[if_pos hQ1,List.append_nil]
/-! ### Valid of any parts -/
def okF (neg:Bool) (xs ys:List Int):Bool:=okL xs && (decide (xs.length≤64) && (okL ys && (decide (ys.length≤64) && (decide (0<ys.length) && (decide (0<xs.length) || !neg)))))
theorem okF_1 {neg:Bool} {xs ys:List Int} (h:(okL xs && decide (xs.length≤64))=false):okF neg xs ys=false:=by
  unfold okF;rw[← Bool.and_assoc,h,Bool.false_and]
theorem okF_2 {neg:Bool} {xs ys:List Int} (h:(okL xs && decide (xs.length≤64))=true) (h2:(okL ys && decide (ys.length≤64))=true):okF neg xs ys=(decide (0<ys.length) && (decide (0<xs.length) || !neg)):=by
  unfold okF;rw[← Bool.and_assoc,h,Bool.true_and,← Bool.and_assoc,h2,Bool.true_and]
theorem okF_3 {neg:Bool} {xs ys:List Int} (h:(okL xs && decide (xs.length≤64))=true) (h2:(okL ys && decide (ys.length≤64))=false):okF neg xs ys=false:=by
  unfold okF;rw[← Bool.and_assoc,h,Bool.true_and,← Bool.and_assoc,h2,Bool.false_and]
theorem len_b {xs:List Int}:decide (0<xs.length)=!((xs.length:Int) == 0):=by
  apply Bool.eq_iff_iff.2;rw[decide_eq_true_eq,Bool.not_eq_true',beq_eq_false_iff_ne];omega
set_option maxRecDepth 100000 in
theorem fracTermRC (F:Frm) {s:SV} {xs:List Int} (hs:Ints s xs) (hl:xs.length≤100000):Contract F Tryz.prog 104 [s] (fun r=>r=.b (okL xs && decide (xs.length≤64))):=by
  have hs':=hs;obtain⟨a1,c1,z1,r1,rfl,hz1,hr1⟩:=hs;refine Qf Tryz.func104 rfl (by kernel_rfl) ?_;simp only[Tryz.ntmps104,Qm]
  have eL:decide ((xs.length:Int)≤64)=decide (xs.length≤64):=by
    apply Bool.eq_iff_iff.2;rw[decide_eq_true_eq,decide_eq_true_eq];omega
  (repeat refine Qb ?_);(refine Qa fun k hk=>?_;simp -implicitDefEqProofs only[id,reduceCtorEq,reduceIte,Nat.reduceMul,Nat.reduceAdd,Nat.reduceLT,Nat.reduceLeDiff,Nat.reduceEqDiff,Int.reduceLT,Int.reduceBEq,Int.reduceBNe,Nat.reduceBEq,frS,qb74];refine hk _ ?_;clear hk k;try show Sat _ _ _ _ _);(repeat refine Qb ?_);refine Qj ⟨10,[(2,.b (okL xs && decide (xs.length≤64)))],[]⟩ (fun k hk=>?_) ?_
  · simp -implicitDefEqProofs only[id,reduceCtorEq,reduceIte,Nat.reduceMul,Nat.reduceAdd,Nat.reduceLT,Nat.reduceLeDiff,Nat.reduceEqDiff,Int.reduceLT,Int.reduceBEq,Int.reduceBNe,Nat.reduceBEq,frS,qb74]
    refine Qe (natValidLC F hs' hl) rfl (by rintro _ rfl;exact Qi rfl) ?_;rintro y rfl;simp -implicitDefEqProofs only[id,reduceCtorEq,reduceIte,Nat.reduceMul,Nat.reduceAdd,Nat.reduceLT,Nat.reduceLeDiff,Nat.reduceEqDiff,Int.reduceLT,Int.reduceBEq,Int.reduceBNe,Nat.reduceBEq,frS,eL,qb74];refine⟨fun h9=>?_,fun h9=>?_⟩
    · refine hk _ ?_
      rw[h9,Bool.true_and];simp -implicitDefEqProofs only[id,reduceCtorEq,reduceIte,Nat.reduceMul,Nat.reduceAdd,Nat.reduceLT,Nat.reduceLeDiff,Nat.reduceEqDiff,Int.reduceLT,Int.reduceBEq,Int.reduceBNe,Nat.reduceBEq,frS,qb75]
      repeat' (first|rfl|(refine And.intro ?_ ?_))
    · refine hk _ ?_
      rw[h9,Bool.false_and];simp -implicitDefEqProofs only[id,reduceCtorEq,reduceIte,Nat.reduceMul,Nat.reduceAdd,Nat.reduceLT,Nat.reduceLeDiff,Nat.reduceEqDiff,Int.reduceLT,Int.reduceBEq,Int.reduceBNe,Nat.reduceBEq,frS,qb75]
      repeat' (first|rfl|(refine And.intro ?_ ?_))
  simp only[Qg];refine Sat.ret ?_;simp only[Tryz.results104,id,seval,frS,qb76]
set_option maxRecDepth 100000 in
theorem fracValidRC (F:Frm) (neg:Bool) {sx sy:SV} {xs ys:List Int} (hx:Ints sx xs) (hy:Ints sy ys) (lx:xs.length≤100000) (ly:ys.length≤100000):Contract F Tryz.prog 61 [frS neg sx sy] (fun r=>r=.b (okF neg xs ys)):=by
  have hx':=hx;have hy':=hy;obtain⟨a1,c1,z1,r1,rfl,_⟩:=hx;obtain⟨a2,c2,z2,r2,rfl,_⟩:=hy;refine Qf Tryz.func61 rfl (by kernel_rfl) ?_;simp only[Tryz.ntmps61,Qm,frS];(repeat refine Qb ?_);(refine Qa fun k hk=>?_;simp -implicitDefEqProofs only[id,reduceCtorEq,reduceIte,Nat.reduceMul,Nat.reduceAdd,Nat.reduceLT,Nat.reduceLeDiff,Nat.reduceEqDiff,Int.reduceLT,Int.reduceBEq,Int.reduceBNe,Nat.reduceBEq,frS,qb74]);intro blk1;(refine hk _ ?_;clear hk k;try show Sat _ _ _ _ _);(repeat refine Qb ?_);(refine Qa fun k hk=>?_;simp -implicitDefEqProofs only[id,reduceCtorEq,reduceIte,Nat.reduceMul,Nat.reduceAdd,Nat.reduceLT,Nat.reduceLeDiff,Nat.reduceEqDiff,Int.reduceLT,Int.reduceBEq,Int.reduceBNe,Nat.reduceBEq,frS,qb74];refine hk _ ?_;clear hk k;try show Sat _ _ _ _ _);(repeat refine Qb ?_);refine Qj ⟨31,[(2,.b (okF neg xs ys))],[]⟩ (fun k hk=>?_) ?_
  · simp -implicitDefEqProofs only[id,reduceCtorEq,reduceIte,Nat.reduceMul,Nat.reduceAdd,Nat.reduceLT,Nat.reduceLeDiff,Nat.reduceEqDiff,Int.reduceLT,Int.reduceBEq,Int.reduceBNe,Nat.reduceBEq,frS,qb74]
    refine Qe (fracTermRC F hx' lx) rfl (by rintro _ rfl;exact Qi rfl) ?_;rintro y rfl;simp -implicitDefEqProofs only[id,reduceCtorEq,reduceIte,Nat.reduceMul,Nat.reduceAdd,Nat.reduceLT,Nat.reduceLeDiff,Nat.reduceEqDiff,Int.reduceLT,Int.reduceBEq,Int.reduceBNe,Nat.reduceBEq,frS,qb74];refine⟨fun h1=>?_,fun h1=>?_⟩
    · refine Qe (fracTermRC F hy' ly) rfl (by rintro _ rfl;exact Qi rfl) ?_
      rintro y rfl;simp -implicitDefEqProofs only[id,reduceCtorEq,reduceIte,Nat.reduceMul,Nat.reduceAdd,Nat.reduceLT,Nat.reduceLeDiff,Nat.reduceEqDiff,Int.reduceLT,Int.reduceBEq,Int.reduceBNe,Nat.reduceBEq,frS,qb74];refine⟨fun h2=>⟨fun h3=>⟨fun h4=>?_,fun h4=>?_⟩,fun h3=>?_⟩,fun h2=>?_⟩
      · have e:okF neg xs ys=(!((xs.length:Int) == 0)):=by rw[okF_2 h1 h2,decide_eq_true (show 0<ys.length by omega),h4,Bool.true_and,Bool.not_true,Bool.or_false];exact len_b
        refine hk _ ?_;rw[e];simp -implicitDefEqProofs only[id,reduceCtorEq,reduceIte,Nat.reduceMul,Nat.reduceAdd,Nat.reduceLT,Nat.reduceLeDiff,Nat.reduceEqDiff,Int.reduceLT,Int.reduceBEq,Int.reduceBNe,Nat.reduceBEq,frS,qb75]
        repeat' (first|rfl|(refine And.intro ?_ ?_))
      · have e:okF neg xs ys=true:=by rw[okF_2 h1 h2,decide_eq_true (show 0<ys.length by omega),h4];simp
        refine hk _ ?_;rw[e];simp -implicitDefEqProofs only[id,reduceCtorEq,reduceIte,Nat.reduceMul,Nat.reduceAdd,Nat.reduceLT,Nat.reduceLeDiff,Nat.reduceEqDiff,Int.reduceLT,Int.reduceBEq,Int.reduceBNe,Nat.reduceBEq,frS,qb75]
        repeat' (first|rfl|(refine And.intro ?_ ?_))
      · have e:okF neg xs ys=false:=by rw[okF_2 h1 h2,decide_eq_false (show ¬ 0<ys.length by omega)];rfl
        refine hk _ ?_;rw[e];simp -implicitDefEqProofs only[id,reduceCtorEq,reduceIte,Nat.reduceMul,Nat.reduceAdd,Nat.reduceLT,Nat.reduceLeDiff,Nat.reduceEqDiff,Int.reduceLT,Int.reduceBEq,Int.reduceBNe,Nat.reduceBEq,frS,qb75]
        repeat' (first|rfl|(refine And.intro ?_ ?_))
      · have e:okF neg xs ys=false:=by exact okF_3 h1 h2
        refine hk _ ?_;rw[e];simp -implicitDefEqProofs only[id,reduceCtorEq,reduceIte,Nat.reduceMul,Nat.reduceAdd,Nat.reduceLT,Nat.reduceLeDiff,Nat.reduceEqDiff,Int.reduceLT,Int.reduceBEq,Int.reduceBNe,Nat.reduceBEq,frS,qb75]
        repeat' (first|rfl|(refine And.intro ?_ ?_))
    · have e:okF neg xs ys=false:=okF_1 h1
      refine hk _ ?_;rw[e];simp -implicitDefEqProofs only[id,reduceCtorEq,reduceIte,Nat.reduceMul,Nat.reduceAdd,Nat.reduceLT,Nat.reduceLeDiff,Nat.reduceEqDiff,Int.reduceLT,Int.reduceBEq,Int.reduceBNe,Nat.reduceBEq,frS,qb75]
      repeat' (first|rfl|(refine And.intro ?_ ?_))
  simp only[Qg];refine Sat.ret ?_;simp only[Tryz.results61,id,seval,frS,qb76]
set_option maxRecDepth 100000 in
theorem refValidRC (F:Frm) (neg:Bool) {sx sy:SV} {xs ys:List Int} (hx:Ints sx xs) (hy:Ints sy ys) (lx:xs.length≤100000) (ly:ys.length≤100000):Contract F Tryz.prog 62 [frS neg sx sy] (fun r=>r=.b (okF neg xs ys)):=by
  have hx':=hx;have hy':=hy;obtain⟨a1,c1,z1,r1,rfl,_⟩:=hx;obtain⟨a2,c2,z2,r2,rfl,_⟩:=hy;refine Qf Tryz.func62 rfl (by kernel_rfl) ?_;simp only[Tryz.ntmps62,Qm,frS];(repeat refine Qb ?_);(refine Qa fun k hk=>?_;simp -implicitDefEqProofs only[id,reduceCtorEq,reduceIte,Nat.reduceMul,Nat.reduceAdd,Nat.reduceLT,Nat.reduceLeDiff,Nat.reduceEqDiff,Int.reduceLT,Int.reduceBEq,Int.reduceBNe,Nat.reduceBEq,frS,qb74]);intro blk1;(refine hk _ ?_;clear hk k;try show Sat _ _ _ _ _);(repeat refine Qb ?_);refine Qj ⟨40,[(2,.b (okF neg xs ys))],[]⟩ (fun k hk=>?_) ?_
  · simp -implicitDefEqProofs only[id,reduceCtorEq,reduceIte,Nat.reduceMul,Nat.reduceAdd,Nat.reduceLT,Nat.reduceLeDiff,Nat.reduceEqDiff,Int.reduceLT,Int.reduceBEq,Int.reduceBNe,Nat.reduceBEq,frS,qb74]
    refine Qe (refValidLC F hx' lx) rfl (by rintro _ rfl;exact Qi rfl) ?_;rintro y rfl;simp -implicitDefEqProofs only[id,reduceCtorEq,reduceIte,Nat.reduceMul,Nat.reduceAdd,Nat.reduceLT,Nat.reduceLeDiff,Nat.reduceEqDiff,Int.reduceLT,Int.reduceBEq,Int.reduceBNe,Nat.reduceBEq,frS,qb74];refine⟨fun h1=>?_,fun h1=>?_⟩
    · refine Qe (refValidLC F hy' ly) rfl (by rintro _ rfl;exact Qi rfl) ?_
      rintro y rfl;simp -implicitDefEqProofs only[id,reduceCtorEq,reduceIte,Nat.reduceMul,Nat.reduceAdd,Nat.reduceLT,Nat.reduceLeDiff,Nat.reduceEqDiff,Int.reduceLT,Int.reduceBEq,Int.reduceBNe,Nat.reduceBEq,frS,qb74];refine⟨fun h2=>⟨fun h3=>⟨fun h4=>⟨fun h5=>⟨fun h6=>?_,fun h6=>?_⟩,fun h5=>?_⟩,fun h4=>?_⟩,fun h3=>?_⟩,fun h2=>?_⟩
      · have e:okF neg xs ys=true:=by unfold okF;rw[h1,h2,decide_eq_true (show xs.length≤64 by omega),decide_eq_true (show ys.length≤64 by omega),decide_eq_true (show 0<ys.length by omega),decide_eq_true (show 0<xs.length by omega)];rfl
        refine hk _ ?_;rw[e];simp -implicitDefEqProofs only[id,reduceCtorEq,reduceIte,Nat.reduceMul,Nat.reduceAdd,Nat.reduceLT,Nat.reduceLeDiff,Nat.reduceEqDiff,Int.reduceLT,Int.reduceBEq,Int.reduceBNe,Nat.reduceBEq,frS,qb75]
        repeat' (first|rfl|(refine And.intro ?_ ?_))
      · have e:okF neg xs ys=!neg:=by unfold okF;rw[h1,h2,decide_eq_true (show xs.length≤64 by omega),decide_eq_true (show ys.length≤64 by omega),decide_eq_true (show 0<ys.length by omega),decide_eq_false (show ¬ 0<xs.length by omega)];rfl
        refine hk _ ?_;rw[e];simp -implicitDefEqProofs only[id,reduceCtorEq,reduceIte,Nat.reduceMul,Nat.reduceAdd,Nat.reduceLT,Nat.reduceLeDiff,Nat.reduceEqDiff,Int.reduceLT,Int.reduceBEq,Int.reduceBNe,Nat.reduceBEq,frS,qb75]
        repeat' (first|rfl|(refine And.intro ?_ ?_))
      · have e:okF neg xs ys=false:=by unfold okF;rw[h1,h2,decide_eq_true (show xs.length≤64 by omega),decide_eq_true (show ys.length≤64 by omega),decide_eq_false (show ¬ 0<ys.length by omega)];rfl
        refine hk _ ?_;rw[e];simp -implicitDefEqProofs only[id,reduceCtorEq,reduceIte,Nat.reduceMul,Nat.reduceAdd,Nat.reduceLT,Nat.reduceLeDiff,Nat.reduceEqDiff,Int.reduceLT,Int.reduceBEq,Int.reduceBNe,Nat.reduceBEq,frS,qb75]
        repeat' (first|rfl|(refine And.intro ?_ ?_))
      · have e:okF neg xs ys=false:=by unfold okF;rw[h1,h2,decide_eq_true (show xs.length≤64 by omega),decide_eq_false (show ¬ ys.length≤64 by omega)];rfl
        refine hk _ ?_;rw[e];simp -implicitDefEqProofs only[id,reduceCtorEq,reduceIte,Nat.reduceMul,Nat.reduceAdd,Nat.reduceLT,Nat.reduceLeDiff,Nat.reduceEqDiff,Int.reduceLT,Int.reduceBEq,Int.reduceBNe,Nat.reduceBEq,frS,qb75]
        repeat' (first|rfl|(refine And.intro ?_ ?_))
      · have e:okF neg xs ys=false:=by unfold okF;rw[decide_eq_false (show ¬ xs.length≤64 by omega),Bool.false_and,Bool.and_false]
        refine hk _ ?_;rw[e];simp -implicitDefEqProofs only[id,reduceCtorEq,reduceIte,Nat.reduceMul,Nat.reduceAdd,Nat.reduceLT,Nat.reduceLeDiff,Nat.reduceEqDiff,Int.reduceLT,Int.reduceBEq,Int.reduceBNe,Nat.reduceBEq,frS,qb75]
        repeat' (first|rfl|(refine And.intro ?_ ?_))
      · have e:okF neg xs ys=false:=by unfold okF;rw[h2,Bool.false_and,Bool.and_false,Bool.and_false]
        refine hk _ ?_;rw[e];simp -implicitDefEqProofs only[id,reduceCtorEq,reduceIte,Nat.reduceMul,Nat.reduceAdd,Nat.reduceLT,Nat.reduceLeDiff,Nat.reduceEqDiff,Int.reduceLT,Int.reduceBEq,Int.reduceBNe,Nat.reduceBEq,frS,qb75]
        repeat' (first|rfl|(refine And.intro ?_ ?_))
    · have e:okF neg xs ys=false:=by unfold okF;rw[h1,Bool.false_and]
      refine hk _ ?_;rw[e];simp -implicitDefEqProofs only[id,reduceCtorEq,reduceIte,Nat.reduceMul,Nat.reduceAdd,Nat.reduceLT,Nat.reduceLeDiff,Nat.reduceEqDiff,Int.reduceLT,Int.reduceBEq,Int.reduceBNe,Nat.reduceBEq,frS,qb75]
      repeat' (first|rfl|(refine And.intro ?_ ?_))
  simp only[Qg];refine Sat.ret ?_;simp only[Tryz.results62,id,seval,frS,qb76]
end Tq
end

section
namespace Tq
open Go.RowKit Eng Go.Sort
theorem mkB_of (s:ByteArray):s=mkB s.data.toList:=mkB_inj rfl
def byRd (l:List UInt8) (i j:Nat):SV:=.i .u8 ((l.getD i 0).toNat:Int)
def BysPost (n:Nat) (r:SV):Prop:=∃ (l:List UInt8) (a:Option Addr) (cap:Nat),r=.sl a l.length cap 1 (byRd l)∧l.length≤n
theorem u8_some (z:Int):∃ c:UInt8,IntKind.u8.wrap z=(c.toNat:Int):=by
  rw[IntKind.wrap_u8];refine⟨UInt8.ofNat (z % 256).toNat,?_⟩;rw[UInt8.toNat_ofNat'];omega
def qb78:=And.intro @evr (And.intro @List.append_nil.{0} (And.intro @Int.toNat_zero (@Nat.sub_self)))
def qb77:=And.intro @evr (@evn)
set_option maxRecDepth 100000 in
theorem spoiltC (cb:Nat) (l:List UInt8) (hl:l.length≤1000) (a:Option Addr) (cap:Nat):Contract (Frm.codes cb) Tryz.prog 63 [ptr cb,.sl a l.length cap 1 (byRd l)] (BysPost (l.length+1)):=by
  refine Qf Tryz.func63 rfl (by kernel_rfl) ?_;simp only[Tryz.ntmps63,Qm];(repeat refine Qb ?_);(refine Qa fun k hk=>?_;simp -implicitDefEqProofs only[id,reduceCtorEq,reduceIte,Nat.reduceMul,Nat.reduceAdd,Nat.reduceLT,Nat.reduceLeDiff,Nat.reduceEqDiff,Int.reduceLT,Int.reduceBEq,Int.reduceBNe,Nat.reduceBEq,Int.reduceNeg,ptr,qb77];refine hk _ ?_;clear hk k;try show Sat _ _ _ _ _);(repeat refine Qb ?_);(refine Qa fun k hk=>?_;simp -implicitDefEqProofs only[id,reduceCtorEq,reduceIte,Nat.reduceMul,Nat.reduceAdd,Nat.reduceLT,Nat.reduceLeDiff,Nat.reduceEqDiff,Int.reduceLT,Int.reduceBEq,Int.reduceBNe,Nat.reduceBEq,Int.reduceNeg,ptr,qb77]);refine⟨⟨by unfold maxLen;omega,by omega⟩,fun a1 c1=>?_⟩;(refine hk _ ?_;clear hk k;try show Sat _ _ _ _ _);(repeat refine Qb ?_);(refine Qa fun k hk=>?_;simp -implicitDefEqProofs only[id,reduceCtorEq,reduceIte,Nat.reduceMul,Nat.reduceAdd,Nat.reduceLT,Nat.reduceLeDiff,Nat.reduceEqDiff,Int.reduceLT,Int.reduceBEq,Int.reduceBNe,Nat.reduceBEq,Int.reduceNeg,ptr,qb77];refine hk _ ?_;clear hk k;try show Sat _ _ _ _ _);(repeat refine Qb ?_);refine Qd rfl (fun h=>?_) (fun h=>?_)
  · (repeat refine Qb ?_)
    (refine Qa fun k hk=>?_;simp -implicitDefEqProofs only[id,reduceCtorEq,reduceIte,Nat.reduceMul,Nat.reduceAdd,Nat.reduceLT,Nat.reduceLeDiff,Nat.reduceEqDiff,Int.reduceLT,Int.reduceBEq,Int.reduceBNe,Nat.reduceBEq,Int.reduceNeg,ptr,qb77]);refine Qe (nextC cb 256 (by decide) (by decide)) rfl (by rintro _ ⟨x,rfl,_⟩;exact Qi rfl) ?_;rintro r ⟨x,rfl,hx0,hx1⟩;obtain⟨c,hc⟩:=u8_some x;simp -implicitDefEqProofs only[id,reduceCtorEq,reduceIte,Nat.reduceMul,Nat.reduceAdd,Nat.reduceLT,Nat.reduceLeDiff,Nat.reduceEqDiff,Int.reduceLT,Int.reduceBEq,Int.reduceBNe,Nat.reduceBEq,Int.reduceNeg,ptr,hc,qb77];intro blk;(refine hk _ ?_;clear hk k;try show Sat _ _ _ _ _)
    refine Sat.le (st':=⟨51,[(4,.os 1 (some ⟨blk,0,none⟩) [c].length 1)],[.gone,.row (some ⟨blk,0,none⟩) 5 [c].length 1 1 (byRd [c])]⟩) ?_ (by
      simp -implicitDefEqProofs only[id,reduceCtorEq,reduceIte,Nat.reduceMul,Nat.reduceAdd,Nat.reduceLT,Nat.reduceLeDiff,Nat.reduceEqDiff,Int.reduceLT,Int.reduceBEq,Int.reduceBNe,Nat.reduceBEq,Int.reduceNeg,ptr,evl,qb77];intro i j hi hj;obtain rfl:i=0:=by omega
      obtain rfl:j=0:=by omega
      rfl)
    refine Sat.ret ?_;simp only[Tryz.results63,id,seval,Int.reduceNeg,ptr,qb78];exact⟨[c],_,_,rfl,by simp⟩
  have h0:0<l.length:=by
    have:¬ (l.length:Int)=0:=by simpa using h
    omega
  refine Sat.skip ?_;simp only[Qg];(repeat refine Qb ?_);(refine Qa fun k hk=>?_;simp -implicitDefEqProofs only[id,reduceCtorEq,reduceIte,Nat.reduceMul,Nat.reduceAdd,Nat.reduceLT,Nat.reduceLeDiff,Nat.reduceEqDiff,Int.reduceLT,Int.reduceBEq,Int.reduceBNe,Nat.reduceBEq,Int.reduceNeg,ptr,qb77]);refine Qe (nextC cb l.length (by omega) (by omega)) rfl (by rintro _ ⟨x,rfl,_⟩;exact Qi rfl) ?_;rintro r ⟨x,rfl,hx0,hx1⟩;obtain⟨q,rfl⟩:=Int.eq_ofNat_of_zero_le hx0;have hq:q<l.length:=by omega
  have e1:IntKind.i64.wrap ((q:Int)+1)=((q+1:Nat):Int):=by rw[w64 (by omega)];omega
  simp -implicitDefEqProofs only[id,reduceCtorEq,reduceIte,Nat.reduceMul,Nat.reduceAdd,Nat.reduceLT,Nat.reduceLeDiff,Nat.reduceEqDiff,Int.reduceLT,Int.reduceBEq,Int.reduceBNe,Nat.reduceBEq,Int.reduceNeg,ptr,qb77];(refine hk _ ?_;clear hk k;try show Sat _ _ _ _ _);(repeat refine Qb ?_);(refine Qa fun k hk=>?_;simp -implicitDefEqProofs only[id,reduceCtorEq,reduceIte,Nat.reduceMul,Nat.reduceAdd,Nat.reduceLT,Nat.reduceLeDiff,Nat.reduceEqDiff,Int.reduceLT,Int.reduceBEq,Int.reduceBNe,Nat.reduceBEq,Int.reduceNeg,ptr,qb77]);refine Qe (nextC cb 4 (by decide) (by decide)) rfl (by rintro _ ⟨x,rfl,_⟩;exact Qi rfl) ?_;rintro r ⟨y,rfl,hy0,hy1⟩;simp -implicitDefEqProofs only[id,reduceCtorEq,reduceIte,Nat.reduceMul,Nat.reduceAdd,Nat.reduceLT,Nat.reduceLeDiff,Nat.reduceEqDiff,Int.reduceLT,Int.reduceBEq,Int.reduceBNe,Nat.reduceBEq,Int.reduceNeg,ptr,qb77];(refine hk _ ?_;clear hk k;try show Sat _ _ _ _ _);(repeat refine Qb ?_);refine Sat.block ?_;(repeat refine Qb ?_);(refine Qa fun k hk=>?_;simp -implicitDefEqProofs only[id,reduceCtorEq,reduceIte,Nat.reduceMul,Nat.reduceAdd,Nat.reduceLT,Nat.reduceLeDiff,Nat.reduceEqDiff,Int.reduceLT,Int.reduceBEq,Int.reduceBNe,Nat.reduceBEq,Int.reduceNeg,ptr,qb77];refine hk _ ?_;clear hk k;try show Sat _ _ _ _ _);(repeat refine Qb ?_);refine Qd rfl (fun h=>?_) (fun h=>?_)
  · (repeat refine Qb ?_)
    have hlen:(l.take q ++ l.drop (q+1)).length=q+(l.length - (q+1)):=by
      rw[List.length_append,List.length_take,List.length_drop];omega
    have hrd:rdEq (q+(l.length - (q+1))) 1 (Q3 q (byRd l) fun i j=>byRd l (q+1+i) j) (byRd (l.take q ++ l.drop (q+1))):=by
      intro i j hi hj;unfold Q3 byRd;by_cases h9:i<q
      · rw[if_pos h9]
        congr 3
        rw[List.getD_eq_getElem?_getD,List.getD_eq_getElem?_getD,List.getElem?_append_left (by rw[List.length_take];omega),List.getElem?_take,if_pos h9]
      · rw[if_neg h9]
        dsimp only
        congr 3
        rw[List.getD_eq_getElem?_getD,List.getD_eq_getElem?_getD,List.getElem?_append_right (by rw[List.length_take];omega),List.getElem?_drop,List.length_take]
        congr 2
        omega
    refine Zq (ι:=Option Addr×Nat) (fun y=>⟨51,[(4,.os 0 y.1 (q+(l.length - (q+1))) y.2)],[.row y.1 5 (q+(l.length - (q+1))) y.2 1 (byRd (l.take q ++ l.drop (q+1)))]⟩) (fun _=>True) (fun hrest=>?_) ?_
    · (refine Zd (.keep [0,1,3,4,5] [] (.alt 2 (.one 6 (.one 7 (.one 8 .done))) (.alt 6 (.one 2 (.one 7 (.one 8 .done))) .none))) (by kernel_rfl) (by kernel_rfl) (fun _ _ h=>h) fun k hk=>?_;simp only[WOT,List.map_cons,List.map_nil,List.getD_cons_zero,List.getD_cons_succ];simp -implicitDefEqProofs only[id,reduceCtorEq,reduceIte,Nat.reduceMul,Nat.reduceAdd,Nat.reduceLT,Nat.reduceLeDiff,Nat.reduceEqDiff,Int.reduceLT,Int.reduceBEq,Int.reduceBNe,Nat.reduceBEq,Int.reduceNeg,ptr,WOT,qb77])
      simp only[e1,Int.toNat_natCast]
      repeat' (first
        | (refine And.intro ?_ ?_)
        | rfl
        | omega
        | (unfold maxLen;omega)
        | intro a2 cap2)
      all_goals
        refine hk _ ?_;clear hk;simp only[Qg];refine Sat.le (hrest (a2,cap2) trivial) ?_;simp -implicitDefEqProofs only[id,reduceCtorEq,reduceIte,Nat.reduceMul,Nat.reduceAdd,Nat.reduceLT,Nat.reduceLeDiff,Nat.reduceEqDiff,Int.reduceLT,Int.reduceBEq,Int.reduceBNe,Nat.reduceBEq,Int.reduceNeg,ptr,evl,qb77];exact hrd
    rintro⟨a2,cap2⟩ _;try simp only[Qg]
    refine Sat.ret ?_;simp only[Tryz.results63,id,seval,Int.reduceNeg,ptr,qb78];exact⟨l.take q ++ l.drop (q+1),_,_,by rw[hlen],by omega⟩
  · (repeat refine Qb ?_)
    (refine Qa fun k hk=>?_;simp -implicitDefEqProofs only[id,reduceCtorEq,reduceIte,Nat.reduceMul,Nat.reduceAdd,Nat.reduceLT,Nat.reduceLeDiff,Nat.reduceEqDiff,Int.reduceLT,Int.reduceBEq,Int.reduceBNe,Nat.reduceBEq,Int.reduceNeg,ptr,qb77];refine hk _ ?_;clear hk k;try show Sat _ _ _ _ _);(repeat refine Qb ?_);refine Qd rfl (fun h=>?_) (fun h=>?_)
    · (repeat refine Qb ?_)
      (refine Qa fun k hk=>?_;simp -implicitDefEqProofs only[id,reduceCtorEq,reduceIte,Nat.reduceMul,Nat.reduceAdd,Nat.reduceLT,Nat.reduceLeDiff,Nat.reduceEqDiff,Int.reduceLT,Int.reduceBEq,Int.reduceBNe,Nat.reduceBEq,Int.reduceNeg,ptr,qb77]);refine Qe (nextC cb 256 (by decide) (by decide)) rfl (by rintro _ ⟨x,rfl,_⟩;exact Qi rfl) ?_;rintro r ⟨x,rfl,hx0,hx1⟩;obtain⟨c,hc⟩:=u8_some x;simp -implicitDefEqProofs only[id,reduceCtorEq,reduceIte,Nat.reduceMul,Nat.reduceAdd,Nat.reduceLT,Nat.reduceLeDiff,Nat.reduceEqDiff,Int.reduceLT,Int.reduceBEq,Int.reduceBNe,Nat.reduceBEq,Int.reduceNeg,ptr,hc,qb77];intro blk;refine⟨⟨by unfold maxLen;omega,by omega⟩,fun a2 cap2=>?_⟩;have hlen:(l ++ [c]).length=l.length+1:=by simp
      (refine hk _ ?_;clear hk k;try show Sat _ _ _ _ _)
      refine Sat.le (st':=⟨51,[(4,.os 0 a2 (l.length+1) cap2)],[.row a2 5 (l.length+1) cap2 1 (byRd (l ++ [c]))]⟩) ?_ (by
        simp -implicitDefEqProofs only[id,reduceCtorEq,reduceIte,Nat.reduceMul,Nat.reduceAdd,Nat.reduceLT,Nat.reduceLeDiff,Nat.reduceEqDiff,Int.reduceLT,Int.reduceBEq,Int.reduceBNe,Nat.reduceBEq,Int.reduceNeg,ptr,evl,qb77];refine rdEq_one (fun i j hi hj=>?_) ?_
        · unfold byRd
          congr 3
          rw[List.getD_eq_getElem?_getD,List.getD_eq_getElem?_getD,List.getElem?_append_left hi]
        · unfold byRd
          congr 3
          simp [List.getD_eq_getElem?_getD])
      refine Sat.ret ?_;simp only[Tryz.results63,id,seval,Int.reduceNeg,ptr,qb78];exact⟨l ++ [c],_,_,by rw[hlen],by omega⟩
    · refine Sat.skip ?_
      simp only[Qg,Qk,reduceIte];(repeat refine Qb ?_);(refine QD [⟨0,41,32,0⟩,⟨0,42,64,0⟩,⟨3,43,3298534883328,0⟩,⟨4,44,4398046511104,1⟩,⟨0,45,1,0⟩,⟨16,46,17592186044416,2⟩,⟨32,47,35184372088832,0⟩,⟨64,48,70368744177664,1⟩,⟨136,49,149533581377536,0⟩,⟨511,50,3298534883328,0⟩,⟨1023,0,844424930131968,2⟩] [0,1,2,4,3] [(5,false),(6,false),(7,false),(8,false),(9,false),(10,false)] [5,6,7] (by kernel_rfl) (by kernel_rfl) (fun _ _ h=>h) fun k hk=>?_;simp only[List.map_cons,List.map_nil,List.getD_cons_zero,List.getD_cons_succ,Q0,QZ,Zb];simp -implicitDefEqProofs only[id,reduceCtorEq,reduceIte,Nat.reduceMul,Nat.reduceAdd,Nat.reduceLT,Nat.reduceLeDiff,Nat.reduceEqDiff,Int.reduceLT,Int.reduceBEq,Int.reduceBNe,Nat.reduceBEq,Int.reduceNeg,ptr,qb77]);refine⟨by omega,hq,?_⟩;refine Qe (nextC cb 255 (by decide) (by decide)) rfl (by rintro _ ⟨x,rfl,_⟩;exact Qi rfl) ?_;rintro r ⟨x,rfl,hx0,hx1⟩;have hb:byRd l q 0=.i .u8 ((l.getD q 0).toNat:Int):=rfl;simp -implicitDefEqProofs only[id,reduceCtorEq,reduceIte,Nat.reduceMul,Nat.reduceAdd,Nat.reduceLT,Nat.reduceLeDiff,Nat.reduceEqDiff,Int.reduceLT,Int.reduceBEq,Int.reduceBNe,Nat.reduceBEq,Int.reduceNeg,ptr,hb,qb77];obtain⟨c,hc⟩:∃ c:UInt8,bits BinOp.xor IntKind.u8 ((l.getD q 0).toNat:Int) (IntKind.u8.wrap (IntKind.i64.wrap (1+x)))=(c.toNat:Int):=u8_some _;simp only[hc];refine⟨by omega,hq,?_⟩;(refine hk _ ?_;clear hk k;try show Sat _ _ _ _ _);(repeat refine Qb ?_);(refine Qa fun k hk=>?_;simp -implicitDefEqProofs only[id,reduceCtorEq,reduceIte,Nat.reduceMul,Nat.reduceAdd,Nat.reduceLT,Nat.reduceLeDiff,Nat.reduceEqDiff,Int.reduceLT,Int.reduceBEq,Int.reduceBNe,Nat.reduceBEq,Int.reduceNeg,ptr,qb77];refine hk _ ?_;clear hk k;try show Sat _ _ _ _ _)
      refine Sat.le (st':=⟨51,[(4,.os 0 a1 l.length c1)],[.row a1 5 l.length c1 1 (byRd (l.set q c))]⟩) ?_ (by
        simp -implicitDefEqProofs only[id,reduceCtorEq,reduceIte,Nat.reduceMul,Nat.reduceAdd,Nat.reduceLT,Nat.reduceLeDiff,Nat.reduceEqDiff,Int.reduceLT,Int.reduceBEq,Int.reduceBNe,Nat.reduceBEq,Int.reduceNeg,ptr,evl,qb77];intro i j hi hj;obtain rfl:j=0:=by omega
        unfold rdSet byRd;by_cases h9:i=q
        · subst h9
          simp [List.getD_eq_getElem?_getD,List.getElem?_set,hq]
        · simp [List.getD_eq_getElem?_getD,List.getElem?_set,h9,Ne.symm h9])
      refine Sat.ret ?_;simp only[Tryz.results63,id,seval,Int.reduceNeg,ptr,qb78];exact⟨l.set q c,_,_,by rw[List.length_set],by rw[List.length_set];omega⟩
theorem bytes_text (l:List UInt8):bytesOf ((List.range l.length).map fun i=>Eng.intOf (byRd l i 0))=mkB l:=by
  have h:∀ (m:List UInt8) (acc:ByteArray),(m.map fun c=>((c.toNat:Nat):Int)).foldl (fun r n=>r.push (UInt8.ofNat n.toNat)) acc=acc ++ mkB m:=by
    intro m
    induction m with
    | nil=>intro acc;rw[mkB_of acc,Qu];simp
    | cons c m ih=>
      intro acc;rw[List.map_cons,List.foldl_cons,ih,mkB_of acc]
      have e:(mkB acc.data.toList).push (UInt8.ofNat (((c.toNat:Nat):Int)).toNat)=mkB (acc.data.toList ++ [c]):=mkB_inj (by
        rw[Int.toNat_natCast]
        simp [mkB,ByteArray.push])
      rw[e,Qu,Qu,List.append_assoc];rfl
  have e2:((List.range l.length).map fun i=>Eng.intOf (byRd l i 0))=l.map fun c=>((c.toNat:Nat):Int):=by
    apply List.ext_getElem?;intro i;by_cases hi:i<l.length
    · rw[List.getElem?_map,List.getElem?_range hi,List.getElem?_map,List.getElem?_eq_getElem hi]
      simp [byRd,Eng.intOf,List.getD_eq_getElem?_getD,hi]
    · rw[List.getElem?_eq_none (by simp;omega),List.getElem?_eq_none (by simp;omega)]
  rw[e2];unfold bytesOf;rw[h];exact mkB_inj (by simp [mkB,ByteArray.data_append])
theorem strsRd_at (P:List (List UInt8)) (i:Nat):strsRd P i 0=sB (P.getD i []):=rfl
end Tq
end
end Go.Proofs.YtabgkfjfmjdfiaaGreatDoor
