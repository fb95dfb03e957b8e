import Derived.Test.YtabgkfjfmjdfiaaGreatDoorNtE
import Derived.Test.YtabgkfjfmjdfiaaGreatDoorPk4
import Derived.Test.YtabgkfjfmjdfiaaGreatDoorZTrimRef
set_option linter.unusedSimpArgs false
set_option linter.unusedVariables false
set_option linter.defProp false
namespace Go.Proofs.YtabgkfjfmjdfiaaGreatDoor
open Eng Lmb Go.RowKit
def Ints (s:SV) (xs:List Int):Prop:=∃ (a:Option Addr) (cap sz:Nat) (rd:Nat→Nat→SV),s=.sl a xs.length cap sz rd∧(xs.length=0∨sz=1)∧(∀ i,i<xs.length→rd i 0=.i .i64 (xs.getD i 0))
theorem Nats.ints {s:SV} {n:Nat} (h:Nats s n):∃ xs,Ints s xs∧Dig xs n:=by
  obtain⟨a,cap,sz,rd,xs,e,hz,hr,hd⟩:=h;exact⟨xs,⟨a,cap,sz,rd,e,hz,hr⟩,hd⟩
theorem Ints.nats {s:SV} {xs:List Int} {n:Nat} (h:Ints s xs) (hd:Dig xs n):Nats s n:=by
  obtain⟨a,cap,sz,rd,e,hz,hr⟩:=h;exact⟨a,cap,sz,rd,xs,e,hz,hr,hd⟩
theorem rd_to {R:Nat→Prop} {w:World} {s:SV} {xs:List Int} (hs:s.ok R w) (hn:Ints s xs) (hR:∀ b,R b→b<w.heap.size):@Zn.Rd (zoneOf R w) .i64 w s.den xs:=by
  obtain⟨a,cap,sz,rd,rfl,hz,hrd⟩:=hn;obtain⟨h1,h2,h3⟩:=hs;refine⟨a,cap,rfl,h1,⟨h2,Nat.le_refl _,?_⟩,?_⟩
  · rcases h3 with h3|⟨blk,off,rfl,hr,_⟩
    · exact .inl h3
    · exact .inr fun x hx=>by cases hx;exact .inl hr
  · rcases h3 with h3|⟨blk,off,rfl,hr,hc⟩
    · exact .inl h3
    rcases hz with hz|rfl
    · exact .inl hz
    · refine .inr ⟨blk,off,rfl,hR _ hr,fun i hi=>?_⟩
      have:=(hc i 0 hi (by omega)).1;rw[hrd i hi,Nat.mul_one,Nat.add_zero] at this;exact this
theorem refTrimC (F:Frm) {s:SV} {xs:List Int} (h:Ints s xs) (hl:Qv xs):Contract F Tryz.prog 66 [s] (fun r=>Nats r (val xs).toNat):=by
  refine Zl Tryz.func66 rfl (by kernel_rfl) fun R w hargs hR=>?_;refine (@Zn.ref_trim_rd (zoneOf R w) _ _ w (rd_to (hargs s (by simp)) h hR)).mono ?_;rintro e w' ⟨v,rfl,hv,rfl⟩;obtain⟨t,rfl,ht,hok⟩:=nat_from (R:=R) (w:=w) (w':=w) (n:=(val xs).toNat) ⟨_,hv,Ze hl⟩;exact⟨t,rfl,ht,hok,Below.refl _ _⟩
def qb4:=And.intro @evr (And.intro @List.append_nil.{0} (And.intro @Int.toNat_zero (@Nat.sub_self)))
def qb3:=And.intro @evr (@evn)
set_option maxRecDepth 100000 in
theorem refOrderC (F:Frm) (x y:Int):Contract F Tryz.prog 82 [.i .i64 x,.i .i64 y] (fun r=>r=.i .i64 (cmpI x y)):=by
  refine Qf Tryz.func82 rfl (by kernel_rfl) ?_;simp only[Tryz.ntmps82,Qm];(repeat refine Qb ?_);(refine Qa fun k hk=>?_;simp -implicitDefEqProofs only[id,reduceCtorEq,reduceIte,Nat.reduceMul,Nat.reduceAdd,Nat.reduceLT,Nat.reduceLeDiff,Nat.reduceEqDiff,Int.reduceLT,Int.reduceBEq,Int.reduceBNe,Nat.reduceBEq,qb3];refine hk _ ?_;clear hk k;try show Sat _ _ _ _ _);(repeat refine Qb ?_);(refine Qa fun k hk=>?_;simp -implicitDefEqProofs only[id,reduceCtorEq,reduceIte,Nat.reduceMul,Nat.reduceAdd,Nat.reduceLT,Nat.reduceLeDiff,Nat.reduceEqDiff,Int.reduceLT,Int.reduceBEq,Int.reduceBNe,Nat.reduceBEq,qb3];refine hk _ ?_;clear hk k;try show Sat _ _ _ _ _);refine Qd rfl (fun h=>?_) (fun h=>?_)
  · simp only[decide_eq_true_eq] at h
    (repeat refine Qb ?_);(refine Qa fun k hk=>?_;simp -implicitDefEqProofs only[id,reduceCtorEq,reduceIte,Nat.reduceMul,Nat.reduceAdd,Nat.reduceLT,Nat.reduceLeDiff,Nat.reduceEqDiff,Int.reduceLT,Int.reduceBEq,Int.reduceBNe,Nat.reduceBEq,qb3];refine hk _ ?_;clear hk k;try show Sat _ _ _ _ _);refine Sat.ret ?_;simp only[Tryz.results82,id,seval,qb4];rw[ZA h]
  · simp only[decide_eq_false_iff_not] at h
    refine Sat.skip ?_;simp only[Qg];(repeat refine Qb ?_);(refine Qa fun k hk=>?_;simp -implicitDefEqProofs only[id,reduceCtorEq,reduceIte,Nat.reduceMul,Nat.reduceAdd,Nat.reduceLT,Nat.reduceLeDiff,Nat.reduceEqDiff,Int.reduceLT,Int.reduceBEq,Int.reduceBNe,Nat.reduceBEq,qb3];refine hk _ ?_;clear hk k;try show Sat _ _ _ _ _);refine Qd rfl (fun h2=>?_) (fun h2=>?_)
    · simp only[decide_eq_true_eq] at h2
      (repeat refine Qb ?_);(refine Qa fun k hk=>?_;simp -implicitDefEqProofs only[id,reduceCtorEq,reduceIte,Nat.reduceMul,Nat.reduceAdd,Nat.reduceLT,Nat.reduceLeDiff,Nat.reduceEqDiff,Int.reduceLT,Int.reduceBEq,Int.reduceBNe,Nat.reduceBEq,qb3];refine hk _ ?_;clear hk k;try show Sat _ _ _ _ _);refine Sat.ret ?_;simp only[Tryz.results82,id,seval,qb4];rw[cmpI_gt h2]
    · simp only[decide_eq_false_iff_not] at h2
      refine Sat.skip ?_;simp only[Qg];(repeat refine Qb ?_);(refine Qa fun k hk=>?_;simp -implicitDefEqProofs only[id,reduceCtorEq,reduceIte,Nat.reduceMul,Nat.reduceAdd,Nat.reduceLT,Nat.reduceLeDiff,Nat.reduceEqDiff,Int.reduceLT,Int.reduceBEq,Int.reduceBNe,Nat.reduceBEq,qb3];refine hk _ ?_;clear hk k;try show Sat _ _ _ _ _);refine Sat.ret ?_;simp only[Tryz.results82,id,seval,qb4];rw[cmpI_eq (by omega)]
set_option maxRecDepth 100000 in
theorem refLimbC (F:Frm) {s:SV} {xs:List Int} (h:Ints s xs) (i:Nat):Contract F Tryz.prog 88 [s,.i .i64 i] (fun r=>r=.i .i64 (xs.getD i 0)):=by
  obtain⟨a,cap,sz,rd,rfl,hz,hrd⟩:=h;refine Qf Tryz.func88 rfl (by kernel_rfl) ?_;simp only[Tryz.ntmps88,Qm];(repeat refine Qb ?_);(refine Qa fun k hk=>?_;simp -implicitDefEqProofs only[id,reduceCtorEq,reduceIte,Nat.reduceMul,Nat.reduceAdd,Nat.reduceLT,Nat.reduceLeDiff,Nat.reduceEqDiff,Int.reduceLT,Int.reduceBEq,Int.reduceBNe,Nat.reduceBEq,qb3];refine hk _ ?_;clear hk k;try show Sat _ _ _ _ _);(repeat refine Qb ?_);(refine Qa fun k hk=>?_;simp -implicitDefEqProofs only[id,reduceCtorEq,reduceIte,Nat.reduceMul,Nat.reduceAdd,Nat.reduceLT,Nat.reduceLeDiff,Nat.reduceEqDiff,Int.reduceLT,Int.reduceBEq,Int.reduceBNe,Nat.reduceBEq,qb3];refine hk _ ?_;clear hk k;try show Sat _ _ _ _ _);refine Qd rfl (fun h=>?_) (fun h=>?_)
  · simp only[decide_eq_true_eq] at h
    have hlt:i<xs.length:=by omega
    have hsz:sz=1:=by
      rcases hz with hz|hz
      · omega
      · exact hz
    subst hsz;(repeat refine Qb ?_);(refine Qa fun k hk=>?_;simp -implicitDefEqProofs only[id,reduceCtorEq,reduceIte,Nat.reduceMul,Nat.reduceAdd,Nat.reduceLT,Nat.reduceLeDiff,Nat.reduceEqDiff,Int.reduceLT,Int.reduceBEq,Int.reduceBNe,Nat.reduceBEq,qb3]);refine⟨by omega,?_⟩;rw[hrd i hlt];(refine hk _ ?_;clear hk k;try show Sat _ _ _ _ _);refine Sat.ret ?_;simp only[Tryz.results88,id,seval,qb4]
  · simp only[decide_eq_false_iff_not] at h
    refine Sat.skip ?_;simp only[Qg];(repeat refine Qb ?_);(refine Qa fun k hk=>?_;simp -implicitDefEqProofs only[id,reduceCtorEq,reduceIte,Nat.reduceMul,Nat.reduceAdd,Nat.reduceLT,Nat.reduceLeDiff,Nat.reduceEqDiff,Int.reduceLT,Int.reduceBEq,Int.reduceBNe,Nat.reduceBEq,qb3];refine hk _ ?_;clear hk k;try show Sat _ _ _ _ _);refine Sat.ret ?_;simp only[Tryz.results88,id,seval,qb4]
    have:xs.length≤i:=by omega
    simp [List.getD,this]
theorem getD_snoc_lt {os:List Int} {x:Int} {p:Nat} (h:p<os.length):(os ++ [x]).getD p 0=os.getD p 0:=by
  simp [List.getD,List.getElem?_append_left h]
theorem getD_snoc_eq {os:List Int} {x:Int}:(os ++ [x]).getD os.length 0=x:=by
  simp [List.getD]
theorem rd_snoc {os:List Int} {x y:Int} {n:Nat} (hn:os.length=n) (hx:y=x):rdEq (n+1) 1 (Q3 n (fun p _=>.i .i64 (os.getD p 0)) (rdL [.i .i64 y] 1)) (fun p _=>.i .i64 ((os ++ [x]).getD p 0)):=by
  subst hn;refine rdEq_one (fun p j hp hj=>?_) ?_
  · show SV.i .i64 _=SV.i .i64 _
    rw[getD_snoc_lt hp]
  · show SV.i .i64 _=SV.i .i64 _
    rw[getD_snoc_eq,hx]
def qb5:=And.intro @evr (And.intro @evl (@evn))
set_option maxRecDepth 100000 in
theorem refPlusC (F:Frm) {sa sb:SV} {m n:Nat} (ha:Nats sa m) (hb:Nats sb n) (b1:(m:Int)<pw 512) (b2:(n:Int)<pw 512):Contract F Tryz.prog 70 [sa,sb] (fun r=>Nats r (m+n)):=by
  obtain⟨xs,hi1,d1⟩:=ha.ints;obtain⟨ys,hi2,d2⟩:=hb.ints;have l1:=(d1.len_le 512).2 b1;have l2:=(d2.len_le 512).2 b2;have hj1:=hi1;have hj2:=hi2;obtain⟨a1,c1,z1,r1,rfl,_⟩:=hi1;obtain⟨a2,c2,z2,r2,rfl,_⟩:=hi2;refine Qf Tryz.func70 rfl (by kernel_rfl) ?_;simp only[Tryz.ntmps70,Qm];(repeat refine Qb ?_);(refine Qa fun k hk=>?_;simp -implicitDefEqProofs only[id,reduceCtorEq,reduceIte,Nat.reduceMul,Nat.reduceAdd,Nat.reduceLT,Nat.reduceLeDiff,Nat.reduceEqDiff,Int.reduceLT,Int.reduceBEq,Int.reduceBNe,Nat.reduceBEq,qb3];refine hk _ ?_;clear hk k;try show Sat _ _ _ _ _);(repeat refine Qb ?_);(refine Qa fun k hk=>?_;simp -implicitDefEqProofs only[id,reduceCtorEq,reduceIte,Nat.reduceMul,Nat.reduceAdd,Nat.reduceLT,Nat.reduceLeDiff,Nat.reduceEqDiff,Int.reduceLT,Int.reduceBEq,Int.reduceBNe,Nat.reduceBEq,qb3];refine hk _ ?_;clear hk k;try show Sat _ _ _ _ _);(repeat refine Qb ?_);(refine Qa fun k hk=>?_;simp -implicitDefEqProofs only[id,reduceCtorEq,reduceIte,Nat.reduceMul,Nat.reduceAdd,Nat.reduceLT,Nat.reduceLeDiff,Nat.reduceEqDiff,Int.reduceLT,Int.reduceBEq,Int.reduceBNe,Nat.reduceBEq,qb3];refine hk _ ?_;clear hk k;try show Sat _ _ _ _ _);(repeat refine Qb ?_);(refine Qa fun k hk=>?_;simp -implicitDefEqProofs only[id,reduceCtorEq,reduceIte,Nat.reduceMul,Nat.reduceAdd,Nat.reduceLT,Nat.reduceLeDiff,Nat.reduceEqDiff,Int.reduceLT,Int.reduceBEq,Int.reduceBNe,Nat.reduceBEq,qb3];refine hk _ ?_;clear hk k;try show Sat _ _ _ _ _);(repeat refine Qb ?_);refine Sat.block ?_;refine Zr 5 3 1 (fun p _=>.i .i64 (([]:List Int).getD p 0)) rfl ?_;refine Sat.loop (ι:=Nat×Int×List Int×Option Addr×Nat) (fun x=>⟨42,[(7,.i .i64 x.1),(6,.i .i64 x.2.1),(0,.sl a1 xs.length c1 z1 r1),(1,.sl a2 ys.length c2 z2 r2),(5,.os 0 x.2.2.2.1 x.1 x.2.2.2.2)],[.row x.2.2.2.1 3 x.1 x.2.2.2.2 1 (fun p _=>.i .i64 (x.2.2.1.getD p 0))]⟩)
    (fun x=>PlusInv xs ys x.2.2.1 x.1 x.2.1) (fun x=>2000 - x.1) (0,0,[],none,0) (PlusInv.start xs ys) (by simp -implicitDefEqProofs only[id,reduceCtorEq,reduceIte,Nat.reduceMul,Nat.reduceAdd,Nat.reduceLT,Nat.reduceLeDiff,Nat.reduceEqDiff,Int.reduceLT,Int.reduceBEq,Int.reduceBNe,Nat.reduceBEq,qb5];try rfl) ?_
  rintro⟨i,c,os,a,cap⟩ hinv;simp only at hinv ⊢;have t1:=hinv.tight;have t2:=hinv.c0;have t3:=hinv.c1;have t4:=hinv.len;have bx:=Qh d1.limbs i;have bY:=Qh d2.limbs i;have hi:i≤513:=by omega
  (repeat refine Qb ?_);refine Qj ⟨42,[(22,.b (decide (i<xs.length∨i<ys.length∨0<c))),(7,.i .i64 i),(6,.i .i64 c),(0,.sl a1 xs.length c1 z1 r1),(1,.sl a2 ys.length c2 z2 r2),(5,.os 0 a i cap)],[.row a 3 i cap 1 (fun p _=>.i .i64 (os.getD p 0))]⟩ (fun k hk=>?_) ?_
  · simp -implicitDefEqProofs only[id,reduceCtorEq,reduceIte,Nat.reduceMul,Nat.reduceAdd,Nat.reduceLT,Nat.reduceLeDiff,Nat.reduceEqDiff,Int.reduceLT,Int.reduceBEq,Int.reduceBNe,Nat.reduceBEq,qb3]
    refine⟨fun h=>?_,fun h=>⟨fun h2=>?_,fun h2=>?_⟩⟩
    · refine hk _ ?_
      have e:decide (i<xs.length∨i<ys.length∨0<c)=true:=decide_eq_true (.inl (by omega));rw[e];simp -implicitDefEqProofs only[id,reduceCtorEq,reduceIte,Nat.reduceMul,Nat.reduceAdd,Nat.reduceLT,Nat.reduceLeDiff,Nat.reduceEqDiff,Int.reduceLT,Int.reduceBEq,Int.reduceBNe,Nat.reduceBEq,qb5]
    · refine hk _ ?_
      have e:decide (i<xs.length∨i<ys.length∨0<c)=true:=decide_eq_true (.inr (.inl (by omega)));rw[e];simp -implicitDefEqProofs only[id,reduceCtorEq,reduceIte,Nat.reduceMul,Nat.reduceAdd,Nat.reduceLT,Nat.reduceLeDiff,Nat.reduceEqDiff,Int.reduceLT,Int.reduceBEq,Int.reduceBNe,Nat.reduceBEq,qb5]
    · refine hk _ ?_
      have e:decide (i<xs.length∨i<ys.length∨0<c)=decide (0<c):=by
        congr 1
        apply propext;constructor
        · rintro (h3|h3|h3)
          · omega
          · omega
          · exact h3
        · exact fun h3=>.inr (.inr h3)
      rw[e];simp -implicitDefEqProofs only[id,reduceCtorEq,reduceIte,Nat.reduceMul,Nat.reduceAdd,Nat.reduceLT,Nat.reduceLeDiff,Nat.reduceEqDiff,Int.reduceLT,Int.reduceBEq,Int.reduceBNe,Nat.reduceBEq,qb5]
  simp only[Qg];refine Qd rfl (fun h=>?_) (fun h=>?_)
  · have hg:i<xs.length∨i<ys.length∨0<c:=of_decide_eq_true h
    have hnext:=hinv.step d1.limbs d2.limbs hg;refine Sat.skip ?_;simp only[Qg];(repeat refine Qb ?_);refine Sat.block ?_;(repeat refine Qb ?_);(refine Qa fun k hk=>?_;simp -implicitDefEqProofs only[id,reduceCtorEq,reduceIte,Nat.reduceMul,Nat.reduceAdd,Nat.reduceLT,Nat.reduceLeDiff,Nat.reduceEqDiff,Int.reduceLT,Int.reduceBEq,Int.reduceBNe,Nat.reduceBEq,qb3]);refine Qe (refLimbC F hj1 i) (by simp -implicitDefEqProofs only[id,reduceCtorEq,reduceIte,Nat.reduceMul,Nat.reduceAdd,Nat.reduceLT,Nat.reduceLeDiff,Nat.reduceEqDiff,Int.reduceLT,Int.reduceBEq,Int.reduceBNe,Nat.reduceBEq,qb3];try rfl) (by rintro _ rfl;exact Qi rfl) ?_;rintro y rfl;simp -implicitDefEqProofs only[id,reduceCtorEq,reduceIte,Nat.reduceMul,Nat.reduceAdd,Nat.reduceLT,Nat.reduceLeDiff,Nat.reduceEqDiff,Int.reduceLT,Int.reduceBEq,Int.reduceBNe,Nat.reduceBEq,qb3];refine Qe (refLimbC F hj2 i) (by simp -implicitDefEqProofs only[id,reduceCtorEq,reduceIte,Nat.reduceMul,Nat.reduceAdd,Nat.reduceLT,Nat.reduceLeDiff,Nat.reduceEqDiff,Int.reduceLT,Int.reduceBEq,Int.reduceBNe,Nat.reduceBEq,qb3];try rfl) (by rintro _ rfl;exact Qi rfl) ?_;rintro y rfl;have w1:IntKind.i64.wrap (xs.getD i 0+ys.getD i 0)=xs.getD i 0+ys.getD i 0:=w64 (by omega);have w2:IntKind.i64.wrap (xs.getD i 0+ys.getD i 0+c)=xs.getD i 0+ys.getD i 0+c:=w64 (by omega);simp -implicitDefEqProofs only[id,reduceCtorEq,reduceIte,Nat.reduceMul,Nat.reduceAdd,Nat.reduceLT,Nat.reduceLeDiff,Nat.reduceEqDiff,Int.reduceLT,Int.reduceBEq,Int.reduceBNe,Nat.reduceBEq,w1,w2,qb3];refine hk _ ?_;clear hk k;try show Sat _ _ _ _ _
    have tm:(xs.getD i 0+ys.getD i 0+c).tmod 1073741824=(xs.getD i 0+ys.getD i 0+c) % 1073741824:=Int.tmod_eq_emod_of_nonneg (by omega)
    have td:IntKind.i64.wrap ((xs.getD i 0+ys.getD i 0+c).tdiv 1073741824)=(xs.getD i 0+ys.getD i 0+c) / 1073741824:=by
      rw[Int.tdiv_eq_ediv_of_nonneg (by omega),w64 (by omega)]
    have ti:IntKind.i64.wrap ((i:Int)+1)=((i+1:Nat):Int):=by rw[w64 (by omega)];omega
    (repeat refine Qb ?_);(refine Qa fun k hk=>?_;simp -implicitDefEqProofs only[id,reduceCtorEq,reduceIte,Nat.reduceMul,Nat.reduceAdd,Nat.reduceLT,Nat.reduceLeDiff,Nat.reduceEqDiff,Int.reduceLT,Int.reduceBEq,Int.reduceBNe,Nat.reduceBEq,qb3]);refine⟨by decide,fun blk=>?_⟩;refine⟨⟨by unfold maxLen;omega,by omega⟩,fun a2_1 cap2=>?_⟩;(refine hk _ ?_;clear hk k;try show Sat _ _ _ _ _);(repeat refine Qb ?_);refine Qa fun k hk=>?_;simp -implicitDefEqProofs only[id,reduceCtorEq,reduceIte,Nat.reduceMul,Nat.reduceAdd,Nat.reduceLT,Nat.reduceLeDiff,Nat.reduceEqDiff,Int.reduceLT,Int.reduceBEq,Int.reduceBNe,Nat.reduceBEq,td,qb3];refine⟨by decide,?_⟩;refine hk _ ?_;clear hk k;simp only[Qg,Qk];(repeat refine Qb ?_);refine Qa fun k hk=>?_;simp -implicitDefEqProofs only[id,reduceCtorEq,reduceIte,Nat.reduceMul,Nat.reduceAdd,Nat.reduceLT,Nat.reduceLeDiff,Nat.reduceEqDiff,Int.reduceLT,Int.reduceBEq,Int.reduceBNe,Nat.reduceBEq,ti,qb3];refine hk _ ?_;simp only[Qg,Qk];refine⟨(i+1,_,_,a2_1,cap2),hnext,by show 2000 - (i+1)<2000 - i;omega,?_⟩;simp -implicitDefEqProofs only[id,reduceCtorEq,reduceIte,Nat.reduceMul,Nat.reduceAdd,Nat.reduceLT,Nat.reduceLeDiff,Nat.reduceEqDiff,Int.reduceLT,Int.reduceBEq,Int.reduceBNe,Nat.reduceBEq,qb5];exact rd_snoc t4 tm
  · have hg:¬ (i<xs.length∨i<ys.length∨0<c):=of_decide_eq_false h
    have hd:=hinv.done d1 d2 (by omega) (by omega) (by omega);refine Sat.exit ?_;simp only[Qg,Qk,reduceIte];(repeat refine Qb ?_);(refine Qa fun k hk=>?_;simp -implicitDefEqProofs only[id,reduceCtorEq,reduceIte,Nat.reduceMul,Nat.reduceAdd,Nat.reduceLT,Nat.reduceLeDiff,Nat.reduceEqDiff,Int.reduceLT,Int.reduceBEq,Int.reduceBNe,Nat.reduceBEq,qb3];refine hk _ ?_;clear hk k;try show Sat _ _ _ _ _);refine Sat.ret ?_;simp only[Tryz.results70,id,seval,qb4];exact nats_of t4 (fun p hp=>rfl) hd
end Go.Proofs.YtabgkfjfmjdfiaaGreatDoor
