import Derived.Test.YtabgkfjfmjdfiaaGreatDoorRefF
set_option linter.unusedSimpArgs false
set_option linter.unusedVariables false
set_option linter.defProp false
namespace Go.Proofs.YtabgkfjfmjdfiaaGreatDoor
open Eng Lmb Go.RowKit
theorem rd_zero {n N:Nat} {rd:Nat→Nat→SV} (h:∀ p,rd p 0=.i .i64 0):rdEq n 1 rd (fun p _=>.i .i64 ((List.replicate N 0).getD p 0)):=by
  intro p j hp hj;obtain rfl:j=0:=by omega
  rw[h p];show SV.i .i64 0=SV.i .i64 _
  congr 1
  simp only[List.getD,List.getElem?_replicate];split<;>rfl
theorem rd_set {qs:List Int} {n ix:Nat} {x y:Int} (hx:y=x) (h:ix<qs.length):rdEq n 1 (rdSet (fun p _=>.i .i64 (qs.getD p 0)) ix 0 [.i .i64 y]) (fun p _=>.i .i64 ((qs.set ix x).getD p 0)):=by
  subst hx;intro p j hp hj;obtain rfl:j=0:=by omega
  unfold rdSet;show (if _ then _ else _)=SV.i .i64 _;rw[QU _ _ _ h];by_cases hpx:p=ix
  · subst hpx
    simp
  · rw[if_neg (by intro h;exact hpx h.1),if_neg (fun h=>hpx h.symm)]
def qb9:=And.intro @evr (And.intro @List.append_nil.{0} (@Nat.sub_self))
def qb10:=And.intro @evr (And.intro @List.append_nil.{0} (And.intro @Nat.sub_self (@evl)))
set_option maxRecDepth 100000 in
theorem refHalfC (F:Frm) {sa:SV} {m:Nat} (ha:Nats sa m) (b1:(m:Int)<pw 512):Contract F Tryz.prog 80 [sa] (fun r=>Nats r (m / 2)):=by
  obtain⟨xs,hi1,d1⟩:=ha.ints;have l1:=(d1.len_le 512).2 b1;obtain⟨a1,c1,z1,r1,rfl,hz1,hr1⟩:=hi1;refine Qf Tryz.func80 rfl (by kernel_rfl) ?_;simp only[Tryz.ntmps80,Qm];have e0:IntKind.i64.wrap ((xs.length:Int) - 1)=(xs.length:Int) - 1:=w64 (by omega);(repeat refine Qb ?_);(refine Qa fun k hk=>?_;simp -implicitDefEqProofs only[id,reduceCtorEq,reduceIte,Nat.reduceMul,Nat.reduceAdd,Nat.reduceLT,Nat.reduceLeDiff,Nat.reduceEqDiff,Int.reduceLT,Int.reduceBEq,Int.reduceBNe,Nat.reduceBEq,qb9];refine hk _ ?_;clear hk k;try show Sat _ _ _ _ _);(repeat refine Qb ?_);(refine Qa fun k hk=>?_;simp -implicitDefEqProofs only[id,reduceCtorEq,reduceIte,Nat.reduceMul,Nat.reduceAdd,Nat.reduceLT,Nat.reduceLeDiff,Nat.reduceEqDiff,Int.reduceLT,Int.reduceBEq,Int.reduceBNe,Nat.reduceBEq,qb9]);refine⟨by omega,fun a cap=>?_⟩;(refine hk _ ?_;clear hk k;try show Sat _ _ _ _ _);(repeat refine Qb ?_);(refine Qa fun k hk=>?_;simp -implicitDefEqProofs only[id,reduceCtorEq,reduceIte,Nat.reduceMul,Nat.reduceAdd,Nat.reduceLT,Nat.reduceLeDiff,Nat.reduceEqDiff,Int.reduceLT,Int.reduceBEq,Int.reduceBNe,Nat.reduceBEq,qb9];refine hk _ ?_;clear hk k;try show Sat _ _ _ _ _);(repeat refine Qb ?_);refine Qa fun k hk=>?_;simp -implicitDefEqProofs only[id,reduceCtorEq,reduceIte,Nat.reduceMul,Nat.reduceAdd,Nat.reduceLT,Nat.reduceLeDiff,Nat.reduceEqDiff,Int.reduceLT,Int.reduceBEq,Int.reduceBNe,Nat.reduceBEq,e0,qb9];(refine hk _ ?_;clear hk k;try show Sat _ _ _ _ _);(repeat refine Qb ?_);refine Sat.block ?_;(repeat refine Qb ?_);refine Sat.loop (ι:=Nat×Int×List Int) (fun x=>⟨33,[(5,.i .i64 ((x.1:Int) - 1)),(4,.i .i64 x.2.1),(3,.os 0 a xs.length cap),(0,.sl a1 xs.length c1 z1 r1)],[.row a 3 xs.length cap 1 (fun p _=>.i .i64 (x.2.2.getD p 0))]⟩)
    (fun x=>x.1≤xs.length∧SmallInv xs 2 x.1 x.2.2 x.2.1) (fun x=>x.1) (xs.length,0,List.replicate xs.length 0) ⟨Nat.le_refl _,SmallInv.start xs 2 (by decide)⟩ (by simp -implicitDefEqProofs only[id,reduceCtorEq,reduceIte,Nat.reduceMul,Nat.reduceAdd,Nat.reduceLT,Nat.reduceLeDiff,Nat.reduceEqDiff,Int.reduceLT,Int.reduceBEq,Int.reduceBNe,Nat.reduceBEq,qb10];exact rd_zero (fun p=>rfl)) ?_
  rintro⟨q,rest,qs⟩ ⟨hq,hinv⟩;simp only at hq hinv ⊢;have t1:=hinv.r0;have t2:=hinv.r1;have t3:=hinv.len;(repeat refine Qb ?_);(refine Qa fun k hk=>?_;simp -implicitDefEqProofs only[id,reduceCtorEq,reduceIte,Nat.reduceMul,Nat.reduceAdd,Nat.reduceLT,Nat.reduceLeDiff,Nat.reduceEqDiff,Int.reduceLT,Int.reduceBEq,Int.reduceBNe,Nat.reduceBEq,qb9];refine hk _ ?_;clear hk k;try show Sat _ _ _ _ _);(repeat refine Qb ?_);refine Qd rfl (fun h2=>?_) (fun h2=>?_)
  · simp only[decide_eq_true_eq] at h2
    obtain⟨j,rfl⟩:∃ j,q=j+1:=⟨q - 1,by omega⟩;have hj:j<xs.length:=by omega
    have ej:(((j+1:Nat):Int) - 1)=(j:Int):=by omega
    have ej2:IntKind.i64.wrap ((j:Int) - 1)=(j:Int) - 1:=w64 (by omega)
    have hsz1:z1=1:=by
      rcases hz1 with hz|hz
      · omega
      · exact hz
    subst hsz1;have g1:=hr1 j hj;have bx:=Qh d1.limbs j;have hnext:=hinv.step d1.limbs hj;have w1:IntKind.i64.wrap (rest * 1073741824)=rest * 1073741824:=w64 (by omega);have w2:IntKind.i64.wrap (xs.getD j 0+rest * 1073741824)=rest * 1073741824+xs.getD j 0:=by rw[w64 (by omega)];omega
    have tq:IntKind.i64.wrap ((rest * 1073741824+xs.getD j 0).tdiv 2)=(rest * 1073741824+xs.getD j 0) / 2:=by
      rw[Int.tdiv_eq_ediv_of_nonneg (by omega),w64 (by omega)]
    have tm:(rest * 1073741824+xs.getD j 0).tmod 2=(rest * 1073741824+xs.getD j 0) % 2:=Int.tmod_eq_emod_of_nonneg (by omega);refine Sat.skip ?_;simp only[Qg,ej];(repeat refine Qb ?_);refine Sat.block ?_;(repeat refine Qb ?_);refine Qa fun k hk=>?_;simp -implicitDefEqProofs only[id,reduceCtorEq,reduceIte,Nat.reduceMul,Nat.reduceAdd,Nat.reduceLT,Nat.reduceLeDiff,Nat.reduceEqDiff,Int.reduceLT,Int.reduceBEq,Int.reduceBNe,Nat.reduceBEq,qb9];refine⟨by omega,?_⟩;rw[g1];simp -implicitDefEqProofs only[id,reduceCtorEq,reduceIte,Nat.reduceMul,Nat.reduceAdd,Nat.reduceLT,Nat.reduceLeDiff,Nat.reduceEqDiff,Int.reduceLT,Int.reduceBEq,Int.reduceBNe,Nat.reduceBEq,w1,w2,qb9];(refine hk _ ?_;clear hk k;try show Sat _ _ _ _ _);(repeat refine Qb ?_);refine Qa fun k hk=>?_;simp -implicitDefEqProofs only[id,reduceCtorEq,reduceIte,Nat.reduceMul,Nat.reduceAdd,Nat.reduceLT,Nat.reduceLeDiff,Nat.reduceEqDiff,Int.reduceLT,Int.reduceBEq,Int.reduceBNe,Nat.reduceBEq,tq,qb9];refine⟨by decide,by omega,by omega,?_⟩;(refine hk _ ?_;clear hk k;try show Sat _ _ _ _ _);refine Qa fun k hk=>?_;simp -implicitDefEqProofs only[id,reduceCtorEq,reduceIte,Nat.reduceMul,Nat.reduceAdd,Nat.reduceLT,Nat.reduceLeDiff,Nat.reduceEqDiff,Int.reduceLT,Int.reduceBEq,Int.reduceBNe,Nat.reduceBEq,tm,qb9];refine⟨by decide,?_⟩;refine hk _ ?_;clear hk k;simp only[Qg,Qk];(repeat refine Qb ?_);refine Qa fun k hk=>?_;simp -implicitDefEqProofs only[id,reduceCtorEq,reduceIte,Nat.reduceMul,Nat.reduceAdd,Nat.reduceLT,Nat.reduceLeDiff,Nat.reduceEqDiff,Int.reduceLT,Int.reduceBEq,Int.reduceBNe,Nat.reduceBEq,ej2,qb9];refine hk _ ?_;simp only[Qg,Qk];refine⟨(j,(rest * 1073741824+xs.getD j 0) % 2,qs.set j ((rest * 1073741824+xs.getD j 0) / 2)),⟨by show j≤xs.length;omega,hnext⟩,by show j<j+1;omega,?_⟩;simp -implicitDefEqProofs only[id,reduceCtorEq,reduceIte,Nat.reduceMul,Nat.reduceAdd,Nat.reduceLT,Nat.reduceLeDiff,Nat.reduceEqDiff,Int.reduceLT,Int.reduceBEq,Int.reduceBNe,Nat.reduceBEq,qb10];exact rd_set rfl (by omega)
  · simp only[decide_eq_false_iff_not] at h2
    obtain rfl:q=0:=by omega
    have hd:=(hinv.done (n:=m) (c:=2) d1.val rfl).1
    have hv:(val qs).toNat=m / 2:=by
      have h8:=hd.val;rw[trim_val] at h8;omega
    refine Sat.exit ?_;simp only[Qg,Qk,reduceIte];(repeat refine Qb ?_);(refine Qa fun k hk=>?_;simp -implicitDefEqProofs only[id,reduceCtorEq,reduceIte,Nat.reduceMul,Nat.reduceAdd,Nat.reduceLT,Nat.reduceLeDiff,Nat.reduceEqDiff,Int.reduceLT,Int.reduceBEq,Int.reduceBNe,Nat.reduceBEq,qb9]);refine Qc (refTrimC F (s:=.sl a qs.length cap 1 (fun p _=>.i .i64 (qs.getD p 0))) ⟨a,cap,1,_,rfl,.inr rfl,fun p _=>rfl⟩ hinv.limbs) (by simp -implicitDefEqProofs only[id,reduceCtorEq,reduceIte,Nat.reduceMul,Nat.reduceAdd,Nat.reduceLT,Nat.reduceLeDiff,Nat.reduceEqDiff,Int.reduceLT,Int.reduceBEq,Int.reduceBNe,Nat.reduceBEq,qb9];try rfl) (by simp -implicitDefEqProofs only[id,reduceCtorEq,reduceIte,Nat.reduceMul,Nat.reduceAdd,Nat.reduceLT,Nat.reduceLeDiff,Nat.reduceEqDiff,Int.reduceLT,Int.reduceBEq,Int.reduceBNe,Nat.reduceBEq,t3,qb9];try rfl) ?_;intro y hy;rw[hv] at hy;have hs8:=hy;obtain⟨a8,c8,z8,r8,x8,rfl,_⟩:=hy;simp -implicitDefEqProofs only[id,reduceCtorEq,reduceIte,Nat.reduceMul,Nat.reduceAdd,Nat.reduceLT,Nat.reduceLeDiff,Nat.reduceEqDiff,Int.reduceLT,Int.reduceBEq,Int.reduceBNe,Nat.reduceBEq,qb9];(refine hk _ ?_;clear hk k;try show Sat _ _ _ _ _);refine Sat.ret ?_;simp only[Tryz.results80,id,seval,qb9];exact hs8
def TimIn (xs ys os:List Int) (j q:Nat) (c:Int) (qs:List Int):Prop:=(q≤ys.length∧MulIn xs ys os qs j q c)∨(q=ys.length+1∧c=0∧MulOut xs ys qs (j+1))
theorem TimIn.step {xs ys os qs:List Int} {j q:Nat} {c:Int} (h:TimIn xs ys os j q c qs) (dx:Qv xs) (dy:Qv ys) (ho:MulOut xs ys os j) (hj:j<xs.length) (hg:q<ys.length∨0<c) :
    TimIn xs ys os j (q+1) ((qs.getD (j+q) 0+xs.getD j 0 * ys.getD q 0+c) / 1073741824) (qs.set (j+q) ((qs.getD (j+q) 0+xs.getD j 0 * ys.getD q 0+c) % 1073741824)):=by
  rcases h with ⟨hq,h⟩|⟨hq,hc,_⟩
  · rcases (show q<ys.length∨q=ys.length by omega) with hlt|rfl
    · exact .inl ⟨hlt,h.step dx dy hj hlt⟩
    · right
      have z1:ys.getD ys.length 0=0:=by simp [List.getD]
      have z2:=h.zero (j+ys.length) (Nat.le_refl _);have c0:=h.c0;have c1:=h.c1;have e:qs.getD (j+ys.length) 0+xs.getD j 0 * ys.getD ys.length 0+c=c:=by rw[z1,z2];omega
      rw[e];have e1:c % 1073741824=c:=by omega
      have e2:c / 1073741824=0:=by omega
      rw[e1,e2];exact⟨rfl,rfl,h.done ho hj⟩
  · omega
theorem set_same {l:List Int} {i:Nat} (h:l.getD i 0=0) (hi:i<l.length):l.set i 0=l:=by
  have e:l[i]=0:=by simpa [List.getD,hi] using h
  rw[← e,List.set_getElem_self]
theorem TimIn.exit {xs ys os qs:List Int} {j q:Nat} {c:Int} (h:TimIn xs ys os j q c qs) (ho:MulOut xs ys os j) (hj:j<xs.length) (hg:¬ (q<ys.length∨0<c)):MulOut xs ys qs (j+1):=by
  rcases h with ⟨hq,h⟩|⟨hq,hc,h⟩
  · have c0:=h.c0
    have hc:c=0:=by omega
    have hq2:q=ys.length:=by omega
    subst hc hq2;have hd:=h.done ho hj
    rwa [set_same (h.zero _ (Nat.le_refl _)) (by have:=h.len;omega)] at hd
  · exact h
theorem TimIn.facts {xs ys os qs:List Int} {j q:Nat} {c:Int} (h:TimIn xs ys os j q c qs):qs.length=xs.length+ys.length∧Qv qs∧0≤c∧c<1073741824∧q≤ys.length+1:=by
  rcases h with ⟨hq,h⟩|⟨hq,hc,h⟩
  · exact⟨h.len,h.limbs,h.c0,h.c1,by omega⟩
  · exact⟨h.len,h.limbs,by omega,by omega,by omega⟩
set_option maxRecDepth 100000 in
theorem Q9 (F:Frm) {sa sb:SV} {m n:Nat} (ha:Nats sa m) (hb:Nats sb n) (b1:(m:Int)<pw 512) (b2:(n:Int)<pw 512):Contract F Tryz.prog 72 [sa,sb] (fun r=>Nats r (m * n)):=by
  obtain⟨xs,hi1,d1⟩:=ha.ints;obtain⟨ys,hi2,d2⟩:=hb.ints;have l1:=(d1.len_le 512).2 b1;have l2:=(d2.len_le 512).2 b2;have hj2:=hi2;obtain⟨a1,c1,z1,r1,rfl,hz1,hr1⟩:=hi1;obtain⟨a2,c2,z2,r2,rfl,hz2,hr2⟩:=hi2;refine Qf Tryz.func72 rfl (by kernel_rfl) ?_;simp only[Tryz.ntmps72,Qm];have e0:IntKind.i64.wrap ((xs.length:Int)+(ys.length:Int))=((xs.length+ys.length:Nat):Int):=by rw[w64 (by omega)];omega
  generalize hN:xs.length+ys.length=N at e0;(repeat refine Qb ?_);(refine Qa fun k hk=>?_;simp -implicitDefEqProofs only[id,reduceCtorEq,reduceIte,Nat.reduceMul,Nat.reduceAdd,Nat.reduceLT,Nat.reduceLeDiff,Nat.reduceEqDiff,Int.reduceLT,Int.reduceBEq,Int.reduceBNe,Nat.reduceBEq,qb9];refine hk _ ?_;clear hk k;try show Sat _ _ _ _ _);(repeat refine Qb ?_);refine Qa fun k hk=>?_;simp -implicitDefEqProofs only[id,reduceCtorEq,reduceIte,Nat.reduceMul,Nat.reduceAdd,Nat.reduceLT,Nat.reduceLeDiff,Nat.reduceEqDiff,Int.reduceLT,Int.reduceBEq,Int.reduceBNe,Nat.reduceBEq,e0,qb9];refine⟨by omega,fun a cap=>?_⟩;(refine hk _ ?_;clear hk k;try show Sat _ _ _ _ _);(repeat refine Qb ?_);(refine Qa fun k hk=>?_;simp -implicitDefEqProofs only[id,reduceCtorEq,reduceIte,Nat.reduceMul,Nat.reduceAdd,Nat.reduceLT,Nat.reduceLeDiff,Nat.reduceEqDiff,Int.reduceLT,Int.reduceBEq,Int.reduceBNe,Nat.reduceBEq,qb9];refine hk _ ?_;clear hk k;try show Sat _ _ _ _ _);(repeat refine Qb ?_);refine Sat.block ?_;(repeat refine Qb ?_);refine Sat.loop (ι:=Nat×List Int) (fun x=>⟨60,[(6,.i .i64 x.1),(5,.os 0 a N cap),(0,.sl a1 xs.length c1 z1 r1),(1,.sl a2 ys.length c2 z2 r2)],[.row a 3 N cap 1 (fun p _=>.i .i64 (x.2.getD p 0))]⟩)
    (fun x=>x.1≤xs.length∧MulOut xs ys x.2 x.1) (fun x=>xs.length - x.1) (0,List.replicate (xs.length+ys.length) 0) ⟨Nat.zero_le _,MulOut.start xs ys⟩ (by simp -implicitDefEqProofs only[id,reduceCtorEq,reduceIte,Nat.reduceMul,Nat.reduceAdd,Nat.reduceLT,Nat.reduceLeDiff,Nat.reduceEqDiff,Int.reduceLT,Int.reduceBEq,Int.reduceBNe,Nat.reduceBEq,qb10];exact⟨rfl,rd_zero (fun p=>rfl)⟩) ?_
  rintro⟨j,os⟩ ⟨hj,hout⟩;simp only at hj hout ⊢;(repeat refine Qb ?_);(refine Qa fun k hk=>?_;simp -implicitDefEqProofs only[id,reduceCtorEq,reduceIte,Nat.reduceMul,Nat.reduceAdd,Nat.reduceLT,Nat.reduceLeDiff,Nat.reduceEqDiff,Int.reduceLT,Int.reduceBEq,Int.reduceBNe,Nat.reduceBEq,qb9];refine hk _ ?_;clear hk k;try show Sat _ _ _ _ _);(repeat refine Qb ?_);refine Qd rfl (fun h=>?_) (fun h=>?_)
  · simp only[decide_eq_true_eq] at h
    have hjl:j<xs.length:=by omega
    have hsz1:z1=1:=by
      rcases hz1 with hz|hz
      · omega
      · exact hz
    subst hsz1;have g1:=hr1 j hjl;have bx:=Qh d1.limbs j;have ej1:IntKind.i64.wrap ((j:Int)+1)=((j+1:Nat):Int):=by rw[w64 (by omega)];omega
    refine Sat.skip ?_;simp only[Qg];(repeat refine Qb ?_);refine Sat.block ?_;(repeat refine Qb ?_);(refine Qa fun k hk=>?_;simp -implicitDefEqProofs only[id,reduceCtorEq,reduceIte,Nat.reduceMul,Nat.reduceAdd,Nat.reduceLT,Nat.reduceLeDiff,Nat.reduceEqDiff,Int.reduceLT,Int.reduceBEq,Int.reduceBNe,Nat.reduceBEq,qb9];refine hk _ ?_;clear hk k;try show Sat _ _ _ _ _);(repeat refine Qb ?_);(refine Qa fun k hk=>?_;simp -implicitDefEqProofs only[id,reduceCtorEq,reduceIte,Nat.reduceMul,Nat.reduceAdd,Nat.reduceLT,Nat.reduceLeDiff,Nat.reduceEqDiff,Int.reduceLT,Int.reduceBEq,Int.reduceBNe,Nat.reduceBEq,qb9];refine hk _ ?_;clear hk k;try show Sat _ _ _ _ _);(repeat refine Qb ?_);refine Sat.block ?_;(repeat refine Qb ?_);refine Sat.loop (ι:=Nat×Int×List Int) (fun x=>⟨60,[(8,.i .i64 x.1),(7,.i .i64 x.2.1),(6,.i .i64 j),(5,.os 0 a N cap),(0,.sl a1 xs.length c1 1 r1),(1,.sl a2 ys.length c2 z2 r2)],[.row a 3 N cap 1 (fun p _=>.i .i64 (x.2.2.getD p 0))]⟩)
      (fun x=>TimIn xs ys os j x.1 x.2.1 x.2.2) (fun x=>ys.length+1 - x.1) (0,0,os) (.inl ⟨Nat.zero_le _,MulIn.start hout⟩) (by simp -implicitDefEqProofs only[id,reduceCtorEq,reduceIte,Nat.reduceMul,Nat.reduceAdd,Nat.reduceLT,Nat.reduceLeDiff,Nat.reduceEqDiff,Int.reduceLT,Int.reduceBEq,Int.reduceBNe,Nat.reduceBEq,qb10];try rfl) ?_
    rintro⟨q,c,qs⟩ hin;simp only at hin ⊢;obtain⟨f1,f2,f3,f4,f5⟩:=hin.facts;have bo:=Qh f2 (j+q);have bY:=Qh d2.limbs q;have bp:=limb_prod bx bY;(repeat refine Qb ?_);refine Qj ⟨60,[(29,.b (decide (q<ys.length∨0<c))),(8,.i .i64 q),(7,.i .i64 c),(6,.i .i64 j),(5,.os 0 a N cap),(0,.sl a1 xs.length c1 1 r1),(1,.sl a2 ys.length c2 z2 r2)],[.row a 3 N cap 1 (fun p _=>.i .i64 (qs.getD p 0))]⟩ (fun k hk=>?_) ?_
    · simp -implicitDefEqProofs only[id,reduceCtorEq,reduceIte,Nat.reduceMul,Nat.reduceAdd,Nat.reduceLT,Nat.reduceLeDiff,Nat.reduceEqDiff,Int.reduceLT,Int.reduceBEq,Int.reduceBNe,Nat.reduceBEq,qb9]
      refine⟨fun h=>?_,fun h2=>?_⟩
      · refine hk _ ?_
        have e:decide (q<ys.length∨0<c)=true:=decide_eq_true (.inl (by omega));rw[e];simp -implicitDefEqProofs only[id,reduceCtorEq,reduceIte,Nat.reduceMul,Nat.reduceAdd,Nat.reduceLT,Nat.reduceLeDiff,Nat.reduceEqDiff,Int.reduceLT,Int.reduceBEq,Int.reduceBNe,Nat.reduceBEq,qb10]
      · refine hk _ ?_
        have e:decide (q<ys.length∨0<c)=decide (0<c):=by
          congr 1
          apply propext;constructor
          · rintro (h3|h3)
            · omega
            · exact h3
          · exact fun h3=>.inr h3
        rw[e];simp -implicitDefEqProofs only[id,reduceCtorEq,reduceIte,Nat.reduceMul,Nat.reduceAdd,Nat.reduceLT,Nat.reduceLeDiff,Nat.reduceEqDiff,Int.reduceLT,Int.reduceBEq,Int.reduceBNe,Nat.reduceBEq,qb10]
    simp only[Qg];refine Qd rfl (fun h3=>?_) (fun h3=>?_)
    · have hg:q<ys.length∨0<c:=of_decide_eq_true h3
      have hnext:=hin.step d1.limbs d2.limbs hout hjl hg
      have hql:q≤ys.length:=by
        rcases hin with h9|⟨h9,h10,_⟩
        · exact h9.1
        · omega
      have w0:IntKind.i64.wrap ((j:Int)+(q:Int))=((j+q:Nat):Int):=by rw[w64 (by omega)];omega
      have w1:IntKind.i64.wrap (xs.getD j 0 * ys.getD q 0)=xs.getD j 0 * ys.getD q 0:=w64 (by omega);have w2:IntKind.i64.wrap (qs.getD (j+q) 0+xs.getD j 0 * ys.getD q 0)=qs.getD (j+q) 0+xs.getD j 0 * ys.getD q 0:=w64 (by omega);have w3:IntKind.i64.wrap (qs.getD (j+q) 0+xs.getD j 0 * ys.getD q 0+c)=qs.getD (j+q) 0+xs.getD j 0 * ys.getD q 0+c:=w64 (by omega);refine Sat.skip ?_;simp only[Qg];(repeat refine Qb ?_);refine Sat.block ?_;(repeat refine Qb ?_);refine ZC (by kernel_rfl) (by kernel_rfl) fun k hk=>?_;simp -implicitDefEqProofs only[id,reduceCtorEq,reduceIte,Nat.reduceMul,Nat.reduceAdd,Nat.reduceLT,Nat.reduceLeDiff,Nat.reduceEqDiff,Int.reduceLT,Int.reduceBEq,Int.reduceBNe,Nat.reduceBEq,w0,qb9];refine⟨by omega,by omega,by omega,?_⟩;refine qcall (refLimbC Frm.nil hj2 q) (by simp -implicitDefEqProofs only[id,reduceCtorEq,reduceIte,Nat.reduceMul,Nat.reduceAdd,Nat.reduceLT,Nat.reduceLeDiff,Nat.reduceEqDiff,Int.reduceLT,Int.reduceBEq,Int.reduceBNe,Nat.reduceBEq,qb9];try rfl) (Qi rfl) ?_;rw[g1];simp -implicitDefEqProofs only[id,reduceCtorEq,reduceIte,Nat.reduceMul,Nat.reduceAdd,Nat.reduceLT,Nat.reduceLeDiff,Nat.reduceEqDiff,Int.reduceLT,Int.reduceBEq,Int.reduceBNe,Nat.reduceBEq,w1,w2,w3,qb9];refine hk _ ?_;clear hk k;try show Sat _ _ _ _ _
      generalize hxx:qs.getD (j+q) 0+xs.getD j 0 * ys.getD q 0+c=x at *;have bxx:0≤x∧x<2305843009213693952:=by omega
      have tm:x.tmod 1073741824=x % 1073741824:=Int.tmod_eq_emod_of_nonneg (by omega)
      have td:IntKind.i64.wrap (x.tdiv 1073741824)=x / 1073741824:=by
        rw[Int.tdiv_eq_ediv_of_nonneg (by omega),w64 (by omega)]
      have tq:IntKind.i64.wrap ((q:Int)+1)=((q+1:Nat):Int):=by rw[w64 (by omega)];omega
      (repeat refine Qb ?_);refine Qa fun k hk=>?_;simp -implicitDefEqProofs only[id,reduceCtorEq,reduceIte,Nat.reduceMul,Nat.reduceAdd,Nat.reduceLT,Nat.reduceLeDiff,Nat.reduceEqDiff,Int.reduceLT,Int.reduceBEq,Int.reduceBNe,Nat.reduceBEq,w0,tm,qb9];refine⟨by decide,by omega,by omega,?_⟩;(refine hk _ ?_;clear hk k;try show Sat _ _ _ _ _);refine Qa fun k hk=>?_;simp -implicitDefEqProofs only[id,reduceCtorEq,reduceIte,Nat.reduceMul,Nat.reduceAdd,Nat.reduceLT,Nat.reduceLeDiff,Nat.reduceEqDiff,Int.reduceLT,Int.reduceBEq,Int.reduceBNe,Nat.reduceBEq,td,qb9];refine⟨by decide,?_⟩;refine hk _ ?_;clear hk k;simp only[Qg,Qk];(repeat refine Qb ?_);refine Qa fun k hk=>?_;simp -implicitDefEqProofs only[id,reduceCtorEq,reduceIte,Nat.reduceMul,Nat.reduceAdd,Nat.reduceLT,Nat.reduceLeDiff,Nat.reduceEqDiff,Int.reduceLT,Int.reduceBEq,Int.reduceBNe,Nat.reduceBEq,tq,qb9];refine hk _ ?_;simp only[Qg,Qk];refine⟨(q+1,x / 1073741824,qs.set (j+q) (x % 1073741824)),hnext,by show ys.length+1 - (q+1)<ys.length+1 - q;omega,?_⟩;simp -implicitDefEqProofs only[id,reduceCtorEq,reduceIte,Nat.reduceMul,Nat.reduceAdd,Nat.reduceLT,Nat.reduceLeDiff,Nat.reduceEqDiff,Int.reduceLT,Int.reduceBEq,Int.reduceBNe,Nat.reduceBEq,qb10];exact rd_set rfl (by omega)
    · have hg:¬ (q<ys.length∨0<c):=of_decide_eq_false h3
      have hnext:=hin.exit hout hjl hg;refine Sat.exit ?_;simp only[Qg,Qk,reduceIte];(repeat refine Qb ?_);refine Qa fun k hk=>?_;simp -implicitDefEqProofs only[id,reduceCtorEq,reduceIte,Nat.reduceMul,Nat.reduceAdd,Nat.reduceLT,Nat.reduceLeDiff,Nat.reduceEqDiff,Int.reduceLT,Int.reduceBEq,Int.reduceBNe,Nat.reduceBEq,ej1,qb9];refine hk _ ?_;simp only[Qg,Qk];refine⟨(j+1,qs),⟨by show j+1≤xs.length;omega,hnext⟩,by show xs.length - (j+1)<xs.length - j;omega,?_⟩;simp -implicitDefEqProofs only[id,reduceCtorEq,reduceIte,Nat.reduceMul,Nat.reduceAdd,Nat.reduceLT,Nat.reduceLeDiff,Nat.reduceEqDiff,Int.reduceLT,Int.reduceBEq,Int.reduceBNe,Nat.reduceBEq,qb10]
  · simp only[decide_eq_false_iff_not] at h
    have hj9:j=xs.length:=by omega
    subst hj9;have hd:=hout.done d1.val d2.val
    have hv:(val os).toNat=m * n:=by
      have h8:=hd.val;rw[trim_val] at h8;omega
    have t3:=hout.len;refine Sat.exit ?_;simp only[Qg,Qk,reduceIte];(repeat refine Qb ?_);(refine Qa fun k hk=>?_;simp -implicitDefEqProofs only[id,reduceCtorEq,reduceIte,Nat.reduceMul,Nat.reduceAdd,Nat.reduceLT,Nat.reduceLeDiff,Nat.reduceEqDiff,Int.reduceLT,Int.reduceBEq,Int.reduceBNe,Nat.reduceBEq,qb9]);refine Qc (refTrimC F (s:=.sl a os.length cap 1 (fun p _=>.i .i64 (os.getD p 0))) ⟨a,cap,1,_,rfl,.inr rfl,fun p _=>rfl⟩ hout.limbs) (by simp -implicitDefEqProofs only[id,reduceCtorEq,reduceIte,Nat.reduceMul,Nat.reduceAdd,Nat.reduceLT,Nat.reduceLeDiff,Nat.reduceEqDiff,Int.reduceLT,Int.reduceBEq,Int.reduceBNe,Nat.reduceBEq,qb9];try rfl) (by simp -implicitDefEqProofs only[id,reduceCtorEq,reduceIte,Nat.reduceMul,Nat.reduceAdd,Nat.reduceLT,Nat.reduceLeDiff,Nat.reduceEqDiff,Int.reduceLT,Int.reduceBEq,Int.reduceBNe,Nat.reduceBEq,t3,hN,qb9];try rfl) ?_;intro y hy;rw[hv] at hy;have hs8:=hy;obtain⟨a8,c8,z8,r8,x8,rfl,_⟩:=hy;simp -implicitDefEqProofs only[id,reduceCtorEq,reduceIte,Nat.reduceMul,Nat.reduceAdd,Nat.reduceLT,Nat.reduceLeDiff,Nat.reduceEqDiff,Int.reduceLT,Int.reduceBEq,Int.reduceBNe,Nat.reduceBEq,qb9];(refine hk _ ?_;clear hk k;try show Sat _ _ _ _ _);refine Sat.ret ?_;simp only[Tryz.results72,id,seval,qb9];exact hs8
end Go.Proofs.YtabgkfjfmjdfiaaGreatDoor
