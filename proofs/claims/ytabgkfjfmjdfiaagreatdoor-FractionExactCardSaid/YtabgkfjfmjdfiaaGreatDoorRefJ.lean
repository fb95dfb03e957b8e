import Derived.Test.YtabgkfjfmjdfiaaGreatDoorRefI
set_option linter.unusedSimpArgs false
set_option linter.unusedVariables false
set_option linter.defProp false
namespace Go.Proofs.YtabgkfjfmjdfiaaGreatDoor
open Eng Lmb Go.RowKit
theorem Eng.Sat.know_sz {P:Program} {F:Frm} {c:Code} {K:Exit→St→Prop} {n:Nat} {env:List (Nat×SV)} {own:List Eng.Own} (t:Nat) {a:Option Addr} {len cap sz:Nat} {rd:Nat→Nat→SV} (hl:look env t=some (.sl a len cap sz rd)) (hz:len=0∨sz=1)
    (h:Sat P F c ⟨n,(t,.sl a len cap 1 rd) :: env,own⟩ K):Sat P F c ⟨n,env,own⟩ K:=by
  rintro R0 w0 ac w ⟨ob,R,hr⟩;refine h R0 w0 ac w ⟨ob,R,?_⟩;have hok:=(hr.env t _ hl).2;have hden:=(hr.env t _ hl).1;obtain⟨h1,h2,h3⟩:=hok;refine⟨hr.defers,?_,hr.size,hr.own,hr.dist,hr.evo,hr.inv,hr.obM,hr.gb,hr.obw,hr.rr,hr.r0⟩;intro u s2 hu;simp only[look] at hu;by_cases e:t=u
  · rw[if_pos e,Option.some.injEq] at hu
    subst e hu;refine⟨hden,h1,h2,?_⟩;rcases hz with hz|rfl
    · exact .inl hz
    · exact h3
  · rw[if_neg e] at hu
    exact hr.env u s2 hu
theorem Nats.sz {a:Option Addr} {len cap sz n:Nat} {rd:Nat→Nat→SV} (h:Nats (.sl a len cap sz rd) n):(len=0∨sz=1)∧Nats (.sl a len cap 1 rd) n:=by
  obtain⟨a',cap',sz',rd',xs,e,hz,hr,hd⟩:=h;simp only[SV.sl.injEq] at e;obtain⟨rfl,rfl,rfl,rfl,rfl⟩:=e;exact⟨hz,a,cap,1,rd,xs,rfl,.inr rfl,hr,hd⟩
theorem rd_cons {x:Int} {rs:List Int} {rr:Nat→Nat→SV} (hr:∀ i,i<rs.length→rr i 0=.i .i64 (rs.getD i 0)):∀ i,i<(x :: rs).length→Q3 1 (rdL [.i .i64 x] 1) rr i 0=.i .i64 ((x :: rs).getD i 0):=by
  intro i hi;unfold Q3;by_cases h:i<1
  · obtain rfl:i=0:=by omega
    rfl
  · obtain⟨j,rfl⟩:∃ j,i=j+1:=⟨i - 1,by omega⟩
    rw[if_neg h,Nat.add_sub_cancel,hr j (by simpa using hi)];simp
theorem nats_one {a:Option Addr} {cap x:Nat} (h0:0<x) (h1:x<1073741824):Nats (.sl a 1 cap 1 (rdL [SV.i .i64 (x:Int)] 1)) x:=
  nats_of (xs:=[(x:Int)]) rfl (fun p hp=>by
      obtain rfl:p=0:=by omega
      rfl) (dig_one h0 h1)
def qb15:=And.intro @evr (And.intro @List.append_nil.{0} (@Nat.sub_self))
def qb16:=And.intro @evr (And.intro @List.append_nil.{0} (And.intro @Nat.sub_self (@evl)))
set_option maxRecDepth 100000 in
theorem refSplitC (F:Frm) {sa sb:SV} {m n:Nat} (ha:Nats sa m) (hb:Nats sb n) (b1:(m:Int)<pw 256) (b2:(n:Int)<pw 256) (hn:0<n):Contract F Tryz.prog 79 [sa,sb] (fun r=>∃ s t,r=QW [s,t]∧Nats s (m / n)∧Nats t (m % n)):=by
  obtain⟨xs,hi1,d1⟩:=ha.ints;have l1:=(d1.len_le 256).2 b1;have hb':=hb;obtain⟨a1,c1,z1,r1,rfl,hz1,hr1⟩:=hi1;obtain⟨a2,c2,z2,r2,x2,rfl,_⟩:=hb;refine Qf Tryz.func79 rfl (by kernel_rfl) ?_;simp only[Tryz.ntmps79,Qm];have e0:IntKind.i64.wrap ((xs.length:Int) - 1)=(xs.length:Int) - 1:=w64 (by omega);(repeat refine Qb ?_);(refine Qa fun k hk=>?_;simp -implicitDefEqProofs only[id,reduceCtorEq,reduceIte,Nat.reduceMul,Nat.reduceAdd,Nat.reduceLT,Nat.reduceLeDiff,Nat.reduceEqDiff,Int.reduceLT,Int.reduceBEq,Int.reduceBNe,Nat.reduceBEq,qb15];refine hk _ ?_;clear hk k;try show Sat _ _ _ _ _);(repeat refine Qb ?_);(refine Qa fun k hk=>?_;simp -implicitDefEqProofs only[id,reduceCtorEq,reduceIte,Nat.reduceMul,Nat.reduceAdd,Nat.reduceLT,Nat.reduceLeDiff,Nat.reduceEqDiff,Int.reduceLT,Int.reduceBEq,Int.reduceBNe,Nat.reduceBEq,qb15]);refine⟨by omega,fun a cap=>?_⟩;(refine hk _ ?_;clear hk k;try show Sat _ _ _ _ _);(repeat refine Qb ?_);(refine Qa fun k hk=>?_;simp -implicitDefEqProofs only[id,reduceCtorEq,reduceIte,Nat.reduceMul,Nat.reduceAdd,Nat.reduceLT,Nat.reduceLeDiff,Nat.reduceEqDiff,Int.reduceLT,Int.reduceBEq,Int.reduceBNe,Nat.reduceBEq,qb15];refine hk _ ?_;clear hk k;try show Sat _ _ _ _ _);(repeat refine Qb ?_);refine Qa fun k hk=>?_;simp -implicitDefEqProofs only[id,reduceCtorEq,reduceIte,Nat.reduceMul,Nat.reduceAdd,Nat.reduceLT,Nat.reduceLeDiff,Nat.reduceEqDiff,Int.reduceLT,Int.reduceBEq,Int.reduceBNe,Nat.reduceBEq,e0,qb15];(refine hk _ ?_;clear hk k;try show Sat _ _ _ _ _);(repeat refine Qb ?_);refine Sat.block ?_;(repeat refine Qb ?_);refine Sat.loop (ι:=(Nat×List Int)×(SV×Nat)) (fun x=>⟨65,[(8,.i .i64 ((x.1.1:Int) - 1)),(6,.os 0 a xs.length cap),(7,x.2.1),(0,.sl a1 xs.length c1 z1 r1),(1,.sl a2 x2.length c2 z2 r2)],[.row a 3 xs.length cap 1 (fun p _=>.i .i64 (x.1.2.getD p 0))]⟩)
    (fun x=>x.1.1≤xs.length∧SplitInv xs x.1.2 x.1.1 n x.2.2∧Nats x.2.1 x.2.2∧∀ i,i<x.1.1→x.1.2.getD i 0=0) (fun x=>x.1.1) ((xs.length,List.replicate xs.length 0),(.sl none 0 0 0 (fun _ _=>.v undef),0)) ⟨Nat.le_refl _,SplitInv.start xs hn,Nats.nil,fun i hi=>by simp only[List.getD,List.getElem?_replicate];split<;>rfl⟩ (by simp -implicitDefEqProofs only[id,reduceCtorEq,reduceIte,Nat.reduceMul,Nat.reduceAdd,Nat.reduceLT,Nat.reduceLeDiff,Nat.reduceEqDiff,Int.reduceLT,Int.reduceBEq,Int.reduceBNe,Nat.reduceBEq,qb16];first|exact rd_zero (fun p=>rfl)|exact⟨rfl,rd_zero (fun p=>rfl)⟩) ?_
  rintro⟨⟨q,qs⟩,⟨sr,r⟩⟩ ⟨hq,hinv,hr,hlow⟩;simp only at hq hinv hr hlow ⊢;obtain⟨rs,hir,dr⟩:=hr.ints;have hr':=hr;obtain⟨a3,c3,z3,r3,rfl,hz3,hr3⟩:=hir;have hrl:rs.length≤256:=(dr.len_le 256).2 (by have:=hinv.lt;omega);(repeat refine Qb ?_);(refine Qa fun k hk=>?_;simp -implicitDefEqProofs only[id,reduceCtorEq,reduceIte,Nat.reduceMul,Nat.reduceAdd,Nat.reduceLT,Nat.reduceLeDiff,Nat.reduceEqDiff,Int.reduceLT,Int.reduceBEq,Int.reduceBNe,Nat.reduceBEq,qb15];refine hk _ ?_;clear hk k;try show Sat _ _ _ _ _);(repeat refine Qb ?_);refine Qd rfl (fun h2=>?_) (fun h2=>?_)
  · simp only[decide_eq_true_eq] at h2
    obtain⟨j,rfl⟩:∃ j,q=j+1:=⟨q - 1,by omega⟩;have hj:j<xs.length:=by omega
    have ej:(((j+1:Nat):Int) - 1)=(j:Int):=by omega
    have ej2:IntKind.i64.wrap ((j:Int) - 1)=(j:Int) - 1:=w64 (by omega)
    have hsz1:z1=1:=by
      rcases hz1 with hz|hz
      · omega
      · exact hz
    subst hsz1;have g1:=hr1 j hj;have bx:=Qh d1.limbs j;refine Sat.skip ?_;simp only[Qg,ej];(repeat refine Qb ?_);refine Sat.block ?_;refine Sat.know_sz 7 rfl hz3 ?_;(repeat refine Qb ?_);refine Qa fun k hk=>?_;simp -implicitDefEqProofs only[id,reduceCtorEq,reduceIte,Nat.reduceMul,Nat.reduceAdd,Nat.reduceLT,Nat.reduceLeDiff,Nat.reduceEqDiff,Int.reduceLT,Int.reduceBEq,Int.reduceBNe,Nat.reduceBEq,qb15];refine⟨by omega,?_⟩;rw[g1];simp -implicitDefEqProofs only[id,reduceCtorEq,reduceIte,Nat.reduceMul,Nat.reduceAdd,Nat.reduceLT,Nat.reduceLeDiff,Nat.reduceEqDiff,Int.reduceLT,Int.reduceBEq,Int.reduceBNe,Nat.reduceBEq,qb15];intro blk;refine⟨⟨by unfold maxLen;omega,by omega⟩,fun a2_1 cap2=>?_⟩;have e1:1+rs.length=(xs.getD j 0 :: rs).length:=by rw[List.length_cons];omega
    have hlim:Qv (xs.getD j 0 :: rs):=QB.2 ⟨bx,dr.limbs⟩;refine Qc (refTrimC F (s:=.sl a2_1 (xs.getD j 0 :: rs).length cap2 1 (Q3 1 (rdL [.i .i64 (xs.getD j 0)] 1) r3)) ⟨_,_,1,_,rfl,.inr rfl,rd_cons hr3⟩ hlim) (by simp -implicitDefEqProofs only[id,reduceCtorEq,reduceIte,Nat.reduceMul,Nat.reduceAdd,Nat.reduceLT,Nat.reduceLeDiff,Nat.reduceEqDiff,Int.reduceLT,Int.reduceBEq,Int.reduceBNe,Nat.reduceBEq,qb15];try rfl) (by simp -implicitDefEqProofs only[id,reduceCtorEq,reduceIte,Nat.reduceMul,Nat.reduceAdd,Nat.reduceLT,Nat.reduceLeDiff,Nat.reduceEqDiff,Int.reduceLT,Int.reduceBEq,Int.reduceBNe,Nat.reduceBEq,e1,qb15];try rfl) ?_;intro y hy;have hs4:=hy;obtain⟨a4,c4,z4,r4,x4,rfl,_⟩:=hy;simp -implicitDefEqProofs only[id,reduceCtorEq,reduceIte,Nat.reduceMul,Nat.reduceAdd,Nat.reduceLT,Nat.reduceLeDiff,Nat.reduceEqDiff,Int.reduceLT,Int.reduceBEq,Int.reduceBNe,Nat.reduceBEq,qb15];(refine hk _ ?_;clear hk k;try show Sat _ _ _ _ _);obtain⟨tt,htt⟩:∃ tt:Nat,val (xs.getD j 0 :: rs)=(tt:Int):=⟨_,(Int.toNat_of_nonneg (Qp hlim)).symm⟩
    have htr:(xs.getD j 0).toNat+1073741824 * r=tt:=by
      rw[Qz,dr.val] at htt;omega
    rw[htt,Int.toNat_natCast] at hs4;have hrn:=hinv.lt
    have btt:(tt:Int)<pw 512:=by
      have h1:pw 512=pw 256 * pw 256:=pw_add 256 256
      have h2:(1073741824:Int)≤pw 256:=by
        have:=QI (show 1≤256 by omega);rw[QF,Q8] at this;omega
      have h3:1073741824 * (n:Int)≤pw 256 * pw 256:=Int.mul_le_mul h2 (by omega) (by omega) (by omega);omega
    (repeat refine Qb ?_);(refine Qa fun k hk=>?_;simp -implicitDefEqProofs only[id,reduceCtorEq,reduceIte,Nat.reduceMul,Nat.reduceAdd,Nat.reduceLT,Nat.reduceLeDiff,Nat.reduceEqDiff,Int.reduceLT,Int.reduceBEq,Int.reduceBNe,Nat.reduceBEq,qb15]);refine Qe (refCompareC F hs4 hb' btt) rfl (by rintro _ rfl;exact Qi rfl) ?_;rintro y rfl;simp -implicitDefEqProofs only[id,reduceCtorEq,reduceIte,Nat.reduceMul,Nat.reduceAdd,Nat.reduceLT,Nat.reduceLeDiff,Nat.reduceEqDiff,Int.reduceLT,Int.reduceBEq,Int.reduceBNe,Nat.reduceBEq,qb15];(refine hk _ ?_;clear hk k;try show Sat _ _ _ _ _);refine Qd rfl (fun h9=>?_) (fun h9=>?_)
    · have hlt:tt<n:=by
        by_cases h10:tt<n
        · exact h10
        exfalso;by_cases h11:n<tt
        · rw[cmpI_gt (by omega)] at h9;exact absurd h9 (by decide)
        · rw[cmpI_eq (by omega)] at h9;exact absurd h9 (by decide)
      have hst:=(hinv.step d1.limbs hj (d:=0) (r':=tt) (by omega) hlt).1;rw[show ((0:Nat):Int)=0 by rfl,set_same (hlow j (by omega)) (by have:=hinv.len;omega)] at hst;refine Sat.exit ?_;simp only[Qg,Qk,reduceIte];(repeat refine Qb ?_);refine Qa fun k hk=>?_;simp -implicitDefEqProofs only[id,reduceCtorEq,reduceIte,Nat.reduceMul,Nat.reduceAdd,Nat.reduceLT,Nat.reduceLeDiff,Nat.reduceEqDiff,Int.reduceLT,Int.reduceBEq,Int.reduceBNe,Nat.reduceBEq,ej2,qb15];refine hk _ ?_;simp only[Qg,Qk];refine⟨((j,qs),(_,tt)),⟨by show j≤xs.length;omega,hst,hs4,fun i hi=>hlow i (by show i<j+1;have:i<j:=hi;omega)⟩,by show j<j+1;omega,?_⟩;simp -implicitDefEqProofs only[id,reduceCtorEq,reduceIte,Nat.reduceMul,Nat.reduceAdd,Nat.reduceLT,Nat.reduceLeDiff,Nat.reduceEqDiff,Int.reduceLT,Int.reduceBEq,Int.reduceBNe,Nat.reduceBEq,qb16]
    have hge:n≤tt:=by
      by_cases h10:tt<n
      · rw[ZA (by omega)] at h9;exact absurd h9 (by decide)
      · omega
    have hstep:=hinv.step d1.limbs hj (d:=tt / n) (r':=tt % n) (by rw[htr,Nat.mul_comm];exact (Nat.div_add_mod tt n).symm) (Nat.mod_lt _ hn);have hd1:1≤tt / n:=(Nat.one_le_div_iff hn).2 hge;have hd2:=hstep.2;have hst:=hstep.1;have hdm:=Nat.div_add_mod tt n;generalize hde:tt / n=d at hd1 hd2 hst hdm
    have bmul:∀ z:Nat,z≤1073741823→(z:Int)<pw 256∧(z:Int)<pw 512∧((n * z:Nat):Int)<pw 512:=fun z hz=>by
      have h1:pw 512=pw 256 * pw 256:=pw_add 256 256
      have h2:(1073741824:Int)≤pw 256:=by
        have:=QI (show 1≤256 by omega);rw[QF,Q8] at this;omega
      have h3:(n:Int) * z≤(n:Int) * 1073741824:=Int.mul_le_mul_of_nonneg_left (by omega) (by omega);have h4:(n:Int) * 1073741824<pw 256 * 1073741824:=Int.mul_lt_mul_of_pos_right b2 (by decide);have h5:pw 256 * 1073741824≤pw 256 * pw 256:=Int.mul_le_mul_of_nonneg_left h2 (by omega)
      have h6:(1073741824:Int)≤pw 512:=by
        have:=QI (show 256≤512 by omega);omega
      refine⟨by omega,by omega,?_⟩;rw[Int.natCast_mul];omega
    refine Sat.skip ?_;simp only[Qg];(repeat refine Qb ?_);(refine Qa fun k hk=>?_;simp -implicitDefEqProofs only[id,reduceCtorEq,reduceIte,Nat.reduceMul,Nat.reduceAdd,Nat.reduceLT,Nat.reduceLeDiff,Nat.reduceEqDiff,Int.reduceLT,Int.reduceBEq,Int.reduceBNe,Nat.reduceBEq,qb15];refine hk _ ?_;clear hk k;try show Sat _ _ _ _ _);(repeat refine Qb ?_);refine Sat.block ?_;(repeat refine Qb ?_);refine Sat.loop (ι:=Nat×Nat) (fun x=>⟨65,[(9,.i .i64 (x.1:Int)),(10,.i .i64 (x.2:Int)),(8,.i .i64 (j:Int)),(6,.os 0 a xs.length cap),(7,.sl a4 x4.length c4 z4 r4),(0,.sl a1 xs.length c1 1 r1),(1,.sl a2 x2.length c2 z2 r2)],[.row a 3 xs.length cap 1 (fun p _=>.i .i64 (qs.getD p 0))]⟩)
      (fun x=>1≤x.1∧x.1≤d∧d≤x.2∧x.2≤1073741823) (fun x=>x.2 - x.1) (1,1073741823) ⟨Nat.le_refl _,hd1,by omega,Nat.le_refl _⟩ (by simp -implicitDefEqProofs only[id,reduceCtorEq,reduceIte,Nat.reduceMul,Nat.reduceAdd,Nat.reduceLT,Nat.reduceLeDiff,Nat.reduceEqDiff,Int.reduceLT,Int.reduceBEq,Int.reduceBNe,Nat.reduceBEq,qb16];exact⟨rfl,rfl⟩) ?_
    rintro⟨low,high⟩ ⟨i1,i2,i3,i4⟩;simp only at i1 i2 i3 i4 ⊢;(repeat refine Qb ?_);(refine Qa fun k hk=>?_;simp -implicitDefEqProofs only[id,reduceCtorEq,reduceIte,Nat.reduceMul,Nat.reduceAdd,Nat.reduceLT,Nat.reduceLeDiff,Nat.reduceEqDiff,Int.reduceLT,Int.reduceBEq,Int.reduceBNe,Nat.reduceBEq,qb15];refine hk _ ?_;clear hk k;try show Sat _ _ _ _ _);(repeat refine Qb ?_);refine Qd rfl (fun h3=>?_) (fun h3=>?_)
    · simp only[decide_eq_true_eq] at h3
      have e1:IntKind.i64.wrap ((low:Int)+(high:Int))=(low:Int)+high:=w64 (by omega);have e2:IntKind.i64.wrap ((low:Int)+(high:Int)+1)=(low:Int)+high+1:=w64 (by omega)
      have e3:IntKind.i64.wrap (((low:Int)+(high:Int)+1).tdiv 2)=(((low+high+1) / 2:Nat):Int):=by
        rw[Int.tdiv_eq_ediv_of_nonneg (by omega),w64 (by omega)];omega
      have hmlo:low<(low+high+1) / 2:=by omega
      have hmhi:(low+high+1) / 2≤high:=by omega
      refine Sat.skip ?_;simp only[Qg];(repeat refine Qb ?_);refine Sat.block ?_;(repeat refine Qb ?_);refine Qa fun k hk=>?_;simp -implicitDefEqProofs only[id,reduceCtorEq,reduceIte,Nat.reduceMul,Nat.reduceAdd,Nat.reduceLT,Nat.reduceLeDiff,Nat.reduceEqDiff,Int.reduceLT,Int.reduceBEq,Int.reduceBNe,Nat.reduceBEq,e1,e2,e3,qb15];refine⟨by decide,?_⟩;generalize (low+high+1) / 2=mid at hmlo hmhi;(refine hk _ ?_;clear hk k;try show Sat _ _ _ _ _);(repeat refine Qb ?_);obtain⟨bm0,bm1,bm2⟩:=bmul mid (by omega);(refine Qa fun k hk=>?_;simp -implicitDefEqProofs only[id,reduceCtorEq,reduceIte,Nat.reduceMul,Nat.reduceAdd,Nat.reduceLT,Nat.reduceLeDiff,Nat.reduceEqDiff,Int.reduceLT,Int.reduceBEq,Int.reduceBNe,Nat.reduceBEq,qb15]);intro blk;have hms:Nats (.sl (some ⟨blk,0,none⟩) 1 1 1 (rdL [SV.i .i64 (mid:Int)] 1)) mid:=nats_one (by omega) (by omega);refine Qc (Q9 F hb' hms (by have:=QI (show 256≤512 by omega);omega) bm1) (by simp -implicitDefEqProofs only[id,reduceCtorEq,reduceIte,Nat.reduceMul,Nat.reduceAdd,Nat.reduceLT,Nat.reduceLeDiff,Nat.reduceEqDiff,Int.reduceLT,Int.reduceBEq,Int.reduceBNe,Nat.reduceBEq,qb15];try rfl) (by simp -implicitDefEqProofs only[id,reduceCtorEq,reduceIte,Nat.reduceMul,Nat.reduceAdd,Nat.reduceLT,Nat.reduceLeDiff,Nat.reduceEqDiff,Int.reduceLT,Int.reduceBEq,Int.reduceBNe,Nat.reduceBEq,qb15];try rfl) ?_;intro y hy;have hs5:=hy;obtain⟨a5,c5,z5,r5,x5,rfl,_⟩:=hy;simp -implicitDefEqProofs only[id,reduceCtorEq,reduceIte,Nat.reduceMul,Nat.reduceAdd,Nat.reduceLT,Nat.reduceLeDiff,Nat.reduceEqDiff,Int.reduceLT,Int.reduceBEq,Int.reduceBNe,Nat.reduceBEq,qb15];refine Qe (refCompareC F hs5 hs4 bm2) rfl (by rintro _ rfl;exact Qi rfl) ?_;rintro y rfl;simp -implicitDefEqProofs only[id,reduceCtorEq,reduceIte,Nat.reduceMul,Nat.reduceAdd,Nat.reduceLT,Nat.reduceLeDiff,Nat.reduceEqDiff,Int.reduceLT,Int.reduceBEq,Int.reduceBNe,Nat.reduceBEq,qb15];(refine hk _ ?_;clear hk k;try show Sat _ _ _ _ _);refine Qd rfl (fun h9=>?_) (fun h9=>?_)
      · have hle:mid≤d:=by
          rw[← hde,Nat.le_div_iff_mul_le hn,Nat.mul_comm];by_cases h10:n * mid≤tt
          · exact h10
          · rw[cmpI_gt (by omega)] at h9;exact absurd h9 (by decide)
        (refine Qa fun k hk=>?_;simp -implicitDefEqProofs only[id,reduceCtorEq,reduceIte,Nat.reduceMul,Nat.reduceAdd,Nat.reduceLT,Nat.reduceLeDiff,Nat.reduceEqDiff,Int.reduceLT,Int.reduceBEq,Int.reduceBNe,Nat.reduceBEq,qb15]);refine hk _ ?_;simp only[Qg,Qk];refine⟨(mid,high),⟨by show 1≤mid;omega,hle,i3,i4⟩,by show high - mid<high - low;omega,?_⟩;simp -implicitDefEqProofs only[id,reduceCtorEq,reduceIte,Nat.reduceMul,Nat.reduceAdd,Nat.reduceLT,Nat.reduceLeDiff,Nat.reduceEqDiff,Int.reduceLT,Int.reduceBEq,Int.reduceBNe,Nat.reduceBEq,qb16]
      · have hlt:d<mid:=by
          rw[← hde,Nat.div_lt_iff_lt_mul hn,Nat.mul_comm];by_cases h10:tt<n * mid
          · exact h10
          exfalso;by_cases h11:n * mid<tt
          · rw[ZA (by omega)] at h9;exact absurd h9 (by decide)
          · rw[cmpI_eq (by omega)] at h9;exact absurd h9 (by decide)
        have e5:IntKind.i64.wrap ((mid:Int) - 1)=((mid - 1:Nat):Int):=by rw[w64 (by omega)];omega
        refine Qa fun k hk=>?_;simp -implicitDefEqProofs only[id,reduceCtorEq,reduceIte,Nat.reduceMul,Nat.reduceAdd,Nat.reduceLT,Nat.reduceLeDiff,Nat.reduceEqDiff,Int.reduceLT,Int.reduceBEq,Int.reduceBNe,Nat.reduceBEq,e5,qb15];refine hk _ ?_;simp only[Qg,Qk];refine⟨(low,mid - 1),⟨i1,i2,by show d≤mid - 1;omega,by show mid - 1≤1073741823;omega⟩,by show mid - 1 - low<high - low;omega,?_⟩;simp -implicitDefEqProofs only[id,reduceCtorEq,reduceIte,Nat.reduceMul,Nat.reduceAdd,Nat.reduceLT,Nat.reduceLeDiff,Nat.reduceEqDiff,Int.reduceLT,Int.reduceBEq,Int.reduceBNe,Nat.reduceBEq,qb16]
    · simp only[decide_eq_false_iff_not] at h3
      obtain rfl:high=low:=by omega
      obtain rfl:high=d:=by omega
      clear i1 i2 i3 h3;obtain⟨bm0,bm1,bm2⟩:=bmul high (by omega);have hdle:n * high≤tt:=by omega
      have hsub:tt - n * high=tt % n:=by omega
      refine Sat.exit ?_;simp only[Qg,Qk,reduceIte];(repeat refine Qb ?_);(refine Qa fun k hk=>?_;simp -implicitDefEqProofs only[id,reduceCtorEq,reduceIte,Nat.reduceMul,Nat.reduceAdd,Nat.reduceLT,Nat.reduceLeDiff,Nat.reduceEqDiff,Int.reduceLT,Int.reduceBEq,Int.reduceBNe,Nat.reduceBEq,qb15]);refine⟨by omega,by omega,?_⟩;(refine hk _ ?_;clear hk k;try show Sat _ _ _ _ _);(repeat refine Qb ?_);(refine Qa fun k hk=>?_;simp -implicitDefEqProofs only[id,reduceCtorEq,reduceIte,Nat.reduceMul,Nat.reduceAdd,Nat.reduceLT,Nat.reduceLeDiff,Nat.reduceEqDiff,Int.reduceLT,Int.reduceBEq,Int.reduceBNe,Nat.reduceBEq,qb15]);intro blk;have hms:Nats (.sl (some ⟨blk,0,none⟩) 1 1 1 (rdL [SV.i .i64 (high:Int)] 1)) high:=nats_one (by omega) (by omega);refine Qc (Q9 F hb' hms (by have:=QI (show 256≤512 by omega);omega) bm1) (by simp -implicitDefEqProofs only[id,reduceCtorEq,reduceIte,Nat.reduceMul,Nat.reduceAdd,Nat.reduceLT,Nat.reduceLeDiff,Nat.reduceEqDiff,Int.reduceLT,Int.reduceBEq,Int.reduceBNe,Nat.reduceBEq,qb15];try rfl) (by simp -implicitDefEqProofs only[id,reduceCtorEq,reduceIte,Nat.reduceMul,Nat.reduceAdd,Nat.reduceLT,Nat.reduceLeDiff,Nat.reduceEqDiff,Int.reduceLT,Int.reduceBEq,Int.reduceBNe,Nat.reduceBEq,qb15];try rfl) ?_;intro y hy;have hs5:=hy;obtain⟨a5,c5,z5,r5,x5,rfl,_⟩:=hy;simp -implicitDefEqProofs only[id,reduceCtorEq,reduceIte,Nat.reduceMul,Nat.reduceAdd,Nat.reduceLT,Nat.reduceLeDiff,Nat.reduceEqDiff,Int.reduceLT,Int.reduceBEq,Int.reduceBNe,Nat.reduceBEq,qb15];refine Qc (refLessC F hs4 hs5 btt hdle) rfl rfl ?_;intro y hy;rw[hsub] at hy;have hs6:=hy;obtain⟨a6,c6,z6,r6,x6,rfl,_⟩:=hy;simp -implicitDefEqProofs only[id,reduceCtorEq,reduceIte,Nat.reduceMul,Nat.reduceAdd,Nat.reduceLT,Nat.reduceLeDiff,Nat.reduceEqDiff,Int.reduceLT,Int.reduceBEq,Int.reduceBNe,Nat.reduceBEq,qb15];refine hk _ ?_;clear hk k;simp only[Qg,Qk];(repeat refine Qb ?_);refine Qa fun k hk=>?_;simp -implicitDefEqProofs only[id,reduceCtorEq,reduceIte,Nat.reduceMul,Nat.reduceAdd,Nat.reduceLT,Nat.reduceLeDiff,Nat.reduceEqDiff,Int.reduceLT,Int.reduceBEq,Int.reduceBNe,Nat.reduceBEq,ej2,qb15];refine hk _ ?_;simp only[Qg,Qk]
      refine⟨((j,qs.set j (high:Int)),(_,tt % n)),⟨by show j≤xs.length;omega,hst,hs6,fun i hi=>by
        have hi':i<j:=hi;show (qs.set j (high:Int)).getD i 0=0;rw[QU _ _ _ (by have:=hinv.len;omega),if_neg (by omega)]
        exact hlow i (by omega)⟩,by show j<j+1;omega,?_⟩
      simp -implicitDefEqProofs only[id,reduceCtorEq,reduceIte,Nat.reduceMul,Nat.reduceAdd,Nat.reduceLT,Nat.reduceLeDiff,Nat.reduceEqDiff,Int.reduceLT,Int.reduceBEq,Int.reduceBNe,Nat.reduceBEq,qb16];exact rd_set rfl (by have:=hinv.len;omega)
  · simp only[decide_eq_false_iff_not] at h2
    obtain rfl:q=0:=by omega
    obtain⟨hd,hrm⟩:=hinv.done d1.val
    have hv:(val qs).toNat=m / n:=by
      have h8:=hd.val;rw[trim_val] at h8;rw[h8];exact Int.toNat_natCast _
    have t3:=hinv.len;refine Sat.exit ?_;simp only[Qg,Qk,reduceIte];(repeat refine Qb ?_);(refine Qa fun k hk=>?_;simp -implicitDefEqProofs only[id,reduceCtorEq,reduceIte,Nat.reduceMul,Nat.reduceAdd,Nat.reduceLT,Nat.reduceLeDiff,Nat.reduceEqDiff,Int.reduceLT,Int.reduceBEq,Int.reduceBNe,Nat.reduceBEq,qb15]);refine Qc (refTrimC F (s:=.sl a qs.length cap 1 (fun p _=>.i .i64 (qs.getD p 0))) ⟨a,cap,1,_,rfl,.inr rfl,fun p _=>rfl⟩ hinv.limbs) (by simp -implicitDefEqProofs only[id,reduceCtorEq,reduceIte,Nat.reduceMul,Nat.reduceAdd,Nat.reduceLT,Nat.reduceLeDiff,Nat.reduceEqDiff,Int.reduceLT,Int.reduceBEq,Int.reduceBNe,Nat.reduceBEq,qb15];try rfl) (by simp -implicitDefEqProofs only[id,reduceCtorEq,reduceIte,Nat.reduceMul,Nat.reduceAdd,Nat.reduceLT,Nat.reduceLeDiff,Nat.reduceEqDiff,Int.reduceLT,Int.reduceBEq,Int.reduceBNe,Nat.reduceBEq,t3,qb15];try rfl) ?_;intro y hy;rw[hv] at hy;have hs8:=hy;obtain⟨a8,c8,z8,r8,x8,rfl,_⟩:=hy;simp -implicitDefEqProofs only[id,reduceCtorEq,reduceIte,Nat.reduceMul,Nat.reduceAdd,Nat.reduceLT,Nat.reduceLeDiff,Nat.reduceEqDiff,Int.reduceLT,Int.reduceBEq,Int.reduceBNe,Nat.reduceBEq,qb15];(refine hk _ ?_;clear hk k;try show Sat _ _ _ _ _);refine Sat.ret ?_;simp only[Tryz.results79,id,seval,qb15];exact⟨_,_,rfl,hs8,by rw[← hrm];exact hr'⟩
end Go.Proofs.YtabgkfjfmjdfiaaGreatDoor
