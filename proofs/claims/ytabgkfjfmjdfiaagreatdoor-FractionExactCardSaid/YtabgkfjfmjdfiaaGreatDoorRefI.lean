import Derived.Test.YtabgkfjfmjdfiaaGreatDoorRefG
import Derived.Test.YtabgkfjfmjdfiaaGreatDoorStpF
set_option linter.unusedSimpArgs false
set_option linter.unusedVariables false
set_option linter.defProp false
namespace Go.Proofs.YtabgkfjfmjdfiaaGreatDoor
open Eng Lmb Go.RowKit
theorem Nats.head {s:SV} {p:Nat} (h:Nats s p) (hp:0<p):∃ (a:Option Addr) (len cap:Nat) (rd:Nat→Nat→SV) (x:Int),s=.sl a len cap 1 rd∧0<len∧rd 0 0=.i .i64 x∧(x.tmod 2 == 0)=decide (p % 2=0):=by
  obtain⟨a,cap,sz,rd,xs,rfl,hz,hr,hd⟩:=h
  have hl:0<xs.length:=by
    have:=hd.len_zero;omega
  have hsz:sz=1:=by
    rcases hz with hz|hz
    · omega
    · exact hz
  subst hsz;have he:=even_limb hd;have hb:=Qh hd.limbs 0;refine⟨a,xs.length,cap,rd,xs.getD 0 0,rfl,hl,hr 0 hl,?_⟩;rw[Int.tmod_eq_emod_of_nonneg hb.1];by_cases h9:p % 2=0
  · rw[decide_eq_true h9,beq_iff_eq];omega
  · rw[decide_eq_false h9,beq_eq_false_iff_ne];omega
def qb13:=And.intro @evr (@evn)
def qb14:=And.intro @evr (And.intro @evl (@evn))
set_option maxRecDepth 100000 in
theorem refGcdC (F:Frm) {sa sb:SV} {m n:Nat} (ha:Nats sa m) (hb:Nats sb n) (b1:(m:Int)<pw 256) (b2:(n:Int)<pw 256) (hm:0<m) (hn:0<n):Contract F Tryz.prog 19 [sa,sb] (fun r=>Nats r (Nat.gcd m n)):=by
  have up:∀ x:Nat,(x≤m∨x≤n)→(x:Int)<pw 512:=fun x hx=>by
    have:=QI (show 256≤512 by omega);rcases hx with hx|hx<;>omega
  have hg0:0<Nat.gcd m n:=Nat.gcd_pos_of_pos_left _ hm;have hgm:Nat.gcd m n≤m:=Nat.le_of_dvd hm (Nat.gcd_dvd_left m n);have ha':=ha;have hb':=hb;obtain⟨a1,l1,c1,r1,x1,rfl,hl1,_,_⟩:=ha.head hm;obtain⟨a2,l2,c2,r2,x2,rfl,hl2,_,_⟩:=hb.head hn;refine Qf Tryz.func19 rfl (by kernel_rfl) ?_;simp only[Tryz.ntmps19,Qm];(repeat refine Qb ?_);(refine Qa fun k hk=>?_;simp -implicitDefEqProofs only[id,reduceCtorEq,reduceIte,Nat.reduceMul,Nat.reduceAdd,Nat.reduceLT,Nat.reduceLeDiff,Nat.reduceEqDiff,Int.reduceLT,Int.reduceBEq,Int.reduceBNe,Nat.reduceBEq,qb13];refine hk _ ?_;clear hk k;try show Sat _ _ _ _ _);(repeat refine Qb ?_);refine Qj ⟨77,[(13,.b false),(0,.sl a1 l1 c1 1 r1),(1,.sl a2 l2 c2 1 r2)],[]⟩ (fun k hk=>?_) ?_
  · simp -implicitDefEqProofs only[id,reduceCtorEq,reduceIte,Nat.reduceMul,Nat.reduceAdd,Nat.reduceLT,Nat.reduceLeDiff,Nat.reduceEqDiff,Int.reduceLT,Int.reduceBEq,Int.reduceBNe,Nat.reduceBEq,qb13]
    have e1:((l1:Int) == 0)=false:=by rw[beq_eq_false_iff_ne];omega
    have e2:((l2:Int) == 0)=false:=by rw[beq_eq_false_iff_ne];omega
    refine⟨fun h=>?_,fun h=>?_⟩
    · rw[e1] at h;cases h
    · refine hk _ ?_
      rw[e2];simp -implicitDefEqProofs only[id,reduceCtorEq,reduceIte,Nat.reduceMul,Nat.reduceAdd,Nat.reduceLT,Nat.reduceLeDiff,Nat.reduceEqDiff,Int.reduceLT,Int.reduceBEq,Int.reduceBNe,Nat.reduceBEq,qb14]
  simp only[Qg];refine Qd rfl (fun h=>by cases h) (fun h=>?_);refine Sat.skip ?_;simp only[Qg];(repeat refine Qb ?_);(refine Qa fun k hk=>?_;simp -implicitDefEqProofs only[id,reduceCtorEq,reduceIte,Nat.reduceMul,Nat.reduceAdd,Nat.reduceLT,Nat.reduceLeDiff,Nat.reduceEqDiff,Int.reduceLT,Int.reduceBEq,Int.reduceBNe,Nat.reduceBEq,qb13]);intro blk;(refine hk _ ?_;clear hk k;try show Sat _ _ _ _ _)
  have h1s:Nats (.sl (some ⟨blk,0,none⟩) 1 1 1 (rdL [SV.i .i64 1] 1)) 1:=nats_of (xs:=[1]) rfl (fun p hp=>by
      have hp0:p=0:=by omega
      subst hp0;rfl) (dig_one (x:=1) (by omega) (by omega))
  refine Sat.settle2 5 rfl rfl ?_;simp -implicitDefEqProofs only[id,reduceCtorEq,reduceIte,Nat.reduceMul,Nat.reduceAdd,Nat.reduceLT,Nat.reduceLeDiff,Nat.reduceEqDiff,Int.reduceLT,Int.reduceBEq,Int.reduceBNe,Nat.reduceBEq,qb13];(repeat refine Qb ?_);refine Sat.block ?_;(repeat refine Qb ?_);refine Sat.loop (ι:=(SV×SV×SV)×(Nat×Nat×Nat)) (fun x=>⟨77,[(0,x.1.1),(1,x.1.2.1),(5,x.1.2.2)],[]⟩)
    (fun x=>(Nats x.1.1 x.2.1∧Nats x.1.2.1 x.2.2.1∧Nats x.1.2.2 x.2.2.2)∧(0<x.2.1∧x.2.1≤m)∧(0<x.2.2.1∧x.2.2.1≤n)∧x.2.2.2 * Nat.gcd x.2.1 x.2.2.1=Nat.gcd m n) (fun x=>x.2.1) ((.sl a1 l1 c1 1 r1,.sl a2 l2 c2 1 r2,.sl (some ⟨blk,0,none⟩) 1 1 1 (rdL [SV.i .i64 1] 1)),(m,n,1)) ⟨⟨ha',hb',h1s⟩,⟨hm,Nat.le_refl _⟩,⟨hn,Nat.le_refl _⟩,Nat.one_mul _⟩ (by simp -implicitDefEqProofs only[id,reduceCtorEq,reduceIte,Nat.reduceMul,Nat.reduceAdd,Nat.reduceLT,Nat.reduceLeDiff,Nat.reduceEqDiff,Int.reduceLT,Int.reduceBEq,Int.reduceBNe,Nat.reduceBEq,qb14];try rfl) ?_
  rintro⟨⟨sp,sq,st⟩,⟨p,q,t⟩⟩ ⟨⟨hp,hq,ht⟩,⟨p0,p1⟩,⟨q0,q1⟩,hg⟩;simp only at hp hq ht p0 p1 q0 q1 hg ⊢;have hp':=hp;have hq':=hq;have ht':=ht;obtain⟨a3,l3,c3,r3,x3,rfl,hl3,hx3,he3⟩:=hp.head p0;obtain⟨a4,l4,c4,r4,x4,rfl,hl4,hx4,he4⟩:=hq.head q0;obtain⟨a5,c5,z5,r5,xs5,rfl,_⟩:=ht
  have htm:t≤m:=by
    have g0:0<Nat.gcd p q:=Nat.gcd_pos_of_pos_left _ p0;have:=Nat.le_mul_of_pos_right t g0;omega
  have hl3':(0:Int)<(l3:Int):=by omega
  have hl4':(0:Int)<(l4:Int):=by omega
  (repeat refine Qb ?_);refine Qj ⟨77,[(29,.b (decide (p % 2=0∧q % 2=0))),(0,.sl a3 l3 c3 1 r3),(1,.sl a4 l4 c4 1 r4),(5,.sl a5 xs5.length c5 z5 r5)],[]⟩ (fun k hk=>?_) ?_
  · simp -implicitDefEqProofs only[id,reduceCtorEq,reduceIte,Nat.reduceMul,Nat.reduceAdd,Nat.reduceLT,Nat.reduceLeDiff,Nat.reduceEqDiff,Int.reduceLT,Int.reduceBEq,Int.reduceBNe,Nat.reduceBEq,qb13]
    refine⟨by omega,?_⟩;rw[hx3];simp -implicitDefEqProofs only[id,reduceCtorEq,reduceIte,Nat.reduceMul,Nat.reduceAdd,Nat.reduceLT,Nat.reduceLeDiff,Nat.reduceEqDiff,Int.reduceLT,Int.reduceBEq,Int.reduceBNe,Nat.reduceBEq,he3,qb13];refine⟨by decide,fun h=>?_,fun h=>?_⟩
    · refine⟨by omega,?_⟩
      rw[hx4];simp -implicitDefEqProofs only[id,reduceCtorEq,reduceIte,Nat.reduceMul,Nat.reduceAdd,Nat.reduceLT,Nat.reduceLeDiff,Nat.reduceEqDiff,Int.reduceLT,Int.reduceBEq,Int.reduceBNe,Nat.reduceBEq,he4,qb13];refine⟨by decide,?_⟩;refine hk _ ?_;have e:decide (p % 2=0∧q % 2=0)=decide (q % 2=0):=by simp [h]
      rw[e];simp -implicitDefEqProofs only[id,reduceCtorEq,reduceIte,Nat.reduceMul,Nat.reduceAdd,Nat.reduceLT,Nat.reduceLeDiff,Nat.reduceEqDiff,Int.reduceLT,Int.reduceBEq,Int.reduceBNe,Nat.reduceBEq,qb14]
    · refine hk _ ?_
      have e:decide (p % 2=0∧q % 2=0)=false:=by simp [h]
      rw[e];simp -implicitDefEqProofs only[id,reduceCtorEq,reduceIte,Nat.reduceMul,Nat.reduceAdd,Nat.reduceLT,Nat.reduceLeDiff,Nat.reduceEqDiff,Int.reduceLT,Int.reduceBEq,Int.reduceBNe,Nat.reduceBEq,qb14]
  simp only[Qg];refine Qd rfl (fun h=>?_) (fun h=>?_)
  · obtain⟨hp2,hq2⟩:=of_decide_eq_true h
    have hgt:=gcd_twos hp2 hq2;refine Sat.skip ?_;simp only[Qg];(repeat refine Qb ?_);refine Sat.block ?_;(refine Qa fun k hk=>?_;simp -implicitDefEqProofs only[id,reduceCtorEq,reduceIte,Nat.reduceMul,Nat.reduceAdd,Nat.reduceLT,Nat.reduceLeDiff,Nat.reduceEqDiff,Int.reduceLT,Int.reduceBEq,Int.reduceBNe,Nat.reduceBEq,qb13]);refine Qc (refHalfC F hp' (up p (.inl p1))) rfl rfl ?_;intro y hy;have hs6:=hy;obtain⟨a6,c6,z6,r6,x6,rfl,_⟩:=hy;simp -implicitDefEqProofs only[id,reduceCtorEq,reduceIte,Nat.reduceMul,Nat.reduceAdd,Nat.reduceLT,Nat.reduceLeDiff,Nat.reduceEqDiff,Int.reduceLT,Int.reduceBEq,Int.reduceBNe,Nat.reduceBEq,qb13];refine Qc (refHalfC F hq' (up q (.inr q1))) rfl rfl ?_;intro y hy;have hs7:=hy;obtain⟨a7,c7,z7,r7,x7,rfl,_⟩:=hy;simp -implicitDefEqProofs only[id,reduceCtorEq,reduceIte,Nat.reduceMul,Nat.reduceAdd,Nat.reduceLT,Nat.reduceLeDiff,Nat.reduceEqDiff,Int.reduceLT,Int.reduceBEq,Int.reduceBNe,Nat.reduceBEq,qb13];refine Qc (refPlusC F ht' ht' (up t (.inl htm)) (up t (.inl htm))) rfl rfl ?_;intro y hy;have hs8:=hy;obtain⟨a8,c8,z8,r8,x8,rfl,_⟩:=hy;simp -implicitDefEqProofs only[id,reduceCtorEq,reduceIte,Nat.reduceMul,Nat.reduceAdd,Nat.reduceLT,Nat.reduceLeDiff,Nat.reduceEqDiff,Int.reduceLT,Int.reduceBEq,Int.reduceBNe,Nat.reduceBEq,qb13];refine hk _ ?_;simp only[Qg,Qk];refine⟨((_,_,_),(p / 2,q / 2,t+t)),⟨⟨hs6,hs7,hs8⟩,⟨by show 0<p / 2;omega,by show p / 2≤m;omega⟩,⟨by show 0<q / 2;omega,by show q / 2≤n;omega⟩,by show (t+t) * Nat.gcd (p / 2) (q / 2)=Nat.gcd m n;rw[← hg,← hgt,← Nat.mul_assoc,Nat.mul_two]⟩,by show p / 2<p;omega,?_⟩;simp -implicitDefEqProofs only[id,reduceCtorEq,reduceIte,Nat.reduceMul,Nat.reduceAdd,Nat.reduceLT,Nat.reduceLeDiff,Nat.reduceEqDiff,Int.reduceLT,Int.reduceBEq,Int.reduceBNe,Nat.reduceBEq,qb14]
  have hod:=gcd_odd (of_decide_eq_false h);refine Sat.exit ?_;simp only[Qg,Qk,reduceIte];generalize hG:Nat.gcd p q=G at hg hod;(repeat refine Qb ?_);refine Sat.block ?_;(repeat refine Qb ?_);refine Sat.loop (ι:=(SV×SV)×(Nat×Nat)) (fun x=>⟨77,[(0,x.1.1),(1,x.1.2),(5,.sl a5 xs5.length c5 z5 r5)],[]⟩)
    (fun x=>(Nats x.1.1 x.2.1∧Nats x.1.2 x.2.2)∧x.2.1≤m∧x.2.2≤n∧Nat.gcd x.2.1 x.2.2=G) (fun x=>x.2.1+x.2.2) ((.sl a3 l3 c3 1 r3,.sl a4 l4 c4 1 r4),(p,q)) ⟨⟨hp',hq'⟩,p1,q1,hG⟩ (by simp -implicitDefEqProofs only[id,reduceCtorEq,reduceIte,Nat.reduceMul,Nat.reduceAdd,Nat.reduceLT,Nat.reduceLeDiff,Nat.reduceEqDiff,Int.reduceLT,Int.reduceBEq,Int.reduceBNe,Nat.reduceBEq,qb14];try rfl) ?_
  clear hp hq hp' hq' hx3 hx4 he3 he4 hl3 hl4 hl3' hl4' p0 p1 q0 q1 hG;rintro⟨⟨sp,sq⟩,⟨p2,q2⟩⟩ ⟨⟨hp,hq⟩,p1,q1,hG⟩;simp only at hp hq p1 q1 hG ⊢;have hp':=hp;have hq':=hq;obtain⟨a6,c6,z6,r6,x6,rfl,_⟩:=hp;obtain⟨a7,c7,z7,r7,x7,rfl,_⟩:=hq;have hlp:=hp'.len;have hlq:=hq'.len;(repeat refine Qb ?_);refine Qj ⟨77,[(44,.b (decide (0<p2∧0<q2))),(0,.sl a6 x6.length c6 z6 r6),(1,.sl a7 x7.length c7 z7 r7),(5,.sl a5 xs5.length c5 z5 r5)],[]⟩ (fun k hk=>?_) ?_
  · simp -implicitDefEqProofs only[id,reduceCtorEq,reduceIte,Nat.reduceMul,Nat.reduceAdd,Nat.reduceLT,Nat.reduceLeDiff,Nat.reduceEqDiff,Int.reduceLT,Int.reduceBEq,Int.reduceBNe,Nat.reduceBEq,qb13]
    refine⟨fun h=>?_,fun h=>?_⟩
    · refine hk _ ?_
      rw[hlp] at h
      have e:decide (0<p2∧0<q2)=decide (0<(x7.length:Int)):=by
        congr 1
        rw[hlq];simp [h]
      rw[e];simp -implicitDefEqProofs only[id,reduceCtorEq,reduceIte,Nat.reduceMul,Nat.reduceAdd,Nat.reduceLT,Nat.reduceLeDiff,Nat.reduceEqDiff,Int.reduceLT,Int.reduceBEq,Int.reduceBNe,Nat.reduceBEq,qb14]
    · refine hk _ ?_
      rw[hlp] at h;have e:decide (0<p2∧0<q2)=false:=by simp [h]
      rw[e];simp -implicitDefEqProofs only[id,reduceCtorEq,reduceIte,Nat.reduceMul,Nat.reduceAdd,Nat.reduceLT,Nat.reduceLeDiff,Nat.reduceEqDiff,Int.reduceLT,Int.reduceBEq,Int.reduceBNe,Nat.reduceBEq,qb14]
  simp only[Qg];refine Qd rfl (fun h=>?_) (fun h=>?_)
  · obtain⟨p0,q0⟩:=of_decide_eq_true h
    obtain⟨b1',b2',b3',b4',x8,e8,hl8,hx8,he8⟩:=hp'.head p0;simp only[SV.sl.injEq] at e8;obtain⟨rfl,rfl,rfl,rfl,rfl⟩:=e8;obtain⟨b5',b6',b7',b8',x9,e9,hl9,hx9,he9⟩:=hq'.head q0;simp only[SV.sl.injEq] at e9;obtain⟨rfl,rfl,rfl,rfl,rfl⟩:=e9;have hl8':(0:Int)<(x6.length:Int):=by omega
    have hl9':(0:Int)<(x7.length:Int):=by omega
    refine Sat.skip ?_;simp only[Qg];(repeat refine Qb ?_);refine Sat.block ?_;refine Sat.block ?_;(repeat refine Qb ?_);refine Qa fun k hk=>?_;simp -implicitDefEqProofs only[id,reduceCtorEq,reduceIte,Nat.reduceMul,Nat.reduceAdd,Nat.reduceLT,Nat.reduceLeDiff,Nat.reduceEqDiff,Int.reduceLT,Int.reduceBEq,Int.reduceBNe,Nat.reduceBEq,qb13];refine⟨by omega,?_⟩;rw[hx8];simp -implicitDefEqProofs only[id,reduceCtorEq,reduceIte,Nat.reduceMul,Nat.reduceAdd,Nat.reduceLT,Nat.reduceLeDiff,Nat.reduceEqDiff,Int.reduceLT,Int.reduceBEq,Int.reduceBNe,Nat.reduceBEq,he8,qb13];refine⟨by decide,?_⟩;(refine hk _ ?_;clear hk k;try show Sat _ _ _ _ _);refine Qd rfl (fun h5=>?_) (fun h5=>?_)
    · have h6:=of_decide_eq_true h5
      (repeat refine Qb ?_);(refine Qa fun k hk=>?_;simp -implicitDefEqProofs only[id,reduceCtorEq,reduceIte,Nat.reduceMul,Nat.reduceAdd,Nat.reduceLT,Nat.reduceLeDiff,Nat.reduceEqDiff,Int.reduceLT,Int.reduceBEq,Int.reduceBNe,Nat.reduceBEq,qb13]);refine Qc (refHalfC F hp' (up p2 (.inl p1))) rfl rfl ?_;intro y hy;have hs9:=hy;obtain⟨a9,c9,z9,r9,x9,rfl,_⟩:=hy;simp -implicitDefEqProofs only[id,reduceCtorEq,reduceIte,Nat.reduceMul,Nat.reduceAdd,Nat.reduceLT,Nat.reduceLeDiff,Nat.reduceEqDiff,Int.reduceLT,Int.reduceBEq,Int.reduceBNe,Nat.reduceBEq,qb13];refine hk _ ?_;simp only[Qg,Qk];refine⟨((_,_),((p2 / 2),q2)),⟨⟨hs9,hq'⟩,by show (p2 / 2)≤m;omega,by show q2≤n;omega,by show Nat.gcd (p2 / 2) q2=G;rw[gcd_half (by rw[hG];exact hod) h6,hG]⟩,by show (p2 / 2)+q2<p2+q2;omega,?_⟩;simp -implicitDefEqProofs only[id,reduceCtorEq,reduceIte,Nat.reduceMul,Nat.reduceAdd,Nat.reduceLT,Nat.reduceLeDiff,Nat.reduceEqDiff,Int.reduceLT,Int.reduceBEq,Int.reduceBNe,Nat.reduceBEq,qb14]
    (repeat refine Qb ?_);refine Qa fun k hk=>?_;simp -implicitDefEqProofs only[id,reduceCtorEq,reduceIte,Nat.reduceMul,Nat.reduceAdd,Nat.reduceLT,Nat.reduceLeDiff,Nat.reduceEqDiff,Int.reduceLT,Int.reduceBEq,Int.reduceBNe,Nat.reduceBEq,qb13];refine⟨by omega,?_⟩;rw[hx9];simp -implicitDefEqProofs only[id,reduceCtorEq,reduceIte,Nat.reduceMul,Nat.reduceAdd,Nat.reduceLT,Nat.reduceLeDiff,Nat.reduceEqDiff,Int.reduceLT,Int.reduceBEq,Int.reduceBNe,Nat.reduceBEq,he9,qb13];refine⟨by decide,?_⟩;(refine hk _ ?_;clear hk k;try show Sat _ _ _ _ _);refine Qd rfl (fun h7=>?_) (fun h7=>?_)
    · have h8:=of_decide_eq_true h7
      (repeat refine Qb ?_);(refine Qa fun k hk=>?_;simp -implicitDefEqProofs only[id,reduceCtorEq,reduceIte,Nat.reduceMul,Nat.reduceAdd,Nat.reduceLT,Nat.reduceLeDiff,Nat.reduceEqDiff,Int.reduceLT,Int.reduceBEq,Int.reduceBNe,Nat.reduceBEq,qb13]);refine Qc (refHalfC F hq' (up q2 (.inr q1))) rfl rfl ?_;intro y hy;have hs9:=hy;obtain⟨a9,c9,z9,r9,x9,rfl,_⟩:=hy;simp -implicitDefEqProofs only[id,reduceCtorEq,reduceIte,Nat.reduceMul,Nat.reduceAdd,Nat.reduceLT,Nat.reduceLeDiff,Nat.reduceEqDiff,Int.reduceLT,Int.reduceBEq,Int.reduceBNe,Nat.reduceBEq,qb13];refine hk _ ?_;simp only[Qg,Qk];refine⟨((_,_),(p2,(q2 / 2))),⟨⟨hp',hs9⟩,by show p2≤m;omega,by show (q2 / 2)≤n;omega,by show Nat.gcd p2 (q2 / 2)=G;rw[gcd_half' (by rw[hG];exact hod) h8,hG]⟩,by show p2+(q2 / 2)<p2+q2;omega,?_⟩;simp -implicitDefEqProofs only[id,reduceCtorEq,reduceIte,Nat.reduceMul,Nat.reduceAdd,Nat.reduceLT,Nat.reduceLeDiff,Nat.reduceEqDiff,Int.reduceLT,Int.reduceBEq,Int.reduceBNe,Nat.reduceBEq,qb14]
    (repeat refine Qb ?_);(refine Qa fun k hk=>?_;simp -implicitDefEqProofs only[id,reduceCtorEq,reduceIte,Nat.reduceMul,Nat.reduceAdd,Nat.reduceLT,Nat.reduceLeDiff,Nat.reduceEqDiff,Int.reduceLT,Int.reduceBEq,Int.reduceBNe,Nat.reduceBEq,qb13]);refine Qe (refCompareC F hp' hq' (up p2 (.inl p1))) rfl (by rintro _ rfl;exact Qi rfl) ?_;rintro y rfl;simp -implicitDefEqProofs only[id,reduceCtorEq,reduceIte,Nat.reduceMul,Nat.reduceAdd,Nat.reduceLT,Nat.reduceLeDiff,Nat.reduceEqDiff,Int.reduceLT,Int.reduceBEq,Int.reduceBNe,Nat.reduceBEq,qb13];(refine hk _ ?_;clear hk k;try show Sat _ _ _ _ _);refine Qd rfl (fun h9=>?_) (fun h9=>?_)
    · have hle:q2≤p2:=by
        by_cases h10:p2<q2
        · rw[ZA (by omega)] at h9;exact absurd h9 (by decide)
        · omega
      (repeat refine Qb ?_);(refine Qa fun k hk=>?_;simp -implicitDefEqProofs only[id,reduceCtorEq,reduceIte,Nat.reduceMul,Nat.reduceAdd,Nat.reduceLT,Nat.reduceLeDiff,Nat.reduceEqDiff,Int.reduceLT,Int.reduceBEq,Int.reduceBNe,Nat.reduceBEq,qb13]);refine Qc (refLessC F hp' hq' (up p2 (.inl p1)) hle) rfl rfl ?_;intro y hy;have hs9:=hy;obtain⟨a9,c9,z9,r9,x9,rfl,_⟩:=hy;simp -implicitDefEqProofs only[id,reduceCtorEq,reduceIte,Nat.reduceMul,Nat.reduceAdd,Nat.reduceLT,Nat.reduceLeDiff,Nat.reduceEqDiff,Int.reduceLT,Int.reduceBEq,Int.reduceBNe,Nat.reduceBEq,qb13];refine hk _ ?_;simp only[Qg,Qk];refine⟨((_,_),((p2 - q2),q2)),⟨⟨hs9,hq'⟩,by show (p2 - q2)≤m;omega,by show q2≤n;omega,by show Nat.gcd (p2 - q2) q2=G;rw[gcd_sub hle,hG]⟩,by show (p2 - q2)+q2<p2+q2;omega,?_⟩;simp -implicitDefEqProofs only[id,reduceCtorEq,reduceIte,Nat.reduceMul,Nat.reduceAdd,Nat.reduceLT,Nat.reduceLeDiff,Nat.reduceEqDiff,Int.reduceLT,Int.reduceBEq,Int.reduceBNe,Nat.reduceBEq,qb14]
    · have hle:p2≤q2:=by
        by_cases h10:q2<p2
        · rw[cmpI_gt (by omega)] at h9;exact absurd h9 (by decide)
        · omega
      (repeat refine Qb ?_);(refine Qa fun k hk=>?_;simp -implicitDefEqProofs only[id,reduceCtorEq,reduceIte,Nat.reduceMul,Nat.reduceAdd,Nat.reduceLT,Nat.reduceLeDiff,Nat.reduceEqDiff,Int.reduceLT,Int.reduceBEq,Int.reduceBNe,Nat.reduceBEq,qb13]);refine Qc (refLessC F hq' hp' (up q2 (.inr q1)) hle) rfl rfl ?_;intro y hy;have hs9:=hy;obtain⟨a9,c9,z9,r9,x9,rfl,_⟩:=hy;simp -implicitDefEqProofs only[id,reduceCtorEq,reduceIte,Nat.reduceMul,Nat.reduceAdd,Nat.reduceLT,Nat.reduceLeDiff,Nat.reduceEqDiff,Int.reduceLT,Int.reduceBEq,Int.reduceBNe,Nat.reduceBEq,qb13];refine hk _ ?_;simp only[Qg,Qk];refine⟨((_,_),(p2,(q2 - p2))),⟨⟨hp',hs9⟩,by show p2≤m;omega,by show (q2 - p2)≤n;omega,by show Nat.gcd p2 (q2 - p2)=G;rw[Nat.gcd_comm,gcd_sub hle,Nat.gcd_comm,hG]⟩,by show p2+(q2 - p2)<p2+q2;omega,?_⟩;simp -implicitDefEqProofs only[id,reduceCtorEq,reduceIte,Nat.reduceMul,Nat.reduceAdd,Nat.reduceLT,Nat.reduceLeDiff,Nat.reduceEqDiff,Int.reduceLT,Int.reduceBEq,Int.reduceBNe,Nat.reduceBEq,qb14]
  have hz:=of_decide_eq_false h
  have hsum:p2+q2=G:=by
    rcases (show p2=0∨q2=0 by omega) with rfl|rfl
    · rw[← hG];simp
    · rw[← hG];simp
  refine Sat.exit ?_;simp only[Qg,Qk,reduceIte];(repeat refine Qb ?_);(refine Qa fun k hk=>?_;simp -implicitDefEqProofs only[id,reduceCtorEq,reduceIte,Nat.reduceMul,Nat.reduceAdd,Nat.reduceLT,Nat.reduceLeDiff,Nat.reduceEqDiff,Int.reduceLT,Int.reduceBEq,Int.reduceBNe,Nat.reduceBEq,qb13]);refine Qc (refPlusC F hp' hq' (up p2 (.inl p1)) (up q2 (.inr q1))) rfl rfl ?_;intro y hy;rw[hsum] at hy;have hs9:=hy;obtain⟨a9,c9,z9,r9,x9,rfl,_⟩:=hy;simp -implicitDefEqProofs only[id,reduceCtorEq,reduceIte,Nat.reduceMul,Nat.reduceAdd,Nat.reduceLT,Nat.reduceLeDiff,Nat.reduceEqDiff,Int.reduceLT,Int.reduceBEq,Int.reduceBNe,Nat.reduceBEq,qb13]
  have ht0:0<t:=by
    rcases Nat.eq_zero_or_pos t with h9|h9
    · rw[h9,Nat.zero_mul] at hg;omega
    · exact h9
  have hGm:G≤m:=by
    have:=Nat.le_mul_of_pos_left G ht0;omega
  refine Qc (Q9 F ht' hs9 (up t (.inl htm)) (up G (.inl hGm))) rfl rfl ?_;intro y hy;rw[hg] at hy;have hs8:=hy;obtain⟨a8,c8,z8,r8,x8,rfl,_⟩:=hy;simp -implicitDefEqProofs only[id,reduceCtorEq,reduceIte,Nat.reduceMul,Nat.reduceAdd,Nat.reduceLT,Nat.reduceLeDiff,Nat.reduceEqDiff,Int.reduceLT,Int.reduceBEq,Int.reduceBNe,Nat.reduceBEq,qb13];(refine hk _ ?_;clear hk k;try show Sat _ _ _ _ _);refine Sat.ret ?_;simp only[Tryz.results19,evr,id,seval,List.append_nil,Int.toNat_zero,Nat.sub_self];exact hs8
end Go.Proofs.YtabgkfjfmjdfiaaGreatDoor
