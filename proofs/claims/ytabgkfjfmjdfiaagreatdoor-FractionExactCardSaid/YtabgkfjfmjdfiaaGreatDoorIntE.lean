import Derived.Test.YtabgkfjfmjdfiaaGreatDoorRefKa
set_option linter.unusedSimpArgs false
set_option linter.unusedVariables false
set_option linter.defProp false
namespace Go.Proofs.YtabgkfjfmjdfiaaGreatDoor
open Eng Lmb Go.RowKit
theorem val_drop_le {xs:List Int} (h:Qv xs):∀ q,val (xs.drop q)≤val xs
  | 0=>by simp
  | q+1=>by
    refine Int.le_trans ?_ (val_drop_le h q);by_cases hq:q<xs.length
    · rw[QK xs q hq]
      have:=Qh h q;have h2:0≤val (xs.drop (q+1)):=Qp fun x hx=>h x (List.mem_of_mem_drop hx);omega
    · rw[List.drop_eq_nil_of_le (by omega),List.drop_eq_nil_of_le (by omega)]
      exact Int.le_refl _
def intV (n:Nat):Int:=if n≤4611686018427387904 then n else 0
def intE (n:Nat):Int:=if n≤4611686018427387904 then 0 else 1
def qb21:=And.intro @evr (And.intro @List.append_nil.{0} (And.intro @Int.toNat_zero (@Nat.sub_self)))
def qb19:=And.intro @evr (@evn)
def qb20:=And.intro @evr (And.intro @evl (@evn))
set_option maxRecDepth 100000 in
theorem natIntC (F:Frm) {s:SV} {n:Nat} (hs:Nats s n) (hb:(n:Int)<pw 512):Contract F Tryz.prog 31 [s] (fun r=>r=QW [.i .i64 (intV n),.i .i64 (intE n)]):=by
  obtain⟨xs,hi1,d1⟩:=hs.ints;have l1:=(d1.len_le 512).2 hb;obtain⟨a1,c1,z1,r1,rfl,hz1,hr1⟩:=hi1;refine Qf Tryz.func31 rfl (by kernel_rfl) ?_;simp only[Tryz.ntmps31,Qm];have e0:IntKind.i64.wrap ((xs.length:Int) - 1)=(xs.length:Int) - 1:=w64 (by omega);(repeat refine Qb ?_);(refine Qa fun k hk=>?_;simp -implicitDefEqProofs only[id,reduceCtorEq,reduceIte,Nat.reduceMul,Nat.reduceAdd,Nat.reduceLT,Nat.reduceLeDiff,Nat.reduceEqDiff,Int.reduceLT,Int.reduceBEq,Int.reduceBNe,Nat.reduceBEq,frS,qb19];refine hk _ ?_;clear hk k;try show Sat _ _ _ _ _);(repeat refine Qb ?_);(refine Qa fun k hk=>?_;simp -implicitDefEqProofs only[id,reduceCtorEq,reduceIte,Nat.reduceMul,Nat.reduceAdd,Nat.reduceLT,Nat.reduceLeDiff,Nat.reduceEqDiff,Int.reduceLT,Int.reduceBEq,Int.reduceBNe,Nat.reduceBEq,frS,qb19];refine hk _ ?_;clear hk k;try show Sat _ _ _ _ _);(repeat refine Qb ?_);refine Qa fun k hk=>?_;simp -implicitDefEqProofs only[id,reduceCtorEq,reduceIte,Nat.reduceMul,Nat.reduceAdd,Nat.reduceLT,Nat.reduceLeDiff,Nat.reduceEqDiff,Int.reduceLT,Int.reduceBEq,Int.reduceBNe,Nat.reduceBEq,frS,e0,qb19];(refine hk _ ?_;clear hk k;try show Sat _ _ _ _ _);(repeat refine Qb ?_);refine Sat.block ?_;(repeat refine Qb ?_);refine Sat.loop (ι:=Nat) (fun q=>⟨29,[(5,.i .i64 ((q:Int) - 1)),(4,.i .i64 (val (xs.drop q))),(0,.sl a1 xs.length c1 z1 r1)],[]⟩)
    (fun q=>q≤xs.length∧val (xs.drop q)≤4611686018427387904) (fun q=>q) xs.length ⟨Nat.le_refl _,by rw[List.drop_length];decide⟩ (by rw[List.drop_length];simp -implicitDefEqProofs only[id,reduceCtorEq,reduceIte,Nat.reduceMul,Nat.reduceAdd,Nat.reduceLT,Nat.reduceLeDiff,Nat.reduceEqDiff,Int.reduceLT,Int.reduceBEq,Int.reduceBNe,Nat.reduceBEq,frS,qb20];try rfl) ?_
  rintro q ⟨hq,hv⟩;have hv0:0≤val (xs.drop q):=Qp fun x hx=>d1.limbs x (List.mem_of_mem_drop hx);(repeat refine Qb ?_);(refine Qa fun k hk=>?_;simp -implicitDefEqProofs only[id,reduceCtorEq,reduceIte,Nat.reduceMul,Nat.reduceAdd,Nat.reduceLT,Nat.reduceLeDiff,Nat.reduceEqDiff,Int.reduceLT,Int.reduceBEq,Int.reduceBNe,Nat.reduceBEq,frS,qb19];refine hk _ ?_;clear hk k;try show Sat _ _ _ _ _);(repeat refine Qb ?_);refine Qd rfl (fun h=>?_) (fun h=>?_)
  · simp only[decide_eq_true_eq] at h
    obtain⟨j,rfl⟩:∃ j,q=j+1:=⟨q - 1,by omega⟩;have hj:j<xs.length:=by omega
    have ej:(((j+1:Nat):Int) - 1)=(j:Int):=by omega
    have ej2:IntKind.i64.wrap ((j:Int) - 1)=(j:Int) - 1:=w64 (by omega)
    have hsz1:z1=1:=by
      rcases hz1 with hz|hz
      · omega
      · exact hz
    subst hsz1;have g1:=hr1 j hj;have bx:=Qh d1.limbs j;have hd:=QK xs j hj;have hle:=val_drop_le d1.limbs j;rw[d1.val] at hle;generalize val (xs.drop (j+1))=v at hv hv0 hd;generalize hx:xs.getD j 0=x at g1 bx hd;have w1:IntKind.i64.wrap (4611686018427387904 - x)=4611686018427387904 - x:=w64 (by omega);have p30:((2:Int) ^ min (Int.toNat 30) IntKind.i64.bits)=1073741824:=by decide
    have w2:(4611686018427387904 - x).fdiv 1073741824=(4611686018427387904 - x) / 1073741824:=Int.fdiv_eq_ediv_of_nonneg _ (by decide);refine Sat.skip ?_;simp only[Qg,ej];(repeat refine Qb ?_);refine Sat.block ?_;(repeat refine Qb ?_);refine Qa fun k hk=>?_;simp -implicitDefEqProofs only[id,reduceCtorEq,reduceIte,Nat.reduceMul,Nat.reduceAdd,Nat.reduceLT,Nat.reduceLeDiff,Nat.reduceEqDiff,Int.reduceLT,Int.reduceBEq,Int.reduceBNe,Nat.reduceBEq,frS,qb19];refine⟨by omega,?_⟩;rw[g1];simp -implicitDefEqProofs only[id,reduceCtorEq,reduceIte,Nat.reduceMul,Nat.reduceAdd,Nat.reduceLT,Nat.reduceLeDiff,Nat.reduceEqDiff,Int.reduceLT,Int.reduceBEq,Int.reduceBNe,Nat.reduceBEq,frS,w1,p30,w2,qb19];refine⟨by decide,?_⟩;(refine hk _ ?_;clear hk k;try show Sat _ _ _ _ _);refine Qd rfl (fun h9=>?_) (fun h9=>?_)
    · have h10:=of_decide_eq_true h9
      have hbig:¬ n≤4611686018427387904:=by omega
      (repeat refine Qb ?_);(refine Qa fun k hk=>?_;simp -implicitDefEqProofs only[id,reduceCtorEq,reduceIte,Nat.reduceMul,Nat.reduceAdd,Nat.reduceLT,Nat.reduceLeDiff,Nat.reduceEqDiff,Int.reduceLT,Int.reduceBEq,Int.reduceBNe,Nat.reduceBEq,frS,qb19];refine hk _ ?_;clear hk k;try show Sat _ _ _ _ _);refine Sat.ret ?_;simp only[Qg,Qk,Tryz.results31,id,seval,frS,qb21];unfold intV intE;rw[if_neg hbig,if_neg hbig]
    · have h10:=of_decide_eq_false h9
      have w3:IntKind.i64.wrap (v * 1073741824)=v * 1073741824:=w64 (by omega);have w4:bits .or .i64 (v * 1073741824) x=v * 1073741824+x:=Zn.or_limb v x hv0 (by omega) bx.1 bx.2;refine Sat.skip ?_;simp only[Qg];(repeat refine Qb ?_);refine Qa fun k hk=>?_;simp -implicitDefEqProofs only[id,reduceCtorEq,reduceIte,Nat.reduceMul,Nat.reduceAdd,Nat.reduceLT,Nat.reduceLeDiff,Nat.reduceEqDiff,Int.reduceLT,Int.reduceBEq,Int.reduceBNe,Nat.reduceBEq,frS,p30,w3,qb19];refine⟨by decide,by omega,?_⟩;rw[g1];simp -implicitDefEqProofs only[id,reduceCtorEq,reduceIte,Nat.reduceMul,Nat.reduceAdd,Nat.reduceLT,Nat.reduceLeDiff,Nat.reduceEqDiff,Int.reduceLT,Int.reduceBEq,Int.reduceBNe,Nat.reduceBEq,frS,w4,qb19];refine hk _ ?_;clear hk k;simp only[Qg,Qk];(repeat refine Qb ?_);refine Qa fun k hk=>?_;simp -implicitDefEqProofs only[id,reduceCtorEq,reduceIte,Nat.reduceMul,Nat.reduceAdd,Nat.reduceLT,Nat.reduceLeDiff,Nat.reduceEqDiff,Int.reduceLT,Int.reduceBEq,Int.reduceBNe,Nat.reduceBEq,frS,ej2,qb19];refine hk _ ?_;simp only[Qg,Qk];refine⟨j,⟨by omega,by rw[hd];omega⟩,by omega,?_⟩;simp -implicitDefEqProofs only[id,reduceCtorEq,reduceIte,Nat.reduceMul,Nat.reduceAdd,Nat.reduceLT,Nat.reduceLeDiff,Nat.reduceEqDiff,Int.reduceLT,Int.reduceBEq,Int.reduceBNe,Nat.reduceBEq,frS,qb20];omega
  · simp only[decide_eq_false_iff_not] at h
    obtain rfl:q=0:=by omega
    rw[List.drop_zero,d1.val] at hv;have hsm:n≤4611686018427387904:=by omega
    refine Sat.exit ?_;simp only[Qg,Qk,reduceIte];(repeat refine Qb ?_);(refine Qa fun k hk=>?_;simp -implicitDefEqProofs only[id,reduceCtorEq,reduceIte,Nat.reduceMul,Nat.reduceAdd,Nat.reduceLT,Nat.reduceLeDiff,Nat.reduceEqDiff,Int.reduceLT,Int.reduceBEq,Int.reduceBNe,Nat.reduceBEq,frS,qb19];refine hk _ ?_;clear hk k;try show Sat _ _ _ _ _);refine Sat.ret ?_;simp only[Tryz.results31,id,seval,frS,qb21];unfold intV intE;rw[if_pos hsm,if_pos hsm,d1.val]
set_option maxRecDepth 100000 in
theorem refSameC (F:Frm) {sa sb:SV} {m n:Nat} (ha:Nats sa m) (hb:Nats sb n) (b1:(m:Int)<pw 512) (b2:(n:Int)<pw 512):Contract F Tryz.prog 17 [sa,sb] (fun r=>r=.b (decide (m=n))):=by
  obtain⟨xs,hi1,d1⟩:=ha.ints;obtain⟨ys,hi2,d2⟩:=hb.ints;have l1:=(d1.len_le 512).2 b1;have l2:=(d2.len_le 512).2 b2;obtain⟨a1,c1,z1,r1,rfl,hz1,hr1⟩:=hi1;obtain⟨a2,c2,z2,r2,rfl,hz2,hr2⟩:=hi2;have hxy:xs=ys ↔ m=n:=d1.inj d2;refine Qf Tryz.func17 rfl (by kernel_rfl) ?_;simp only[Tryz.ntmps17,Qm];(repeat refine Qb ?_);(refine Qa fun k hk=>?_;simp -implicitDefEqProofs only[id,reduceCtorEq,reduceIte,Nat.reduceMul,Nat.reduceAdd,Nat.reduceLT,Nat.reduceLeDiff,Nat.reduceEqDiff,Int.reduceLT,Int.reduceBEq,Int.reduceBNe,Nat.reduceBEq,frS,qb19];refine hk _ ?_;clear hk k;try show Sat _ _ _ _ _);(repeat refine Qb ?_);(refine Qa fun k hk=>?_;simp -implicitDefEqProofs only[id,reduceCtorEq,reduceIte,Nat.reduceMul,Nat.reduceAdd,Nat.reduceLT,Nat.reduceLeDiff,Nat.reduceEqDiff,Int.reduceLT,Int.reduceBEq,Int.reduceBNe,Nat.reduceBEq,frS,qb19];refine hk _ ?_;clear hk k;try show Sat _ _ _ _ _);refine Qd rfl (fun h=>?_) (fun h=>?_)
  · have hne:xs.length≠ys.length:=by
      simp only[bne_iff_ne] at h;omega
    (repeat refine Qb ?_);(refine Qa fun k hk=>?_;simp -implicitDefEqProofs only[id,reduceCtorEq,reduceIte,Nat.reduceMul,Nat.reduceAdd,Nat.reduceLT,Nat.reduceLeDiff,Nat.reduceEqDiff,Int.reduceLT,Int.reduceBEq,Int.reduceBNe,Nat.reduceBEq,frS,qb19];refine hk _ ?_;clear hk k;try show Sat _ _ _ _ _);refine Sat.ret ?_;simp only[Tryz.results17,id,seval,frS,qb21];rw[decide_eq_false fun h9=>hne (by rw[hxy.2 h9])]
  have hlen:ys.length=xs.length:=by
    have h9:¬ ((xs.length:Int)≠ys.length):=by
      intro h9;rw[bne_iff_ne.2 h9] at h;cases h
    omega
  refine Sat.skip ?_;simp only[Qg];(repeat refine Qb ?_);(refine Qa fun k hk=>?_;simp -implicitDefEqProofs only[id,reduceCtorEq,reduceIte,Nat.reduceMul,Nat.reduceAdd,Nat.reduceLT,Nat.reduceLeDiff,Nat.reduceEqDiff,Int.reduceLT,Int.reduceBEq,Int.reduceBNe,Nat.reduceBEq,frS,qb19];refine hk _ ?_;clear hk k;try show Sat _ _ _ _ _);(repeat refine Qb ?_);refine Sat.block ?_;(repeat refine Qb ?_);refine Sat.loop (ι:=Nat) (fun q=>⟨26,[(5,.i .i64 (q:Int)),(0,.sl a1 xs.length c1 z1 r1),(1,.sl a2 ys.length c2 z2 r2)],[]⟩)
    (fun q=>q≤xs.length∧∀ i,i<q→xs.getD i 0=ys.getD i 0) (fun q=>xs.length - q) 0 ⟨Nat.zero_le _,fun i hi=>by omega⟩ (by simp -implicitDefEqProofs only[id,reduceCtorEq,reduceIte,Nat.reduceMul,Nat.reduceAdd,Nat.reduceLT,Nat.reduceLeDiff,Nat.reduceEqDiff,Int.reduceLT,Int.reduceBEq,Int.reduceBNe,Nat.reduceBEq,frS,qb20];try rfl) ?_
  rintro q ⟨hq,heq⟩;(repeat refine Qb ?_);(refine Qa fun k hk=>?_;simp -implicitDefEqProofs only[id,reduceCtorEq,reduceIte,Nat.reduceMul,Nat.reduceAdd,Nat.reduceLT,Nat.reduceLeDiff,Nat.reduceEqDiff,Int.reduceLT,Int.reduceBEq,Int.reduceBNe,Nat.reduceBEq,frS,qb19];refine hk _ ?_;clear hk k;try show Sat _ _ _ _ _);(repeat refine Qb ?_);refine Qd rfl (fun h=>?_) (fun h=>?_)
  · simp only[decide_eq_true_eq] at h
    have hj:q<xs.length:=by omega
    have hsz1:z1=1:=hz1.resolve_left (by omega);have hsz2:z2=1:=hz2.resolve_left (by omega);subst hsz1 hsz2;have g1:=hr1 q hj;have g2:=hr2 q (by omega);have ej1:IntKind.i64.wrap ((q:Int)+1)=((q+1:Nat):Int):=by rw[w64 (by omega)];omega
    refine Sat.skip ?_;simp only[Qg];(repeat refine Qb ?_);refine Sat.block ?_;(repeat refine Qb ?_);refine ZC (by kernel_rfl) (by kernel_rfl) fun k hk=>?_;simp -implicitDefEqProofs only[id,reduceCtorEq,reduceIte,Nat.reduceMul,Nat.reduceAdd,Nat.reduceLT,Nat.reduceLeDiff,Nat.reduceEqDiff,Int.reduceLT,Int.reduceBEq,Int.reduceBNe,Nat.reduceBEq,frS,qb19];refine⟨by omega,by omega,?_⟩;rw[g1,g2];simp -implicitDefEqProofs only[id,reduceCtorEq,reduceIte,Nat.reduceMul,Nat.reduceAdd,Nat.reduceLT,Nat.reduceLeDiff,Nat.reduceEqDiff,Int.reduceLT,Int.reduceBEq,Int.reduceBNe,Nat.reduceBEq,frS,qb19];(refine hk _ ?_;clear hk k;try show Sat _ _ _ _ _);refine Qd rfl (fun h9=>?_) (fun h9=>?_)
    · have hne:xs≠ys:=fun h10=>by
        subst h10;rw[bne_self_eq_false] at h9;cases h9
      (repeat refine Qb ?_);(refine Qa fun k hk=>?_;simp -implicitDefEqProofs only[id,reduceCtorEq,reduceIte,Nat.reduceMul,Nat.reduceAdd,Nat.reduceLT,Nat.reduceLeDiff,Nat.reduceEqDiff,Int.reduceLT,Int.reduceBEq,Int.reduceBNe,Nat.reduceBEq,frS,qb19];refine hk _ ?_;clear hk k;try show Sat _ _ _ _ _);refine Sat.ret ?_;simp only[Qg,Qk,Tryz.results17,id,seval,frS,qb21];rw[decide_eq_false fun h10=>hne (hxy.2 h10)]
    · have hee:xs.getD q 0=ys.getD q 0:=by
        by_cases h10:xs.getD q 0=ys.getD q 0
        · exact h10
        · rw[bne_iff_ne.2 h10] at h9;cases h9
      refine Sat.skip ?_;simp only[Qg,Qk];(repeat refine Qb ?_);refine Qa fun k hk=>?_;simp -implicitDefEqProofs only[id,reduceCtorEq,reduceIte,Nat.reduceMul,Nat.reduceAdd,Nat.reduceLT,Nat.reduceLeDiff,Nat.reduceEqDiff,Int.reduceLT,Int.reduceBEq,Int.reduceBNe,Nat.reduceBEq,frS,ej1,qb19];refine hk _ ?_;simp only[Qg,Qk];refine⟨q+1,⟨by omega,fun i hi=>?_⟩,by omega,?_⟩
      · rcases (show i<q∨i=q by omega) with h10|rfl
        · exact heq i h10
        · exact hee
      simp -implicitDefEqProofs only[id,reduceCtorEq,reduceIte,Nat.reduceMul,Nat.reduceAdd,Nat.reduceLT,Nat.reduceLeDiff,Nat.reduceEqDiff,Int.reduceLT,Int.reduceBEq,Int.reduceBNe,Nat.reduceBEq,frS,qb20]
  · simp only[decide_eq_false_iff_not] at h
    have hq2:q=xs.length:=by omega
    have hxs:xs=ys:=by
      apply List.ext_getElem hlen.symm;intro i h1 h2;have:=heq i (by omega)
      simpa [List.getD,h1,h2] using this
    refine Sat.exit ?_;simp only[Qg,Qk,reduceIte];(repeat refine Qb ?_);(refine Qa fun k hk=>?_;simp -implicitDefEqProofs only[id,reduceCtorEq,reduceIte,Nat.reduceMul,Nat.reduceAdd,Nat.reduceLT,Nat.reduceLeDiff,Nat.reduceEqDiff,Int.reduceLT,Int.reduceBEq,Int.reduceBNe,Nat.reduceBEq,frS,qb19];refine hk _ ?_;clear hk k;try show Sat _ _ _ _ _);refine Sat.ret ?_;simp only[Tryz.results17,id,seval,frS,qb21];rw[decide_eq_true (hxy.1 hxs)]
set_option maxRecDepth 100000 in
theorem refSame3C (F:Frm) (na nb:Bool) {sp sq sr ss:SV} {p q r s:Nat} (hp:Nats sp p) (hq:Nats sq q) (hr:Nats sr r) (hs:Nats ss s) (b1:(p:Int)<pw 512) (b2:(q:Int)<pw 512) (b3:(r:Int)<pw 512) (b4:(s:Int)<pw 512) :
    Contract F Tryz.prog 56 [frS na sp sq,frS nb sr ss] (fun x=>x=.b (decide (na=nb∧p=r∧q=s))):=by
  have hp':=hp;have hq':=hq;have hr':=hr;have hs':=hs;obtain⟨a1,c1,z1,r1,x1,rfl,_⟩:=hp;obtain⟨a2,c2,z2,r2,x2,rfl,_⟩:=hq;obtain⟨a3,c3,z3,r3,x3,rfl,_⟩:=hr;obtain⟨a4,c4,z4,r4,x4,rfl,_⟩:=hs;refine Qf Tryz.func56 rfl (by kernel_rfl) ?_;simp only[Tryz.ntmps56,Qm,frS];(repeat refine Qb ?_);(refine Qa fun k hk=>?_;simp -implicitDefEqProofs only[id,reduceCtorEq,reduceIte,Nat.reduceMul,Nat.reduceAdd,Nat.reduceLT,Nat.reduceLeDiff,Nat.reduceEqDiff,Int.reduceLT,Int.reduceBEq,Int.reduceBNe,Nat.reduceBEq,frS,qb19]);intro blk1 blk2;(refine hk _ ?_;clear hk k;try show Sat _ _ _ _ _);(repeat refine Qb ?_);refine Qj ⟨24,[(4,.b (decide (na=nb∧p=r∧q=s)))],[]⟩ (fun k hk=>?_) ?_
  · simp -implicitDefEqProofs only[id,reduceCtorEq,reduceIte,Nat.reduceMul,Nat.reduceAdd,Nat.reduceLT,Nat.reduceLeDiff,Nat.reduceEqDiff,Int.reduceLT,Int.reduceBEq,Int.reduceBNe,Nat.reduceBEq,frS,qb19]
    refine⟨fun h=>?_,fun h=>?_⟩
    · have hn:na=nb:=by simpa using h
      refine Qe (refSameC F hp' hr' b1 b3) rfl (by rintro _ rfl;exact Qi rfl) ?_;rintro y rfl;simp -implicitDefEqProofs only[id,reduceCtorEq,reduceIte,Nat.reduceMul,Nat.reduceAdd,Nat.reduceLT,Nat.reduceLeDiff,Nat.reduceEqDiff,Int.reduceLT,Int.reduceBEq,Int.reduceBNe,Nat.reduceBEq,frS,qb19];refine⟨fun h2=>?_,fun h2=>?_⟩
      · refine Qe (refSameC F hq' hs' b2 b4) rfl (by rintro _ rfl;exact Qi rfl) ?_
        rintro y rfl;simp -implicitDefEqProofs only[id,reduceCtorEq,reduceIte,Nat.reduceMul,Nat.reduceAdd,Nat.reduceLT,Nat.reduceLeDiff,Nat.reduceEqDiff,Int.reduceLT,Int.reduceBEq,Int.reduceBNe,Nat.reduceBEq,frS,qb19];refine hk _ ?_;have e:decide (na=nb∧p=r∧q=s)=decide (q=s):=by simp [hn,h2]
        rw[e];simp -implicitDefEqProofs only[id,reduceCtorEq,reduceIte,Nat.reduceMul,Nat.reduceAdd,Nat.reduceLT,Nat.reduceLeDiff,Nat.reduceEqDiff,Int.reduceLT,Int.reduceBEq,Int.reduceBNe,Nat.reduceBEq,frS,qb20]
      · refine hk _ ?_
        have e:decide (na=nb∧p=r∧q=s)=false:=by simp [h2]
        rw[e];simp -implicitDefEqProofs only[id,reduceCtorEq,reduceIte,Nat.reduceMul,Nat.reduceAdd,Nat.reduceLT,Nat.reduceLeDiff,Nat.reduceEqDiff,Int.reduceLT,Int.reduceBEq,Int.reduceBNe,Nat.reduceBEq,frS,qb20];try exact h2
    · have hn:¬ na=nb:=by simpa using h
      refine hk _ ?_;have e:decide (na=nb∧p=r∧q=s)=false:=by simp [hn]
      rw[e];simp -implicitDefEqProofs only[id,reduceCtorEq,reduceIte,Nat.reduceMul,Nat.reduceAdd,Nat.reduceLT,Nat.reduceLeDiff,Nat.reduceEqDiff,Int.reduceLT,Int.reduceBEq,Int.reduceBNe,Nat.reduceBEq,frS,qb20];try exact h
  simp only[Qg];refine Sat.ret ?_;simp only[Tryz.results56,id,seval,frS,qb21]
end Go.Proofs.YtabgkfjfmjdfiaaGreatDoor
