import Derived.Test.YtabgkfjfmjdfiaaGreatDoorNxA
set_option linter.unusedSimpArgs false
set_option linter.unusedVariables false
set_option linter.defProp false
namespace Go.Proofs.YtabgkfjfmjdfiaaGreatDoor
open Eng Lmb Go.RowKit
def limbB (x:Int):Bool:=decide (0≤x) && decide (x<1073741824)
def okL (xs:List Int):Bool:=xs.all limbB && (decide (xs.length≤256) && (decide (xs.length=0) || decide (xs.getD (xs.length - 1) 0≠0)))
theorem limbB_neg {x:Int} (h:x<0):(!limbB x)=true:=by unfold limbB;simp;omega
theorem limbB_pos {x:Int} (h:¬ x<0):decide (1073741824≤x)=(!limbB x):=by
  unfold limbB;apply Bool.eq_iff_iff.2;simp;omega
theorem okL_bad {xs:List Int} {q:Nat} (hq:q<xs.length) (h:(!limbB (xs.getD q 0))=true):okL xs=false:=by
  have hm:xs.getD q 0∈xs:=by rw[List.getD_eq_getElem?_getD,List.getElem?_eq_getElem hq];exact List.getElem_mem _
  unfold okL
  have h2:xs.all limbB=false:=by
    apply Bool.eq_false_iff.2;intro h3;have:=List.all_eq_true.1 h3 _ hm;rw[this] at h;cases h
  rw[h2];rfl
theorem all_next {xs:List Int} {q:Nat} (hq:q<xs.length) (h:(xs.take q).all limbB=true) (h2:(!limbB (xs.getD q 0))=false):(xs.take (q+1)).all limbB=true:=by
  have e:xs.take (q+1)=xs.take q ++ [xs.getD q 0]:=by
    rw[List.take_add_one,List.getElem?_eq_getElem hq,List.getD_eq_getElem?_getD,List.getElem?_eq_getElem hq];rfl
  rw[e,List.all_append,h]
  simpa using h2
def qb31:=And.intro @evr (And.intro @List.append_nil.{0} (And.intro @Int.toNat_zero (@Nat.sub_self)))
def qb29:=And.intro @evr (@evn)
def qb30:=And.intro @evr (And.intro @evl (@evn))
set_option maxRecDepth 100000 in
theorem natValidLC (F:Frm) {s:SV} {xs:List Int} (hi1:Ints s xs) (hl:xs.length≤100000):Contract F Tryz.prog 35 [s] (fun r=>r=.b (okL xs)):=by
  obtain⟨a1,c1,z1,r1,rfl,hz1,hr1⟩:=hi1;refine Qf Tryz.func35 rfl (by kernel_rfl) ?_;simp only[Tryz.ntmps35,Qm];(repeat refine Qb ?_);(refine Qa fun k hk=>?_;simp -implicitDefEqProofs only[id,reduceCtorEq,reduceIte,Nat.reduceMul,Nat.reduceAdd,Nat.reduceLT,Nat.reduceLeDiff,Nat.reduceEqDiff,Int.reduceLT,Int.reduceBEq,Int.reduceBNe,Nat.reduceBEq,frS,qb29];refine hk _ ?_;clear hk k;try show Sat _ _ _ _ _);(repeat refine Qb ?_);(refine Qa fun k hk=>?_;simp -implicitDefEqProofs only[id,reduceCtorEq,reduceIte,Nat.reduceMul,Nat.reduceAdd,Nat.reduceLT,Nat.reduceLeDiff,Nat.reduceEqDiff,Int.reduceLT,Int.reduceBEq,Int.reduceBNe,Nat.reduceBEq,frS,qb29];refine hk _ ?_;clear hk k;try show Sat _ _ _ _ _);(repeat refine Qb ?_);refine Sat.block ?_;(repeat refine Qb ?_);refine Sat.loop (ι:=Nat) (fun q=>⟨35,[(7,.i .i64 (q:Int)),(6,.i .i64 (xs.length:Nat)),(5,.sl a1 xs.length c1 z1 r1),(0,.sl a1 xs.length c1 z1 r1)],[]⟩)
    (fun q=>q≤xs.length∧(xs.take q).all limbB=true) (fun q=>xs.length - q) 0 ⟨Nat.zero_le _,rfl⟩ (by simp -implicitDefEqProofs only[id,reduceCtorEq,reduceIte,Nat.reduceMul,Nat.reduceAdd,Nat.reduceLT,Nat.reduceLeDiff,Nat.reduceEqDiff,Int.reduceLT,Int.reduceBEq,Int.reduceBNe,Nat.reduceBEq,frS,qb30];try rfl) ?_
  rintro q ⟨hq,hall⟩;(repeat refine Qb ?_);(refine Qa fun k hk=>?_;simp -implicitDefEqProofs only[id,reduceCtorEq,reduceIte,Nat.reduceMul,Nat.reduceAdd,Nat.reduceLT,Nat.reduceLeDiff,Nat.reduceEqDiff,Int.reduceLT,Int.reduceBEq,Int.reduceBNe,Nat.reduceBEq,frS,qb29];refine hk _ ?_;clear hk k;try show Sat _ _ _ _ _);(repeat refine Qb ?_);refine Qd rfl (fun h=>?_) (fun h=>?_)
  · simp only[decide_eq_true_eq] at h
    have hj:q<xs.length:=by omega
    have hsz1:z1=1:=hz1.resolve_left (by omega);subst hsz1;have g1:=hr1 q hj;have ej1:IntKind.i64.wrap ((q:Int)+1)=((q+1:Nat):Int):=by rw[w64 (by omega)];omega
    refine Sat.skip ?_;simp only[Qg];(repeat refine Qb ?_);refine Sat.block ?_;(repeat refine Qb ?_);(refine Qa fun k hk=>?_;simp -implicitDefEqProofs only[id,reduceCtorEq,reduceIte,Nat.reduceMul,Nat.reduceAdd,Nat.reduceLT,Nat.reduceLeDiff,Nat.reduceEqDiff,Int.reduceLT,Int.reduceBEq,Int.reduceBNe,Nat.reduceBEq,frS,qb29]);refine⟨by omega,?_⟩;rw[g1];(refine hk _ ?_;clear hk k;try show Sat _ _ _ _ _);(repeat refine Qb ?_);refine Qj ⟨35,[(16,.b (!limbB (xs.getD q 0))),(7,.i .i64 (q:Int)),(6,.i .i64 (xs.length:Nat)),(5,.sl a1 xs.length c1 1 r1),(0,.sl a1 xs.length c1 1 r1)],[]⟩ (fun k hk=>?_) ?_
    · simp -implicitDefEqProofs only[id,reduceCtorEq,reduceIte,Nat.reduceMul,Nat.reduceAdd,Nat.reduceLT,Nat.reduceLeDiff,Nat.reduceEqDiff,Int.reduceLT,Int.reduceBEq,Int.reduceBNe,Nat.reduceBEq,frS,qb29]
      refine⟨fun h9=>?_,fun h9=>?_⟩
      · refine hk _ ?_
        rw[limbB_neg h9];simp -implicitDefEqProofs only[id,reduceCtorEq,reduceIte,Nat.reduceMul,Nat.reduceAdd,Nat.reduceLT,Nat.reduceLeDiff,Nat.reduceEqDiff,Int.reduceLT,Int.reduceBEq,Int.reduceBNe,Nat.reduceBEq,frS,qb30];try exact h9
      · refine hk _ ?_
        rw[limbB_pos h9];simp -implicitDefEqProofs only[id,reduceCtorEq,reduceIte,Nat.reduceMul,Nat.reduceAdd,Nat.reduceLT,Nat.reduceLeDiff,Nat.reduceEqDiff,Int.reduceLT,Int.reduceBEq,Int.reduceBNe,Nat.reduceBEq,frS,qb30]
    simp only[Qg];refine Qd rfl (fun h=>?_) (fun h=>?_)
    · (repeat refine Qb ?_)
      (refine Qa fun k hk=>?_;simp -implicitDefEqProofs only[id,reduceCtorEq,reduceIte,Nat.reduceMul,Nat.reduceAdd,Nat.reduceLT,Nat.reduceLeDiff,Nat.reduceEqDiff,Int.reduceLT,Int.reduceBEq,Int.reduceBNe,Nat.reduceBEq,frS,qb29];refine hk _ ?_;clear hk k;try show Sat _ _ _ _ _);refine Sat.ret ?_;simp only[Tryz.results35,id,seval,frS,qb31];rw[okL_bad hj h]
    refine Sat.skip ?_;simp only[Qg,Qk];(repeat refine Qb ?_);refine Qa fun k hk=>?_;simp -implicitDefEqProofs only[id,reduceCtorEq,reduceIte,Nat.reduceMul,Nat.reduceAdd,Nat.reduceLT,Nat.reduceLeDiff,Nat.reduceEqDiff,Int.reduceLT,Int.reduceBEq,Int.reduceBNe,Nat.reduceBEq,frS,ej1,qb29];refine hk _ ?_;simp only[Qg,Qk];refine⟨q+1,⟨by omega,all_next hj hall h⟩,by omega,?_⟩;simp -implicitDefEqProofs only[id,reduceCtorEq,reduceIte,Nat.reduceMul,Nat.reduceAdd,Nat.reduceLT,Nat.reduceLeDiff,Nat.reduceEqDiff,Int.reduceLT,Int.reduceBEq,Int.reduceBNe,Nat.reduceBEq,frS,qb30]
  · have hqe:q=xs.length:=by have:=of_decide_eq_false h;omega
    rw[hqe,List.take_length] at hall;have eO:okL xs=(decide (xs.length≤256) && (decide (xs.length=0) || decide (xs.getD (xs.length - 1) 0≠0))):=by unfold okL;rw[hall,Bool.true_and]
    refine Sat.exit ?_;simp only[Qg,Qk,reduceIte];(repeat refine Qb ?_);refine Qj ⟨35,[(2,.b (okL xs))],[]⟩ (fun k hk=>?_) ?_
    · simp -implicitDefEqProofs only[id,reduceCtorEq,reduceIte,Nat.reduceMul,Nat.reduceAdd,Nat.reduceLT,Nat.reduceLeDiff,Nat.reduceEqDiff,Int.reduceLT,Int.reduceBEq,Int.reduceBNe,Nat.reduceBEq,frS,qb29]
      refine⟨fun h9=>⟨fun h8=>?_,fun h8=>?_⟩,fun h9=>?_⟩
      · refine hk _ ?_
        have h7:xs.length=0:=by have:=eq_of_beq h8;omega
        rw[eO,h7];simp -implicitDefEqProofs only[id,reduceCtorEq,reduceIte,Nat.reduceMul,Nat.reduceAdd,Nat.reduceLT,Nat.reduceLeDiff,Nat.reduceEqDiff,Int.reduceLT,Int.reduceBEq,Int.reduceBNe,Nat.reduceBEq,frS,qb30];try exact h8
      · have h7:¬ (xs.length:Int)=0:=by
          intro h6;rw[h6] at h8;cases h8
        have hsz1:z1=1:=hz1.resolve_left (by omega);subst hsz1;have e1:IntKind.i64.wrap ((xs.length:Int) - 1)=((xs.length - 1:Nat):Int):=by rw[w64 (by omega)];omega
        rw[e1];refine⟨by omega,?_⟩;rw[Int.toNat_natCast,hr1 _ (by omega)];simp -implicitDefEqProofs only[id,reduceCtorEq,reduceIte,Nat.reduceMul,Nat.reduceAdd,Nat.reduceLT,Nat.reduceLeDiff,Nat.reduceEqDiff,Int.reduceLT,Int.reduceBEq,Int.reduceBNe,Nat.reduceBEq,frS,qb29];refine hk _ ?_
        have e:okL xs=(xs.getD (xs.length - 1) 0 != 0):=by
          rw[eO,decide_eq_true (show xs.length≤256 by omega),decide_eq_false (show ¬ xs.length=0 by omega),Bool.true_and,Bool.false_or];apply Bool.eq_iff_iff.2;rw[decide_eq_true_eq,bne_iff_ne]
        rw[e];simp -implicitDefEqProofs only[id,reduceCtorEq,reduceIte,Nat.reduceMul,Nat.reduceAdd,Nat.reduceLT,Nat.reduceLeDiff,Nat.reduceEqDiff,Int.reduceLT,Int.reduceBEq,Int.reduceBNe,Nat.reduceBEq,frS,qb30];try rfl
      · refine hk _ ?_
        have e:okL xs=false:=by rw[eO,decide_eq_false (show ¬ xs.length≤256 by omega),Bool.false_and]
        rw[e];simp -implicitDefEqProofs only[id,reduceCtorEq,reduceIte,Nat.reduceMul,Nat.reduceAdd,Nat.reduceLT,Nat.reduceLeDiff,Nat.reduceEqDiff,Int.reduceLT,Int.reduceBEq,Int.reduceBNe,Nat.reduceBEq,frS,qb30];try exact h9
    simp only[Qg];refine Sat.ret ?_;simp only[Tryz.results35,id,seval,frS,qb31]
set_option maxRecDepth 100000 in
theorem refValidLC (F:Frm) {s:SV} {xs:List Int} (hi1:Ints s xs) (hl:xs.length≤100000):Contract F Tryz.prog 36 [s] (fun r=>r=.b (okL xs)):=by
  obtain⟨a1,c1,z1,r1,rfl,hz1,hr1⟩:=hi1;refine Qf Tryz.func36 rfl (by kernel_rfl) ?_;simp only[Tryz.ntmps36,Qm];(repeat refine Qb ?_);(refine Qa fun k hk=>?_;simp -implicitDefEqProofs only[id,reduceCtorEq,reduceIte,Nat.reduceMul,Nat.reduceAdd,Nat.reduceLT,Nat.reduceLeDiff,Nat.reduceEqDiff,Int.reduceLT,Int.reduceBEq,Int.reduceBNe,Nat.reduceBEq,frS,qb29];refine hk _ ?_;clear hk k;try show Sat _ _ _ _ _);(repeat refine Qb ?_);(refine Qa fun k hk=>?_;simp -implicitDefEqProofs only[id,reduceCtorEq,reduceIte,Nat.reduceMul,Nat.reduceAdd,Nat.reduceLT,Nat.reduceLeDiff,Nat.reduceEqDiff,Int.reduceLT,Int.reduceBEq,Int.reduceBNe,Nat.reduceBEq,frS,qb29];refine hk _ ?_;clear hk k;try show Sat _ _ _ _ _);(repeat refine Qb ?_);refine Sat.block ?_;(repeat refine Qb ?_);refine Sat.loop (ι:=Nat) (fun q=>⟨39,[(3,.i .i64 (q:Int)),(0,.sl a1 xs.length c1 z1 r1)],[]⟩)
    (fun q=>q≤xs.length∧(xs.take q).all limbB=true) (fun q=>xs.length - q) 0 ⟨Nat.zero_le _,rfl⟩ (by simp -implicitDefEqProofs only[id,reduceCtorEq,reduceIte,Nat.reduceMul,Nat.reduceAdd,Nat.reduceLT,Nat.reduceLeDiff,Nat.reduceEqDiff,Int.reduceLT,Int.reduceBEq,Int.reduceBNe,Nat.reduceBEq,frS,qb30];try rfl) ?_
  rintro q ⟨hq,hall⟩;(repeat refine Qb ?_);(refine Qa fun k hk=>?_;simp -implicitDefEqProofs only[id,reduceCtorEq,reduceIte,Nat.reduceMul,Nat.reduceAdd,Nat.reduceLT,Nat.reduceLeDiff,Nat.reduceEqDiff,Int.reduceLT,Int.reduceBEq,Int.reduceBNe,Nat.reduceBEq,frS,qb29];refine hk _ ?_;clear hk k;try show Sat _ _ _ _ _);(repeat refine Qb ?_);refine Qd rfl (fun h=>?_) (fun h=>?_)
  · simp only[decide_eq_true_eq] at h
    have hj:q<xs.length:=by omega
    have hsz1:z1=1:=hz1.resolve_left (by omega);subst hsz1;have g1:=hr1 q hj;have ej1:IntKind.i64.wrap ((q:Int)+1)=((q+1:Nat):Int):=by rw[w64 (by omega)];omega
    refine Sat.skip ?_;simp only[Qg];(repeat refine Qb ?_);refine Sat.block ?_;(repeat refine Qb ?_);refine Qj ⟨39,[(21,.b (!limbB (xs.getD q 0))),(3,.i .i64 (q:Int)),(0,.sl a1 xs.length c1 1 r1)],[]⟩ (fun k hk=>?_) ?_
    · simp -implicitDefEqProofs only[id,reduceCtorEq,reduceIte,Nat.reduceMul,Nat.reduceAdd,Nat.reduceLT,Nat.reduceLeDiff,Nat.reduceEqDiff,Int.reduceLT,Int.reduceBEq,Int.reduceBNe,Nat.reduceBEq,frS,qb29]
      refine⟨by omega,?_⟩;rw[g1];simp -implicitDefEqProofs only[id,reduceCtorEq,reduceIte,Nat.reduceMul,Nat.reduceAdd,Nat.reduceLT,Nat.reduceLeDiff,Nat.reduceEqDiff,Int.reduceLT,Int.reduceBEq,Int.reduceBNe,Nat.reduceBEq,frS,qb29];refine⟨fun h9=>?_,fun h9=>?_⟩
      · refine hk _ ?_
        rw[limbB_neg h9];simp -implicitDefEqProofs only[id,reduceCtorEq,reduceIte,Nat.reduceMul,Nat.reduceAdd,Nat.reduceLT,Nat.reduceLeDiff,Nat.reduceEqDiff,Int.reduceLT,Int.reduceBEq,Int.reduceBNe,Nat.reduceBEq,frS,qb30];try exact h9
      · refine⟨by omega,?_⟩
        try rw[g1]
        try simp -implicitDefEqProofs only[id,reduceCtorEq,reduceIte,Nat.reduceMul,Nat.reduceAdd,Nat.reduceLT,Nat.reduceLeDiff,Nat.reduceEqDiff,Int.reduceLT,Int.reduceBEq,Int.reduceBNe,Nat.reduceBEq,frS,qb29]
        refine hk _ ?_;rw[limbB_pos h9];simp -implicitDefEqProofs only[id,reduceCtorEq,reduceIte,Nat.reduceMul,Nat.reduceAdd,Nat.reduceLT,Nat.reduceLeDiff,Nat.reduceEqDiff,Int.reduceLT,Int.reduceBEq,Int.reduceBNe,Nat.reduceBEq,frS,qb30]
    simp only[Qg];refine Qd rfl (fun h=>?_) (fun h=>?_)
    · (repeat refine Qb ?_)
      (refine Qa fun k hk=>?_;simp -implicitDefEqProofs only[id,reduceCtorEq,reduceIte,Nat.reduceMul,Nat.reduceAdd,Nat.reduceLT,Nat.reduceLeDiff,Nat.reduceEqDiff,Int.reduceLT,Int.reduceBEq,Int.reduceBNe,Nat.reduceBEq,frS,qb29];refine hk _ ?_;clear hk k;try show Sat _ _ _ _ _);refine Sat.ret ?_;simp only[Tryz.results36,id,seval,frS,qb31];rw[okL_bad hj h]
    refine Sat.skip ?_;simp only[Qg,Qk];(repeat refine Qb ?_);refine Qa fun k hk=>?_;simp -implicitDefEqProofs only[id,reduceCtorEq,reduceIte,Nat.reduceMul,Nat.reduceAdd,Nat.reduceLT,Nat.reduceLeDiff,Nat.reduceEqDiff,Int.reduceLT,Int.reduceBEq,Int.reduceBNe,Nat.reduceBEq,frS,ej1,qb29];refine hk _ ?_;simp only[Qg,Qk];refine⟨q+1,⟨by omega,all_next hj hall h⟩,by omega,?_⟩;simp -implicitDefEqProofs only[id,reduceCtorEq,reduceIte,Nat.reduceMul,Nat.reduceAdd,Nat.reduceLT,Nat.reduceLeDiff,Nat.reduceEqDiff,Int.reduceLT,Int.reduceBEq,Int.reduceBNe,Nat.reduceBEq,frS,qb30]
  · have hqe:q=xs.length:=by have:=of_decide_eq_false h;omega
    rw[hqe,List.take_length] at hall;have eO:okL xs=(decide (xs.length≤256) && (decide (xs.length=0) || decide (xs.getD (xs.length - 1) 0≠0))):=by unfold okL;rw[hall,Bool.true_and]
    refine Sat.exit ?_;simp only[Qg,Qk,reduceIte];(repeat refine Qb ?_);refine Qj ⟨39,[(2,.b (okL xs))],[]⟩ (fun k hk=>?_) ?_
    · simp -implicitDefEqProofs only[id,reduceCtorEq,reduceIte,Nat.reduceMul,Nat.reduceAdd,Nat.reduceLT,Nat.reduceLeDiff,Nat.reduceEqDiff,Int.reduceLT,Int.reduceBEq,Int.reduceBNe,Nat.reduceBEq,frS,qb29]
      refine⟨fun h9=>⟨fun h8=>?_,fun h8=>?_⟩,fun h9=>?_⟩
      · refine hk _ ?_
        have h7:xs.length=0:=by have:=eq_of_beq h8;omega
        rw[eO,h7];simp -implicitDefEqProofs only[id,reduceCtorEq,reduceIte,Nat.reduceMul,Nat.reduceAdd,Nat.reduceLT,Nat.reduceLeDiff,Nat.reduceEqDiff,Int.reduceLT,Int.reduceBEq,Int.reduceBNe,Nat.reduceBEq,frS,qb30];try exact h8
      · have h7:¬ (xs.length:Int)=0:=by
          intro h6;rw[h6] at h8;cases h8
        have hsz1:z1=1:=hz1.resolve_left (by omega);subst hsz1;have e1:IntKind.i64.wrap ((xs.length:Int) - 1)=((xs.length - 1:Nat):Int):=by rw[w64 (by omega)];omega
        rw[e1];refine⟨by omega,?_⟩;rw[Int.toNat_natCast,hr1 _ (by omega)];simp -implicitDefEqProofs only[id,reduceCtorEq,reduceIte,Nat.reduceMul,Nat.reduceAdd,Nat.reduceLT,Nat.reduceLeDiff,Nat.reduceEqDiff,Int.reduceLT,Int.reduceBEq,Int.reduceBNe,Nat.reduceBEq,frS,qb29];refine hk _ ?_
        have e:okL xs=(xs.getD (xs.length - 1) 0 != 0):=by
          rw[eO,decide_eq_true (show xs.length≤256 by omega),decide_eq_false (show ¬ xs.length=0 by omega),Bool.true_and,Bool.false_or];apply Bool.eq_iff_iff.2;rw[decide_eq_true_eq,bne_iff_ne]
        rw[e];simp -implicitDefEqProofs only[id,reduceCtorEq,reduceIte,Nat.reduceMul,Nat.reduceAdd,Nat.reduceLT,Nat.reduceLeDiff,Nat.reduceEqDiff,Int.reduceLT,Int.reduceBEq,Int.reduceBNe,Nat.reduceBEq,frS,qb30];try rfl
      · refine hk _ ?_
        have e:okL xs=false:=by rw[eO,decide_eq_false (show ¬ xs.length≤256 by omega),Bool.false_and]
        rw[e];simp -implicitDefEqProofs only[id,reduceCtorEq,reduceIte,Nat.reduceMul,Nat.reduceAdd,Nat.reduceLT,Nat.reduceLeDiff,Nat.reduceEqDiff,Int.reduceLT,Int.reduceBEq,Int.reduceBNe,Nat.reduceBEq,frS,qb30];try exact h9
    simp only[Qg];refine Sat.ret ?_;simp only[Tryz.results36,id,seval,frS,qb31]
set_option maxRecDepth 100000 in
theorem refIntC (F:Frm) {s:SV} {n:Nat} (hs:Nats s n) (hb:(n:Int)<pw 512):Contract F Tryz.prog 32 [s] (fun r=>r=QW [.i .i64 (intV n),.i .i64 (intE n)]):=by
  have hs1:=hs;obtain⟨xs,hi1,d1⟩:=hs.ints;have l1:=(d1.len_le 512).2 hb;obtain⟨a1,c1,z1,r1,rfl,hz1,hr1⟩:=hi1;refine Qf Tryz.func32 rfl (by kernel_rfl) ?_;simp only[Tryz.ntmps32,Qm];have e0:IntKind.i64.wrap ((xs.length:Int) - 1)=(xs.length:Int) - 1:=w64 (by omega);(repeat refine Qb ?_);(refine Qa fun k hk=>?_;simp -implicitDefEqProofs only[id,reduceCtorEq,reduceIte,Nat.reduceMul,Nat.reduceAdd,Nat.reduceLT,Nat.reduceLeDiff,Nat.reduceEqDiff,Int.reduceLT,Int.reduceBEq,Int.reduceBNe,Nat.reduceBEq,frS,qb29];refine hk _ ?_;clear hk k;try show Sat _ _ _ _ _);(repeat refine Qb ?_);(refine Qa fun k hk=>?_;simp -implicitDefEqProofs only[id,reduceCtorEq,reduceIte,Nat.reduceMul,Nat.reduceAdd,Nat.reduceLT,Nat.reduceLeDiff,Nat.reduceEqDiff,Int.reduceLT,Int.reduceBEq,Int.reduceBNe,Nat.reduceBEq,frS,qb29]);refine Qc (refWordC F 4611686018427387904 (by decide)) rfl rfl ?_;intro y hy;have hy1:=hy;obtain⟨a2,c2,z2,r2,x2,rfl,_⟩:=hy;simp -implicitDefEqProofs only[id,reduceCtorEq,reduceIte,Nat.reduceMul,Nat.reduceAdd,Nat.reduceLT,Nat.reduceLeDiff,Nat.reduceEqDiff,Int.reduceLT,Int.reduceBEq,Int.reduceBNe,Nat.reduceBEq,frS,qb29];refine Qe (refCompareC F hs1 hy1 hb) rfl (by rintro _ rfl;exact Qi rfl) ?_;rintro _ rfl;simp -implicitDefEqProofs only[id,reduceCtorEq,reduceIte,Nat.reduceMul,Nat.reduceAdd,Nat.reduceLT,Nat.reduceLeDiff,Nat.reduceEqDiff,Int.reduceLT,Int.reduceBEq,Int.reduceBNe,Nat.reduceBEq,frS,qb29];(refine hk _ ?_;clear hk k;try show Sat _ _ _ _ _);refine Qd rfl (fun h=>?_) (fun h=>?_)
  · have h9:=of_decide_eq_true h
    have hbig:¬ n≤4611686018427387904:=by
      intro h8;rcases Nat.lt_or_ge n 4611686018427387904 with h7|h7
      · rw[ZA (by omega)] at h9;omega
      · rw[cmpI_eq (by omega)] at h9;omega
    (repeat refine Qb ?_);(refine Qa fun k hk=>?_;simp -implicitDefEqProofs only[id,reduceCtorEq,reduceIte,Nat.reduceMul,Nat.reduceAdd,Nat.reduceLT,Nat.reduceLeDiff,Nat.reduceEqDiff,Int.reduceLT,Int.reduceBEq,Int.reduceBNe,Nat.reduceBEq,frS,qb29];refine hk _ ?_;clear hk k;try show Sat _ _ _ _ _);refine Sat.ret ?_;simp only[Tryz.results32,id,seval,frS,qb31];unfold intV intE;rw[if_neg hbig,if_neg hbig]
  have h9:=of_decide_eq_false h
  have hsm:n≤4611686018427387904:=by
    rcases Nat.lt_or_ge 4611686018427387904 n with h7|h7
    · rw[cmpI_gt (by omega)] at h9;omega
    · exact h7
  refine Sat.skip ?_;simp only[Qg];(repeat refine Qb ?_);(refine Qa fun k hk=>?_;simp -implicitDefEqProofs only[id,reduceCtorEq,reduceIte,Nat.reduceMul,Nat.reduceAdd,Nat.reduceLT,Nat.reduceLeDiff,Nat.reduceEqDiff,Int.reduceLT,Int.reduceBEq,Int.reduceBNe,Nat.reduceBEq,frS,qb29];refine hk _ ?_;clear hk k;try show Sat _ _ _ _ _);(repeat refine Qb ?_);refine Qa fun k hk=>?_;simp -implicitDefEqProofs only[id,reduceCtorEq,reduceIte,Nat.reduceMul,Nat.reduceAdd,Nat.reduceLT,Nat.reduceLeDiff,Nat.reduceEqDiff,Int.reduceLT,Int.reduceBEq,Int.reduceBNe,Nat.reduceBEq,frS,e0,qb29];(refine hk _ ?_;clear hk k;try show Sat _ _ _ _ _);(repeat refine Qb ?_);refine Sat.block ?_;(repeat refine Qb ?_);refine Sat.loop (ι:=Nat) (fun q=>⟨25,[(5,.i .i64 ((q:Int) - 1)),(4,.i .i64 (val (xs.drop q))),(0,.sl a1 xs.length c1 z1 r1)],[]⟩)
    (fun q=>q≤xs.length) (fun q=>q) xs.length (Nat.le_refl _) (by rw[List.drop_length];simp -implicitDefEqProofs only[id,reduceCtorEq,reduceIte,Nat.reduceMul,Nat.reduceAdd,Nat.reduceLT,Nat.reduceLeDiff,Nat.reduceEqDiff,Int.reduceLT,Int.reduceBEq,Int.reduceBNe,Nat.reduceBEq,frS,qb30];try rfl) ?_
  rintro q hq;have hv0:0≤val (xs.drop q):=Qp fun x hx=>d1.limbs x (List.mem_of_mem_drop hx);have hvle:=val_drop_le d1.limbs q;rw[d1.val] at hvle;(repeat refine Qb ?_);(refine Qa fun k hk=>?_;simp -implicitDefEqProofs only[id,reduceCtorEq,reduceIte,Nat.reduceMul,Nat.reduceAdd,Nat.reduceLT,Nat.reduceLeDiff,Nat.reduceEqDiff,Int.reduceLT,Int.reduceBEq,Int.reduceBNe,Nat.reduceBEq,frS,qb29];refine hk _ ?_;clear hk k;try show Sat _ _ _ _ _);(repeat refine Qb ?_);refine Qd rfl (fun h=>?_) (fun h=>?_)
  · simp only[decide_eq_true_eq] at h
    obtain⟨j,rfl⟩:∃ j,q=j+1:=⟨q - 1,by omega⟩;have hj:j<xs.length:=by omega
    have ej:(((j+1:Nat):Int) - 1)=(j:Int):=by omega
    have ej2:IntKind.i64.wrap ((j:Int) - 1)=(j:Int) - 1:=w64 (by omega);have hsz1:z1=1:=hz1.resolve_left (by omega);subst hsz1;have g1:=hr1 j hj;have bx:=Qh d1.limbs j;have hd:=QK xs j hj;have hle:=val_drop_le d1.limbs j;rw[d1.val] at hle;generalize val (xs.drop (j+1))=v at hv0 hd;generalize hx:xs.getD j 0=x at g1 bx hd;have w3:IntKind.i64.wrap (v * 1073741824)=v * 1073741824:=w64 (by omega);have w4:IntKind.i64.wrap (v * 1073741824+x)=v * 1073741824+x:=w64 (by omega);refine Sat.skip ?_;simp only[Qg,ej];(repeat refine Qb ?_);refine Sat.block ?_;(repeat refine Qb ?_);refine Qa fun k hk=>?_;simp -implicitDefEqProofs only[id,reduceCtorEq,reduceIte,Nat.reduceMul,Nat.reduceAdd,Nat.reduceLT,Nat.reduceLeDiff,Nat.reduceEqDiff,Int.reduceLT,Int.reduceBEq,Int.reduceBNe,Nat.reduceBEq,frS,qb29];refine⟨by omega,?_⟩;rw[g1];simp -implicitDefEqProofs only[id,reduceCtorEq,reduceIte,Nat.reduceMul,Nat.reduceAdd,Nat.reduceLT,Nat.reduceLeDiff,Nat.reduceEqDiff,Int.reduceLT,Int.reduceBEq,Int.reduceBNe,Nat.reduceBEq,frS,w3,w4,qb29];refine hk _ ?_;clear hk k;simp only[Qg,Qk];(repeat refine Qb ?_);refine Qa fun k hk=>?_;simp -implicitDefEqProofs only[id,reduceCtorEq,reduceIte,Nat.reduceMul,Nat.reduceAdd,Nat.reduceLT,Nat.reduceLeDiff,Nat.reduceEqDiff,Int.reduceLT,Int.reduceBEq,Int.reduceBNe,Nat.reduceBEq,frS,ej2,qb29];refine hk _ ?_;simp only[Qg,Qk];refine⟨j,by show j≤xs.length;omega,by show j<j+1;omega,?_⟩;simp -implicitDefEqProofs only[id,reduceCtorEq,reduceIte,Nat.reduceMul,Nat.reduceAdd,Nat.reduceLT,Nat.reduceLeDiff,Nat.reduceEqDiff,Int.reduceLT,Int.reduceBEq,Int.reduceBNe,Nat.reduceBEq,frS,qb30];omega
  · simp only[decide_eq_false_iff_not] at h
    obtain rfl:q=0:=by omega
    refine Sat.exit ?_;simp only[Qg,Qk,reduceIte];(repeat refine Qb ?_);(refine Qa fun k hk=>?_;simp -implicitDefEqProofs only[id,reduceCtorEq,reduceIte,Nat.reduceMul,Nat.reduceAdd,Nat.reduceLT,Nat.reduceLeDiff,Nat.reduceEqDiff,Int.reduceLT,Int.reduceBEq,Int.reduceBNe,Nat.reduceBEq,frS,qb29];refine hk _ ?_;clear hk k;try show Sat _ _ _ _ _);refine Sat.ret ?_;simp only[Tryz.results32,id,seval,frS,qb31];unfold intV intE;rw[if_pos hsm,if_pos hsm,d1.val]
end Go.Proofs.YtabgkfjfmjdfiaaGreatDoor
