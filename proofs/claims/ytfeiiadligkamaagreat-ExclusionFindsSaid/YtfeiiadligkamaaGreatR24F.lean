import Derived.Test.YtfeiiadligkamaaGreatR24E
set_option linter.unusedSimpArgs false
set_option linter.unusedVariables false
set_option linter.defProp false
namespace Go.Proofs.YtfeiiadligkamaaGreat
open Go.Sort Eng
def qb32:=And.intro @evr (And.intro @Qm (And.intro @Qq (@evn)))
def qb33:=And.intro @evr (And.intro @Qm (And.intro @Qq (And.intro @evl (@evn))))
set_option maxRecDepth 100000 in
theorem orderG (F:Frm) (ad:Option Addr) (cap:Nat) (xs:List Res) (hl:xs.length≤1000000000) (hin:∀ r∈xs,RgR r) :
  ContractN F Tryz.prog 62 [.sl ad xs.length cap 17 (Qk xs.toArray)] (fun o=>∃ a cap ys,OrdOf xs ys∧ys.length≤xs.length∧o=Qb a ys.length cap ys.toArray):=by
 refine Zh Tryz.func62 rfl (by kernel_rfl) ?_;simp only[Tryz.ntmps62,Qt];(repeat refine Qc ?_);(refine Qa fun k hk=>?_;simp only[id,seval,Qb,qb32];refine hk _ ?_;clear hk k;try show Sat _ _ _ _ _);(repeat refine Qc ?_);(refine Qa fun k hk=>?_;simp only[id,seval,Qb,qb32];refine hk _ ?_;clear hk k;try show Sat _ _ _ _ _);(repeat refine Qc ?_);(refine Qa fun k hk=>?_;simp only[id,seval,Qb,qb32];refine hk _ ?_;clear hk k;try show Sat _ _ _ _ _);refine Q1 3 62 17 (Qk #[]) rfl ?_;(repeat refine Qc ?_);refine Sat.block ?_;refine Qo (ι:=Nat×Option Addr×Nat×List Res) (fun z=>⟨75,[(4,.i .i64 z.1),(0,.sl ad xs.length cap 17 (Qk xs.toArray)),(3,.os 0 z.2.1 z.2.2.2.length z.2.2.1)],[Qb z.2.1 z.2.2.2.length z.2.2.1 z.2.2.2.toArray]⟩)
  (fun z=>z.1≤xs.length∧OrdOf (xs.take z.1) z.2.2.2∧z.2.2.2.length≤z.1) (fun z=>xs.length - z.1) (0,none,0,[]) ⟨Nat.zero_le _,⟨List.Pairwise.nil,fun r=>by simp⟩,Nat.le_refl _⟩ (by simp only[id,seval,Qb,qb33];first|rfl|trace_state) ?_
 rintro⟨i,a,c,ys⟩ ⟨hi,ho,hyl⟩;simp only[Qb] at hi ho hyl ⊢;(repeat refine Qc ?_);(refine Qa fun k hk=>?_;simp only[id,seval,Qb,qb32];refine hk _ ?_;clear hk k;try show Sat _ _ _ _ _);(repeat refine Qc ?_);refine Qe rfl (fun h=>?_) (fun h=>?_)
 ·have h1:i<xs.length:=by simp only[decide_eq_true_eq] at h;omega
  have e2:IntKind.i64.wrap ((i:Int)+1)=((i+1:Nat):Int):=by rw[w64 (by omega)];omega
  obtain⟨r,hr⟩:∃ r,xs.toArray[i]! = r:=⟨_,rfl⟩;have hr':xs[i]=r:=by rw[← hr,getB h1]
  have hrg:RgR r:=hin r (by rw[← hr'];exact List.getElem_mem h1)
  have hyin:∀ q,q<ys.length→RgR ys.toArray[q]! := fun q hq=>by
   rw[getB hq];exact hin _ (List.mem_of_mem_take ((ho.2 _).1 (List.getElem_mem hq)).1)
  refine Sat.skip ?_;simp only[Qf];(repeat refine Qc ?_);refine Sat.block ?_;(repeat refine Qc ?_);(refine Qa fun k hk=>?_;simp only[id,seval,Qb,qb32]);refine⟨by omega,?_⟩;refine Qd (validG F xs.toArray[i]!) rfl (by rintro _ rfl;exact Qh rfl) ?_;rintro r0 rfl;simp only[id,seval,Qb,qb32];(refine hk _ ?_;clear hk k;try show Sat _ _ _ _ _);(repeat refine Qc ?_);refine Qe rfl (fun h2=>?_) (fun h2=>?_)
  ·refine Sat.exit ?_;simp only[Qg,Qf,reduceIte];refine Qa fun k hk=>?_;simp only[id,seval,Qb,e2,qb32];refine hk _ ?_;simp only[Qf,Qg];refine⟨(i+1,a,c,ys),⟨by simp only;omega,ord_skip ho h1 hr' (fun hv=>?_),by simp only;omega⟩,by simp only;omega,?_⟩
   ·rw[hr,hv] at h2;cases h2
   ·simp only[id,seval,Qb,qb33]
  have hv:QH r=true:=by rw[hr] at h2;simpa using h2
  refine Sat.skip ?_;simp only[Qf];(repeat refine Qc ?_);(refine Qa fun k hk=>?_;simp only[id,seval,Qb,qb32];refine hk _ ?_;clear hk k;try show Sat _ _ _ _ _);(repeat refine Qc ?_);refine Sat.block ?_;refine Qo (ι:=Nat) (fun k=>⟨75,[(5,.i .i64 k),(4,.i .i64 i),(0,.sl ad xs.length cap 17 (Qk xs.toArray)),(3,.os 0 a ys.length c)],[Qb a ys.length c ys.toArray]⟩)
   (fun k=>k≤ys.length∧∀ q,k≤q→q<ys.length→Xb r ys.toArray[q]! = true) (fun k=>k) ys.length ⟨Nat.le_refl _,fun q h3 h4=>by omega⟩ (by simp only[id,seval,Qb,qb33];try exact⟨rfl,rfl⟩) ?_
  rintro k0 ⟨hk0,hgt⟩;simp only[Qb];have e4:IntKind.i64.wrap ((k0:Int) - 1)=(k0:Int) - 1:=w64 (by omega);have e5:((k0:Int) - 1).toNat=k0 - 1:=by omega
  (repeat refine Qc ?_);refine Sat.at ⟨75,[(34,.b (decide (0<k0) && decide (0<QL ys.toArray[k0 - 1]! r))),(5,.i .i64 k0),(4,.i .i64 i),(0,.sl ad xs.length cap 17 (Qk xs.toArray)),(3,.os 0 a ys.length c)],[Qb a ys.length c ys.toArray]⟩ ?_ ?_
  ·(refine Qr (by kernel_rfl) (by kernel_rfl) fun k hk=>?_;simp only[id,seval,Qb,qb32]);simp only[e4,e5];refine⟨fun h3=>⟨by omega,by omega,by omega,?_⟩,fun h3=>hk _ ?_⟩
   ·refine ZV (compareG Frm.nil ys.toArray[k0 - 1]! xs.toArray[i]!) rfl (Qh rfl) ?_;simp only[id,seval,Qb,qb32];refine hk _ ?_;have e:decide (0<k0)=true:=decide_eq_true (by omega);simp only[Qf,e,Bool.true_and,hr,Qb];simp only[id,seval,Qb,qb33]
   ·have e:decide (0<k0)=false:=decide_eq_false (by omega);simp only[Qf,e,Bool.false_and,Qb];simp only[id,seval,Qb,qb33]
  simp only[Qf,Qb];refine Qe rfl (fun h3=>?_) (fun h3=>?_)
  ·simp only[Bool.and_eq_true,decide_eq_true_eq] at h3;have hk1:k0 - 1<ys.length:=by omega
   refine Sat.skip ?_;simp only[Qf];(repeat refine Qc ?_);refine Sat.block ?_;refine Qa fun k hk=>?_;simp only[id,seval,Qb,e4,qb32];refine hk _ ?_;simp only[Qf,Qg];refine⟨k0 - 1,⟨by omega,fun q g1 g2=>?_⟩,by omega,?_⟩
   ·have hpos:Xb r ys.toArray[k0 - 1]! = true:=by
     have:=h3.2;rw[wCompare_in (hyin _ hk1) hrg] at this;exact pthCompare_pos.1 this
    rcases (show q=k0 - 1∨k0≤q by omega) with rfl|g3
    ·exact hpos
    ·exact hgt q g3 g2
   ·simp only[id,seval,Qb,qb33];omega
  have hstop:¬ (0<k0∧0<QL ys.toArray[k0 - 1]! r):=fun hh=>by
   rw[decide_eq_true hh.1,decide_eq_true hh.2] at h3;cases h3
  refine Sat.exit ?_;simp only[Qf,Qg,reduceIte];(repeat refine Qc ?_);refine Sat.at ⟨75,[(51,.b (decide (0<k0) && decide (QL ys.toArray[k0 - 1]! r=0))),(5,.i .i64 k0),(4,.i .i64 i),(0,.sl ad xs.length cap 17 (Qk xs.toArray)),(3,.os 0 a ys.length c)],[Qb a ys.length c ys.toArray]⟩ ?_ ?_
  ·(refine Qr (by kernel_rfl) (by kernel_rfl) fun k hk=>?_;simp only[id,seval,Qb,qb32]);simp only[e4,e5];refine⟨fun h3=>⟨by omega,by omega,by omega,?_⟩,fun h3=>hk _ ?_⟩
   ·refine ZV (compareG Frm.nil ys.toArray[k0 - 1]! xs.toArray[i]!) rfl (Qh rfl) ?_;simp only[id,seval,Qb,qb32];refine hk _ ?_;have e:decide (0<k0)=true:=decide_eq_true (by omega);simp only[Qf,e,Bool.true_and,hr,Qb];simp only[id,seval,Qb,qb33];exact .inl (Bool.eq_iff_iff.2 (by simp))
   ·have e:decide (0<k0)=false:=decide_eq_false (by omega);simp only[Qf,e,Bool.false_and,Qb];simp only[id,seval,Qb,qb33]
  simp only[Qf,Qb];refine Qe rfl (fun h3=>?_) (fun h3=>?_)
  ·simp only[Bool.and_eq_true,decide_eq_true_eq] at h3;have hk1:k0 - 1<ys.length:=by omega
   refine Sat.exit ?_;simp only[Qg,Qf,reduceIte];refine Qa fun k hk=>?_;simp only[id,seval,Qb,e2,qb32];refine hk _ ?_;simp only[Qf,Qg];refine⟨(i+1,a,c,ys),⟨by simp only;omega,ord_skip ho h1 hr' (fun _=>?_),by simp only;omega⟩,by simp only;omega,?_⟩
   ·have h4:=h3.2;rw[wCompare_in (hyin _ hk1) hrg,pthCompare_zero] at h4;rw[← h4,getB hk1];exact List.getElem_mem hk1
   ·simp only[id,seval,Qb,qb33]
  have hne:¬ (0<k0∧QL ys.toArray[k0 - 1]! r=0):=fun hh=>by
   rw[decide_eq_true hh.1,decide_eq_true hh.2] at h3;cases h3
  have hlt:∀ q,q<k0→Xb ys.toArray[q]! r=true:=by
   intro q hq;have hk1:k0 - 1<ys.length:=by omega
   have h5:Xb ys.toArray[k0 - 1]! r=true:=by
    have g1:¬ 0<QL ys.toArray[k0 - 1]! r:=fun hh=>hstop ⟨by omega,hh⟩;have g2:QL ys.toArray[k0 - 1]! r≠0:=fun hh=>hne ⟨by omega,hh⟩;rw[wCompare_in (hyin _ hk1) hrg] at g1 g2;unfold Xb;exact decide_eq_true (by omega)
   rcases (show q=k0 - 1∨q<k0 - 1 by omega) with rfl|g3
   ·exact h5
   ·exact pthLt_trans _ _ _ (asc_lt ho.1 g3 hk1) h5
  refine Sat.skip ?_;simp only[Qf];(repeat refine Qc ?_);(refine Qa fun k hk=>?_;simp only[id,seval,Qb,qb32]);refine⟨by omega,fun b3=>⟨⟨by unfold maxLen;omega,by omega⟩,fun a2 cap2=>?_⟩⟩;(refine hk _ ?_;clear hk k;try show Sat _ _ _ _ _);refine ZE 0 rfl fun hcap=>?_;have e6:IntKind.i64.wrap ((k0:Int)+1)=((k0+1:Nat):Int):=by rw[w64 (by omega)];omega
  (repeat refine Qc ?_)
  refine Sat.at ⟨75,[(5,.i .i64 k0),(4,.i .i64 i),(0,.sl ad xs.length cap 17 (Qk xs.toArray)),(3,.os 0 a2 (ys.length+1) cap2)],
   [.row a2 62 (ys.length+1) cap2 17 (Xj (k0+1) k0 (ys.length - k0) (Zb ys.length (Qk ys.toArray) (rdL (Res.cs r) 17)))]⟩ ?_ ?_
  ·(refine Qp (.keep [0,1,2,4,5] [] (.alt 3 (.one 6 (.one 7 .done)) (.alt 6 (.one 3 (.one 7 .done)) .none))) (by kernel_rfl) (by kernel_rfl) (fun _ _ h=>h) fun k hk=>?_;simp only[WOT,List.map_cons,List.map_nil,List.getD_cons_zero,List.getD_cons_succ];simp only[id,seval,Qb,WOT,qb32]);simp only[id,reduceCtorEq,reduceIte,Nat.reduceMul,Nat.reduceAdd,Nat.reduceLT,Nat.reduceLeDiff,Nat.reduceEqDiff,Int.reduceLT,Int.reduceBEq,Int.reduceBNe,Nat.reduceBEq,Int.reduceToNat,Qb,e6,qb32]
   repeat' (with_reducible refine And.intro ?_ ?_)
   all_goals first|omega|skip
   all_goals
    refine hk _ ?_;simp only[Qf,show min (ys.length+1 - k0) (ys.length+1 - (k0+1))=ys.length - k0 by omega,← hr];simp only[id,reduceCtorEq,reduceIte,Nat.reduceMul,Nat.reduceAdd,Nat.reduceLT,Nat.reduceLeDiff,Nat.reduceEqDiff,Int.reduceLT,Int.reduceBEq,Int.reduceBNe,Nat.reduceBEq,Int.reduceToNat,Qb,qb33];exact fun _ _ _ _=>rfl
  simp only[Qf];(refine Qa fun k hk=>?_;simp only[id,seval,Qb,qb32]);refine⟨by omega,by omega,by omega,?_⟩;(refine hk _ ?_;clear hk k;try show Sat _ _ _ _ _);refine Qa fun k hk=>?_;simp only[id,seval,Qb,e2,qb32];refine hk _ ?_;simp only[Qf,Qg];have hil:=insL_len (ys:=ys) (r:=r) hk0;refine⟨(i+1,a2,cap2,insL ys k0 r),⟨by simp only;omega,ord_ins ho h1 hr' hv hk0 hlt hgt,by simp only;omega⟩,by simp only;omega,?_⟩;simp only[hil];simp only[id,seval,Qb,qb33];subst hr;exact ins_rd Res.cs 17 (fun _=>rfl) hk0 rfl
 ·have h1:i=xs.length:=by simp only[decide_eq_false_iff_not] at h;omega
  subst h1;refine Sat.exit ?_;simp only[Qf,Qg,reduceIte];(repeat refine Qc ?_);(refine Qa fun k hk=>?_;simp only[id,seval,Qb,qb32];refine hk _ ?_;clear hk k;try show Sat _ _ _ _ _);refine Sat.ret ?_;simp only[Tryz.results62,evr,id,seval,Qm,List.append_nil,Int.toNat_zero,Nat.sub_self,Qb,Qq,retN,retNK,newRow];rw[List.take_length] at ho;exact⟨⟨rfl,rfl,rfl⟩,a,c,ys,ho,hyl,rfl⟩
end Go.Proofs.YtfeiiadligkamaaGreat
