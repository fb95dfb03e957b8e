import Derived.Test.YtabgkfjfmjdfiaaGreatDoorRefG
set_option linter.unusedSimpArgs false
set_option linter.unusedVariables false
namespace Go.Proofs.YtabgkfjfmjdfiaaGreatDoor
open Eng Lmb Go.RowKit
set_option maxRecDepth 100000 in
theorem refWordC (F:Frm) (n:Nat) (hn:n<18446744073709551616):Contract F Tryz.prog 89 [.i .u64 n] (fun r=>Nats r n):=by
  refine Qf Tryz.func89 rfl (by kernel_rfl) ?_;simp only[Tryz.ntmps89,Qm];(repeat refine Qb ?_);(refine Qa fun k hk=>?_;simp -implicitDefEqProofs only[evr,id,reduceCtorEq,reduceIte,Nat.reduceMul,Nat.reduceAdd,Nat.reduceLT,Nat.reduceLeDiff,Nat.reduceEqDiff,Int.reduceLT,Int.reduceBEq,Int.reduceBNe,Nat.reduceBEq,evn];refine hk _ ?_;clear hk k;try show Sat _ _ _ _ _);(repeat refine Qb ?_);(refine Qa fun k hk=>?_;simp -implicitDefEqProofs only[evr,id,reduceCtorEq,reduceIte,Nat.reduceMul,Nat.reduceAdd,Nat.reduceLT,Nat.reduceLeDiff,Nat.reduceEqDiff,Int.reduceLT,Int.reduceBEq,Int.reduceBNe,Nat.reduceBEq,evn];refine hk _ ?_;clear hk k;try show Sat _ _ _ _ _);(repeat refine Qb ?_);refine Sat.block ?_;refine Zr 3 3 1 (fun p _=>.i .i64 (limbN n p)) rfl ?_;refine Sat.loop (ι:=Nat×Option Addr×Nat) (fun x=>⟨15,[(0,.i .u64 (n / 1073741824 ^ x.1:Nat)),(3,.os 0 x.2.1 x.1 x.2.2)],[.row x.2.1 3 x.1 x.2.2 1 (fun p _=>.i .i64 (limbN n p))]⟩)
    (fun x=>x.1≤3∧(x.1=0∨0<n / 1073741824 ^ (x.1 - 1))) (fun x=>3 - x.1) (0,none,0) ⟨by omega,.inl rfl⟩ (by simp only[Nat.pow_zero,Nat.div_one];simp -implicitDefEqProofs only[evr,id,reduceCtorEq,reduceIte,Nat.reduceMul,Nat.reduceAdd,Nat.reduceLT,Nat.reduceLeDiff,Nat.reduceEqDiff,Int.reduceLT,Int.reduceBEq,Int.reduceBNe,Nat.reduceBEq,evl,evn]) ?_
  rintro⟨i,a,c⟩ ⟨hi,hpos⟩;simp only at hi hpos ⊢;(repeat refine Qb ?_);(refine Qa fun k hk=>?_;simp -implicitDefEqProofs only[evr,id,reduceCtorEq,reduceIte,Nat.reduceMul,Nat.reduceAdd,Nat.reduceLT,Nat.reduceLeDiff,Nat.reduceEqDiff,Int.reduceLT,Int.reduceBEq,Int.reduceBNe,Nat.reduceBEq,evn];refine hk _ ?_;clear hk k;try show Sat _ _ _ _ _);(repeat refine Qb ?_);refine Qd rfl (fun h=>?_) (fun h=>?_)
  · simp only[decide_eq_true_eq] at h
    have hi3:i<3:=by
      rcases (show i<3∨i=3 by omega) with h3|h3
      · exact h3
      · subst h3
        have:n / 1073741824 ^ 3=0:=Nat.div_eq_of_lt (Nat.lt_trans hn (by decide))
        omega
    have ew:(n / 1073741824 ^ i:Nat)<18446744073709551616:=Nat.lt_of_le_of_lt (Nat.div_le_self _ _) hn;have hp:0<n / 1073741824 ^ i:=by generalize n / 1073741824 ^ i=q at h;omega
    have e1:IntKind.i64.wrap (((n / 1073741824 ^ i:Nat):Int).tmod 1073741824)=limbN n i:=by
      unfold limbN;generalize n / 1073741824 ^ i=q;rw[Int.tmod_eq_emod_of_nonneg (by omega),w64 (by omega)];omega
    have e2:IntKind.u64.wrap (((n / 1073741824 ^ i:Nat):Int).tdiv 1073741824)=((n / 1073741824 ^ (i+1):Nat):Int):=by
      rw[Nat.pow_succ,← Nat.div_div_eq_div_mul];generalize n / 1073741824 ^ i=q at *;rw[Int.tdiv_eq_ediv_of_nonneg (by omega)];have hw:∀ z:Int,IntKind.u64.wrap z=z % 18446744073709551616:=fun z=>by unfold IntKind.wrap;simp [IntKind.bits,IntKind.signed]
      rw[hw];omega
    refine Sat.skip ?_;simp only[Qg];(repeat refine Qb ?_);refine Sat.block ?_;(repeat refine Qb ?_);refine Qa fun k hk=>?_;simp -implicitDefEqProofs only[evr,id,reduceCtorEq,reduceIte,Nat.reduceMul,Nat.reduceAdd,Nat.reduceLT,Nat.reduceLeDiff,Nat.reduceEqDiff,Int.reduceLT,Int.reduceBEq,Int.reduceBNe,Nat.reduceBEq,e1,evn];refine⟨by decide,fun blk=>?_⟩;refine⟨⟨by unfold maxLen;omega,by omega⟩,fun a2 cap2=>?_⟩;(refine hk _ ?_;clear hk k;try show Sat _ _ _ _ _);(repeat refine Qb ?_);refine Qa fun k hk=>?_;simp -implicitDefEqProofs only[evr,id,reduceCtorEq,reduceIte,Nat.reduceMul,Nat.reduceAdd,Nat.reduceLT,Nat.reduceLeDiff,Nat.reduceEqDiff,Int.reduceLT,Int.reduceBEq,Int.reduceBNe,Nat.reduceBEq,e2,evn];refine⟨by decide,?_⟩;refine hk _ ?_;simp only[Qg,Qk];refine⟨(i+1,a2,cap2),⟨by show i+1≤3;omega,.inr (by show 0<n / 1073741824 ^ (i+1 - 1);rw[Nat.add_sub_cancel];exact hp)⟩,by show 3 - (i+1)<3 - i;omega,?_⟩;simp -implicitDefEqProofs only[evr,id,reduceCtorEq,reduceIte,Nat.reduceMul,Nat.reduceAdd,Nat.reduceLT,Nat.reduceLeDiff,Nat.reduceEqDiff,Int.reduceLT,Int.reduceBEq,Int.reduceBNe,Nat.reduceBEq,evl,evn];exact rdEq_one (rdEq_refl _ _ _) rfl
  · simp only[decide_eq_false_iff_not] at h
    refine Sat.exit ?_;simp only[Qg,Qk,reduceIte];(repeat refine Qb ?_);(refine Qa fun k hk=>?_;simp -implicitDefEqProofs only[evr,id,reduceCtorEq,reduceIte,Nat.reduceMul,Nat.reduceAdd,Nat.reduceLT,Nat.reduceLeDiff,Nat.reduceEqDiff,Int.reduceLT,Int.reduceBEq,Int.reduceBNe,Nat.reduceBEq,evn];refine hk _ ?_;clear hk k;try show Sat _ _ _ _ _);refine Sat.ret ?_;simp only[Tryz.results89,evr,id,seval,List.append_nil,Int.toNat_zero,Nat.sub_self];exact nats_limbN (fun p _=>rfl) (by generalize n / 1073741824 ^ i=q at h;omega) hpos
end Go.Proofs.YtabgkfjfmjdfiaaGreatDoor
