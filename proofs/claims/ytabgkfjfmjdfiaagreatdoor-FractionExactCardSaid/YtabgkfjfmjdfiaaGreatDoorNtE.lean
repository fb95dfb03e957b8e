import Derived.Test.YtabgkfjfmjdfiaaGreatDoorNatE
import Derived.Test.YtabgkfjfmjdfiaaGreatDoorPk4
set_option linter.unusedSimpArgs false
set_option linter.unusedVariables false
set_option linter.defProp false
namespace Go.Proofs.YtabgkfjfmjdfiaaGreatDoor
open Eng Lmb
def limbN (n p:Nat):Int:=((n / 1073741824 ^ p % 1073741824:Nat):Int)
theorem limbN_succ (n p:Nat):limbN n (p+1)=limbN (n / 1073741824) p:=by
  unfold limbN;rw[Nat.pow_succ,Nat.mul_comm,← Nat.div_div_eq_div_mul]
theorem limbN_list (n:Nat):∀ i,(List.range (i+1)).map (limbN n)=limbN n 0 :: (List.range i).map (limbN (n / 1073741824)):=by
  intro i;rw[List.range_succ_eq_map,List.map_cons,List.map_map]
  congr 1
  apply List.map_congr_left;intro p _;exact limbN_succ n p
theorem dig_range:∀ (i n:Nat),n / 1073741824 ^ i=0→(i=0∨0<n / 1073741824 ^ (i - 1))→Dig ((List.range i).map (limbN n)) n
  | 0,n,h0,_=>by
    simp at h0;subst h0;exact Dig.nil
  | i+1,n,h0,h1=>by
    have h1':0<n / 1073741824 ^ i:=by
      rcases h1 with h|h
      · omega
      · simpa using h
    have e0:n / 1073741824 / 1073741824 ^ i=0:=by
      rw[Nat.div_div_eq_div_mul,Nat.mul_comm,← Nat.pow_succ];exact h0
    have ih:=dig_range i (n / 1073741824) e0 (by
      cases i with
      | zero=>exact .inl rfl
      | succ i=>
        right;rw[Nat.add_sub_cancel,Nat.div_div_eq_div_mul,Nat.mul_comm,← Nat.pow_succ]
        exact h1')
    rw[limbN_list];refine⟨?_,?_,?_⟩
    · rw[QB]
      exact⟨by unfold limbN;omega,ih.limbs⟩
    · cases i with
      | zero=>
        simp only[List.range_zero,List.map_nil];rw[norm_one];have e:n / 1073741824 ^ 0=n:=by simp
        have e1:n / 1073741824=0:=by simpa using e0
        rw[e] at h1';unfold limbN;rw[e];omega
      | succ i=>
        have:=ih.norm;rw[limbN_list] at this ⊢;rw[norm_cons];exact this
    · rw[Qz,ih.val]
      unfold limbN;have e:n / 1073741824 ^ 0=n:=by simp
      rw[e];omega
theorem nats_of {a:Option Addr} {i cap n:Nat} {rd:Nat→Nat→SV} {xs:List Int} (hl:xs.length=i) (h:∀ p,p<i→rd p 0=.i .i64 (xs.getD p 0)) (hd:Dig xs n):Nats (.sl a i cap 1 rd) n:=by
  subst hl;exact⟨a,cap,1,rd,xs,rfl,.inr rfl,h,hd⟩
theorem nats_limbN {a:Option Addr} {i cap n:Nat} {rd:Nat→Nat→SV} (h:∀ p,p<i→rd p 0=.i .i64 (limbN n p)) (h0:n / 1073741824 ^ i=0) (h1:i=0∨0<n / 1073741824 ^ (i - 1)):Nats (.sl a i cap 1 rd) n:=
  nats_of (by simp) (fun p hp=>by rw[h p hp];simp [List.getD,hp]) (dig_range i n h0 h1)
def qb1:=And.intro @evr (@evn)
def qb2:=And.intro @evr (And.intro @List.append_nil.{0} (And.intro @Int.toNat_zero (@Nat.sub_self)))
set_option maxRecDepth 100000 in
theorem fromC (F:Frm) (n:Nat) (hn:n<9223372036854775808):Contract F Tryz.prog 29 [.i .i64 n] (natRes n):=by
  refine Qf Tryz.func29 rfl (by kernel_rfl) ?_;simp only[Tryz.ntmps29,Qm];(repeat refine Qb ?_);(refine Qa fun k hk=>?_;simp -implicitDefEqProofs only[id,reduceCtorEq,reduceIte,Nat.reduceMul,Nat.reduceAdd,Nat.reduceLT,Nat.reduceLeDiff,Nat.reduceEqDiff,Int.reduceLT,Int.reduceBEq,Int.reduceBNe,Nat.reduceBEq,qb1];refine hk _ ?_;clear hk k;try show Sat _ _ _ _ _);(repeat refine Qb ?_);(refine Qa fun k hk=>?_;simp -implicitDefEqProofs only[id,reduceCtorEq,reduceIte,Nat.reduceMul,Nat.reduceAdd,Nat.reduceLT,Nat.reduceLeDiff,Nat.reduceEqDiff,Int.reduceLT,Int.reduceBEq,Int.reduceBNe,Nat.reduceBEq,qb1];refine hk _ ?_;clear hk k;try show Sat _ _ _ _ _);refine Qd rfl (fun h=>?_) (fun h=>?_)
  · exfalso
    simp only[decide_eq_true_eq] at h;omega
  refine Sat.skip ?_;simp only[Qg];(repeat refine Qb ?_);(refine Qa fun k hk=>?_;simp -implicitDefEqProofs only[id,reduceCtorEq,reduceIte,Nat.reduceMul,Nat.reduceAdd,Nat.reduceLT,Nat.reduceLeDiff,Nat.reduceEqDiff,Int.reduceLT,Int.reduceBEq,Int.reduceBNe,Nat.reduceBEq,qb1];refine hk _ ?_;clear hk k;try show Sat _ _ _ _ _);(repeat refine Qb ?_);refine Sat.block ?_;refine Zr 4 3 1 (fun p _=>.i .i64 (limbN n p)) rfl ?_;refine Sat.loop (ι:=Nat×Option Addr×Nat) (fun x=>⟨17,[(0,.i .i64 (n / 1073741824 ^ x.1:Nat)),(4,.os 0 x.2.1 x.1 x.2.2)],[.row x.2.1 3 x.1 x.2.2 1 (fun p _=>.i .i64 (limbN n p))]⟩)
    (fun x=>x.1≤3∧(x.1=0∨0<n / 1073741824 ^ (x.1 - 1))) (fun x=>3 - x.1) (0,none,0) ⟨by omega,.inl rfl⟩ (by simp only[Nat.pow_zero,Nat.div_one];simp -implicitDefEqProofs only[id,reduceCtorEq,reduceIte,Nat.reduceMul,Nat.reduceAdd,Nat.reduceLT,Nat.reduceLeDiff,Nat.reduceEqDiff,Int.reduceLT,Int.reduceBEq,Int.reduceBNe,Nat.reduceBEq,evl,qb1]) ?_
  rintro⟨i,a,c⟩ ⟨hi,hpos⟩;simp only at hi hpos ⊢;(repeat refine Qb ?_);(refine Qa fun k hk=>?_;simp -implicitDefEqProofs only[id,reduceCtorEq,reduceIte,Nat.reduceMul,Nat.reduceAdd,Nat.reduceLT,Nat.reduceLeDiff,Nat.reduceEqDiff,Int.reduceLT,Int.reduceBEq,Int.reduceBNe,Nat.reduceBEq,qb1];refine hk _ ?_;clear hk k;try show Sat _ _ _ _ _);(repeat refine Qb ?_);refine Qd rfl (fun h=>?_) (fun h=>?_)
  · simp only[decide_eq_true_eq] at h
    have hi3:i<3:=by
      rcases (show i<3∨i=3 by omega) with h3|h3
      · exact h3
      · subst h3
        have:n / 1073741824 ^ 3=0:=Nat.div_eq_of_lt (Nat.lt_trans hn (by decide))
        omega
    refine Sat.skip ?_;simp only[Qg];(repeat refine Qb ?_);refine Sat.block ?_;(repeat refine Qb ?_);(refine Qa fun k hk=>?_;simp -implicitDefEqProofs only[id,reduceCtorEq,reduceIte,Nat.reduceMul,Nat.reduceAdd,Nat.reduceLT,Nat.reduceLeDiff,Nat.reduceEqDiff,Int.reduceLT,Int.reduceBEq,Int.reduceBNe,Nat.reduceBEq,qb1]);intro blk;refine⟨⟨by unfold maxLen;omega,by omega⟩,fun a2 cap2=>?_⟩;(refine hk _ ?_;clear hk k;try show Sat _ _ _ _ _);(repeat refine Qb ?_);(refine Qa fun k hk=>?_;simp -implicitDefEqProofs only[id,reduceCtorEq,reduceIte,Nat.reduceMul,Nat.reduceAdd,Nat.reduceLT,Nat.reduceLeDiff,Nat.reduceEqDiff,Int.reduceLT,Int.reduceBEq,Int.reduceBNe,Nat.reduceBEq,qb1]);have ew:(n / 1073741824 ^ i:Nat)<9223372036854775808:=Nat.lt_of_le_of_lt (Nat.div_le_self _ _) hn;have hp:0<n / 1073741824 ^ i:=by generalize n / 1073741824 ^ i=q at h;omega
    refine⟨by decide,?_⟩;refine hk _ ?_;simp only[Qg,Qk];refine⟨(i+1,a2,cap2),⟨by show i+1≤3;omega,.inr (by show 0<n / 1073741824 ^ (i+1 - 1);rw[Nat.add_sub_cancel];exact hp)⟩,by show 3 - (i+1)<3 - i;omega,?_⟩;simp -implicitDefEqProofs only[id,reduceCtorEq,reduceIte,Nat.reduceMul,Nat.reduceAdd,Nat.reduceLT,Nat.reduceLeDiff,Nat.reduceEqDiff,Int.reduceLT,Int.reduceBEq,Int.reduceBNe,Nat.reduceBEq,evl,qb1];refine⟨?_,rdEq_one (rdEq_refl _ _ _) ?_⟩
    · have e1:((2:Int) ^ min (Int.toNat 30) IntKind.i64.bits)=1073741824:=by decide
      rw[e1,Int.fdiv_eq_ediv_of_nonneg _ (by decide),Nat.pow_succ,← Nat.div_div_eq_div_mul];generalize n / 1073741824 ^ i=q;omega
    · rw[Zn.and_limb]
      unfold limbN;generalize n / 1073741824 ^ i=q
      congr 1
  · simp only[decide_eq_false_iff_not] at h
    refine Sat.exit ?_;simp only[Qg,Qk,reduceIte];(repeat refine Qb ?_);(refine Qa fun k hk=>?_;simp -implicitDefEqProofs only[id,reduceCtorEq,reduceIte,Nat.reduceMul,Nat.reduceAdd,Nat.reduceLT,Nat.reduceLeDiff,Nat.reduceEqDiff,Int.reduceLT,Int.reduceBEq,Int.reduceBNe,Nat.reduceBEq,qb1];refine hk _ ?_;clear hk k;try show Sat _ _ _ _ _);refine Sat.ret ?_;simp only[Tryz.results29,id,seval,qb2];exact⟨_,rfl,nats_limbN (fun p _=>rfl) (by generalize n / 1073741824 ^ i=q at h;omega) hpos⟩
section
variable (F:Frm) {sa sb:SV} {m n:Nat}
set_option maxRecDepth 100000 in
theorem QN (ha:Nats sa m) (hb:Nats sb n) (hm:(m:Int)<pw 256) (hn:(n:Int)<pw 256) (h:((m * n:Nat):Int)<pw 256):Contract F Tryz.prog 93 [sa,sb] (fun r=>Nats r (m * n)):=by
  have ha':=ha;have hb':=hb;obtain⟨a1,c1,z1,r1,x1,rfl,_⟩:=ha;obtain⟨a2,c2,z2,r2,x2,rfl,_⟩:=hb;refine Qf Tryz.func93 rfl (by kernel_rfl) ?_;simp only[Tryz.ntmps93,Qm];(repeat refine Qb ?_);(refine Qa fun k hk=>?_;simp -implicitDefEqProofs only[id,reduceCtorEq,reduceIte,Nat.reduceMul,Nat.reduceAdd,Nat.reduceLT,Nat.reduceLeDiff,Nat.reduceEqDiff,Int.reduceLT,Int.reduceBEq,Int.reduceBNe,Nat.reduceBEq,qb1];refine hk _ ?_;clear hk k;try show Sat _ _ _ _ _);(repeat refine Qb ?_);(refine Qa fun k hk=>?_;simp -implicitDefEqProofs only[id,reduceCtorEq,reduceIte,Nat.reduceMul,Nat.reduceAdd,Nat.reduceLT,Nat.reduceLeDiff,Nat.reduceEqDiff,Int.reduceLT,Int.reduceBEq,Int.reduceBNe,Nat.reduceBEq,qb1]);refine Qc (mulC F ha' hb' hm hn h) rfl rfl ?_;rintro r ⟨s,rfl,hs⟩;have hs':=hs;obtain⟨a,cap,sz,rd,xs,rfl,_⟩:=hs;simp -implicitDefEqProofs only[id,reduceCtorEq,reduceIte,Nat.reduceMul,Nat.reduceAdd,Nat.reduceLT,Nat.reduceLeDiff,Nat.reduceEqDiff,Int.reduceLT,Int.reduceBEq,Int.reduceBNe,Nat.reduceBEq,qb1];(refine hk _ ?_;clear hk k;try show Sat _ _ _ _ _);(repeat refine Qb ?_);(refine Qa fun k hk=>?_;simp -implicitDefEqProofs only[id,reduceCtorEq,reduceIte,Nat.reduceMul,Nat.reduceAdd,Nat.reduceLT,Nat.reduceLeDiff,Nat.reduceEqDiff,Int.reduceLT,Int.reduceBEq,Int.reduceBNe,Nat.reduceBEq,qb1];refine hk _ ?_;clear hk k;try show Sat _ _ _ _ _);refine Sat.ret ?_;simp only[Tryz.results93,id,seval,qb2];exact hs'
end
end Go.Proofs.YtabgkfjfmjdfiaaGreatDoor
