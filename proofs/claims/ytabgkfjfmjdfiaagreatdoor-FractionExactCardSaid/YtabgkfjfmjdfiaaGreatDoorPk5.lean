import Derived.Test.YtabgkfjfmjdfiaaGreatDoorRefKa
import Derived.Test.YtabgkfjfmjdfiaaGreatDoorRefH
import Derived.Test.YtabgkfjfmjdfiaaGreatDoorEv
import Derived.Test.YtabgkfjfmjdfiaaGreatDoorAddE
import Derived.Test.YtabgkfjfmjdfiaaGreatDoorPk4
import Derived.Test.YtabgkfjfmjdfiaaGreatDoorDrwB
import Derived.Test.YtabgkfjfmjdfiaaGreatDoorWalkE
import Derived.Lib.LaidTab
import Derived.LaidSub
import Derived.MakeChecks
namespace Go.Proofs.YtabgkfjfmjdfiaaGreatDoor
set_option linter.unusedSimpArgs false
set_option linter.unusedVariables false
set_option linter.defProp false
section
open Eng Lmb Go.RowKit
def qb42:=And.intro @evr (And.intro @List.append_nil.{0} (And.intro @Int.toNat_zero (@Nat.sub_self)))
def qb41:=And.intro @evr (@evn)
set_option maxRecDepth 100000 in
theorem refMagnitudeC (F:Frm) (n:Int) (h1:-9223372036854775808≤n) (h2:n≤9223372036854775807):Contract F Tryz.prog 101 [.i .i64 n] (fun r=>Nats r n.natAbs):=by
  refine Qf Tryz.func101 rfl (by kernel_rfl) ?_;simp only[Tryz.ntmps101,Qm];have hw:∀ z:Int,IntKind.u64.wrap z=z % 18446744073709551616:=fun z=>by unfold IntKind.wrap;simp [IntKind.bits,IntKind.signed]
  (repeat refine Qb ?_);(refine Qa fun k hk=>?_;simp -implicitDefEqProofs only[id,reduceCtorEq,reduceIte,Nat.reduceMul,Nat.reduceAdd,Nat.reduceLT,Nat.reduceLeDiff,Nat.reduceEqDiff,Int.reduceLT,Int.reduceBEq,Int.reduceBNe,Nat.reduceBEq,frS,qb41];refine hk _ ?_;clear hk k;try show Sat _ _ _ _ _);(repeat refine Qb ?_);(refine Qa fun k hk=>?_;simp -implicitDefEqProofs only[id,reduceCtorEq,reduceIte,Nat.reduceMul,Nat.reduceAdd,Nat.reduceLT,Nat.reduceLeDiff,Nat.reduceEqDiff,Int.reduceLT,Int.reduceBEq,Int.reduceBNe,Nat.reduceBEq,frS,qb41];refine hk _ ?_;clear hk k;try show Sat _ _ _ _ _);refine Qd rfl (fun h=>?_) (fun h=>?_)
  · have hn:n<0:=of_decide_eq_true h
    have e1:IntKind.i64.wrap (n+1)=n+1:=w64 (by omega);have e2:IntKind.i64.wrap (0 - (n+1))=0 - (n+1):=w64 (by omega);have e3:IntKind.u64.wrap (IntKind.u64.wrap (0 - (n+1))+1)=((n.natAbs:Nat):Int):=by rw[hw,hw];omega
    (repeat refine Qb ?_);refine Qa fun k hk=>?_;simp -implicitDefEqProofs only[id,reduceCtorEq,reduceIte,Nat.reduceMul,Nat.reduceAdd,Nat.reduceLT,Nat.reduceLeDiff,Nat.reduceEqDiff,Int.reduceLT,Int.reduceBEq,Int.reduceBNe,Nat.reduceBEq,frS,e1,e2,e3,qb41];refine Qc (refWordC F n.natAbs (by omega)) rfl rfl ?_;intro r hs;have hgs:=hs;obtain⟨a3,c3,z3,r3,x3,rfl,_⟩:=hs;simp -implicitDefEqProofs only[id,reduceCtorEq,reduceIte,Nat.reduceMul,Nat.reduceAdd,Nat.reduceLT,Nat.reduceLeDiff,Nat.reduceEqDiff,Int.reduceLT,Int.reduceBEq,Int.reduceBNe,Nat.reduceBEq,frS,qb41];(refine hk _ ?_;clear hk k;try show Sat _ _ _ _ _);refine Sat.ret ?_;simp only[Tryz.results101,id,seval,frS,qb42];exact hgs
  · have hn:0≤n:=by have:=of_decide_eq_false h;omega
    have e3:IntKind.u64.wrap n=((n.natAbs:Nat):Int):=by rw[hw];omega
    refine Sat.skip ?_;simp only[Qg];(repeat refine Qb ?_);refine Qa fun k hk=>?_;simp -implicitDefEqProofs only[id,reduceCtorEq,reduceIte,Nat.reduceMul,Nat.reduceAdd,Nat.reduceLT,Nat.reduceLeDiff,Nat.reduceEqDiff,Int.reduceLT,Int.reduceBEq,Int.reduceBNe,Nat.reduceBEq,frS,e3,qb41];refine Qc (refWordC F n.natAbs (by omega)) rfl rfl ?_;intro r hs;have hgs:=hs;obtain⟨a3,c3,z3,r3,x3,rfl,_⟩:=hs;simp -implicitDefEqProofs only[id,reduceCtorEq,reduceIte,Nat.reduceMul,Nat.reduceAdd,Nat.reduceLT,Nat.reduceLeDiff,Nat.reduceEqDiff,Int.reduceLT,Int.reduceBEq,Int.reduceBNe,Nat.reduceBEq,frS,qb41];(refine hk _ ?_;clear hk k;try show Sat _ _ _ _ _);refine Sat.ret ?_;simp only[Tryz.results101,id,seval,frS,qb42];exact hgs
theorem natAbs_pw {n:Int} (h1:-9223372036854775808≤n) (h2:n≤9223372036854775807):((n.natAbs:Nat):Int)<pw 256:=by
  exact lt_pw (a:=64) (by omega) (by decide)
set_option maxRecDepth 100000 in
theorem refFromC (F:Frm) (n d:Int) (h1:-9223372036854775808≤n) (h2:n≤9223372036854775807) (h3:-9223372036854775808≤d) (h4:d≤9223372036854775807) (h0:d≠0) :
    Contract F Tryz.prog 49 [.i .i64 n,.i .i64 d] (fun r=>∃ f,r=QW [f,.i .i64 0]∧FrS f ((decide (n<0) != decide (d<0)) && decide (0<n.natAbs)) (n.natAbs / Nat.gcd n.natAbs d.natAbs) (d.natAbs / Nat.gcd n.natAbs d.natAbs)):=by
  refine Qf Tryz.func49 rfl (by kernel_rfl) ?_;simp only[Tryz.ntmps49,Qm];(repeat refine Qb ?_);(refine Qa fun k hk=>?_;simp -implicitDefEqProofs only[id,reduceCtorEq,reduceIte,Nat.reduceMul,Nat.reduceAdd,Nat.reduceLT,Nat.reduceLeDiff,Nat.reduceEqDiff,Int.reduceLT,Int.reduceBEq,Int.reduceBNe,Nat.reduceBEq,frS,qb41]);intro b4;(refine hk _ ?_;clear hk k;try show Sat _ _ _ _ _);(repeat refine Qb ?_);(refine Qa fun k hk=>?_;simp -implicitDefEqProofs only[id,reduceCtorEq,reduceIte,Nat.reduceMul,Nat.reduceAdd,Nat.reduceLT,Nat.reduceLeDiff,Nat.reduceEqDiff,Int.reduceLT,Int.reduceBEq,Int.reduceBNe,Nat.reduceBEq,frS,qb41];refine hk _ ?_;clear hk k;try show Sat _ _ _ _ _);refine Qd rfl (fun h=>absurd (by simpa using h) h0) (fun h=>?_);refine Sat.skip ?_;simp only[Qg];(repeat refine Qb ?_);(refine Qa fun k hk=>?_;simp -implicitDefEqProofs only[id,reduceCtorEq,reduceIte,Nat.reduceMul,Nat.reduceAdd,Nat.reduceLT,Nat.reduceLeDiff,Nat.reduceEqDiff,Int.reduceLT,Int.reduceBEq,Int.reduceBNe,Nat.reduceBEq,frS,qb41]);refine Qc (refMagnitudeC F n h1 h2) rfl rfl ?_;intro r hs;have hgs:=hs;obtain⟨a3,c3,z3,r3,x3,rfl,_⟩:=hs;simp -implicitDefEqProofs only[id,reduceCtorEq,reduceIte,Nat.reduceMul,Nat.reduceAdd,Nat.reduceLT,Nat.reduceLeDiff,Nat.reduceEqDiff,Int.reduceLT,Int.reduceBEq,Int.reduceBNe,Nat.reduceBEq,frS,qb41];refine Qc (refMagnitudeC F d h3 h4) rfl rfl ?_;intro r hs;have hgs2:=hs;obtain⟨a5,c5,z5,r5,x5,rfl,_⟩:=hs;simp -implicitDefEqProofs only[id,reduceCtorEq,reduceIte,Nat.reduceMul,Nat.reduceAdd,Nat.reduceLT,Nat.reduceLeDiff,Nat.reduceEqDiff,Int.reduceLT,Int.reduceBEq,Int.reduceBNe,Nat.reduceBEq,frS,qb41];refine Qc (refReducedC F (decide (n<0) != decide (d<0)) hgs hgs2 (natAbs_pw h1 h2) (natAbs_pw h3 h4) (by omega)) rfl rfl ?_;rintro r ⟨sp,sq,rfl,hp,hq⟩;have hp':=hp;have hq':=hq;obtain⟨a6,c6,z6,r6,x6,rfl,_⟩:=hp;obtain⟨a7,c7,z7,r7,x7,rfl,_⟩:=hq;simp -implicitDefEqProofs only[id,reduceCtorEq,reduceIte,Nat.reduceMul,Nat.reduceAdd,Nat.reduceLT,Nat.reduceLeDiff,Nat.reduceEqDiff,Int.reduceLT,Int.reduceBEq,Int.reduceBNe,Nat.reduceBEq,frS,qb41];(refine hk _ ?_;clear hk k;try show Sat _ _ _ _ _);refine Sat.ret ?_;simp only[Tryz.results49,id,seval,frS,qb42];exact⟨_,rfl,_,_,rfl,hp',hq'⟩
end

section
open Eng
def decB (n:Nat):ByteArray:=if h:n<10 then bytesOf [48+(n:Int)] else decB (n / 10) ++ bytesOf [48+((n % 10:Nat):Int)]
theorem decB_small {n:Nat} (h:n<10):decB n=bytesOf [48+(n:Int)]:=by rw[decB,dif_pos h]
theorem decB_big {n:Nat} (h:¬ n<10):decB n=decB (n / 10) ++ bytesOf [48+((n % 10:Nat):Int)]:=by rw[decB,dif_neg h]
theorem bytesOf_one (z:Int):(bytesOf [z]).size=1:=rfl
theorem decB_size:∀ (k n:Nat),n<10 ^ (k+1)→(decB n).size≤k+1∧1≤(decB n).size
  | 0,n,h=>by
    rw[decB_small (by simpa using h),bytesOf_one];exact⟨Nat.le_refl _,Nat.le_refl _⟩
  | k+1,n,h=>by
    by_cases h9:n<10
    · rw[decB_small h9,bytesOf_one];omega
    · rw[decB_big h9,ByteArray.size_append,bytesOf_one]
      have:=decB_size k (n / 10) (by
        rw[Nat.pow_succ] at h
        exact Nat.div_lt_of_lt_mul (by omega))
      omega
end

section
open Eng Lmb Go.RowKit
def qb44:=And.intro @evr (And.intro @List.append_nil.{0} (And.intro @Int.toNat_zero (@Nat.sub_self)))
def qb43:=And.intro @evr (@evn)
set_option maxRecDepth 100000 in
theorem refDecimalC (F:Frm):∀ (n:Nat),n<9223372036854775808→Contract F Tryz.prog 87 [.i .i64 n] (fun r=>r=.v (.string (decB n))):=by
  intro n
  induction n using Nat.strongRecOn with
  | ind n ih=>
  intro hn;refine Qf Tryz.func87 rfl (by kernel_rfl) ?_;simp only[Tryz.ntmps87,Qm];have e1:((n:Int)).tmod 10=((n % 10:Nat):Int):=by rw[Int.tmod_eq_emod_of_nonneg (by omega)];omega
  have e2:IntKind.i64.wrap (48+((n % 10:Nat):Int))=48+((n % 10:Nat):Int):=w64 (by omega);have hw:∀ z:Int,IntKind.u8.wrap z=z % 256:=fun z=>by unfold IntKind.wrap;simp [IntKind.bits,IntKind.signed]
  have e3:IntKind.u8.wrap (48+((n % 10:Nat):Int))=48+((n % 10:Nat):Int):=by rw[hw];omega
  have e4:IntKind.i64.wrap (((n:Int)).tdiv 10)=((n / 10:Nat):Int):=by rw[Int.tdiv_eq_ediv_of_nonneg (by omega),w64 (by omega)];omega
  (repeat refine Qb ?_);(refine Qa fun k hk=>?_;simp -implicitDefEqProofs only[id,reduceCtorEq,reduceIte,Nat.reduceMul,Nat.reduceAdd,Nat.reduceLT,Nat.reduceLeDiff,Nat.reduceEqDiff,Int.reduceLT,Int.reduceBEq,Int.reduceBNe,Nat.reduceBEq,frS,qb43];refine hk _ ?_;clear hk k;try show Sat _ _ _ _ _);(repeat refine Qb ?_);refine Qa fun k hk=>?_;simp -implicitDefEqProofs only[id,reduceCtorEq,reduceIte,Nat.reduceMul,Nat.reduceAdd,Nat.reduceLT,Nat.reduceLeDiff,Nat.reduceEqDiff,Int.reduceLT,Int.reduceBEq,Int.reduceBNe,Nat.reduceBEq,frS,e1,e2,e3,qb43];refine⟨by decide,fun blk=>?_⟩
  refine⟨fun i hi=>by
      obtain rfl:i=0:=by omega
      exact⟨_,rfl⟩,?_⟩
  have e5:Eng.intOf (rdL [SV.i .u8 (48+((n % 10:Nat):Int))] 1 0 0)=48+((n % 10:Nat):Int):=rfl;rw[e5];(refine hk _ ?_;clear hk k;try show Sat _ _ _ _ _);(repeat refine Qb ?_);(refine Qa fun k hk=>?_;simp -implicitDefEqProofs only[id,reduceCtorEq,reduceIte,Nat.reduceMul,Nat.reduceAdd,Nat.reduceLT,Nat.reduceLeDiff,Nat.reduceEqDiff,Int.reduceLT,Int.reduceBEq,Int.reduceBNe,Nat.reduceBEq,frS,qb43];refine hk _ ?_;clear hk k;try show Sat _ _ _ _ _);refine Qd rfl (fun h=>?_) (fun h=>?_)
  · have h10:¬ n<10:=by have:=of_decide_eq_true h;omega
    have hsz:=decB_size 18 (n / 10) (by omega);(repeat refine Qb ?_);refine Qa fun k hk=>?_;simp -implicitDefEqProofs only[id,reduceCtorEq,reduceIte,Nat.reduceMul,Nat.reduceAdd,Nat.reduceLT,Nat.reduceLeDiff,Nat.reduceEqDiff,Int.reduceLT,Int.reduceBEq,Int.reduceBNe,Nat.reduceBEq,frS,e4,qb43];refine⟨by decide,?_⟩;refine Qe (ih (n / 10) (by omega) (by omega)) rfl (by rintro _ rfl;exact Qi rfl) ?_;rintro r rfl;simp -implicitDefEqProofs only[id,reduceCtorEq,reduceIte,Nat.reduceMul,Nat.reduceAdd,Nat.reduceLT,Nat.reduceLeDiff,Nat.reduceEqDiff,Int.reduceLT,Int.reduceBEq,Int.reduceBNe,Nat.reduceBEq,frS,qb43];rw[bytesOf_one,if_pos (by show _≤(9223372036854775807:Int);omega)];simp -implicitDefEqProofs only[id,reduceCtorEq,reduceIte,Nat.reduceMul,Nat.reduceAdd,Nat.reduceLT,Nat.reduceLeDiff,Nat.reduceEqDiff,Int.reduceLT,Int.reduceBEq,Int.reduceBNe,Nat.reduceBEq,frS,qb43];(refine hk _ ?_;clear hk k;try show Sat _ _ _ _ _);refine Sat.ret ?_;simp only[Tryz.results87,id,seval,frS,qb44];rw[decB_big h10]
  · have h10:n<10:=by have:=of_decide_eq_false h;omega
    refine Sat.skip ?_;simp only[Qg];(repeat refine Qb ?_);(refine Qa fun k hk=>?_;simp -implicitDefEqProofs only[id,reduceCtorEq,reduceIte,Nat.reduceMul,Nat.reduceAdd,Nat.reduceLT,Nat.reduceLeDiff,Nat.reduceEqDiff,Int.reduceLT,Int.reduceBEq,Int.reduceBNe,Nat.reduceBEq,frS,qb43];refine hk _ ?_;clear hk k;try show Sat _ _ _ _ _);refine Sat.ret ?_;simp only[Tryz.results87,id,seval,frS,qb44];rw[decB_small h10,Nat.mod_eq_of_lt h10]
def frB (p q:Nat):ByteArray:=decB p ++ (bytesOf [47] ++ decB q)
end

section
namespace Tq
open Eng Lmb Go.RowKit
theorem smallC (F:Frm) {sa:SV} {n:Nat} (c:Nat) (ha:Nats sa n) (hn:(n:Int)<pw 256) (h0:1≤c) (h1:c≤1073741824):Contract F Tryz.prog 75 [sa,.i .i64 c] (fun r=>∃ s,r=QW [s,.i .i64 (n % c:Nat)]∧Nats s (n / c)):=by
  refine Zl Tryz.func75 rfl (by kernel_rfl) fun R w hargs hR=>?_;refine (@Zn.small_nat (zoneOf R w) _ n c c w (nat_to (hargs sa (by simp)) ha hR) hn rfl (by omega) (by omega)).mono ?_;rintro e w' ⟨v,rfl,hv,hbel⟩;obtain⟨s,rfl,hs,hok⟩:=nat_from hv;exact⟨QW [s,.i .i64 (n % c:Nat)],rfl,⟨s,rfl,hs⟩,tup2_ok hok trivial,hbel⟩
theorem resultC (F:Frm) {s:SV} {xs:List Int} (h:Ints s xs) (hl:Qv xs) (hlen:(trim xs).length≤256):Contract F Tryz.prog 68 [s] (natRes (val xs).toNat):=by
  refine Zl Tryz.func68 rfl (by kernel_rfl) fun R w hargs hR=>?_;refine (@Zn.result_rd (zoneOf R w) _ _ w (rd_to (hargs s (by simp)) h hR) hlen).mono ?_;rintro e w' ⟨v,rfl,hv,rfl⟩;obtain⟨t,rfl,ht,hok⟩:=nat_from (R:=R) (w:=w) (w':=w) (n:=(val xs).toNat) ⟨_,hv,Ze hl⟩;exact⟨QW [t,.i .i64 0],rfl,⟨t,rfl,ht⟩,tup2_ok hok trivial,Below.refl _ _⟩
end Tq
end

section
namespace Eng
theorem Sat.settleBox {P:Program} {F:Frm} {n:Nat} {env:List (Nat×SV)} {own:List Own} {c:Code} {K:Exit→St→Prop} (t:Nat) {id blk ty:Nat} {cs:List SV} (hl:look env t=some (.op id blk 0)) (ho:own[id]? = some (.box blk ty cs))
    (h:Sat P F c ⟨n,(t,.el ⟨blk,0,none⟩ cs.length fun j=>cs.getD j default) :: env,own.set id .gone⟩ K):Sat P F c ⟨n,env,own⟩ K:=by
  rintro R0 w0 a w ⟨ob,R,hr⟩;have hidl:id<own.length:=(List.getElem?_eq_some_iff.1 ho).1;have hob:=hr.own id _ ho;obtain⟨b1,b2,b3,b4⟩:=hob;have hblt:blk<w.heap.size:=(Array.getElem?_eq_some_iff.1 b3).1
  have hr':RelR F R0 w0 ob (fun b=>R b∨b=blk) ⟨n,env,own.set id .gone⟩ a w:=by
    refine hr.turn (fun _=>False) rfl rfl rfl (Nat.le_refl _) (fun _ h=>h.elim) (fun _ _ _=>rfl) (fun _ h=>.inl h) (fun b hb=>?_) ?_ ?_ (gb_set hr.evo.size hr.gb ho fun b hb=>by cases hb)
    · rcases hb with hb|rfl
      · exact .inl hb
      · exact .inr ⟨b1,hblt,hr.gb id _ ho b rfl⟩
    · intro i x hx
      rw[List.getElem?_set] at hx;split at hx
      · rename_i e'
        subst e';simp only[hidl,if_true,Option.some.injEq] at hx;subst hx;trivial
      · rename_i hne
        refine Q2 (hr.own i x hx) (fun _ h=>.inl h) (fun b hbx hb=>?_) (fun _ _=>rfl) (fun _ _=>rfl);rcases hb with hb|rfl
        · exact hb
        · exact absurd hbx (hr.dist id i _ x hne ho hx b rfl)
    · intro i j o1 o2 hij h1 h2 b hb1 hb2
      rw[List.getElem?_set] at h1 h2;split at h1<;>split at h2
      · omega
      · rename_i e' hne
        subst e';simp only[hidl,if_true,Option.some.injEq] at h1;subst h1;cases hb1
      · rename_i hne e'
        subst e';simp only[hidl,if_true,Option.some.injEq] at h2;subst h2;cases hb2
      · exact hr.dist i j o1 o2 hij h1 h2 b hb1 hb2
  refine h R0 w0 a w ⟨ob,_,hr'.defers,?_,hr'.size,hr'.own,hr'.dist,hr'.evo,hr'.inv,hr'.obM,hr'.gb,hr'.obw,hr'.rr,hr'.r0⟩;intro u s hu;simp only[look] at hu;split at hu
  · rename_i e
    simp only[Option.some.injEq] at hu;subst hu;subst e;refine⟨(hr'.env t _ hl).1,blk,0,rfl,.inr rfl,fun j hj=>?_⟩;have hm:cs.getD j default∈cs:=Q6 hj;refine⟨?_,(b4 _ hm).1,Qx (fun _ h=>.inl h) (fun _ _=>rfl) _ (b4 _ hm).2⟩;rw[cell_of_row w blk _ _ _ _ b3];simp [List.getD,hj]
  · exact hr'.env u s hu
end Eng
end

section
namespace Eng
def LowFact (N:Nat) (T:World→Prop):Prop:=∀ w w':World,(∀ b,b<N→w'.heap[b]? = w.heap[b]?)→T w→T w'
theorem size_of_low {N:Nat} {w w':World} (hN:N≤w.heap.size) (h:∀ b,b<N→w'.heap[b]? = w.heap[b]?):N≤w'.heap.size:=by
  rcases Nat.eq_zero_or_pos N with rfl|hp
  · exact Nat.zero_le _
  · have h1:=h (N - 1) (by omega)
    have h2:w.heap[N - 1]? = some (w.heap[N - 1]'(by omega)):=Array.getElem?_eq_getElem _;rw[h2] at h1;have:=(Array.getElem?_eq_some_iff.1 h1).1;omega
def Frm.tab (N:Nat) (T:World→Prop) (hT:LowFact N T):Frm:=
  ⟨fun _=>False,fun b=>b<N,fun w=>N≤w.heap.size∧T w,fun _ h=>h.elim,fun w b h hb=>Nat.lt_of_lt_of_le hb h.1,
    fun w w' B h hB hw=>have hl:∀ b,b<N→w'.heap[b]? = w.heap[b]? := fun b hb=>hw b (hB b hb);⟨size_of_low h.1 hl,hT w w' hl h.2⟩⟩
def Frm.codesT (cb N:Nat) (T:World→Prop) (hT:LowFact N T):Frm:=
  ⟨fun b=>b=cb,fun b=>b=cb∨b<N,fun w=>Codes cb w∧N≤cb∧T w,fun _ h=>.inl h,
    fun w b h hb=>by
      have h1:=h.1.lt;have h2:=h.2.1;rcases hb with rfl|hb
      · exact h1
      · omega,
    fun w w' B h hB hw=>⟨h.1.kept fun k hk=>hw k (Nat.lt_of_le_of_lt hk (hB cb (.inl rfl))),h.2.1,hT w w' (fun b hb=>hw b (hB b (.inr hb))) h.2.2⟩⟩
variable {P:Program}
theorem Contract.lift {F F':Frm} {f:FuncId} {args:List SV} {post:SV→Prop} (h:Contract F P f args post) (hM:∀ b,F.M b→F'.M b) (hI:∀ w,F'.Inv w→F.Inv w) (hI':∀ w w',F'.Inv w→F.Inv w'→Evo F.M w w'→F'.Inv w'):Contract F' P f args post:=
  ⟨h.enters,fun R w hi ha hR=>(h.calls R w (hI w hi) ha (fun b hb=>⟨(hR b hb).1,fun hm=>(hR b hb).2 (hM b hm)⟩)).mono fun e w' ⟨r,he,hp,hok,hev,hinv⟩=>
    ⟨r,he,hp,hok,⟨hev.os,hev.tape,hev.output,hev.size,fun b hb hn=>hev.block b hb (fun hm=>hn (hM b hm))⟩,hI' w w' hi hinv hev⟩⟩
theorem Contract.codesT {cb N:Nat} {T:World→Prop} {hT:LowFact N T} {f:FuncId} {args:List SV} {post:SV→Prop} (h:Contract (Frm.codes cb) P f args post):Contract (Frm.codesT cb N T hT) P f args post:=
  h.lift (fun _ h=>h) (fun w h=>h.1) fun w w' h hc hev=>⟨hc,h.2.1,hT w w' (fun b hb=>hev.block b (by have:=h.1.lt;have:=h.2.1;omega) (fun e=>by have e:b=cb:=e;have:=h.2.1;omega)) h.2.2⟩
theorem Contract.tabT {cb N:Nat} {T:World→Prop} {hT:LowFact N T} {f:FuncId} {args:List SV} {post:SV→Prop} (h:Contract (Frm.tab N T hT) P f args post):Contract (Frm.codesT cb N T hT) P f args post:=
  h.lift (fun _ h=>h.elim) (fun w h=>⟨by have:=h.1.lt;have:=h.2.1;omega,h.2.2⟩) fun w w' h hc hev=>⟨h.1.kept fun k hk=>hev.block k (by have:=h.1.lt;omega) (fun h=>h),h.2.1,hc.2⟩
theorem Sat.switchT {n:Nat} {env:List (Nat×SV)} {own:List Own} {c:Code} {K:Exit→St→Prop} {cb id N:Nat} {T:World→Prop} {hT:LowFact N T} (hid:own[id]? = some (.res cb (Codes cb)))
    (h:Sat P (Frm.codesT cb N T hT) c ⟨n,env,[]⟩ K):Sat P (Frm.tab N T hT) c ⟨n,env,own⟩ K:=by
  rintro R0 w0 a w ⟨ob,R,hr⟩;obtain⟨h1,h2,h3,h4⟩:=hr.own _ _ hid
  have hN:N≤cb:=by
    rcases Nat.eq_zero_or_pos N with rfl|hp
    · exact Nat.zero_le _
    · have:=hr.obM (N - 1) (show N - 1<N by omega)
      omega
  have hrel:RelR (Frm.codesT cb N T hT) R0 w0 w.heap.size R ⟨n,env,[]⟩ a w:=
    ⟨hr.defers,hr.env,hr.size,fun i o ho=>by simp at ho,fun i j o o' _ ho=>by simp at ho,⟨hr.evo.os,hr.evo.tape,hr.evo.output,hr.evo.size,fun b hb hm=>hr.evo.block b hb (fun h=>h.elim (fun h=>h.elim) (fun h=>hm (.inr h)))⟩,⟨h4 w (fun _ _=>rfl),hN,hr.inv.2⟩,
      fun b hb=>by
        rcases hb with rfl|hb
        · exact h3
        · have:=hr.inv.1;omega,fun i o ho=>by simp at ho,Nat.le_refl _,fun b hb=>⟨(hr.rr b hb).1,fun hm=>by have hm:b=cb:=hm;subst hm;exact h2 hb,(hr.rr b hb).2.2⟩,hr.r0⟩
  refine wp_mono (h R0 w0 a w ⟨_,R,hrel⟩) ?_;rintro e a' w' ⟨st',hk,ob',R',hr'⟩;have hcb:w0.w.heap.size≤cb∨w0.G cb:=hr.gb _ _ hid cb rfl
  refine⟨st',hk,ob',R',hr'.defers,hr'.env,hr'.size,hr'.own,hr'.dist,⟨hr'.evo.os,hr'.evo.tape,hr'.evo.output,hr'.evo.size,fun b hb hn=>hr'.evo.block b hb (fun hm=>by
    rcases hm with hm|hm
    · have hm:b=cb:=hm
      subst hm;rcases hcb with h9|h9
      · omega
      · exact hn (.inr h9)
    · exact hn (.inr hm))⟩,⟨by have:=hr'.inv.1.lt;have:=hr'.inv.2.1;omega,hr'.inv.2.2⟩,fun b hb=>hr'.obM b (.inr hb),hr'.gb,hr'.obw,fun b hb=>⟨(hr'.rr b hb).1,fun h=>h,(hr'.rr b hb).2.2⟩,hr'.r0⟩
end Eng
open Go.RowKit Eng
theorem walk_ofT {P:Program} {f:FuncId} {args:List SV} {N:Nat} {T:World→Prop} {hT:LowFact N T} (h:Contract (Frm.tab N T hT) P f args (fun r=>r=.b true)) {w:World} (hN:N≤w.heap.size) (hw:T w) (ha:∀ s∈args,s.ok (fun b=>b<w.heap.size) w) :
    Calls P f (args.map SV.den).toArray w fun e w'=>e=.returned (.bool true)∧Below w.heap.size w w':=
  (h.calls _ w ⟨hN,hw⟩ ha (fun b hb=>⟨hb,fun h=>h⟩)).mono fun e w' ⟨r,he,hr,_,hevo,_⟩=>by
    subst hr;exact⟨he,⟨hevo.os,hevo.tape,hevo.output,hevo.size,fun b hb=>hevo.block b hb (fun h=>h)⟩⟩
theorem laid_mem {P:Program} {w:World} {n:String} {d:DataW Unit}:∀ {l:List (String×DataW Unit)} {ps:List MemPlace},DataW.LaidVars P w l ps→(n,d)∈l →
    ∃ g t cs fuel p,P.globalNamed n=some g∧(P.globals[g]?).map (·.type)=some t∧w.var? P n=some cs∧DataW.trod (fun _=>()) P w 0 (fun _=>true) false fuel t cs.toList=some (d,p)
  | [],ps,h,hm=>by cases hm
  | (n',d') :: r,ps,h,hm=>by
    obtain⟨g,t,cs,fuel,p,q,e1,e2,e3,e4,hr,rfl⟩:=h;rcases List.mem_cons.1 hm with hm|hm
    · cases hm
      exact⟨g,t,cs,fuel,p,e1,e2,e3,e4⟩
    · exact laid_mem hr hm
theorem laid_tab {P:Program} {w:World} {l:List (String×DataW Unit)} (h:laidMetH P l w) (hp:(l.all fun x=>x.2.handleName?.isNone)=true) {n:String} {k:IntKind} {zs:List Int} (hm:(n,Lib.tabData k zs)∈l) {g:Nat} {t e:TypeId} {m:Nat}
    (hg:P.globalNamed n=some g) (hty:(P.globals[g]?).map (·.type)=some t) (ht:P.underlying t=some (.array m e)) (he:P.underlying e=some (.int k)) (hce:P.cellsOf e=1) (hct:P.cellsOf t=m):Lib.TabIs P w n k zs:=by
  rw[MakeChecks.laidMetH_plain _ _ _ hp] at h;obtain⟨ps,hl,_,_⟩:=h;obtain⟨g',t',cs,fuel,p,hg',ht',hvar,hd⟩:=laid_mem hl hm;obtain rfl:=Option.some.inj (hg.symm.trans hg');obtain rfl:=Option.some.inj (hty.symm.trans ht');unfold Lib.TabIs;rw[hvar,← Lib.cells_of_tab ht he hce hct hd]
theorem var_low {P:Program} {n:String} {g N:Nat} (hg:P.globalNamed n=some g) (hN:g<N) {w w':World} (h:∀ b,b<N→w'.heap[b]? = w.heap[b]?):w'.var? P n=w.var? P n:=by
  unfold World.var?;rw[hg];simp only[Option.bind_some,h g hN]
theorem tab_low {P:Program} {n:String} {k:IntKind} {zs:List Int} {g N:Nat} (hg:P.globalNamed n=some g) (hN:g<N):LowFact N (fun w=>Lib.TabIs P w n k zs):=by
  intro w w' h ht;unfold Lib.TabIs at *;rw[var_low hg hN h];exact ht
theorem LowFact.and {N:Nat} {S T:World→Prop} (h:LowFact N S) (h':LowFact N T):LowFact N (fun w=>S w∧T w):=fun w w' hw ⟨a,b⟩=>⟨h w w' hw a,h' w w' hw b⟩
theorem LowFact.mono {N M:Nat} {S:World→Prop} (h:LowFact N S) (hm:N≤M):LowFact M S:=fun w w' hw a=>h w w' (fun b hb=>hw b (by omega)) a
end
end Go.Proofs.YtabgkfjfmjdfiaaGreatDoor
