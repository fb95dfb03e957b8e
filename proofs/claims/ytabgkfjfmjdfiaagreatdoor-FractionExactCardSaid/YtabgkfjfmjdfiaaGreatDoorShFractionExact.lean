import Derived.Test.YtabgkfjfmjdfiaaGreatDoorRows
import Derived.Test.YtabgkfjfmjdfiaaGreatDoorMem
import Derived.Test.YtabgkfjfmjdfiaaGreatDoorOpenE
import Derived.WalkKit
import Derived.Test.YtabgkfjfmjdfiaaGreatDoorCards
import Derived.Test.YtabgkfjfmjdfiaaGreatDoorTie
import Derived.SevenTiedAt
import Derived.LaidMore
import Derived.LaidLaws
import Derived.LaidHandle
import Derived.ChangeVars
import Derived.JoinedOf
import Derived.Lay
import Derived.ProofKit
import Derived.OpenShut
import Derived.ShutString
import Derived.ChangeOld
import Derived.Below
namespace Go.Proofs.YtabgkfjfmjdfiaaGreatDoor.fractionExact
open Go.ChangeShapes Go.WideShapes Go.ChangeAt Go.RowKit Go.Proofs.YtabgkfjfmjdfiaaGreatDoor.Eng
open Go.ChangeMaps (open_string shut_string)
set_option linter.unusedVariables false
theorem own:ownKnob Tryz.prog.godebug=none:=by kernel_rfl
theorem laidOut:laidOutB Tryz.prog=true:=by kernel_rfl
def Walk:Prop:=∀ (w:World) (_:laidMetH Tryz.prog Rows.fractionExactRow.laid w) (l0:List SV) (l1:List SV) (l2:List SV) (l3:List SV) (l4:List SV),Came w l0→Sh Tryz.prog 8 22 l0→(valS Tryz.prog 22 l0).ok (fun b=>b<w.heap.size) w→Came w l1→Sh Tryz.prog 8 49 l1→(valS Tryz.prog 49 l1).ok (fun b=>b<w.heap.size) w→Came w l2→Sh Tryz.prog 8 3 l2→(valS Tryz.prog 3 l2).ok (fun b=>b<w.heap.size) w→Came w l3→Sh Tryz.prog 8 3 l3→(valS Tryz.prog 3 l3).ok (fun b=>b<w.heap.size) w→Came w l4→Sh Tryz.prog 8 9 l4→(valS Tryz.prog 9 l4).ok (fun b=>b<w.heap.size) w →
    Calls Tryz.prog 4 #[(valS Tryz.prog 22 l0).den,(valS Tryz.prog 49 l1).den,(valS Tryz.prog 3 l2).den,(valS Tryz.prog 3 l3).den,(valS Tryz.prog 9 l4).den] w fun e w'=>e=.returned (.bool true)∧Below w.heap.size w w'
set_option maxRecDepth 100000 in
theorem lifted (walk:Walk) (os:Os) (started:os.Started) (H:Type) (enc:TypeId×Value→H) :
    ReturnsInHanded {} Tryz.checked os 4 .any (fun w args=>(Rows.fractionExactSpec.pre enc Tryz.prog Tryz.f4 Rows.fractionExactRow.domain false w args∧laidMetH Tryz.prog Rows.fractionExactRow.laid w)∧sizedMet enc Tryz.prog Tryz.f4 (OpenSpec.ofChange Rows.fractionExactSpec) false w args) (Rows.fractionExactSpec.post enc Tryz.prog Tryz.f4 false true false false):=by
  refine returnsInHanded_of_change_and (C:=Tryz.checked) (X:=fun w _=>laidMetH Tryz.prog Rows.fractionExactRow.laid w) (fun _ _ _ hh h=>h.of_heap hh) own started (by kernel_rfl) Tryz.func4
    (ChangeSpec.witness_shaped (enc:=enc) (C:=Tryz.checked) (os:=os) (X:=fun w _=>laidMetH Tryz.prog Rows.fractionExactRow.laid w) false (World.laidAll Tryz.prog os Rows.fractionExactRow.laid) #[.slice none 0 0,.agg #[.bool false,.slice none 0 0,.slice none 0 0],.int .i64 0,.int .i64 0,.string ByteArray.empty] 8 (World.laidAll_os _ _ _) (World.shaped_of_ZipB (by kernel_rfl) (by kernel_rfl)) (by kernel_rfl) (by kernel_rfl) (by kernel_rfl) (by rw[MakeChecks.laidMetH_plain _ _ _ (by kernel_rfl)];exact laidMet_laidAll _ (by kernel_rfl) (by kernel_rfl))) ?_
  intro W base args ds gs before hval0 hW hcnd _ hL _;have hval:∀ (j:Nat) t v,Tryz.f4.params[j]? = some t→args[j]? = some v→Value.okWide Tryz.prog W .any base t v:=hval0;have hW':=hW;obtain⟨p,q,hA0,hV,rfl,hfz,hnd⟩:=hW;have hA:DataW.TrodAll enc Tryz.prog W 0 (fun _=>true) true Tryz.f4.params.toList args.toList ds p:=hA0;rw[Tryz.params4] at hA hval;obtain⟨v0,vs0,d0,ds0,p0,q0,hargs,rfl,rfl,h0,r0⟩:=trodAll_cons hA;obtain⟨v1,vs1,d1,ds1,p1,q1,rfl,rfl,rfl,h1,r1⟩:=trodAll_cons r0;obtain⟨v2,vs2,d2,ds2,p2,q2,rfl,rfl,rfl,h2,r2⟩:=trodAll_cons r1;obtain⟨v3,vs3,d3,ds3,p3,q3,rfl,rfl,rfl,h3,r3⟩:=trodAll_cons r2;obtain⟨v4,vs4,d4,ds4,p4,q4,rfl,rfl,rfl,h4,r4⟩:=trodAll_cons r3;obtain⟨rfl,rfl,rfl⟩:=trodAll_nil r4;obtain rfl:args=#[v0,v1,v2,v3,v4]:=by cases args;simp_all
  obtain⟨rfl,rfl⟩:=trodVars_none hV;have lt0:∀ x∈p0,x.block<W.heap.size:=by obtain⟨m,hm⟩:=h0;exact DataW.trod_lt m _ _ _ hm
  obtain⟨l0,e0,c0,s0,o0⟩:=open_val (D:=8) (t:=22) (by kernel_rfl) (hval 0 22 v0 rfl rfl) h0;have lt1:∀ x∈p1,x.block<W.heap.size:=by obtain⟨m,hm⟩:=h1;exact DataW.trod_lt m _ _ _ hm
  obtain⟨l1,e1,c1,s1,o1⟩:=open_val (D:=8) (t:=49) (by kernel_rfl) (hval 1 49 v1 rfl rfl) h1;have lt2:∀ x∈p2,x.block<W.heap.size:=by obtain⟨m,hm⟩:=h2;exact DataW.trod_lt m _ _ _ hm
  obtain⟨l2,e2,c2,s2,o2⟩:=open_val (D:=8) (t:=3) (by kernel_rfl) (hval 2 3 v2 rfl rfl) h2;have lt3:∀ x∈p3,x.block<W.heap.size:=by obtain⟨m,hm⟩:=h3;exact DataW.trod_lt m _ _ _ hm
  obtain⟨l3,e3,c3,s3,o3⟩:=open_val (D:=8) (t:=3) (by kernel_rfl) (hval 3 3 v3 rfl rfl) h3;have lt4:∀ x∈p4,x.block<W.heap.size:=by obtain⟨m,hm⟩:=h4;exact DataW.trod_lt m _ _ _ hm
  obtain⟨l4,e4,c4,s4,o4⟩:=open_val (D:=8) (t:=9) (by kernel_rfl) (hval 4 9 v4 rfl rfl) h4;clear hA0 hval0;have HW:=(walk W hL l0 l1 l2 l3 l4 c0 s0 (o0 _ rfl) c1 s1 (o1 _ rfl) c2 s2 (o2 _ rfl) c3 s3 (o3 _ rfl) c4 s4 (o4 _ rfl));rw[← e0,← e1,← e2,← e3,← e4] at HW;refine HW.mono fun e W' ⟨he,bel⟩=>?_;subst he;exact⟨_,rfl,_,_,_,[],_,[],hW',trodAll_mk1 (shut_bool Tryz.underlying4 _),(trodAll_cons_mk (Below.trod laidOut (by kernel_rfl) (of_decide_eq_true (by kernel_rfl)) h0 bel lt0) (trodAll_cons_mk (Below.trod laidOut (by kernel_rfl) (of_decide_eq_true (by kernel_rfl)) h1 bel lt1) (trodAll_cons_mk (Below.trod laidOut (by kernel_rfl) (of_decide_eq_true (by kernel_rfl)) h2 bel lt2) (trodAll_cons_mk (Below.trod laidOut (by kernel_rfl) (of_decide_eq_true (by kernel_rfl)) h3 bel lt3) (trodAll_cons_mk (Below.trod laidOut (by kernel_rfl) (of_decide_eq_true (by kernel_rfl)) h4 bel lt4) trodAll_mk0))))),rfl,bel.frame _,fun h=>by cases h⟩
theorem of_walk (walk:Walk):Rows.FractionExactSaid:=
  OpenClaim.holds_of_wide 4 Tryz.f4 rfl rfl rfl rfl rfl rfl rfl ⟨rfl,rfl,rfl,rfl,rfl⟩ rfl rfl rfl rfl rfl (by kernel_rfl) Tryz.func4 (by kernel_rfl)
    (of_decide_eq_true (by kernel_rfl)) (by unfold Func.isWrapper;first|(rw[if_pos (by decide +kernel)];kernel_rfl)|(rw[if_neg (by decide +kernel)];exact⟨rfl,rfl⟩))
    (fun os started H enc _=>lifted walk os started H enc)
theorem card_of_walk (walk:Walk):Rows.FractionExactCardSaid:=
  Claim7.holds_tied_plain_at .later [] [.data,.data,.data,.data,.pinned] true (true, "a672c04ecc9e645658444ff767edb42c8a042aa0743e105be849256b6e9dd50e") false
    (of_walk walk) (fun _ h=>by cases h) (by kernel_rfl) (fun _ h=>by cases h) fractionExact_row_tie rfl ⟨rfl,rfl⟩ (by kernel_rfl) rfl
    (fun f fn hf hfn=>by
      obtain rfl:f=4:=(Option.some.inj ((show Tryz.prog.funcNamed "routescope/routescopelaw03.FractionExact" = some 4 by kernel_rfl).symm.trans hf)).symm;obtain rfl:fn=Tryz.f4:=(Option.some.inj (Tryz.func4.symm.trans hfn)).symm;have hall:(Tryz.f4.params.toList.all fun t=>!Tryz.prog.wantsStandIn t)=true:=by kernel_rfl
      exact⟨by kernel_rfl,fun j t ht=>by
        have hm:t∈Tryz.f4.params.toList:=by
          rw[← Array.getElem?_toList] at ht;exact List.mem_of_getElem? ht
        have:=List.all_eq_true.1 hall t hm;have h9:Tryz.prog.wantsStandIn t=false:=by simpa using this
        exact h9⟩)
    (by kernel_rfl)
end Go.Proofs.YtabgkfjfmjdfiaaGreatDoor.fractionExact
