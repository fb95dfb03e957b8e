import Derived.Test.YtabgkfjfmjdfiaaGreatDoorZSmall
import Derived.Deep.QuietTactic
import Derived.BigQuiet
set_option linter.unusedSectionVars false
set_option linter.unusedSimpArgs false
set_option linter.unusedVariables false
namespace Go.Proofs.YtabgkfjfmjdfiaaGreatDoor.Zn
open Go.RowKit Lmb
variable [Zone]
attribute [local go_sem] and_limb
set_option maxRecDepth 20000 in
set_option maxHeartbeats 1000000 in
theorem add_lists (a b:Value) (xs ys:List Int) (w:World) (m n:Nat) (ha:Rd .i64 w a xs) (hb:Rd .i64 w b ys) (lx:Qv xs) (ly:Qv ys) (sx:xs.length≤65536) (sy:ys.length≤65536)
    (dx:val xs=m) (dy:val ys=n) (hok:∀ zs,Dig zs (m+n)→zs.length≤256) :
    Calls Tryz.prog 8 #[a,b] w (RetNat (m+n) w):=by
  have HOK:=Lib.hid hok;have DX:=Lib.hid dx;have DY:=Lib.hid dy;clear hok dx dy;have ra:=ha;have rb:=hb;obtain⟨aa,ca,rfl,a1,a2,a3⟩:=ha;obtain⟨ab,cb,rfl,b1,b2,b3⟩:=hb;obtain⟨i0,hi,hz0,hz1,hz2⟩:=info_parts Zc;unfold maxLen at a2 b2;clear a3 b3;obtain⟨k,hk⟩:∃ k,k=max xs.length ys.length:=⟨_,rfl⟩;have hkx:xs.length≤k:=by omega
  have hky:ys.length≤k:=by omega
  have hk2:k≤65536:=by omega
  have hc:(xs.length<ys.length∧k=ys.length)∨(ys.length≤xs.length∧k=xs.length):=by omega
  have HKX:=Lib.hid hkx;have HKY:=Lib.hid hky;clear hk hkx hky;generalize xs.length=n1 at ra a1 sx hc ⊢;generalize ys.length=n2 at rb b1 sy hc ⊢;rcases hc with ⟨hle,rfl⟩|⟨hle,rfl⟩;all_goals
    go_enter Tryz.func8,Tryz.ntmps8
    go_wp2_with (at_make;go_must (refine wpList_make_full _ rfl (.tmp 17) (.tmp 17) 24 rfl w.heap.size 3 i0 (.int .i64 0) 1 Tryz.underlying24 hi hz0 hz1 .i64 .i64 _ _ (k+1) rfl rfl (by omega) (by omega) ?b2 ?b3 (Nat.le_refl _) ?_))
    case b2=>rw[hz2];omega
    case b3=>unfold maxLen;omega
    intro w1 hown hgrow;have own1:=own_made hown a2.2.1;have bel1:Below w.heap.size w w1:=(Below.refl _ _).grown hgrow (Nat.le_refl _) (by simp);have hsz:w.heap.size<w1.heap.size:=own1.lt.2;clear hown hgrow
    go_wp2
    go_loopg [20,8] k (fun m i c wr=>∃ j:Nat,i=.int .i64 j∧j+m=k∧∃ (q:Int) (os:List Int),c=.int .i64 q∧AddInv xs ys os k j q∧Own .i64 3 w.heap.size wr w.heap.size (k+1) os∧Below w.heap.size w wr)
    case atStart=>exact⟨0,rfl,by omega,0,_,rfl,AddInv.start xs ys k,own1,bel1⟩
    case round=>
      obtain⟨j,rfl,hj,q,os,rfl,hai,hown,hbel⟩:=hrel;have hq0:=hai.c0;have hq1:=hai.c1;have hAI:=Lib.hid hai;clear hai own1;cases gk with
      | zero=>
        obtain rfl:j=k:=by omega
        have hfr:=hown.frozen j;have hcell:=hown.cell j (by omega);have hs:=(hown.store j q).rd;have hd:=hAI.out.done DX.out DY.out HKX.out HKY.out;have hl:=HOK.out _ hd;have HD:=Lib.hid hd;have HL:=Lib.hid hl;have HS:=Lib.hid hs;clear hd hl hs
        go_wp2_with fail
        refine (result_rd HS.out HL.out).mono ?_;rintro e w' ⟨v,rfl,hv,rfl⟩
        go_wp2
        go_ret2
        exact⟨v,rfl,⟨_,hv,HD.out⟩,hbel.setCell (Nat.le_refl _) _⟩
      | succ m=>
        have bx:=Qh lx j;have bY:=Qh ly j;have hst:=hAI.out.step lx ly (show j<k by omega);have hcell:=hown.cell j (by omega);have hfr:=hown.frozen j;have RA:=Lib.hid (at_calls _ j xs _ (ra.below hbel));have RB:=Lib.hid (at_calls _ j ys _ (rb.below hbel));obtain⟨x,hx⟩:∃ x,xs.getD j 0=x:=⟨_,rfl⟩;obtain⟨y,hy⟩:∃ y,ys.getD j 0=y:=⟨_,rfl⟩;rw[hx] at RA bx hst;rw[hy] at RB bY hst;have hST:=Lib.hid hst;clear hst hx hy
        go_wp2_with fail
        refine RA.out.mono ?_;rintro e w' ⟨rfl,rfl⟩
        go_wp2_with fail
        refine RB.out.mono ?_;rintro e w' ⟨rfl,rfl⟩
        go_wp2
        go_roundg m
        case measure=>omega
        case rel=>exact⟨j+1,by go_num,by omega,_,_,rfl,hST.out,hown.store _ _,hbel.setCell (Nat.le_refl _) _⟩
end Go.Proofs.YtabgkfjfmjdfiaaGreatDoor.Zn
