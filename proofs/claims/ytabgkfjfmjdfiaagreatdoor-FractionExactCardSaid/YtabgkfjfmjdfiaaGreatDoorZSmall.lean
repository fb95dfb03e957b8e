import Derived.Test.YtabgkfjfmjdfiaaGreatDoorZMul
import Derived.Test.YtabgkfjfmjdfiaaGreatDoorPk1
import Derived.RegionTactic
import Derived.BigRegion
import Derived.Deep.QuietTactic
import Derived.BigQuiet
set_option linter.unusedSectionVars false
set_option linter.unusedSimpArgs false
set_option linter.unusedVariables false
namespace Go.Proofs.YtabgkfjfmjdfiaaGreatDoor.Zn
open Go.RowKit Lmb
variable [Zone]
omit [Zone] in
theorem Below.drewN {B:Nat} {a w:World} (h:Below B a w) (n:Nat):Below B a (w.drewN n):=⟨h.os,h.tape,h.output,h.size,h.block⟩
theorem Own.drew {k:IntKind} {e:TypeId} {B:Nat} {w:World} {g n:Nat} {xs:List Int} (h:Own k e B w g n xs):Own k e B w.drew g n xs:=h
theorem Own.drewN {k:IntKind} {e:TypeId} {B:Nat} {w:World} {g n:Nat} {xs:List Int} (h:Own k e B w g n xs) (m:Nat):Own k e B (w.drewN m) g n xs:=h
def RetSmall (n c:Nat) (w:World) (e:Ending) (w':World):Prop:=∃ v,e=.returned (.tuple #[v,.int .i64 ((n % c:Nat):Int)])∧NatAt w' v (n / c)∧Below w.heap.size w w'
set_option maxRecDepth 20000 in
set_option maxHeartbeats 1000000 in
theorem small_lists (a:Value) (b:Int) (xs:List Int) (w:World) (n c:Nat) (ha:Rd .i64 w a xs) (lx:Qv xs) (sx:xs.length≤65536) (hb0:1≤b) (hb1:b≤1073741824)
    (dx:val xs=n) (hbc:b=c) :
    Calls Tryz.prog 75 #[a,.int .i64 b] w (RetSmall n c w):=by
  have DX:=Lib.hid dx;have HBC:=Lib.hid hbc;clear dx hbc;have hbz:(b == 0)=false:=by simp;omega
  obtain⟨aa,ca,rfl,a1,a2,a3⟩:=ha;obtain⟨i0,hi,hz0,hz1,hz2⟩:=info_parts Zc;unfold maxLen at a2
  go_enter Tryz.func75,Tryz.ntmps75
  go_wp2_with (at_make;go_must (refine wpList_make_full _ rfl (.tmp 11) (.tmp 11) 24 rfl w.heap.size 3 i0 (.int .i64 0) 1 Tryz.underlying24 hi hz0 hz1 .i64 .i64 _ _ xs.length rfl rfl (by omega) (by omega) ?b2 ?b3 (Nat.le_refl _) ?_))
  case b2=>rw[hz2];omega
  case b3=>unfold maxLen;omega
  intro w1 hown hgrow;have own1:=own_made hown a2.2.1;have bel1:Below w.heap.size w w1:=(Below.refl _ _).grown hgrow (Nat.le_refl _) (by simp);have hsz:w.heap.size<w1.heap.size:=own1.lt.2;clear hown hgrow
  go_wp2
  go_loopg [7,8] xs.length (fun j r i wr=>i=.int .i64 ((j:Int) - 1)∧j≤xs.length∧∃ (q:Int) (qs:List Int),r=.int .i64 q∧SmallInv xs b j qs q∧Own .i64 3 w.heap.size wr w.heap.size xs.length qs∧Below w.heap.size w wr)
  case atStart=>exact⟨rfl,Nat.le_refl _,0,_,rfl,SmallInv.start xs b hb0,own1,bel1⟩
  case round=>
    obtain⟨hi8,hj,q,qs,rfl,hsi,hown,hbel⟩:=hrel;have hq0:=hsi.r0;have hq1:=hsi.r1;have hSI:=Lib.hid hsi;clear hsi own1;cases gk with
    | zero=>
      subst hi8
      go_wp2_with fail
      refine (trim_rd hown.rd).mono ?_;rintro e w' ⟨v,rfl,hv,rfl⟩
      go_wp2
      go_ret2
      obtain⟨hd,hr⟩:=hSI.out.done DX.out HBC.out;exact⟨v,by rw[← hr];rfl,⟨_,hv,hd⟩,hbel⟩
    | succ m=>
      have e8:((m+1:Nat):Int) - 1=(m:Int):=by omega
      rw[e8] at hi8;subst hi8
      obtain⟨ba,oa,rfl,hba,hca⟩:∃ b off,aa=some ⟨b,off,none⟩∧b<w.heap.size∧∀ i,i<xs.length→w.cell? ⟨b,off+i,none⟩=some (.int .i64 (xs.getD i 0)):=by
        rcases a3 with a3|a3
        · omega
        · exact a3
      have hcx:=(hbel.cell (p:=⟨ba,oa+m,none⟩) hba).trans (hca m (by omega));have bx:=Qh lx m;have hcq:=hown.cell m (by omega);have hfr:=hown.frozen m;have hst:=hSI.out.step lx (show m<xs.length by omega);obtain⟨x,hx⟩:∃ x,xs.getD m 0=x:=⟨_,rfl⟩;rw[hx] at hcx bx hst;have hST:=Lib.hid hst;have hor:=or_limb q x hq0 (by omega) bx.1 bx.2;clear hca a3 hx hst e8
      go_wp2
      have hu0:0≤q * 1073741824+x:=by omega
      have hu1:q * 1073741824+x≤2305843009213693952:=by omega
      obtain⟨u,hu⟩:∃ u,q * 1073741824+x=u:=⟨_,rfl⟩;rw[hu] at hu0 hu1;simp only[hu];have HU:=Lib.hid hu;clear hu hor;have hst2:=hST.out;rw[HU.out] at hst2;have HST2:=Lib.hid hst2;clear hst2 HU
      go_region
      go_wp2
      go_roundg m
      case measure=>omega
      case rel=>exact⟨rfl,by omega,_,_,rfl,HST2.out,(hown.store _ _).drew,(hbel.setCell (Nat.le_refl _) _).drew⟩
end Go.Proofs.YtabgkfjfmjdfiaaGreatDoor.Zn
