import Derived.Test.YtabgkfjfmjdfiaaGreatDoorZSub
import Derived.Test.YtabgkfjfmjdfiaaGreatDoorPk3
set_option linter.unusedSectionVars false
set_option linter.unusedSimpArgs false
set_option linter.unusedVariables false
namespace Go.Proofs.YtabgkfjfmjdfiaaGreatDoor.Zn
open Go.RowKit Lmb
variable [Zone]
attribute [local go_sem] and_limb
theorem or_low {o y:Int} {s:Nat} (ho:0≤o) (ho':o<2 ^ s) (hy:∃ z,y=2 ^ s * z) (hy0:0≤y) (hy1:y<1073741824) (ho1:o<1073741824):bits .or .i64 o y=o+y:=by
  obtain⟨a,rfl⟩:=Int.eq_ofNat_of_zero_le ho;obtain⟨b,rfl⟩:=Int.eq_ofNat_of_zero_le hy0;show IntKind.i64.wrap ((BitVec.ofInt 64 (a:Int) ||| BitVec.ofInt 64 (b:Int)).toNat:Int)=_;rw[BitVec.toNat_or,ofInt_i64 _ (by omega),ofInt_i64 _ (by omega)]
  have ha:a<2 ^ s:=by
    have:((2 ^ s:Nat):Int)=(2:Int) ^ s:=by simp
    omega
  have hb:b % 2 ^ s=0:=by
    obtain⟨z,hz⟩:=hy
    have h1:((b % 2 ^ s:Nat):Int)=0:=by
      rw[Int.natCast_emod,hz]
      have:((2 ^ s:Nat):Int)=(2:Int) ^ s:=by simp
      rw[this];exact Int.mul_emod_right _ _
    omega
  have e2:a ||| b=b+a:=by rw[Nat.or_comm];exact nat_join s _ _ hb ha
  rw[e2,IntKind.wrap_i64];omega
def RetShift (xs:List Int) (s:Nat) (w:World) (e:Ending) (w':World):Prop:=
  ∃ os,e=.returned (.slice (some ⟨w.heap.size,0,none⟩) (xs.length+1) (xs.length+1))∧ShiftInv xs os s xs.length∧Own .i64 3 w.heap.size w' w.heap.size (xs.length+1) os∧Below w.heap.size w w'
set_option maxRecDepth 20000 in
set_option maxHeartbeats 1000000 in
theorem shifted_lists (a:Value) (s:Nat) (xs:List Int) (w:World) (ha:Rd .i64 w a xs) (lx:Qv xs) (sx:xs.length≤65536) (hs:s≤29) :
    Calls Tryz.prog 77 #[a,.int .i64 (s:Int)] w (RetShift xs s w):=by
  obtain⟨aa,ca,rfl,a1,a2,a3⟩:=ha;obtain⟨i0,hi,hz0,hz1,hz2⟩:=info_parts Zc;unfold maxLen at a2
  go_enter Tryz.func77,Tryz.ntmps77
  go_wp2_with (at_make;go_must (refine wpList_make_full _ rfl (.tmp 11) (.tmp 11) 24 rfl w.heap.size 3 i0 (.int .i64 0) 1 Tryz.underlying24 hi hz0 hz1 .i64 .i64 _ _ (xs.length+1) rfl rfl (by omega) (by omega) ?b2 ?b3 (Nat.le_refl _) ?_))
  case b2=>rw[hz2];omega
  case b3=>unfold maxLen;omega
  intro w1 hown hgrow;have own1:=own_made hown a2.2.1;have bel1:Below w.heap.size w w1:=(Below.refl _ _).grown hgrow (Nat.le_refl _) (by simp);clear hown hgrow
  go_wp2
  go_loopg [15] xs.length (fun m i wr=>∃ j:Nat,i=.int .i64 j∧j+m=xs.length∧∃ os,ShiftInv xs os s j∧Own .i64 3 w.heap.size wr w.heap.size (xs.length+1) os∧Below w.heap.size w wr)
  case atStart=>exact⟨0,rfl,by omega,_,ShiftInv.start xs hs,own1,bel1⟩
  case round=>
    obtain⟨j,rfl,hj,os,hsi,hown,hbel⟩:=hrel;have HSI:=Lib.hid hsi;clear hsi;clear own1;cases gk with
    | zero=>
      obtain rfl:j=xs.length:=by omega
      go_wp2
      go_ret
      exact⟨os,rfl,HSI.out,hown,hbel⟩
    | succ m=>
      have hlt:j<xs.length:=by omega
      obtain⟨ba,oa,rfl,hba,hca⟩:∃ b off,aa=some ⟨b,off,none⟩∧b<w.heap.size∧∀ i,i<xs.length→w.cell? ⟨b,off+i,none⟩=some (.int .i64 (xs.getD i 0)):=by
        rcases a3 with a3|a3
        · omega
        · exact a3
      have hcx:=(hbel.cell (p:=⟨ba,oa+j,none⟩) hba).trans (hca j hlt);have bx:=Qh lx j;have hcell:=hown.cell j (by omega);have hcell1:=hown.cell (j+1) (by omega);have hfr:=hown.frozen j;have hfr1:=hown.frozen (j+1);have hst:=HSI.out.step lx hs hlt;have bo:=Qh HSI.out.limbs j;have hlow:=HSI.out.low;have hxs:=shl_bound bx hs;obtain⟨hy1,hy2⟩:=shl_low (x:=xs.getD j 0) hs;obtain⟨_,_,_,p0,_⟩:=QQ hs;have hor:=or_low bo.1 hlow hy2 (by omega) (by omega) bo.2;obtain⟨x,hx⟩:∃ x,xs.getD j 0=x:=⟨_,rfl⟩;obtain⟨o,ho⟩:∃ o,os.getD j 0=o:=⟨_,rfl⟩;rw[hx] at hcx bx hxs hst hor;rw[ho] at hcell hst hor bo;have HST:=Lib.hid hst;clear hca a3 hx hst ho hlow hy1 hy2 p0
      go_wp2
      go_roundg m
      case measure=>omega
      case rel=>exact⟨j+1,by go_num,by omega,_,HST.out,(hown.store _ _).store _ _,(hbel.setCell (Nat.le_refl _) _).setCell (Nat.le_refl _) _⟩
end Go.Proofs.YtabgkfjfmjdfiaaGreatDoor.Zn
