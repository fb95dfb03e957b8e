import Derived.Test.YtabgkfjfmjdfiaaGreatDoorZTrim
import Derived.Test.YtabgkfjfmjdfiaaGreatDoorPk1
import Derived.Deep.DeepMust
set_option linter.unusedSectionVars false
set_option linter.unusedSimpArgs false
set_option linter.unusedVariables false
namespace Go.Proofs.YtabgkfjfmjdfiaaGreatDoor.Zn
open Go.RowKit Lmb
variable [Zone]
omit [Zone] in
theorem Zc:(Tryz.prog.info? 3).map (fun i=>(i.zero,i.size,i.bytes))=some (some (.int .i64 0),1,8):=by kernel_rfl
def NatAt (w:World) (v:Value) (n:Nat):Prop:=∃ xs,Rd .i64 w v xs∧Dig xs n
theorem NatAt.below {w w':World} {v:Value} {n:Nat} (h:NatAt w v n) (hb:Below w.heap.size w w'):NatAt w' v n:=
  let ⟨xs,h1,h2⟩:=h;⟨xs,h1.below hb,h2⟩
theorem NatAt.zone {w:World} {v:Value} {n:Nat} (h:NatAt w v n):Zone.N≤w.heap.size:=let ⟨_,h1,_⟩:=h;h1.zone
def RetNat (n:Nat) (w:World) (e:Ending) (w':World):Prop:=∃ v,e=.returned (.tuple #[v,.int .i64 0])∧NatAt w' v n∧Below w.heap.size w w'
theorem own_made {e:TypeId} {B:Nat} {w:World} {g n:Nat} (h:w.ownsRow B e 1 (.slice (some ⟨g,0,none⟩) n n) n (madeCells #[Value.int .i64 0] n).toList) (hN:Zone.N≤B) :
    Own .i64 e B w g n (List.replicate n 0):=by
  have e1:(madeCells #[Value.int .i64 0] n).toList=(List.replicate n 0).map (Value.int .i64):=by
    rw[toList_madeCells_one];simp
  rw[e1] at h;exact⟨h,hN⟩
attribute [local go_sem] and_limb
set_option maxRecDepth 20000 in
set_option maxHeartbeats 1000000 in
theorem mul_lists (a b:Value) (xs ys:List Int) (w:World) (m n:Nat) (ha:Rd .i64 w a xs) (hb:Rd .i64 w b ys) (lx:Qv xs) (ly:Qv ys) (sx:xs.length≤65536) (sy:ys.length≤65536)
    (dx:val xs=m) (dy:val ys=n) (hok:∀ os,MulOut xs ys os xs.length→(trim os).length≤256) :
    Calls Tryz.prog 13 #[a,b] w (RetNat (m * n) w):=by
  have HOK:=Lib.hid hok;have DX:=Lib.hid dx;have DY:=Lib.hid dy;clear hok dx dy;obtain⟨aa,ca,rfl,a1,a2,a3⟩:=ha;obtain⟨ab,cb,rfl,b1,b2,b3⟩:=hb;obtain⟨i0,hi,hz0,hz1,hz2⟩:=info_parts Zc;unfold maxLen at a2 b2
  go_enter Tryz.func13,Tryz.ntmps13
  go_wp2_with (at_make;go_must (refine wpList_make_full _ rfl (.tmp 17) (.tmp 17) 24 rfl w.heap.size 3 i0 (.int .i64 0) 1 Tryz.underlying24 hi hz0 hz1 .i64 .i64 _ _ (xs.length+ys.length) rfl rfl (by omega) (by omega) ?b2 ?b3 (Nat.le_refl _) ?_))
  case b2=>rw[hz2];omega
  case b3=>unfold maxLen;omega
  intro w1 hown hgrow;have own1:=own_made hown a2.2.1;have bel1:Below w.heap.size w w1:=(Below.refl _ _).grown hgrow (Nat.le_refl _) (by simp);have hsz:w.heap.size<w1.heap.size:=own1.lt.2;clear hown hgrow
  go_wp2
  go_loopg [21] xs.length (fun m i wr=>∃ j:Nat,i=.int .i64 j∧j+m=xs.length∧∃ os,MulOut xs ys os j∧Own .i64 3 w.heap.size wr w.heap.size (xs.length+ys.length) os∧Below w.heap.size w wr)
  case atStart=>exact⟨0,rfl,by omega,_,MulOut.start xs ys,own1,bel1⟩
  case round=>
    obtain⟨j,rfl,hj,os,hmo,hown,hbel⟩:=hrel;have hMO:=Lib.hid hmo;clear hmo own1;cases gk with
    | zero=>
      obtain rfl:j=xs.length:=by omega
      go_wp2_with fail
      refine (result_rd hown.rd (HOK.out os hMO.out)).mono ?_;rintro e w' ⟨v,rfl,hv,rfl⟩
      go_wp2
      go_ret2
      exact⟨v,rfl,⟨_,hv,hMO.out.done DX.out DY.out⟩,hbel⟩
    | succ m=>
      have hlt:j<xs.length:=by omega
      obtain⟨ba,oa,rfl,hba,hca⟩:∃ b off,aa=some ⟨b,off,none⟩∧b<w.heap.size∧∀ i,i<xs.length→w.cell? ⟨b,off+i,none⟩=some (.int .i64 (xs.getD i 0)):=by
        rcases a3 with a3|a3
        · omega
        · exact a3
      have hcx:=(hbel.cell (p:=⟨ba,oa+j,none⟩) hba).trans (hca j hlt);have bx:=Qh lx j;obtain⟨x,hx⟩:∃ x,xs.getD j 0=x:=⟨_,rfl⟩;rw[hx] at hcx bx;have HX:=Lib.hid hx;clear hca a3 hx;obtain⟨wo,rfl⟩:∃ wo:World,wo=wr:=⟨_,rfl⟩
      go_wp2
      go_loopg [28,9] ys.length (fun m i c wr=>∃ k:Nat,i=.int .i64 k∧k+m=ys.length∧∃ (q:Int) (qs:List Int),c=.int .i64 q∧MulIn xs ys os qs j k q∧Own .i64 3 w.heap.size wr w.heap.size (xs.length+ys.length) qs∧Below w.heap.size w wr)
      case atStart=>exact⟨0,rfl,by omega,0,os,rfl,MulIn.start hMO.out,hown,hbel⟩
      case round=>
        obtain⟨k,rfl,hk,q,qs,rfl,hmi,hown2,hbel2⟩:=hrel;have hq0:=hmi.c0;have hq1:=hmi.c1;have hMI:=Lib.hid hmi;clear hmi hown hbel hcx;cases gk with
        | zero=>
          obtain rfl:k=ys.length:=by omega
          have hfr:=hown2.frozen (j+ys.length);have hcell:=hown2.cell (j+ys.length) (by omega)
          go_wp2
          go_roundg m
          case measure=>omega
          case rel=>exact⟨j+1,by go_num,by omega,_,hMI.out.done hMO.out hlt,hown2.store _ _,hbel2.setCell (Nat.le_refl _) _⟩
        | succ m2=>
          have hlt2:k<ys.length:=by omega
          obtain⟨bb,ob,rfl,hbb,hcb⟩:∃ b off,ab=some ⟨b,off,none⟩∧b<w.heap.size∧∀ i,i<ys.length→w.cell? ⟨b,off+i,none⟩=some (.int .i64 (ys.getD i 0)):=by
            rcases b3 with b3|b3
            · omega
            · exact b3
          have hcy:=(hbel2.cell (p:=⟨bb,ob+k,none⟩) hbb).trans (hcb k hlt2);have bY:=Qh ly k;have hco:=hown2.cell (j+k) (by omega);have bo:=Qh hMI.out.limbs (j+k);have hfr:=hown2.frozen (j+k);have hst:=hMI.out.step lx ly hlt hlt2;rw[HX.out] at hst;obtain⟨y,hy⟩:∃ y,ys.getD k 0=y:=⟨_,rfl⟩;obtain⟨o,ho⟩:∃ o,qs.getD (j+k) 0=o:=⟨_,rfl⟩;rw[hy] at hcy bY hst;rw[ho] at hco bo hst;have bp:=limb_prod bx bY;have hST:=Lib.hid hst;clear hcb b3 hy ho hst
          go_wp2
          go_roundg m2
          case measure=>omega
          case rel=>exact⟨k+1,by go_num,by omega,_,_,rfl,hST.out,hown2.store _ _,hbel2.setCell (Nat.le_refl _) _⟩
end Go.Proofs.YtabgkfjfmjdfiaaGreatDoor.Zn
