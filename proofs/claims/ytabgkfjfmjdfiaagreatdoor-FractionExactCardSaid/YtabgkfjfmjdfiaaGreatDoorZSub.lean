import Derived.Test.YtabgkfjfmjdfiaaGreatDoorZNat
import Derived.Test.YtabgkfjfmjdfiaaGreatDoorPk2
set_option linter.unusedSectionVars false
set_option linter.unusedSimpArgs false
set_option linter.unusedVariables false
namespace Go.Proofs.YtabgkfjfmjdfiaaGreatDoor.Zn
open Go.RowKit Lmb
variable [Zone]
attribute [local go_sem] and_limb
theorem quiet_left {P:Program} {f:FuncId} {args:Array Value} {w:World} {n:Nat} {v:Value}
    (h:Calls P f args (w.drewN n) fun e w'=>e=.returned v∧w.drewN n=w'):Calls P f args (w.drewN n) fun e w'=>e=.returned v∧∃ m,w'=w.drewN m:=
  h.mono fun _ _ ⟨he,hm⟩=>⟨he,n,hm.symm⟩
theorem quiet_add_left {P:Program} {f:FuncId} {args:Array Value} {w:World} {a n:Nat} {v:Value}
    (h:Calls P f args (w.drewN (a+n)) fun e w'=>e=.returned v∧w.drewN (a+n)=w') :
    Calls P f args (w.drewN (a+n)) fun e w''=>e=.returned v∧∃ m,w''=w.drewN (a+m):=
  h.mono fun _ _ ⟨he,hm⟩=>⟨he,n,hm.symm⟩
set_option maxRecDepth 20000 in
set_option maxHeartbeats 400000 in
theorem cmp_calls (x y:Int) (w:World):Calls Tryz.prog 81 #[.int .i64 x,.int .i64 y] w fun e w'=>e=.returned (.int .i64 (cmpI x y))∧w=w':=by
  rcases Int.lt_trichotomy x y with h|h|h
  · have hc:=ZA h
    have HC:=Lib.hid hc;clear hc
    go_enter Tryz.func81,Tryz.ntmps81
    go_wp2
    go_ret
    exact⟨by rw[HC.out];rfl,rfl⟩
  · have hc:=cmpI_eq h
    have HC:=Lib.hid hc;subst h;clear hc;have h1:¬ x<x:=by omega
    go_enter Tryz.func81,Tryz.ntmps81
    go_wp2
    go_ret
    exact⟨by rw[HC.out];rfl,rfl⟩
  · have hc:=cmpI_gt h
    have HC:=Lib.hid hc;clear hc;have h1:¬ x<y:=by omega
    go_enter Tryz.func81,Tryz.ntmps81
    go_wp2
    go_ret
    exact⟨by rw[HC.out];rfl,rfl⟩
def RetInt (x:Int) (w:World) (e:Ending) (w':World):Prop:=e=.returned (.int .i64 x)∧∃ n,w'=w.drewN n
set_option maxRecDepth 20000 in
set_option maxHeartbeats 1000000 in
theorem compare_lists (a b:Value) (xs ys:List Int) (w:World) (m n:Nat) (ha:Rd .i64 w a xs) (hb:Rd .i64 w b ys) (dx:Dig xs m) (dy:Dig ys n) :
    Calls Tryz.prog 20 #[a,b] w (RetInt (cmpI m n) w):=by
  obtain⟨aa,ca,rfl,a1,a2,a3⟩:=ha;obtain⟨ab,cb,rfl,b1,b2,b3⟩:=hb;unfold maxLen at a2 b2;by_cases hl:xs.length=ys.length
  · have hz:cmpI (xs.length:Int) (ys.length:Int)=0:=cmpI_eq (by rw[hl])
    have HCM:=Lib.hid (cmp_calls (xs.length:Int) (ys.length:Int) w);rw[hz] at HCM;have hle1:xs.length≤ys.length:=by omega
    have hle2:ys.length≤xs.length:=by omega
    have HL:=Lib.hid hl;clear hl hz
    go_enter Tryz.func20,Tryz.ntmps20
    go_wp2_with fail
    refine HCM.out.mono ?_;rintro e w' ⟨rfl,rfl⟩
    go_wp2
    go_loopg [6] xs.length (fun j i wr=>i=.int .i64 ((j:Int) - 1)∧j≤xs.length∧xs.drop j=ys.drop j∧∃ d,wr=w.drewN d)
    case atStart=>exact⟨rfl,Nat.le_refl _,by rw[List.drop_of_length_le (Nat.le_refl _),List.drop_of_length_le hle2],0,rfl⟩
    case round=>
      obtain⟨hi6,hj,hdr,d,rfl⟩:=hrel;have HD:=Lib.hid hdr;clear hdr;cases gk with
      | zero=>
        subst hi6
        have hs:cmpI m n=0:=by
          have h1:=HD.out;rw[List.drop_zero,List.drop_zero] at h1;have:=(dx.inj dy).1 h1;exact cmpI_eq (by omega)
        have HS:=Lib.hid hs;clear hs
        go_wp2
        go_ret
        exact⟨by rw[HS.out];rfl,d,rfl⟩
      | succ k=>
        have e6:((k+1:Nat):Int) - 1=(k:Int):=by omega
        rw[e6] at hi6;subst hi6
        obtain⟨ba,oa,rfl,hba,hca⟩:∃ b off,aa=some ⟨b,off,none⟩∧b<w.heap.size∧∀ i,i<xs.length→w.cell? ⟨b,off+i,none⟩=some (.int .i64 (xs.getD i 0)):=by
          rcases a3 with a3|a3
          · omega
          · exact a3
        obtain⟨bb,ob,rfl,hbb,hcb⟩:∃ b off,ab=some ⟨b,off,none⟩∧b<w.heap.size∧∀ i,i<ys.length→w.cell? ⟨b,off+i,none⟩=some (.int .i64 (ys.getD i 0)):=by
          rcases b3 with b3|b3
          · omega
          · exact b3
        have hkx:k<xs.length:=by omega
        have hky:k<ys.length:=by omega
        have hcx:=hca k hkx;have hcy:=hcb k hky;clear hca hcb a3 b3 e6;by_cases he:xs.getD k 0=ys.getD k 0
        · have hst:=drop_eq_step hkx hky HD.out he
          obtain⟨x,hx⟩:∃ x,xs.getD k 0=x:=⟨_,rfl⟩;rw[← he,hx] at hcy;rw[hx] at hcx;have hne:(x != x)=false:=by simp
          have HST:=Lib.hid hst;clear hst he hx
          go_wp2
          go_quiet (fail)
          go_wp2
          go_roundg k
          case measure=>omega
          case rel=>exact⟨rfl,by omega,HST.out,_,rfl⟩
        · have hs:=cmp_limb dx.limbs dy.limbs hkx hky HD.out he
          rw[dx.val,dy.val] at hs;have HCM2:=fun W=>cmp_calls (xs.getD k 0) (ys.getD k 0) W;rw[hs] at HCM2;obtain⟨x,hx⟩:∃ x,xs.getD k 0=x:=⟨_,rfl⟩;obtain⟨y,hy⟩:∃ y,ys.getD k 0=y:=⟨_,rfl⟩;rw[hy] at hcy he HCM2;rw[hx] at hcx he HCM2;have hne:(x != y)=true:=by simpa using he
          have HC2:=Lib.hid HCM2;clear hs he hx hy HCM2
          go_wp2
          go_quiet (fail)
          go_wp2
          go_quiet ((go_at_call 81;exact quiet_add_left (HC2.out _)))
          go_wp2
          go_ret
          exact⟨rfl,_,by rw[World.drewN_drewN,World.drewN_drewN]⟩
  · have hs:=cmp_len dx dy hl
    have HCM:=Lib.hid (cmp_calls (xs.length:Int) (ys.length:Int) w);rw[hs] at HCM
    have hnz:(cmpI m n != 0)=true:=by
      rw[← hs];unfold cmpI;split
      · rfl
      · split
        · rfl
        · omega
    clear hs;generalize cmpI m n=c at *
    go_enter Tryz.func20,Tryz.ntmps20
    go_wp2_with fail
    refine HCM.out.mono ?_;rintro e w' ⟨rfl,rfl⟩
    go_wp2
    go_ret
    exact⟨rfl,0,rfl⟩
theorem Zk (x:Int) (h:-9223372036854775808≤x∧x≤9223372036854775807):IntKind.i64.wrap x=x:=IntWalk.i64_in _ h
set_option maxRecDepth 20000 in
set_option maxHeartbeats 1000000 in
theorem sub_lists (a b:Value) (xs ys:List Int) (w:World) (m n:Nat) (ha:Rd .i64 w a xs) (hb:Rd .i64 w b ys) (dx:Dig xs m) (dy:Dig ys n) (sx:xs.length≤256) (hle:n≤m) :
    Calls Tryz.prog 11 #[a,b] w (RetNat (m - n) w):=by
  have rb:=hb;have HCM:=compare_lists a b xs ys w m n ha hb dx dy
  have hc:¬ cmpI (m:Int) (n:Int)<0:=by
    unfold cmpI;split
    · omega
    · split<;>omega
  have hlen:=dy.mono_len dx hle;obtain⟨aa,ca,rfl,a1,a2,a3⟩:=ha;obtain⟨i0,hi,hz0,hz1,hz2⟩:=info_parts Zc;unfold maxLen at a2;generalize cmpI (m:Int) (n:Int)=c at HCM hc;have DX:=Lib.hid dx;have DY:=Lib.hid dy;have HC:=Lib.hid HCM;have HLE:=Lib.hid hle;clear HCM hb hle
  go_enter Tryz.func11,Tryz.ntmps11
  go_wp2_with fail
  refine HC.out.mono ?_;rintro e w1 ⟨rfl,d,rfl⟩;have hbd:Below w.heap.size w (w.drewN d):=Below.drewN' w d
  go_wp2_with (at_make;go_must (refine wpList_make_full _ rfl (.tmp 15) (.tmp 15) 24 rfl w.heap.size 3 i0 (.int .i64 0) 1 Tryz.underlying24 hi hz0 hz1 .i64 .i64 _ _ xs.length rfl rfl (by omega) (by omega) ?b2 ?b3 (Nat.le_refl _) ?_))
  case b2=>rw[hz2];omega
  case b3=>unfold maxLen;omega
  intro w1 hown hgrow;have own1:=own_made hown a2.2.1;have bel1:Below w.heap.size w w1:=hbd.grown hgrow (Nat.le_refl _) (by simp);clear hown hgrow hbd
  go_wp2
  go_loopg [19,7] xs.length (fun m i c wr=>∃ j:Nat,i=.int .i64 j∧j+m=xs.length∧∃ (q:Int) (os:List Int),c=.int .i64 q∧SubInv xs ys os j q∧Own .i64 3 w.heap.size wr w.heap.size xs.length os∧Below w.heap.size w wr)
  case atStart=>exact⟨0,rfl,by omega,0,_,rfl,SubInv.start xs ys,own1,bel1⟩
  case round=>
    obtain⟨j,rfl,hj,q,os,rfl,hsi,hown,hbel⟩:=hrel;have hq0:=hsi.c0;have hq1:=hsi.c1;have HSI:=Lib.hid hsi;clear hsi own1;cases gk with
    | zero=>
      obtain rfl:j=xs.length:=by omega
      have hd:=HSI.out.done DX.out.val DY.out.val HLE.out hlen;have hl:(trim os).length≤256:=Nat.le_trans (trim_len os) (by rw[HSI.out.len];exact sx);have HD:=Lib.hid hd;have HS:=Lib.hid hown.rd;clear hd
      go_wp2_with fail
      refine (result_rd HS.out hl).mono ?_;rintro e w' ⟨v,rfl,hv,rfl⟩
      go_wp2
      go_ret2
      exact⟨v,rfl,⟨_,hv,HD.out⟩,hbel⟩
    | succ k=>
      obtain⟨ba,oa,rfl,hba,hca⟩:∃ b off,aa=some ⟨b,off,none⟩∧b<w.heap.size∧∀ i,i<xs.length→w.cell? ⟨b,off+i,none⟩=some (.int .i64 (xs.getD i 0)):=by
        rcases a3 with a3|a3
        · omega
        · exact a3
      have hjl:j<xs.length:=by omega
      have hcx:=(hbel.cell (p:=⟨ba,oa+j,none⟩) hba).trans (hca j hjl);have bx:=Qh DX.out.limbs j;have bY:=Qh DY.out.limbs j;have hst:=HSI.out.step DX.out.limbs DY.out.limbs hjl;have hcell:=hown.cell j hjl;have hfr:=hown.frozen j;have RB:=fun n=>at_calls b j ys (wr.drewN n) ((rb.below hbel).below (Below.drewN' _ _));obtain⟨x,hx⟩:∃ x,xs.getD j 0=x:=⟨_,rfl⟩;obtain⟨y,hy⟩:∃ y,ys.getD j 0=y:=⟨_,rfl⟩;rw[hx] at hcx bx hst;rw[hy] at RB bY hst;have RB:=Lib.hid RB;have HST:=Lib.hid hst;clear hca a3 hx hy hst;have e1:=Zk (x - y) (by omega);have e2:=Zk (x - y+q) (by omega)
      go_wp2
      go_quiet ((go_at_call 67;exact quiet_left (RB.out _)))
      clear e1 e2
      go_wp2
      go_roundg k
      case measure=>omega
      case rel=>exact⟨j+1,by go_num,by omega,_,_,rfl,HST.out,(hown.store _ _).drewN _,Below.drewN (hbel.setCell (Nat.le_refl _) _) _⟩
theorem compare_nat {a b:Value} {m n:Nat} {w:World} (ha:NatAt w a m) (hb:NatAt w b n):Calls Tryz.prog 20 #[a,b] w (RetInt (cmpI m n) w):=by
  obtain⟨xs,r1,d1⟩:=ha;obtain⟨ys,r2,d2⟩:=hb;exact compare_lists a b xs ys w m n r1 r2 d1 d2
theorem sub_nat {a b:Value} {m n:Nat} {w:World} (ha:NatAt w a m) (hb:NatAt w b n) (hm:(m:Int)<pw 256) (hle:n≤m):Calls Tryz.prog 11 #[a,b] w (RetNat (m - n) w):=by
  obtain⟨xs,r1,d1⟩:=ha;obtain⟨ys,r2,d2⟩:=hb;exact sub_lists a b xs ys w m n r1 r2 d1 d2 (Zs d1 hm) hle
end Go.Proofs.YtabgkfjfmjdfiaaGreatDoor.Zn
