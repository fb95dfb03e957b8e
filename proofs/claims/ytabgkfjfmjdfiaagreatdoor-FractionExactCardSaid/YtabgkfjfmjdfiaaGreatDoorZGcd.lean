import Derived.Test.YtabgkfjfmjdfiaaGreatDoorZDiv
set_option linter.unusedSectionVars false
set_option linter.unusedSimpArgs false
set_option linter.unusedVariables false
namespace Go.Proofs.YtabgkfjfmjdfiaaGreatDoor.Zn
open Go.RowKit Lmb
variable [Zone]
def RetNum (n:Nat) (w:World) (e:Ending) (w':World):Prop:=∃ v,e=.returned v∧NatAt w' v n∧Below w.heap.size w w'
set_option maxRecDepth 20000 in
set_option maxHeartbeats 1000000 in
theorem gcd_calls (a b:Value) (m n:Nat) (w:World) (ha:NatAt w a m) (hb:NatAt w b n) (hm:(m:Int)<pw 256) (hn:(n:Int)<pw 256) :
    Calls Tryz.prog 18 #[a,b] w (RetNum (Nat.gcd m n) w):=by
  go_enter Tryz.func18,Tryz.ntmps18
  go_wp2_with fail
  refine (clone_nat ha hm).mono ?_;rintro e w1 ⟨va,rfl,hva,hb1⟩
  go_wp2_with fail
  refine (clone_nat (hb.below hb1) hn).mono ?_;rintro e w2 ⟨vb,rfl,hvb,hb2⟩;have hB:=Below.next hb1 hb2;have HA:=Lib.hid (hva.below hb2);clear hb1 hb2 hva ha hb
  go_wp2
  go_loopg [0,1] n (fun k x y wr=>∃ p:Nat,NatAt wr x p∧NatAt wr y k∧(p:Int)<pw 256∧(k:Int)<pw 256∧Nat.gcd p k=Nat.gcd m n∧Below w.heap.size w wr)
  case atStart=>exact⟨m,HA.out,hvb,hm,hn,rfl,hB⟩
  case round=>
    obtain⟨p,hx,hy,hp,hk,hg,hbel⟩:=hrel;have HG:=Lib.hid hg;clear hg hvb HA hB;obtain⟨ad,l,c,rfl,hl⟩:=hy.len;cases gk with
    | zero=>
      have hl0:l=0:=hl.2 rfl;subst hl0;have hd:decide ((0:Int)<((0:Nat):Int))=false:=by decide
      clear hl hy
      go_wp2
      go_ret
      exact⟨_,rfl,by rw[← HG.out,Nat.gcd_zero_right];exact hx,hbel⟩
    | succ q=>
      have hl0:0<l:=by omega
      clear hl
      go_wp2_with fail
      refine (divmod_nat hx hy hp (by omega)).mono ?_;rintro e w3 ⟨dv,r,rfl,_,hr,hb3⟩;have hb':=Below.next hbel hb3;have hlt:=Nat.mod_lt p (show 0<q+1 by omega);have HY:=Lib.hid (hy.below hb3);clear hx hy hbel hb3
      go_wp2
      go_roundg (p % (q+1))
      case measure=>omega
      case rel=>exact⟨q+1,HY.out,hr,hk,by omega,by rw[← HG.out,Nat.gcd_comm,← Nat.gcd_rec,Nat.gcd_comm],hb'⟩
end Go.Proofs.YtabgkfjfmjdfiaaGreatDoor.Zn
