import Derived.Test.YtabgkfjfmjdfiaaGreatDoorProg
import Derived.Test.YtabgkfjfmjdfiaaGreatDoorPk1
import Derived.Test.YtabgkfjfmjdfiaaGreatDoorPk2
import Derived.WalkKit
import Derived.Lib.Hide
import Derived.Deep.LoopGhost
import Derived.Outline
set_option linter.unusedSectionVars false
set_option linter.unusedSimpArgs false
set_option linter.unusedVariables false
namespace Go.Proofs.YtabgkfjfmjdfiaaGreatDoor.Zn
open Go.RowKit Lmb
variable [Zone]
theorem trim_take_zero {xs:List Int} {k:Nat} (hk:k+1≤xs.length) (h0:xs.getD k 0=0):trim (xs.take (k+1))=trim (xs.take k):=by
  rw[List.take_succ_eq_append_getElem (by omega)]
  have:xs[k]=0:=by simpa [List.getD,show k<xs.length by omega] using h0
  rw[this,trim_snoc_zero]
theorem trim_take_nz {xs:List Int} {k:Nat} (hk:k+1≤xs.length) (h0:xs.getD k 0≠0):trim (xs.take (k+1))=xs.take (k+1):=by
  rw[List.take_succ_eq_append_getElem (by omega)]
  have:xs[k]≠0:=by simpa [List.getD,show k<xs.length by omega] using h0
  rw[trim_snoc _ this]
set_option maxRecDepth 20000 in
set_option maxHeartbeats 400000 in
theorem trim_calls (ad:Option Addr) (cap:Nat) (xs:List Int) (w:World) (h:Rd .i64 w (.slice ad xs.length cap) xs) :
    Calls Tryz.prog 73 #[.slice ad xs.length cap] w fun e w'=>e=.returned (.slice ad (trim xs).length cap)∧w=w':=by
  obtain⟨ad',cap',e,h1,h2,h3⟩:=h;simp only[Value.slice.injEq] at e;obtain⟨rfl,_,rfl⟩:=e;unfold maxLen at h2
  go_enter Tryz.func73,Tryz.ntmps73
  go_wp2
  go_loopg [0] xs.length (fun m v wr=>w=wr∧v=.slice ad m cap∧m≤xs.length∧trim (xs.take m)=trim xs)
  case atStart=>exact⟨rfl,rfl,Nat.le_refl _,by rw[List.take_of_length_le (Nat.le_refl _)]⟩
  case round=>
    obtain⟨rfl,rfl,hm,ht⟩:=hrel;have HT:=Lib.hid ht;clear ht;cases gk with
    | zero=>
      have h0:decide ((0:Nat)<0)=false:=rfl
      go_wp2
      go_ret
      refine⟨?_,rfl⟩;rw[← HT.out];rfl
    | succ k=>
      rcases h3 with h3|⟨b,off,rfl,hlt,hc⟩
      · omega
      · have hk:=hc k (by omega)
        by_cases hz:xs.getD k 0=0
        · rw[hz] at hk
          have ht:=trim_take_zero (xs:=xs) hm hz;have HT2:=Lib.hid ht;clear ht hz hc
          go_wp2
          go_roundg k
          case measure=>omega
          case rel=>exact⟨rfl,by go_num,by omega,HT2.out.symm.trans HT.out⟩
        · have hzb:(xs.getD k 0 == 0)=false:=by simpa using hz
          have ht:=trim_take_nz (xs:=xs) hm hz;have HT2:=Lib.hid ht;clear ht hc hz;generalize xs.getD k 0=x at hk hzb
          go_wp2
          go_ret
          refine⟨?_,rfl⟩;rw[← HT.out,HT2.out,List.length_take,Nat.min_eq_left hm];rfl
set_option maxRecDepth 20000 in
set_option maxHeartbeats 400000 in
theorem at_calls (v:Value) (i:Nat) (xs:List Int) (w:World) (h:Rd .i64 w v xs) :
    Calls Tryz.prog 67 #[v,.int .i64 (i:Int)] w fun e w'=>e=.returned (.int .i64 (xs.getD i 0))∧w=w':=by
  obtain⟨ad,cap,rfl,h1,h2,h3⟩:=h;unfold maxLen at h2;by_cases hi:i<xs.length
  · rcases h3 with h3|⟨b,off,rfl,hlt,hc⟩
    · omega
    · have hk:=hc i hi
      clear hc;generalize xs.getD i 0=x at hk
      go_enter Tryz.func67,Tryz.ntmps67
      go_wp2
      go_ret
      exact⟨rfl,rfl⟩
  · have hx:xs.getD i 0=0:=by simp [List.getD,show xs.length≤i by omega]
    have HX:=Lib.hid hx;clear hx h3
    go_enter Tryz.func67,Tryz.ntmps67
    go_wp2
    go_ret
    exact⟨by rw[HX.out];rfl,rfl⟩
set_option maxRecDepth 20000 in
set_option maxHeartbeats 400000 in
theorem result_calls (ad:Option Addr) (cap:Nat) (xs:List Int) (w:World) (h:Rd .i64 w (.slice ad xs.length cap) xs) (hlen:(trim xs).length≤256) :
    Calls Tryz.prog 68 #[.slice ad xs.length cap] w fun e w'=>e=.returned (.tuple #[.slice ad (trim xs).length cap,.int .i64 0])∧w=w':=by
  have hd:decide ((256:Int)<((trim xs).length:Int))=false:=by simp;omega
  go_enter Tryz.func68,Tryz.ntmps68
  go_wp2_with fail
  refine (trim_calls ad cap xs _ h).mono ?_;rintro e w' ⟨rfl,rfl⟩
  go_wp2
  go_ret2
  exact⟨rfl,rfl⟩
set_option maxRecDepth 20000 in
set_option maxHeartbeats 400000 in
theorem result_long (ad:Option Addr) (cap:Nat) (xs:List Int) (w:World) (h:Rd .i64 w (.slice ad xs.length cap) xs) (hlen:256<(trim xs).length) :
    Calls Tryz.prog 68 #[.slice ad xs.length cap] w fun e w'=>e=.returned (.tuple #[.slice none 0 0,.int .i64 5])∧w=w':=by
  have hd:(256:Int)<((trim xs).length:Int):=by omega
  go_enter Tryz.func68,Tryz.ntmps68
  go_wp2_with fail
  refine (trim_calls ad cap xs _ h).mono ?_;rintro e w' ⟨rfl,rfl⟩
  go_wp2
  go_ret2
  exact⟨rfl,rfl⟩
/-! the same,of a value that reads as a list -/
theorem Rd.trim {w:World} {ad:Option Addr} {cap:Nat} {xs:List Int} (h:Rd .i64 w (.slice ad xs.length cap) xs):Rd .i64 w (.slice ad (trim xs).length cap) (trim xs):=by
  have:=h.take (Lmb.trim xs).length (trim_len xs)
  rwa [trim_take] at this
def RetRd (k:IntKind) (xs:List Int) (w:World) (e:Ending) (w':World):Prop:=∃ v,e=.returned v∧Rd k w v xs∧w=w'
def RetRdOk (k:IntKind) (xs:List Int) (w:World) (e:Ending) (w':World):Prop:=∃ v,e=.returned (.tuple #[v,.int .i64 0])∧Rd k w v xs∧w=w'
theorem trim_rd {v:Value} {xs:List Int} {w:World} (h:Rd .i64 w v xs):Calls Tryz.prog 73 #[v] w (RetRd .i64 (trim xs) w):=by
  obtain⟨ad,cap,rfl,h1,h2,h3⟩:=h;have h:Rd .i64 w (.slice ad xs.length cap) xs:=⟨ad,cap,rfl,h1,h2,h3⟩;exact (trim_calls ad cap xs w h).mono fun e w' ⟨he,hw⟩=>⟨_,he,h.trim,hw⟩
theorem result_rd {v:Value} {xs:List Int} {w:World} (h:Rd .i64 w v xs) (hlen:(trim xs).length≤256):Calls Tryz.prog 68 #[v] w (RetRdOk .i64 (trim xs) w):=by
  obtain⟨ad,cap,rfl,h1,h2,h3⟩:=h;have h:Rd .i64 w (.slice ad xs.length cap) xs:=⟨ad,cap,rfl,h1,h2,h3⟩;exact (result_calls ad cap xs w h hlen).mono fun e w' ⟨he,hw⟩=>⟨_,he,h.trim,hw⟩
theorem result_rd_long {v:Value} {xs:List Int} {w:World} (h:Rd .i64 w v xs) (hlen:256<(trim xs).length) :
    Calls Tryz.prog 68 #[v] w fun e w'=>e=.returned (.tuple #[.slice none 0 0,.int .i64 5])∧w=w':=by
  obtain⟨ad,cap,rfl,h1,h2,h3⟩:=h;exact result_long ad cap xs w ⟨ad,cap,rfl,h1,h2,h3⟩ hlen
end Go.Proofs.YtabgkfjfmjdfiaaGreatDoor.Zn
