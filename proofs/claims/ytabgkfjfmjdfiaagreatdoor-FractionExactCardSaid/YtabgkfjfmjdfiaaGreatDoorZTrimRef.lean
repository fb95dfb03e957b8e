import Derived.Test.YtabgkfjfmjdfiaaGreatDoorZTrim
set_option linter.unusedSectionVars false
set_option linter.unusedSimpArgs false
set_option linter.unusedVariables false
namespace Go.Proofs.YtabgkfjfmjdfiaaGreatDoor.Zn
open Go.RowKit Lmb
variable [Zone]
set_option maxRecDepth 20000 in
set_option maxHeartbeats 400000 in
theorem ref_trim_calls (ad:Option Addr) (cap:Nat) (xs:List Int) (w:World) (h:Rd .i64 w (.slice ad xs.length cap) xs) :
    Calls Tryz.prog 66 #[.slice ad xs.length cap] w fun e w'=>e=.returned (.slice ad (trim xs).length cap)∧w=w':=by
  obtain⟨ad',cap',e,h1,h2,h3⟩:=h;simp only[Value.slice.injEq] at e;obtain⟨rfl,_,rfl⟩:=e;unfold maxLen at h2
  go_enter Tryz.func66,Tryz.ntmps66
  go_wp2
  go_loopg [0] xs.length (fun m v wr=>w=wr∧v=.slice ad m cap∧m≤xs.length∧trim (xs.take m)=trim xs)
  case atStart=>exact⟨rfl,rfl,Nat.le_refl _,by rw[List.take_of_length_le (Nat.le_refl _)]⟩
  case round=>
    obtain⟨rfl,rfl,hm,ht⟩:=hrel;have HT:=Lib.hid ht;clear ht;cases gk with
    | zero=>
      have h0:decide ((0:Nat)<0)=false:=rfl
      go_wp2
      go_ret
      refine⟨?_,rfl⟩;rw[← HT.out];rfl
    | succ k=>
      rcases h3 with h3|⟨b,off,rfl,hlt,hc⟩
      · omega
      · have hk:=hc k (by omega)
        by_cases hz:xs.getD k 0=0
        · rw[hz] at hk
          have ht:=trim_take_zero (xs:=xs) hm hz;have HT2:=Lib.hid ht;clear ht hz hc
          go_wp2
          go_roundg k
          case measure=>omega
          case rel=>exact⟨rfl,by go_num,by omega,HT2.out.symm.trans HT.out⟩
        · have hzb:(xs.getD k 0 == 0)=false:=by simpa using hz
          have ht:=trim_take_nz (xs:=xs) hm hz;have HT2:=Lib.hid ht;clear ht hc hz;generalize xs.getD k 0=x at hk hzb
          go_wp2
          go_ret
          refine⟨?_,rfl⟩;rw[← HT.out,HT2.out,List.length_take,Nat.min_eq_left hm];rfl
theorem ref_trim_rd {v:Value} {xs:List Int} {w:World} (h:Rd .i64 w v xs):Calls Tryz.prog 66 #[v] w (RetRd .i64 (trim xs) w):=by
  obtain⟨ad,cap,rfl,h1,h2,h3⟩:=h;have h:Rd .i64 w (.slice ad xs.length cap) xs:=⟨ad,cap,rfl,h1,h2,h3⟩;exact (ref_trim_calls ad cap xs w h).mono fun e w' ⟨he,hw⟩=>⟨_,he,h.trim,hw⟩
end Go.Proofs.YtabgkfjfmjdfiaaGreatDoor.Zn
