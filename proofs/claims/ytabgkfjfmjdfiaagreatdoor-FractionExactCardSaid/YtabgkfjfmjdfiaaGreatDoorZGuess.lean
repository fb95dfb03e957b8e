import Derived.Test.YtabgkfjfmjdfiaaGreatDoorZSub
import Derived.Test.YtabgkfjfmjdfiaaGreatDoorPk2
set_option linter.unusedSectionVars false
set_option linter.unusedSimpArgs false
set_option linter.unusedVariables false
namespace Go.Proofs.YtabgkfjfmjdfiaaGreatDoor.Zn
open Go.RowKit Lmb
variable [Zone]
theorem GuessOk.unique {high next third lead second g g':Int} (h:GuessOk high next third lead second g) (k:GuessOk high next third lead second g'):g=g':=by
  have h1:=h.most g' k.g0 k.g1 k.le;have h2:=k.most g h.g0 h.g1 h.le;omega
open Classical in
noncomputable def guessI (high next third lead second:Int):Int:=epsilon (fun g=>GuessOk high next third lead second g)
theorem guessI_eq {high next third lead second g:Int} (h:GuessOk high next third lead second g):guessI high next third lead second=g:=by
  have:GuessOk high next third lead second (guessI high next third lead second):=Classical.epsilon_spec (p:=fun g=>GuessOk high next third lead second g) ⟨g,h⟩
  exact Go.Proofs.YtabgkfjfmjdfiaaGreatDoor.Zn.GuessOk.unique this h
def RetGuess (high next third lead second:Int) (w:World) (e:Ending) (w':World):Prop:=
  ∃ g,e=.returned (.int .i64 g)∧GuessOk high next third lead second g∧∃ n,w'=w.drewN n
set_option maxRecDepth 20000 in
set_option maxHeartbeats 1000000 in
theorem guess_calls (high next third lead second:Int) (w:World) (h0:0≤high) (h1:high≤lead) (n0:0≤next) (n1:next<1073741824) (t0:0≤third) (t1:third<1073741824)
    (l0:1≤lead) (l1:lead<1073741824) (s0:0≤second) (s1:second<1073741824) :
    Calls Tryz.prog 78 #[.int .i64 high,.int .i64 next,.int .i64 third,.int .i64 lead,.int .i64 second] w (RetGuess high next third lead second w):=by
  have hst:=GuessInv.start (third:=third) h0 n0 t1 l0 s0;have hq0:=hst.q0;have hr0:=hst.r0;have hr1:(high * 1073741824+next) % lead<lead:=Int.emod_lt_of_pos _ (by omega);have hq1:(high * 1073741824+next) / lead≤high * 1073741824+next:=Int.ediv_le_self _ (by omega)
  have HST:=Lib.hid hst;have hor:=or_limb high next h0 (by omega) n0 n1
  have hlz:(lead == 0)=false:=by simp;omega
  obtain⟨N,hN⟩:∃ N:Nat,(N:Int)=1073741824:=⟨1073741824,rfl⟩;have hN1:1073741824≤(N:Int):=by omega
  clear hst hN
  go_enter Tryz.func78,Tryz.ntmps78
  go_wp2
  clear hor;obtain⟨u,hu⟩:∃ u,high * 1073741824+next=u:=⟨_,rfl⟩
  have hu0:0≤u:=by omega
  have hu1:u≤1152921504606846975:=by omega
  rw[hu] at hq0 hr0 hr1 hq1;simp only[hu];have HU:=Lib.hid hu;clear hu
  go_region
  go_wp2
  go_loopg [12,13] N (fun m a b wr=>∃ q r:Int,a=.int .i64 q∧b=.int .i64 r∧q≤u∧r<2147483648∧1073741824≤r+(m:Int)∧GuessInv high next third lead second q r∧∃ d,wr=w.drewN d)
  case atStart=>exact⟨_,_,rfl,rfl,hq1,by omega,by omega,by rw[← HU.out];exact HST.out,1,rfl⟩
  case round=>
    obtain⟨q,r,rfl,rfl,hqu,hr2,hm,hgi,d,rfl⟩:=hrel;have hq:=hgi.q0;have hr:=hgi.r0;have HG:=Lib.hid hgi;clear hgi hq0 hr0 hr1 hq1;by_cases hrB:r<1073741824
    · have hor:=or_limb r third hr (by omega) t0 t1
      cases gk with
      | zero=>exfalso;omega
      | succ m=>
        by_cases hqB:1073741824≤q
        · have HS:=Lib.hid (HG.out.step hrB t0 (.inl hqB) l0)
          go_wp2
          go_roundg m
          case measure=>omega
          case rel=>exact⟨_,_,rfl,rfl,by omega,by omega,by omega,HS.out,d,rfl⟩
        · have hqs:=limb_prod (x:=q) (y:=second) ⟨hq,by omega⟩ ⟨s0,s1⟩
          have hqB':q<1073741824:=by omega
          by_cases hc:r * 1073741824+third<q * second
          · have HS:=Lib.hid (HG.out.step hrB t0 (.inr hc) l0)
            go_wp2
            go_roundg m
            case measure=>omega
            case rel=>exact⟨_,_,rfl,rfl,by omega,by omega,by omega,HS.out,d,rfl⟩
          · have HD:=Lib.hid (HG.out.done h1 n1 t0 s0 s1 l0 (fun _=>⟨hqB',by omega⟩))
            go_wp2
            go_ret
            exact⟨q,rfl,HD.out,d,rfl⟩
    · have HD:=Lib.hid (HG.out.done h1 n1 t0 s0 s1 l0 (fun h=>absurd h hrB))
      go_wp2
      go_ret
      exact⟨q,rfl,HD.out,d,rfl⟩
end Go.Proofs.YtabgkfjfmjdfiaaGreatDoor.Zn
