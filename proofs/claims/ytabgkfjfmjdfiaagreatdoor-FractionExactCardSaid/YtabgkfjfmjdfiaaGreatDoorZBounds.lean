import Derived.Test.YtabgkfjfmjdfiaaGreatDoorZSub
set_option linter.unusedSectionVars false
set_option linter.unusedSimpArgs false
set_option linter.unusedVariables false
namespace Go.Proofs.YtabgkfjfmjdfiaaGreatDoor.Zn
open Go.RowKit Lmb
variable [Zone]
theorem NatAt.len {w:World} {v:Value} {n:Nat} (h:NatAt w v n):∃ ad k c,v=.slice ad k c∧(k=0 ↔ n=0):=by
  obtain⟨xs,⟨ad,cap,rfl,_⟩,hd⟩:=h;exact⟨ad,xs.length,cap,rfl,hd.len_zero⟩
end Go.Proofs.YtabgkfjfmjdfiaaGreatDoor.Zn
