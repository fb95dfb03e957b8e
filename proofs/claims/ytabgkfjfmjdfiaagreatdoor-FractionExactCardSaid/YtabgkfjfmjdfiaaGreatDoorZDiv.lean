import Derived.Test.YtabgkfjfmjdfiaaGreatDoorZDivB
import Derived.Test.YtabgkfjfmjdfiaaGreatDoorZBounds
set_option linter.unusedSectionVars false
set_option linter.unusedSimpArgs false
set_option linter.unusedVariables false
namespace Go.Proofs.YtabgkfjfmjdfiaaGreatDoor.Zn
open Go.RowKit Lmb
variable [Zone]
theorem divmod_nat {a b:Value} {m n:Nat} {w:World} (ha:NatAt w a m) (hb:NatAt w b n) (hm:(m:Int)<pw 256) (hn:0<n) :
    Calls Tryz.prog 15 #[a,b] w (RetDiv m n w):=by
  rcases Nat.lt_or_ge m n with h|h
  · exact divmod_less a b m n w ha hb hm hn h
  · obtain⟨xs,r1,d1⟩:=ha
    obtain⟨ys,r2,d2⟩:=hb;rcases Nat.lt_or_ge ys.length 2 with hl|hl
    · match ys,hl,r2,d2 with
      | [],_,_,d2=>have:=d2.len_zero.1 rfl;omega
      | [y],_,r2,d2=>exact divmod_one a b m n y w ⟨xs,r1,d1⟩ r2 d2 hm h
    · exact divmod_many a b xs ys m n w r1 d1 r2 d2 hm h hl
end Go.Proofs.YtabgkfjfmjdfiaaGreatDoor.Zn
