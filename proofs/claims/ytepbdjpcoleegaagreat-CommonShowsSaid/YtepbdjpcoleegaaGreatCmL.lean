import Derived.Test.YtepbdjpcoleegaaGreatCmF

/- What pairs hold (no program in sight). -/
set_option linter.unusedSimpArgs false
set_option linter.unusedVariables false
namespace Go.Proofs.YtepbdjpcoleegaaGreat
open Eng
def Evd.cut (e : Evd) (n : Nat) : Evd := ⟨e.kind, e.a, e.b, e.ids.take n, e.ad, e.cap⟩
end Go.Proofs.YtepbdjpcoleegaaGreat
