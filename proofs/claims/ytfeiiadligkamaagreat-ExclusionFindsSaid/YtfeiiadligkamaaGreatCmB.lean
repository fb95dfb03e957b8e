import Derived.Test.YtfeiiadligkamaaGreatPk3
import Derived.Test.YtfeiiadligkamaaGreatCmA
import Derived.Test.YtfeiiadligkamaaGreatParSrt0
set_option linter.unusedSimpArgs false
set_option linter.unusedVariables false
namespace Go.Proofs.YtfeiiadligkamaaGreat
open Go.Sort Eng
theorem par_den (p:Par):(parAg p).den=Xv false [.u32,.u32] p.keys:=rfl
theorem par_ok (p:Par) (R:Nat→Prop) (w:World):(parAg p).ok R w:=fun j hj=>by
 rcases (show j=0∨j=1 by omega) with rfl|rfl<;>trivial
structure KSt where
 out:List Par
 a:Option Addr
 cap:Nat
end Go.Proofs.YtfeiiadligkamaaGreat
