import Derived.Test.YtabgkfjfmjdfiaaGreatDoorPk2
import Derived.Test.YtabgkfjfmjdfiaaGreatDoorMem
import Derived.OpenShut
set_option linter.unusedSimpArgs false
set_option linter.unusedVariables false
namespace Go.Proofs.YtabgkfjfmjdfiaaGreatDoor
open Go.RowKit Eng
def slB (a:Option Addr) (cap:Nat) (z:List Int):SV:=.sl a z.length cap 1 fun i _=>.i .u8 (z.getD i 0)
end Go.Proofs.YtabgkfjfmjdfiaaGreatDoor
