import Derived.Test.YtabgkfjfmjdfiaaGreatDoorPk4
import Derived.Test.YtabgkfjfmjdfiaaGreatDoorDrwB

/- A variable of the call's own is only read from now on. -/
set_option linter.unusedSimpArgs false
set_option linter.unusedVariables false
namespace Go.Proofs.YtabgkfjfmjdfiaaGreatDoor
namespace Eng
end Eng
end Go.Proofs.YtabgkfjfmjdfiaaGreatDoor
