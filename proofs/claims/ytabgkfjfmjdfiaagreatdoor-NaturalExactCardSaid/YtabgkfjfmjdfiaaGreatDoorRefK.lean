import Derived.Test.YtabgkfjfmjdfiaaGreatDoorRefKa
import Derived.Test.YtabgkfjfmjdfiaaGreatDoorRefH

/- The reference of fractions, by the evaluator: magnitude, From. -/
set_option linter.unusedSimpArgs false
set_option linter.unusedVariables false
namespace Go.Proofs.YtabgkfjfmjdfiaaGreatDoor
open Eng Lmb Go.RowKit
end Go.Proofs.YtabgkfjfmjdfiaaGreatDoor
