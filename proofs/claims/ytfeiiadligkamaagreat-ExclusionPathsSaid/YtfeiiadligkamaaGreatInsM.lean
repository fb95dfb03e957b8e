import Derived.Test.YtfeiiadligkamaaGreatPoE
import Derived.Test.YtfeiiadligkamaaGreatTreMath

/- Inserting into a row by append, copy and store (readers alone); the reference's order of results (no program in sight). -/
set_option linter.unusedSimpArgs false
set_option linter.unusedVariables false
namespace Go.Proofs.YtfeiiadligkamaaGreat
open Eng
end Go.Proofs.YtfeiiadligkamaaGreat
