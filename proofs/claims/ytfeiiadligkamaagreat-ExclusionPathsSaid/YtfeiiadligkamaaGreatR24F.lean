import Derived.Test.YtfeiiadligkamaaGreatR24E

/- The reference's order of results, by the evaluator: routescoperef24.Order. -/
set_option linter.unusedSimpArgs false
set_option linter.unusedVariables false
namespace Go.Proofs.YtfeiiadligkamaaGreat
open Go.Sort Eng
end Go.Proofs.YtfeiiadligkamaaGreat
