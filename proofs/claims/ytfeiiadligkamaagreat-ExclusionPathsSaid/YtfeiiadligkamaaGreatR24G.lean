import Derived.Test.YtfeiiadligkamaaGreatR24F
import Derived.Test.YtfeiiadligkamaaGreatTrsE

/- The reference's traces and results of a trace, by the evaluator: CompareTrace, Traces (any traces), Of. -/
set_option linter.unusedSimpArgs false
set_option linter.unusedVariables false
namespace Go.Proofs.YtfeiiadligkamaaGreat
open Go.Sort Eng
end Go.Proofs.YtfeiiadligkamaaGreat
