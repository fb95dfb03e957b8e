import Derived.Test.YtfeiiadligkamaaGreatInsM

/- The reference of paths, by the evaluator: Valid, TraceOf, Identity, less, Compare. -/
set_option linter.unusedSimpArgs false
set_option linter.unusedVariables false
namespace Go.Proofs.YtfeiiadligkamaaGreat
open Go.Sort Eng
end Go.Proofs.YtfeiiadligkamaaGreat
