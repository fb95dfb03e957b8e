import Derived.Test.YtepbdjpcoleegaaGreatPcmE

/- Where results contradict, by the evaluator: episode.clash. -/
set_option linter.unusedSimpArgs false
set_option linter.unusedVariables false
namespace Go.Proofs.YtepbdjpcoleegaaGreat
open Go.Sort Eng
end Go.Proofs.YtepbdjpcoleegaaGreat
