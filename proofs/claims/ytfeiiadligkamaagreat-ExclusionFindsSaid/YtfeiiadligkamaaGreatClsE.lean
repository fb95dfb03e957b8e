import Derived.Test.YtfeiiadligkamaaGreatPcmE
set_option linter.unusedSimpArgs false
set_option linter.unusedVariables false
namespace Go.Proofs.YtfeiiadligkamaaGreat
open Go.Sort Eng
def ClashAt (g:Nat→Res) (n k:Nat):Prop:=k≤n∧Seg g 0 k∧(k<n→Bad g 0 k)
end Go.Proofs.YtfeiiadligkamaaGreat
