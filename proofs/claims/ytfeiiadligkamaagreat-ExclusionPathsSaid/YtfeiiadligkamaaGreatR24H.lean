import Derived.Test.YtfeiiadligkamaaGreatR24G

/- The reference's results of a trace, by the evaluator: Of. -/
set_option linter.unusedSimpArgs false
set_option linter.unusedVariables false
namespace Go.Proofs.YtfeiiadligkamaaGreat
open Go.Sort Eng
theorem tre_eql (a b c d e f : Int) : aggEq Tryz.prog 68 3 (fun j => [SV.i .i64 a, SV.i .u32 b, SV.i .i64 c].getD j default) 3 (fun j => [SV.i .i64 d, SV.i .u32 e, SV.i .i64 f].getD j default) = some (decide ((⟨a, b, c⟩ : Tre) = ⟨d, e, f⟩)) := tre_eq ⟨a, b, c⟩ ⟨d, e, f⟩
def isTre (t : Tre) (r : Res) : Bool := decide (r.tre = t)
end Go.Proofs.YtfeiiadligkamaaGreat
