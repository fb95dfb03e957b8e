import Derived.Test.YtfeiiadligkamaaGreatParMath
import Derived.Test.YtfeiiadligkamaaGreatPk2
import Derived.Sort.AssemblyPlain
set_option linter.unusedSimpArgs false
set_option linter.unusedVariables false
namespace Go.Proofs.YtfeiiadligkamaaGreat
open Go.Sort Eng
def parRd (d:Array Par):Nat→Nat→SV:=fun i j=>(Par.cs d[i]!).getD j default
def parAg (x:Par):SV:=.agg 2 fun j=>(Par.cs x).getD j default
theorem Qv (d:Array Par) (i j:Nat) (h:j<2):XA (parRd d i j)=true:=by
 rcases (show j=0∨j=1 by omega) with rfl|rfl<;>rfl
end Go.Proofs.YtfeiiadligkamaaGreat
