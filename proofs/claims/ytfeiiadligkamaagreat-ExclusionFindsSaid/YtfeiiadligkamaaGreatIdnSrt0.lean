import Derived.Test.YtfeiiadligkamaaGreatIdnMath
import Derived.Test.YtfeiiadligkamaaGreatPk2
import Derived.Sort.AssemblyPlain
set_option linter.unusedSimpArgs false
set_option linter.unusedVariables false
namespace Go.Proofs.YtfeiiadligkamaaGreat
open Go.Sort Eng
def QX (d:Array Idn):Nat→Nat→SV:=fun i j=>(Idn.cs d[i]!).getD j default
def Q6 (ad:Option Addr) (N cap:Nat) (d:Array Idn):Own:=.row ad 27 N cap 3 (QX d)
def idnAg (x:Idn):SV:=.agg 3 fun j=>(Idn.cs x).getD j default
theorem Qu (d:Array Idn) (i j:Nat) (h:j<3):XA (QX d i j)=true:=by
 rcases (show j=0∨j=1∨j=2 by omega) with rfl|rfl|rfl<;>rfl
def idnCmp (g:FuncId) (lt:Idn→Idn→Bool):Prop:=∀ x y,∃ c:Int,lt x y=decide (c<0)∧∀ F,Contract F Tryz.prog g [idnAg x,idnAg y] (fun r=>r=.i .i64 c)
end Go.Proofs.YtfeiiadligkamaaGreat
