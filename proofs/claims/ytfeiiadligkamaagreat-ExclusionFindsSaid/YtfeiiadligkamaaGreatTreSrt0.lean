import Derived.Test.YtfeiiadligkamaaGreatTreMath
import Derived.Test.YtfeiiadligkamaaGreatPk2
import Derived.Sort.AssemblyPlain
set_option linter.unusedSimpArgs false
set_option linter.unusedVariables false
namespace Go.Proofs.YtfeiiadligkamaaGreat
open Go.Sort Eng
def Xw (d:Array Tre):Nat→Nat→SV:=fun i j=>(Tre.cs d[i]!).getD j default
def Ql (ad:Option Addr) (N cap:Nat) (d:Array Tre):Own:=.row ad 68 N cap 3 (Xw d)
def treAg (x:Tre):SV:=.agg 3 fun j=>(Tre.cs x).getD j default
theorem Z3 (d:Array Tre) (i j:Nat) (h:j<3):XA (Xw d i j)=true:=by
 rcases (show j=0∨j=1∨j=2 by omega) with rfl|rfl|rfl<;>rfl
def treCmp (g:FuncId) (lt:Tre→Tre→Bool):Prop:=∀ x y,∃ c:Int,lt x y=decide (c<0)∧∀ F,Contract F Tryz.prog g [treAg x,treAg y] (fun r=>r=.i .i64 c)
end Go.Proofs.YtfeiiadligkamaaGreat
