import Derived.Test.YtfeiiadligkamaaGreatResMath
import Derived.Test.YtfeiiadligkamaaGreatPk2
import Derived.Sort.AssemblyPlain
set_option linter.unusedSimpArgs false
set_option linter.unusedVariables false
namespace Go.Proofs.YtfeiiadligkamaaGreat
open Go.Sort Eng
def Qk (d:Array Res):Nat→Nat→SV:=fun i j=>(Res.cs d[i]!).getD j default
def Qb (ad:Option Addr) (N cap:Nat) (d:Array Res):Own:=.row ad 62 N cap 17 (Qk d)
def Q0 (x:Res):SV:=.agg 17 fun j=>(Res.cs x).getD j default
theorem Qm (d:Array Res) (i j:Nat) (h:j<17):XA (Qk d i j)=true:=by
 rcases (show j=0∨j=1∨j=2∨j=3∨j=4∨j=5∨j=6∨j=7∨j=8∨j=9∨j=10∨j=11∨j=12∨j=13∨j=14∨j=15∨j=16 by omega) with rfl|rfl|rfl|rfl|rfl|rfl|rfl|rfl|rfl|rfl|rfl|rfl|rfl|rfl|rfl|rfl|rfl<;>rfl
def resCmp (g:FuncId) (lt:Res→Res→Bool):Prop:=∀ x y,∃ c:Int,lt x y=decide (c<0)∧∀ F,Contract F Tryz.prog g [Q0 x,Q0 y] (fun r=>r=.i .i64 c)
end Go.Proofs.YtfeiiadligkamaaGreat
