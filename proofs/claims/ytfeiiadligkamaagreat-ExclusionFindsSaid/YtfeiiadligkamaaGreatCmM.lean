import Derived.Test.YtfeiiadligkamaaGreatCmA
set_option linter.unusedSimpArgs false
set_option linter.unusedVariables false
namespace Go.Proofs.YtfeiiadligkamaaGreat
open Eng
def Res.idn (r:Res):Idn:=⟨r.vantage,r.run,r.number⟩
structure GrpOk (ys:List Res) (G:List (Par×List Idn)):Prop where
 nodup:(G.map (·.1)).Nodup
 ne:∀ g∈G,g.2≠[]
 mem:∀ p d,(∃ l,(p,l)∈G∧d∈l) ↔ ∃ r∈ys,showR r=some p∧r.idn=d
 len:G.length≤ys.length
 lens:∀ g∈G,g.2.length≤ys.length
end Go.Proofs.YtfeiiadligkamaaGreat
