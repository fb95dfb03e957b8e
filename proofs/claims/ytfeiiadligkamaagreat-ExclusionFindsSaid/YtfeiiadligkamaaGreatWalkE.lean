import Derived.Test.YtfeiiadligkamaaGreatPk2
import Derived.Test.YtfeiiadligkamaaGreatMem
import Derived.OpenShut
set_option linter.unusedSimpArgs false
set_option linter.unusedVariables false
namespace Go.Proofs.YtfeiiadligkamaaGreat
open Go.RowKit Eng
def slB (a:Option Addr) (cap:Nat) (z:List Int):SV:=.sl a z.length cap 1 fun i _=>.i .u8 (z.getD i 0)
theorem walk_of {P:Program} {f:FuncId} {args:List SV} (h:Contract Frm.nil P f args (fun r=>r=.b true)) {w:World} (ha:∀ s∈args,s.ok (fun b=>b<w.heap.size) w) :
  Calls P f (args.map SV.den).toArray w fun e w'=>e=.returned (.bool true)∧Below w.heap.size w w':=
 (h.calls _ w trivial ha (fun b hb=>⟨hb,fun h=>h⟩)).mono fun e w' ⟨r,he,hr,_,hevo,_⟩=>by
  subst hr;exact⟨he,⟨hevo.os,hevo.tape,hevo.output,hevo.size,fun b hb=>hevo.block b hb (fun h=>h)⟩⟩
end Go.Proofs.YtfeiiadligkamaaGreat
