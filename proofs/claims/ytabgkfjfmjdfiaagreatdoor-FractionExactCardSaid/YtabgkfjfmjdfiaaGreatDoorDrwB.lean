import Derived.Test.YtabgkfjfmjdfiaaGreatDoorCodesR
import Derived.WalkKit
set_option linter.unusedSimpArgs false
set_option linter.unusedVariables false
namespace Go.Proofs.YtabgkfjfmjdfiaaGreatDoor
open Go.RowKit Eng
namespace Eng
section
variable {P:Program} {F:Frm} {ds:List (Option Tmp)} {rest:List Oper} {dst:Option Tmp} {n:Nat} {env:List (Nat×SV)} {own:List Own} {k:St→Prop}
structure MakesB (P:Program) (f:FuncId) (args:List SV) (ty:TypeId) (post:List SV→Prop):Prop where
  enters:∀ vs w,(callFunc f vs).run P w=.ok (.enter f vs) w
  calls:∀ (R:Nat→Prop) (w:World),(∀ s∈args,s.ok R w)→(∀ b,R b→b<w.heap.size) →
    Calls P f (args.map SV.den).toArray w fun e w'=>e=.returned (.pointer (some ⟨w.heap.size,0,none⟩))∧∃ cs,post cs∧Evo (fun _=>False) w w'∧w'.heap[w.heap.size]? = some (.cells (cs.map SV.den).toArray ty (0,0))∧∀ c∈cs,c.den.oneCell'=true∧c.ok R w'
theorem Sat.join {st:St} {K:Exit→St→Prop} {c y:Code} {ι:Type} (sh:ι→St) (J:ι→Prop) (h:Sat P F c st (Qg (fun st'=>∃ z,J z∧Le st' (sh z)) K)) (h2:∀ z,J z→Sat P F y (sh z) K) :
    Sat P F c st (Qg (fun st'=>Sat P F y st' K) K):=
  h.mono fun e st' hk=>by
    cases e with
    | normal=>obtain⟨z,hz,hl⟩:=hk;exact (h2 z hz).le hl
    | _=>exact hk
theorem Zq {st:St} {K:Exit→St→Prop} {c y:Code} {ι:Type} (sh:ι→St) (J:ι→Prop) (h:(∀ z,J z→Sat P F y (sh z) K)→Sat P F c st (Qg (fun st'=>Sat P F y st' K) K)) (h2:∀ z,J z→Sat P F y (sh z) K) :
    Sat P F c st (Qg (fun st'=>Sat P F y st' K) K):=h h2
end
end Eng
end Go.Proofs.YtabgkfjfmjdfiaaGreatDoor
