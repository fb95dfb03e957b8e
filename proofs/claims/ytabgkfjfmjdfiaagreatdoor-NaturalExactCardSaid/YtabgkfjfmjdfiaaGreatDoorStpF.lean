import Derived.Test.YtabgkfjfmjdfiaaGreatDoorNtE
import Derived.Test.YtabgkfjfmjdfiaaGreatDoorPk4

/- Fractions, by the evaluator: package fraction's Reduce and Compare. -/
set_option linter.unusedSimpArgs false
set_option linter.unusedVariables false
namespace Go.Proofs.YtabgkfjfmjdfiaaGreatDoor
open Eng Lmb
def frS (neg : Bool) (sp sq : SV) : SV := .agg 3 fun j => [SV.b neg, sp, sq].getD j default
theorem Nats.len {a : Option Addr} {len cap sz n : Nat} {rd : Nat → Nat → SV} (h : Nats (.sl a len cap sz rd) n) : (0 < (len : Int)) = (0 < n) := by
  obtain ⟨a', cap', sz', rd', xs, he, _, _, hd⟩ := h
  simp only [SV.sl.injEq] at he
  have := hd.len_zero
  apply propext
  rw [he.2.1]
  omega
end Go.Proofs.YtabgkfjfmjdfiaaGreatDoor
