import Derived.Test.YtabgkfjfmjdfiaaGreatDoorStpF
import Derived.Test.YtabgkfjfmjdfiaaGreatDoorPk4

/- Fractions, by the evaluator: package fraction's Compare. -/
set_option linter.unusedSimpArgs false
set_option linter.unusedVariables false
namespace Go.Proofs.YtabgkfjfmjdfiaaGreatDoor
open Eng Lmb
theorem Nats.zero {a : Option Addr} {len cap sz n : Nat} {rd : Nat → Nat → SV} (h : Nats (.sl a len cap sz rd) n) : ((len : Int) == 0) = decide (n = 0) := by
  have := h.len
  by_cases h0 : n = 0
  · rw [decide_eq_true h0]
    have : ¬ 0 < (len : Int) := by rw [this]; omega
    have : (len : Int) = 0 := by omega
    rw [this]; rfl
  · rw [decide_eq_false h0, beq_eq_false_iff_ne]
    have : 0 < (len : Int) := by rw [this]; omega
    omega
end Go.Proofs.YtabgkfjfmjdfiaaGreatDoor
