import Derived.Test.YtabgkfjfmjdfiaaGreatDoorRefJ

/- The reference of fractions, by the evaluator: reduced. -/
set_option linter.unusedSimpArgs false
set_option linter.unusedVariables false
namespace Go.Proofs.YtabgkfjfmjdfiaaGreatDoor
open Eng Lmb Go.RowKit
theorem Nats.len0 {a : Option Addr} {len cap sz n : Nat} {rd : Nat → Nat → SV} (h : Nats (.sl a len cap sz rd) n) : ((len : Int) == 0) = decide (n = 0) := by
  have := h.len
  have e : (0 < (len : Int)) ↔ (0 < n) := by rw [this]
  by_cases hn : n = 0
  · rw [decide_eq_true hn, beq_iff_eq]; omega
  · rw [decide_eq_false hn, beq_eq_false_iff_ne]; omega
end Go.Proofs.YtabgkfjfmjdfiaaGreatDoor
