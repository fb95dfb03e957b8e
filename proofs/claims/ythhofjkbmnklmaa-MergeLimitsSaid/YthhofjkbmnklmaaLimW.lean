/- It is proved that the statement MergeLimits holds for every input: a ledger may have as many results as the limit, and not one more. No conditions. -/
import Derived.Test.YthhofjkbmnklmaaLimM
import Derived.Test.YthhofjkbmnklmaaWalkE
import Derived.Test.YthhofjkbmnklmaaShMergeLimits
namespace Go.Proofs.Ythhofjkbmnklmaa
open Eng
theorem limits_holds : Rows.MergeLimitsSaid := mergeLimits.of_walk fun a0 w h => by
  obtain ⟨h1, h2⟩ : 0 ≤ a0 ∧ a0 < 256 := by
    simp only [Lit.wf, Bool.and_eq_true, decide_eq_true_eq] at h
    have e1 : IntKind.u8.min = 0 := by decide
    have e2 : IntKind.u8.max = 255 := by decide
    omega
  obtain ⟨m, rfl⟩ := Int.eq_ofNat_of_zero_le h1
  exact walk_of (mergeLimitsC Frm.nil m (by omega)) (fun s hs => by rw [List.mem_singleton.1 hs]; trivial)
end Go.Proofs.Ythhofjkbmnklmaa
