/- AddressCover: the shortest list of prefixes of any range: it contains exactly its addresses, and no two neighbours are the halves of a prefix: for every input, with no condition. -/
import Derived.Test.YtceacooambpkdaaDoorCovL
set_option linter.unusedSimpArgs false
set_option linter.unusedVariables false
namespace Go.Proofs.YtceacooambpkdaaDoor
open Eng Go.RowKit
theorem cover_holds : Rows.AddressCoverCardSaid := addressCover.card_of_walk fun a0 a1 a2 w hL h0 h1 h2 => by
  have k0 := bounds_u32 h0
  have k1 := bounds_u32 h1
  have k2 := bounds_u32 h2
  obtain ⟨x0, rfl⟩ := Int.eq_ofNat_of_zero_le (show 0 ≤ a0 by omega)
  obtain ⟨x1, rfl⟩ := Int.eq_ofNat_of_zero_le (show 0 ≤ a1 by omega)
  obtain ⟨x2, rfl⟩ := Int.eq_ofNat_of_zero_le (show 0 ≤ a2 by omega)
  obtain ⟨hT, hN⟩ := tz_of_laid hL (by decide +kernel) (by simp [Rows.addressCoverRow]; rfl)
  exact walk_ofT (coverLawC x0 x1 x2 (by omega) (by omega) (by omega)) hN hT (fun s hs => by
    simp only [List.mem_cons, List.mem_singleton, List.not_mem_nil, or_false] at hs
    rcases hs with rfl | rfl | rfl <;> trivial)
end Go.Proofs.YtceacooambpkdaaDoor
