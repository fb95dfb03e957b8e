/- AddressSpecial: the kinds of addresses, and the other ends of subnets: the code's answers are the reference's, and the other end of the other end is the address itself: for every input, with no condition. -/
import Derived.Test.YtceacooambpkdaaDoorSplE
set_option linter.unusedSimpArgs false
set_option linter.unusedVariables false
namespace Go.Proofs.YtceacooambpkdaaDoor
open Eng Go.RowKit
theorem special_holds : Rows.AddressSpecialCardSaid := addressSpecial.card_of_walk fun a0 a1 v z w hL h1 h2 ⟨h, hz⟩ => by
  obtain ⟨a, cap, rfl, hok⟩ := slB_of h
  have k1 := bounds_u32 h1
  obtain ⟨x1, rfl⟩ := Int.eq_ofNat_of_zero_le (show 0 ≤ a0 by omega)
  obtain ⟨hT, hN⟩ := blk_of_laid hL (by decide +kernel) (by simp [Rows.addressSpecialRow]; rfl)
  exact walk_ofT (specialLawC a cap z (slB_bytesS a cap z hz) x1 (by omega) a1) hN hT (fun s hs => by
    simp only [List.mem_cons, List.mem_singleton, List.not_mem_nil, or_false] at hs
    rcases hs with rfl | rfl | rfl
    · trivial
    · trivial
    · exact hok)
end Go.Proofs.YtceacooambpkdaaDoor
