/-
  DERIVED. GIVEN WITH THE SEED: THE CARDS: each row of YtgdbcpljdibliaaGreatDoorRows.lean that lists a variable, with what it lists TIED to the program's text (the seventh form; the later family's looks); each row that meets fmt, with fmt's text TOLD by the authors' own Lean function (tested against real Go, not proved from fmt's source: count such statements apart). THE CARD IS WHAT COUNTS. Prove the row's statement (the work); the ties are given (YtgdbcpljdibliaaGreatDoorTie.lean); close each card by the builder's one call (the guide's Derived/Test/ToyasCard.lean, 'card_holds'). Laid BY PROGRAM, IN A SANDBOX (cutbox-door.mjs). By AI agents, Wed Nov 11 2026. No macro, syntax, notation, axiom, sorry.
-/
import Derived.Test.YtgdbcpljdibliaaGreatDoorRows
import GoSem.ClaimSeven
namespace Go.Proofs.YtgdbcpljdibliaaGreatDoor
namespace Rows

/-- THE TIED CARD OF 'routescopelaw03.FractionTexts'. -/
def fractionTextsCard : Claim7 := { stood := { row := fractionTextsRow, standIns := [], harness := (true, "e8018f6b641a5642108015748b2dcd9a407f181db1996026727c08545727d472"), looks := false }, kinds := [], alts := [], laidByText := true, laidKinds := [.data, .data, .data, .data, .pinned], laidTests := true, laidLooks := .later }
def FractionTextsCardSaid : Prop := Claim7.holds Tryz.pinned (.plain (OpenSpec.ofChange fractionTextsSpec)) fractionTextsCard

/-- THE TIED CARD OF 'routescopelaw03.FractionExact'. -/
def fractionExactCard : Claim7 := { stood := { row := fractionExactRow, standIns := [], harness := (true, "e8018f6b641a5642108015748b2dcd9a407f181db1996026727c08545727d472"), looks := false }, kinds := [], alts := [], laidByText := true, laidKinds := [.data, .data, .data, .data, .pinned], laidTests := true, laidLooks := .later }
def FractionExactCardSaid : Prop := Claim7.holds Tryz.pinned (.plain (OpenSpec.ofChange fractionExactSpec)) fractionExactCard

/-- THE SECOND FORM's CARD OF 'routescopelaw03.FractionTexts'. -/
def fractionTextsUptoCard : Claim7 := { stood := { row := fractionTextsUptoRow, standIns := [], harness := (true, "e8018f6b641a5642108015748b2dcd9a407f181db1996026727c08545727d472"), looks := false }, kinds := [], alts := [], laidByText := true, laidKinds := [.data, .data, .data, .data, .pinned], laidTests := true, laidLooks := .later }
def FractionTextsUptoCardSaid : Prop := Claim7.holds Tryz.pinned (.plain (OpenSpec.upto fractionTextsSpec)) fractionTextsUptoCard

/-- THE SECOND FORM's CARD OF 'routescopelaw03.FractionExact'. -/
def fractionExactUptoCard : Claim7 := { stood := { row := fractionExactUptoRow, standIns := [], harness := (true, "e8018f6b641a5642108015748b2dcd9a407f181db1996026727c08545727d472"), looks := false }, kinds := [], alts := [], laidByText := true, laidKinds := [.data, .data, .data, .data, .pinned], laidTests := true, laidLooks := .later }
def FractionExactUptoCardSaid : Prop := Claim7.holds Tryz.pinned (.plain (OpenSpec.upto fractionExactSpec)) fractionExactUptoCard
end Rows
end Go.Proofs.YtgdbcpljdibliaaGreatDoor
