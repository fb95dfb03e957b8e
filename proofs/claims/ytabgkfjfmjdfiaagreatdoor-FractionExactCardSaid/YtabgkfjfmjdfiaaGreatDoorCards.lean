/-
  DERIVED. GIVEN WITH THE SEED: THE CARDS: each row of YtabgkfjfmjdfiaaGreatDoorRows.lean that lists a variable, with what it lists TIED to the program's text (the seventh form; the later family's looks); each row that meets fmt, with fmt's text TOLD by the authors' own Lean function (tested against real Go, not proved from fmt's source: count such statements apart). THE CARD IS WHAT COUNTS. Prove the row's statement (the work); the ties are given (YtabgkfjfmjdfiaaGreatDoorTie.lean); close each card by the builder's one call (the guide's Derived/Test/ToyasCard.lean, 'card_holds'). Laid BY PROGRAM, IN A SANDBOX (cutbox-door.mjs). By AI agents, Wed Nov 11 2026. No macro, syntax, notation, axiom, sorry.
-/
import Derived.Test.YtabgkfjfmjdfiaaGreatDoorRows
import GoSem.ClaimSeven
namespace Go.Proofs.YtabgkfjfmjdfiaaGreatDoor
namespace Rows

/-- THE TIED CARD OF 'routescopelaw02.NaturalExact'. -/
def naturalExactCard : Claim7 := { stood := { row := naturalExactRow, standIns := [], harness := (true, "a672c04ecc9e645658444ff767edb42c8a042aa0743e105be849256b6e9dd50e"), looks := false }, kinds := [], alts := [], laidByText := true, laidKinds := [.data, .data, .data, .data, .pinned], laidTests := true, laidLooks := .later }
def NaturalExactCardSaid : Prop := Claim7.holds Tryz.pinned (.plain (OpenSpec.ofChange naturalExactSpec)) naturalExactCard

/-- THE TIED CARD OF 'routescopelaw03.FractionExact'. -/
def fractionExactCard : Claim7 := { stood := { row := fractionExactRow, standIns := [], harness := (true, "a672c04ecc9e645658444ff767edb42c8a042aa0743e105be849256b6e9dd50e"), looks := false }, kinds := [], alts := [], laidByText := true, laidKinds := [.data, .data, .data, .data, .pinned], laidTests := true, laidLooks := .later }
def FractionExactCardSaid : Prop := Claim7.holds Tryz.pinned (.plain (OpenSpec.ofChange fractionExactSpec)) fractionExactCard

/-- THE SECOND FORM's CARD OF 'routescopelaw02.NaturalExact'. -/
def naturalExactUptoCard : Claim7 := { stood := { row := naturalExactUptoRow, standIns := [], harness := (true, "a672c04ecc9e645658444ff767edb42c8a042aa0743e105be849256b6e9dd50e"), looks := false }, kinds := [], alts := [], laidByText := true, laidKinds := [.data, .data, .data, .data, .pinned], laidTests := true, laidLooks := .later }
def NaturalExactUptoCardSaid : Prop := Claim7.holds Tryz.pinned (.plain (OpenSpec.upto naturalExactSpec)) naturalExactUptoCard

/-- THE SECOND FORM's CARD OF 'routescopelaw03.FractionExact'. -/
def fractionExactUptoCard : Claim7 := { stood := { row := fractionExactUptoRow, standIns := [], harness := (true, "a672c04ecc9e645658444ff767edb42c8a042aa0743e105be849256b6e9dd50e"), looks := false }, kinds := [], alts := [], laidByText := true, laidKinds := [.data, .data, .data, .data, .pinned], laidTests := true, laidLooks := .later }
def FractionExactUptoCardSaid : Prop := Claim7.holds Tryz.pinned (.plain (OpenSpec.upto fractionExactSpec)) fractionExactUptoCard
end Rows
end Go.Proofs.YtabgkfjfmjdfiaaGreatDoor
