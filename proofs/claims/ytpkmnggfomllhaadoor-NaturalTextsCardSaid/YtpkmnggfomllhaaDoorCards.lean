/-
  DERIVED. GIVEN WITH THE SEED: THE CARDS: each row of YtpkmnggfomllhaaDoorRows.lean that lists a variable, with what it lists TIED to the program's text (the seventh form; the later family's looks); each row that meets fmt, with fmt's text TOLD by the authors' own Lean function (tested against real Go, not proved from fmt's source: count such statements apart). THE CARD IS WHAT COUNTS. Prove the row's statement (the work); the ties are given (YtpkmnggfomllhaaDoorTie.lean); close each card by the builder's one call (the guide's Derived/Test/ToyasCard.lean, 'card_holds'). Laid BY PROGRAM, IN A SANDBOX (cutbox-door.mjs). By AI agents, Wed Nov 11 2026. No macro, syntax, notation, axiom, sorry.
-/
import Derived.Test.YtpkmnggfomllhaaDoorRows
import GoSem.ClaimSeven
namespace Go.Proofs.YtpkmnggfomllhaaDoor
namespace Rows

/-- THE TIED CARD OF 'routescopelaw02.NaturalTexts'. -/
def naturalTextsCard : Claim7 := { stood := { row := naturalTextsRow, standIns := [], harness := (true, "66d9947cf2e0c25df91c7f504d01d0d35c5c4bd7182ed06c73aa57c38e7af8d4"), looks := false }, kinds := [], alts := [], laidByText := true, laidKinds := [.data, .data, .data, .data, .pinned], laidTests := true, laidLooks := .later }
def NaturalTextsCardSaid : Prop := Claim7.holds Tryd.pinned (.plain (OpenSpec.ofChange naturalTextsSpec)) naturalTextsCard

/-- THE SECOND FORM's CARD OF 'routescopelaw02.NaturalTexts'. -/
def naturalTextsUptoCard : Claim7 := { stood := { row := naturalTextsUptoRow, standIns := [], harness := (true, "66d9947cf2e0c25df91c7f504d01d0d35c5c4bd7182ed06c73aa57c38e7af8d4"), looks := false }, kinds := [], alts := [], laidByText := true, laidKinds := [.data, .data, .data, .data, .pinned], laidTests := true, laidLooks := .later }
def NaturalTextsUptoCardSaid : Prop := Claim7.holds Tryd.pinned (.plain (OpenSpec.upto naturalTextsSpec)) naturalTextsUptoCard
end Rows
end Go.Proofs.YtpkmnggfomllhaaDoor
