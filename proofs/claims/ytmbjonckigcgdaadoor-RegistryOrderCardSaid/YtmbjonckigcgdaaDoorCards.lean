/-
  DERIVED. GIVEN WITH THE SEED: THE CARDS: each row of YtmbjonckigcgdaaDoorRows.lean that lists a variable, with what it lists TIED to the program's text (the seventh form; the later family's looks); each row that meets fmt, with fmt's text TOLD by the authors' own Lean function (tested against real Go, not proved from fmt's source: count such statements apart). THE CARD IS WHAT COUNTS. Prove the row's statement (the work); the ties are given (YtmbjonckigcgdaaDoorTie.lean); close each card by the builder's one call (the guide's Derived/Test/ToyasCard.lean, 'card_holds'). Laid BY PROGRAM, IN A SANDBOX (cutbox-door.mjs). By AI agents, Wed Nov 11 2026. No macro, syntax, notation, axiom, sorry.
-/
import Derived.Test.YtmbjonckigcgdaaDoorRows
import GoSem.ClaimSeven
namespace Go.Proofs.YtmbjonckigcgdaaDoor
namespace Rows

/-- THE TIED CARD OF 'routescopelaw32.RegistryLongest'. -/
def registryLongestCard : Claim7 := { stood := { row := registryLongestRow, standIns := [], harness := (true, "b03f348663e11e22ccf2d580c0d709c7ffb732797de004ea84c8687bb6fbd0ed"), looks := false }, kinds := [], alts := [], laidByText := true, laidKinds := [.data, .data, .data], laidTests := true, laidLooks := .later }
def RegistryLongestCardSaid : Prop := Claim7.holds Tryd.pinned (.plain (OpenSpec.ofChange registryLongestSpec)) registryLongestCard

/-- THE TIED CARD OF 'routescopelaw32.RegistryOrder'. -/
def registryOrderCard : Claim7 := { stood := { row := registryOrderRow, standIns := [], harness := (true, "b03f348663e11e22ccf2d580c0d709c7ffb732797de004ea84c8687bb6fbd0ed"), looks := false }, kinds := [], alts := [], laidByText := true, laidKinds := [.data, .data, .data], laidTests := true, laidLooks := .later }
def RegistryOrderCardSaid : Prop := Claim7.holds Tryd.pinned (.plain (OpenSpec.ofChange registryOrderSpec)) registryOrderCard

/-- THE TIED CARD OF 'routescopelaw32.RegistryHistory'. -/
def registryHistoryCard : Claim7 := { stood := { row := registryHistoryRow, standIns := [], harness := (true, "b03f348663e11e22ccf2d580c0d709c7ffb732797de004ea84c8687bb6fbd0ed"), looks := false }, kinds := [], alts := [], laidByText := true, laidKinds := [.data, .data, .data], laidTests := true, laidLooks := .later }
def RegistryHistoryCardSaid : Prop := Claim7.holds Tryd.pinned (.plain (OpenSpec.ofChange registryHistorySpec)) registryHistoryCard

/-- THE TIED CARD OF 'routescopelaw32.RegistryAdds'. -/
def registryAddsCard : Claim7 := { stood := { row := registryAddsRow, standIns := [], harness := (true, "b03f348663e11e22ccf2d580c0d709c7ffb732797de004ea84c8687bb6fbd0ed"), looks := false }, kinds := [], alts := [], laidByText := true, laidKinds := [.data, .data, .data], laidTests := true, laidLooks := .later }
def RegistryAddsCardSaid : Prop := Claim7.holds Tryd.pinned (.plain (OpenSpec.ofChange registryAddsSpec)) registryAddsCard

/-- THE SECOND FORM's CARD OF 'routescopelaw32.RegistryLongest'. -/
def registryLongestUptoCard : Claim7 := { stood := { row := registryLongestUptoRow, standIns := [], harness := (true, "b03f348663e11e22ccf2d580c0d709c7ffb732797de004ea84c8687bb6fbd0ed"), looks := false }, kinds := [], alts := [], laidByText := true, laidKinds := [.data, .data, .data], laidTests := true, laidLooks := .later }
def RegistryLongestUptoCardSaid : Prop := Claim7.holds Tryd.pinned (.plain (OpenSpec.upto registryLongestSpec)) registryLongestUptoCard

/-- THE SECOND FORM's CARD OF 'routescopelaw32.RegistryOrder'. -/
def registryOrderUptoCard : Claim7 := { stood := { row := registryOrderUptoRow, standIns := [], harness := (true, "b03f348663e11e22ccf2d580c0d709c7ffb732797de004ea84c8687bb6fbd0ed"), looks := false }, kinds := [], alts := [], laidByText := true, laidKinds := [.data, .data, .data], laidTests := true, laidLooks := .later }
def RegistryOrderUptoCardSaid : Prop := Claim7.holds Tryd.pinned (.plain (OpenSpec.upto registryOrderSpec)) registryOrderUptoCard

/-- THE SECOND FORM's CARD OF 'routescopelaw32.RegistryHistory'. -/
def registryHistoryUptoCard : Claim7 := { stood := { row := registryHistoryUptoRow, standIns := [], harness := (true, "b03f348663e11e22ccf2d580c0d709c7ffb732797de004ea84c8687bb6fbd0ed"), looks := false }, kinds := [], alts := [], laidByText := true, laidKinds := [.data, .data, .data], laidTests := true, laidLooks := .later }
def RegistryHistoryUptoCardSaid : Prop := Claim7.holds Tryd.pinned (.plain (OpenSpec.upto registryHistorySpec)) registryHistoryUptoCard

/-- THE SECOND FORM's CARD OF 'routescopelaw32.RegistryAdds'. -/
def registryAddsUptoCard : Claim7 := { stood := { row := registryAddsUptoRow, standIns := [], harness := (true, "b03f348663e11e22ccf2d580c0d709c7ffb732797de004ea84c8687bb6fbd0ed"), looks := false }, kinds := [], alts := [], laidByText := true, laidKinds := [.data, .data, .data], laidTests := true, laidLooks := .later }
def RegistryAddsUptoCardSaid : Prop := Claim7.holds Tryd.pinned (.plain (OpenSpec.upto registryAddsSpec)) registryAddsUptoCard
end Rows
end Go.Proofs.YtmbjonckigcgdaaDoor
