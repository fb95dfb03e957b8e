/-
  DERIVED. GIVEN WITH THE SEED: THE CARDS: each row of YtepkbbmjbbnhnaaGreatDoorRows.lean that lists a variable, with what it lists TIED to the program's text (the seventh form; the later family's looks); each row that meets fmt, with fmt's text TOLD by the authors' own Lean function (tested against real Go, not proved from fmt's source: count such statements apart). THE CARD IS WHAT COUNTS. Prove the row's statement (the work); the ties are given (YtepkbbmjbbnhnaaGreatDoorTie.lean); close each card by the builder's one call (the guide's Derived/Test/ToyasCard.lean, 'card_holds'). Laid BY PROGRAM, IN A SANDBOX (cutbox-door.mjs). By AI agents, Wed Nov 11 2026. No macro, syntax, notation, axiom, sorry.
-/
import Derived.Test.YtepkbbmjbbnhnaaGreatDoorRows
import GoSem.ClaimSeven
namespace Go.Proofs.YtepkbbmjbbnhnaaGreatDoor
namespace Rows

/-- THE TIED CARD OF 'routescopelaw32.RegistrySteps'. -/
def registryStepsCard : Claim7 := { stood := { row := registryStepsRow, standIns := [], harness := (true, "84c038309f8579eea1fd49ae86a2f1b9d51f2c7379c14f74a005fd04a1748db3"), looks := true }, kinds := [], alts := [], laidByText := true, laidKinds := [.data, .data, .data], laidTests := true, laidLooks := .later }
def RegistryStepsCardSaid : Prop := Claim7.holds Tryz.pinned (.plain (OpenSpec.ofChange registryStepsSpec)) registryStepsCard

/-- THE TIED CARD OF 'routescopelaw32.RegistryBack'. -/
def registryBackCard : Claim7 := { stood := { row := registryBackRow, standIns := [], harness := (true, "84c038309f8579eea1fd49ae86a2f1b9d51f2c7379c14f74a005fd04a1748db3"), looks := true }, kinds := [], alts := [], laidByText := true, laidKinds := [.data, .data, .data, .data, .sentinel, .sentinel, .pinned], laidTests := true, laidLooks := .later }
def RegistryBackCardSaid : Prop := Claim7.holds Tryz.pinned (.plain (OpenSpec.ofChange registryBackSpec)) registryBackCard

/-- THE TIED CARD OF 'routescopelaw32.RegistryTexts'. -/
def registryTextsCard : Claim7 := { stood := { row := registryTextsRow, standIns := [], harness := (true, "84c038309f8579eea1fd49ae86a2f1b9d51f2c7379c14f74a005fd04a1748db3"), looks := true }, kinds := [], alts := [], laidByText := true, laidKinds := [.data, .data, .data, .data, .sentinel, .sentinel, .pinned], laidTests := true, laidLooks := .later }
def RegistryTextsCardSaid : Prop := Claim7.holds Tryz.pinned (.plain (OpenSpec.ofChange registryTextsSpec)) registryTextsCard

/-- THE SECOND FORM's CARD OF 'routescopelaw32.RegistrySteps'. -/
def registryStepsUptoCard : Claim7 := { stood := { row := registryStepsUptoRow, standIns := [], harness := (true, "84c038309f8579eea1fd49ae86a2f1b9d51f2c7379c14f74a005fd04a1748db3"), looks := true }, kinds := [], alts := [], laidByText := true, laidKinds := [.data, .data, .data], laidTests := true, laidLooks := .later }
def RegistryStepsUptoCardSaid : Prop := Claim7.holds Tryz.pinned (.plain (OpenSpec.upto registryStepsSpec)) registryStepsUptoCard

/-- THE SECOND FORM's CARD OF 'routescopelaw32.RegistryBack'. -/
def registryBackUptoCard : Claim7 := { stood := { row := registryBackUptoRow, standIns := [], harness := (true, "84c038309f8579eea1fd49ae86a2f1b9d51f2c7379c14f74a005fd04a1748db3"), looks := true }, kinds := [], alts := [], laidByText := true, laidKinds := [.data, .data, .data, .data, .sentinel, .sentinel, .pinned], laidTests := true, laidLooks := .later }
def RegistryBackUptoCardSaid : Prop := Claim7.holds Tryz.pinned (.plain (OpenSpec.upto registryBackSpec)) registryBackUptoCard

/-- THE SECOND FORM's CARD OF 'routescopelaw32.RegistryTexts'. -/
def registryTextsUptoCard : Claim7 := { stood := { row := registryTextsUptoRow, standIns := [], harness := (true, "84c038309f8579eea1fd49ae86a2f1b9d51f2c7379c14f74a005fd04a1748db3"), looks := true }, kinds := [], alts := [], laidByText := true, laidKinds := [.data, .data, .data, .data, .sentinel, .sentinel, .pinned], laidTests := true, laidLooks := .later }
def RegistryTextsUptoCardSaid : Prop := Claim7.holds Tryz.pinned (.plain (OpenSpec.upto registryTextsSpec)) registryTextsUptoCard
end Rows
end Go.Proofs.YtepkbbmjbbnhnaaGreatDoor
