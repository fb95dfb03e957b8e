/-
  DERIVED. GIVEN WITH THE SEED: THE CARDS: each row of YtjaplngagbiimaaDoorRows.lean that lists a variable, with what it lists TIED to the program's text (the seventh form; the later family's looks); each row that meets fmt, with fmt's text TOLD by the authors' own Lean function (tested against real Go, not proved from fmt's source: count such statements apart). THE CARD IS WHAT COUNTS. Prove the row's statement (the work); the ties are given (YtjaplngagbiimaaDoorTie.lean); close each card by the builder's one call (the guide's Derived/Test/ToyasCard.lean, 'card_holds'). Laid BY PROGRAM, IN A SANDBOX (cutbox-door.mjs). By AI agents, Wed Nov 11 2026. No macro, syntax, notation, axiom, sorry.
-/
import Derived.Test.YtjaplngagbiimaaDoorRows
import GoSem.ClaimSeven
namespace Go.Proofs.YtjaplngagbiimaaDoor
namespace Rows

/-- THE TIED CARD OF 'routescopelaw03.FractionField'. -/
def fractionFieldCard : Claim7 := { stood := { row := fractionFieldRow, standIns := [], harness := (true, "893be6506e017794811525d99d3f291820c9f59f36659c319e4d18bce1a3df50"), looks := false }, kinds := [], alts := [], laidByText := true, laidKinds := [.data, .data, .data], laidTests := true, laidLooks := .later }
def FractionFieldCardSaid : Prop := Claim7.holds Tryd.pinned (.plain (OpenSpec.ofChange fractionFieldSpec)) fractionFieldCard

/-- THE TIED CARD OF 'routescopelaw03.FractionOrder'. -/
def fractionOrderCard : Claim7 := { stood := { row := fractionOrderRow, standIns := [], harness := (true, "893be6506e017794811525d99d3f291820c9f59f36659c319e4d18bce1a3df50"), looks := false }, kinds := [], alts := [], laidByText := true, laidKinds := [.data, .data, .data], laidTests := true, laidLooks := .later }
def FractionOrderCardSaid : Prop := Claim7.holds Tryd.pinned (.plain (OpenSpec.ofChange fractionOrderSpec)) fractionOrderCard

/-- THE TIED CARD OF 'routescopelaw03.FractionLimits'. -/
def fractionLimitsCard : Claim7 := { stood := { row := fractionLimitsRow, standIns := [], harness := (true, "893be6506e017794811525d99d3f291820c9f59f36659c319e4d18bce1a3df50"), looks := false }, kinds := [], alts := [], laidByText := true, laidKinds := [.data, .data, .data], laidTests := true, laidLooks := .later }
def FractionLimitsCardSaid : Prop := Claim7.holds Tryd.pinned (.plain (OpenSpec.ofChange fractionLimitsSpec)) fractionLimitsCard

/-- THE TIED CARD OF 'routescopelaw03.FractionRounds'. -/
def fractionRoundsCard : Claim7 := { stood := { row := fractionRoundsRow, standIns := [], harness := (true, "893be6506e017794811525d99d3f291820c9f59f36659c319e4d18bce1a3df50"), looks := false }, kinds := [], alts := [], laidByText := true, laidKinds := [.data, .data, .data], laidTests := true, laidLooks := .later }
def FractionRoundsCardSaid : Prop := Claim7.holds Tryd.pinned (.plain (OpenSpec.ofChange fractionRoundsSpec)) fractionRoundsCard

/-- THE SECOND FORM's CARD OF 'routescopelaw03.FractionField'. -/
def fractionFieldUptoCard : Claim7 := { stood := { row := fractionFieldUptoRow, standIns := [], harness := (true, "893be6506e017794811525d99d3f291820c9f59f36659c319e4d18bce1a3df50"), looks := false }, kinds := [], alts := [], laidByText := true, laidKinds := [.data, .data, .data], laidTests := true, laidLooks := .later }
def FractionFieldUptoCardSaid : Prop := Claim7.holds Tryd.pinned (.plain (OpenSpec.upto fractionFieldSpec)) fractionFieldUptoCard

/-- THE SECOND FORM's CARD OF 'routescopelaw03.FractionOrder'. -/
def fractionOrderUptoCard : Claim7 := { stood := { row := fractionOrderUptoRow, standIns := [], harness := (true, "893be6506e017794811525d99d3f291820c9f59f36659c319e4d18bce1a3df50"), looks := false }, kinds := [], alts := [], laidByText := true, laidKinds := [.data, .data, .data], laidTests := true, laidLooks := .later }
def FractionOrderUptoCardSaid : Prop := Claim7.holds Tryd.pinned (.plain (OpenSpec.upto fractionOrderSpec)) fractionOrderUptoCard

/-- THE SECOND FORM's CARD OF 'routescopelaw03.FractionLimits'. -/
def fractionLimitsUptoCard : Claim7 := { stood := { row := fractionLimitsUptoRow, standIns := [], harness := (true, "893be6506e017794811525d99d3f291820c9f59f36659c319e4d18bce1a3df50"), looks := false }, kinds := [], alts := [], laidByText := true, laidKinds := [.data, .data, .data], laidTests := true, laidLooks := .later }
def FractionLimitsUptoCardSaid : Prop := Claim7.holds Tryd.pinned (.plain (OpenSpec.upto fractionLimitsSpec)) fractionLimitsUptoCard

/-- THE SECOND FORM's CARD OF 'routescopelaw03.FractionRounds'. -/
def fractionRoundsUptoCard : Claim7 := { stood := { row := fractionRoundsUptoRow, standIns := [], harness := (true, "893be6506e017794811525d99d3f291820c9f59f36659c319e4d18bce1a3df50"), looks := false }, kinds := [], alts := [], laidByText := true, laidKinds := [.data, .data, .data], laidTests := true, laidLooks := .later }
def FractionRoundsUptoCardSaid : Prop := Claim7.holds Tryd.pinned (.plain (OpenSpec.upto fractionRoundsSpec)) fractionRoundsUptoCard
end Rows
end Go.Proofs.YtjaplngagbiimaaDoor
