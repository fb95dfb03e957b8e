/-
  DERIVED. GIVEN WITH THE SEED: THE CARDS: each row of YtgimngpcfenoaaaDoorRows.lean that lists a variable, with what it lists TIED to the program's text (the seventh form; the later family's looks); each row that meets fmt, with fmt's text TOLD by the authors' own Lean function (tested against real Go, not proved from fmt's source: count such statements apart). THE CARD IS WHAT COUNTS. Prove the row's statement (the work); the ties are given (YtgimngpcfenoaaaDoorTie.lean); close each card by the builder's one call (the guide's Derived/Test/ToyasCard.lean, 'card_holds'). Laid BY PROGRAM, IN A SANDBOX (cutbox-door.mjs). By AI agents, Wed Nov 11 2026. No macro, syntax, notation, axiom, sorry.
-/
import Derived.Test.YtgimngpcfenoaaaDoorRows
import GoSem.ClaimSeven
namespace Go.Proofs.YtgimngpcfenoaaaDoor
namespace Rows

/-- THE TIED CARD OF 'routescopelaw17.ScheduleLimits'. -/
def scheduleLimitsCard : Claim7 := { stood := { row := scheduleLimitsRow, standIns := [], harness := (true, "ee40eedf41c0600c2a1db084edced41d5c8e1c659c7c4abebb109dbc6aef7b41"), looks := false }, kinds := [], alts := [], laidByText := true, laidKinds := [.data], laidTests := true, laidLooks := .later }
def ScheduleLimitsCardSaid : Prop := Claim7.holds Tryd.pinned (.plain (OpenSpec.ofChange scheduleLimitsSpec)) scheduleLimitsCard

/-- THE TIED CARD OF 'routescopelaw17.ScheduleExact'. -/
def scheduleExactCard : Claim7 := { stood := { row := scheduleExactRow, standIns := [], harness := (true, "ee40eedf41c0600c2a1db084edced41d5c8e1c659c7c4abebb109dbc6aef7b41"), looks := false }, kinds := [], alts := [], laidByText := true, laidKinds := [.data], laidTests := true, laidLooks := .later }
def ScheduleExactCardSaid : Prop := Claim7.holds Tryd.pinned (.plain (OpenSpec.ofChange scheduleExactSpec)) scheduleExactCard

/-- THE SECOND FORM's CARD OF 'routescopelaw17.ScheduleLimits'. -/
def scheduleLimitsUptoCard : Claim7 := { stood := { row := scheduleLimitsUptoRow, standIns := [], harness := (true, "ee40eedf41c0600c2a1db084edced41d5c8e1c659c7c4abebb109dbc6aef7b41"), looks := false }, kinds := [], alts := [], laidByText := true, laidKinds := [.data], laidTests := true, laidLooks := .later }
def ScheduleLimitsUptoCardSaid : Prop := Claim7.holds Tryd.pinned (.plain (OpenSpec.upto scheduleLimitsSpec)) scheduleLimitsUptoCard

/-- THE SECOND FORM's CARD OF 'routescopelaw17.ScheduleExact'. -/
def scheduleExactUptoCard : Claim7 := { stood := { row := scheduleExactUptoRow, standIns := [], harness := (true, "ee40eedf41c0600c2a1db084edced41d5c8e1c659c7c4abebb109dbc6aef7b41"), looks := false }, kinds := [], alts := [], laidByText := true, laidKinds := [.data], laidTests := true, laidLooks := .later }
def ScheduleExactUptoCardSaid : Prop := Claim7.holds Tryd.pinned (.plain (OpenSpec.upto scheduleExactSpec)) scheduleExactUptoCard
end Rows
end Go.Proofs.YtgimngpcfenoaaaDoor
