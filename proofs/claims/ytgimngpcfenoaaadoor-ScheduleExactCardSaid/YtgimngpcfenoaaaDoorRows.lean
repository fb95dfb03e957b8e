/-
  NARROWER THAN 'FOR EVERY INPUT', by the rows' own cells (each row's printed sentence says how): ScheduleLimits: laid · ScheduleExact: laid.
  DERIVED. THE GIVEN ROWS OF THIS SEAT. 2 by the template 'for every input the law returns true; each argument reads behind the call as it read before'; 0 by the template 'total and deterministic' (their statements: YtgimngpcfenoaaaDoorTotals.lean).
  GIVEN WITH THE SEED: the statements are not yours to turn. If you find one false, say at which input.
  Laid BY PROGRAM, IN A SANDBOX (cutbox-rows.mjs): the forced cells as the released guide's own fill.sh prints them over the translation 84dab874110a51a9… (all of the seat's roots in one cut). By AI agents, Wed Nov 11 2026. No macro, syntax, notation, axiom, sorry.
-/
import Derived.Test.YtgimngpcfenoaaaDoorChecked
import GoSem.Claim
import GoSem.ClaimJoined
import GoSem.ClaimMapViews
import Derived.JoinedTies
import Derived.KernelRfl
namespace Go.Proofs.YtgimngpcfenoaaaDoor
/- THE CELL 'sum', in the pinned program and in every row, IS THE sha256 OF THE DUMP (.gsa) THAT YtgimngpcfenoaaaDoorProg.lean LOADS. Nothing in Lean hashes anything: it is a label: what it is worth is what the hold of that sum in a sandbox is worth. -/
noncomputable def Tryd.pinned : Pinned := { name := "ytgimngpcfenoaaadoor", sum := "84dab874110a51a9b31e75d8503c60a6b0196dcb3c03a7817d5d990e9fc624a6", checked := Tryd.checked }
namespace Rows
def none {H : Type} : Left H := { results := [], args := [] }

/- WHAT THE LISTED PACKAGE-LEVEL VARIABLES READ AS WHEN THE CALL BEGINS. Each datum BY PROGRAM (the guide's laid-datum.mjs) off the statement by which the dump's own 'gosem.cut.vars' lays the variable. In a bare row this is a premise. The card (YtgimngpcfenoaaaDoorCards.lean) ties it to the program's text. -/
def laid_routescope_address_blocks {H : Type} : DataW H := .agg [.agg [.agg [.lit (.int .u32 0), .lit (.int .i64 8)], .lit (.int .i64 1)], .agg [.agg [.lit (.int .u32 2130706432), .lit (.int .i64 8)], .lit (.int .i64 2)], .agg [.agg [.lit (.int .u32 167772160), .lit (.int .i64 8)], .lit (.int .i64 3)], .agg [.agg [.lit (.int .u32 2886729728), .lit (.int .i64 12)], .lit (.int .i64 3)], .agg [.agg [.lit (.int .u32 3232235520), .lit (.int .i64 16)], .lit (.int .i64 3)], .agg [.agg [.lit (.int .u32 2851995648), .lit (.int .i64 16)], .lit (.int .i64 4)], .agg [.agg [.lit (.int .u32 3758096384), .lit (.int .i64 4)], .lit (.int .i64 5)], .agg [.agg [.lit (.int .u32 4026531840), .lit (.int .i64 4)], .lit (.int .i64 6)]]

/-- 'routescopelaw17.ScheduleLimits': WHATEVER THE INPUT: true; the input reads as it did. -/
def scheduleLimitsSpec : ChangeSpec := { name := "scheduleLimits", fn := fun _ => fun
  | [d] => { results := [.lit (.bool true)], args := [d] }
  | _ => none }
def scheduleLimitsRow : OpenClaim := { program := "ytgimngpcfenoaaadoor", sum := "84dab874110a51a9b31e75d8503c60a6b0196dcb3c03a7817d5d990e9fc624a6", func := "routescope/routescopelaw17.ScheduleLimits", spec := "scheduleLimits", unfollowed := true, recurses := true, named := ["routescope/address.blocks"], apart := false, laid := [("routescope/address.blocks", laid_routescope_address_blocks)] }
def ScheduleLimitsSaid : Prop := scheduleLimitsRow.holds Tryd.pinned (OpenSpec.ofChange scheduleLimitsSpec)

/-- ITS FALSE NEIGHBOUR: 'it returns false'. Refute it at one input. -/
def scheduleLimitsWrong : ChangeSpec := { name := "scheduleLimits", fn := fun _ => fun
  | [d] => { results := [.lit (.bool false)], args := [d] }
  | _ => none }
def ScheduleLimitsWrongFalsely : Prop := scheduleLimitsRow.holds Tryd.pinned (OpenSpec.ofChange scheduleLimitsWrong)

/-- 'routescopelaw17.ScheduleExact': WHATEVER THE INPUT: true; the input reads as it did. -/
def scheduleExactSpec : ChangeSpec := { name := "scheduleExact", fn := fun _ => fun
  | [d1, d2, d3, d4] => { results := [.lit (.bool true)], args := [d1, d2, d3, d4] }
  | _ => none }
def scheduleExactRow : OpenClaim := { program := "ytgimngpcfenoaaadoor", sum := "84dab874110a51a9b31e75d8503c60a6b0196dcb3c03a7817d5d990e9fc624a6", func := "routescope/routescopelaw17.ScheduleExact", spec := "scheduleExact", unfollowed := true, recurses := true, named := ["routescope/address.blocks"], apart := false, laid := [("routescope/address.blocks", laid_routescope_address_blocks)] }
def ScheduleExactSaid : Prop := scheduleExactRow.holds Tryd.pinned (OpenSpec.ofChange scheduleExactSpec)

/-- ITS FALSE NEIGHBOUR: 'it returns false'. Refute it at one input. -/
def scheduleExactWrong : ChangeSpec := { name := "scheduleExact", fn := fun _ => fun
  | [d1, d2, d3, d4] => { results := [.lit (.bool false)], args := [d1, d2, d3, d4] }
  | _ => none }
def ScheduleExactWrongFalsely : Prop := scheduleExactRow.holds Tryd.pinned (OpenSpec.ofChange scheduleExactWrong)

/- THE SECOND FORM. 'bulk': how many values and letters a reading holds, each counted each time it is reached (what is shared counts as often as it is met; a slice's spare places count too). A statement '..UptoSaid' is the law's where the arguments, and the package variables that the reading takes, are together of bulk at most 1048576: NARROWER than '..Said'. Prove '..Said' where nothing that the law and all that it calls make is longer than what came in: it says more and counts as full. Else prove '..UptoSaid'. A law counts once. -/
mutual
def uptoBulk {H : Type} : DataW H → Nat
  | .lit (.string bytes) => bytes.length + 1
  | .lit _ => 1
  | .nil => 1
  | .ptr d => uptoBulk d + 1
  | .slice elems spare => uptoBulkAll elems + uptoBulkAll spare + 1
  | .agg parts => uptoBulkAll parts + 1
  | .iface _ d => uptoBulk d + 1
  | .map entries => uptoBulkEntries entries + 1
  | .held _ => 1
def uptoBulkAll {H : Type} : List (DataW H) → Nat
  | [] => 0
  | d :: r => uptoBulk d + uptoBulkAll r
def uptoBulkEntries {H : Type} : List (Lit × DataW H) → Nat
  | [] => 0
  | x :: r => uptoBulkEntry x + uptoBulkEntries r
def uptoBulkEntry {H : Type} : Lit × DataW H → Nat
  | (.string bytes, d) => bytes.length + uptoBulk d + 1
  | (_, d) => uptoBulk d + 1
 end
def uptoSmall : (H : Type) → List (DataW H) → Bool := fun _ ds => decide (uptoBulkAll ds ≤ 1048576)
def OpenSpec.upto (s : _root_.Go.ChangeSpec) : _root_.Go.OpenSpec := { _root_.Go.OpenSpec.ofChange s with cond := some uptoSmall }

/-- 'routescopelaw17.ScheduleLimits', WHERE WHAT IT READS IS OF BULK AT MOST 1048576: true; the input reads as it did. -/
def scheduleLimitsUptoRow : OpenClaim := { program := "ytgimngpcfenoaaadoor", sum := "84dab874110a51a9b31e75d8503c60a6b0196dcb3c03a7817d5d990e9fc624a6", func := "routescope/routescopelaw17.ScheduleLimits", spec := "scheduleLimits", unfollowed := true, recurses := true, named := ["routescope/address.blocks"], apart := false, laid := [("routescope/address.blocks", laid_routescope_address_blocks)], narrowed := true }
def ScheduleLimitsUptoSaid : Prop := scheduleLimitsUptoRow.holds Tryd.pinned (OpenSpec.upto scheduleLimitsSpec)

/-- 'routescopelaw17.ScheduleExact', WHERE WHAT IT READS IS OF BULK AT MOST 1048576: true; the input reads as it did. -/
def scheduleExactUptoRow : OpenClaim := { program := "ytgimngpcfenoaaadoor", sum := "84dab874110a51a9b31e75d8503c60a6b0196dcb3c03a7817d5d990e9fc624a6", func := "routescope/routescopelaw17.ScheduleExact", spec := "scheduleExact", unfollowed := true, recurses := true, named := ["routescope/address.blocks"], apart := false, laid := [("routescope/address.blocks", laid_routescope_address_blocks)], narrowed := true }
def ScheduleExactUptoSaid : Prop := scheduleExactUptoRow.holds Tryd.pinned (OpenSpec.upto scheduleExactSpec)

end Rows
end Go.Proofs.YtgimngpcfenoaaaDoor
