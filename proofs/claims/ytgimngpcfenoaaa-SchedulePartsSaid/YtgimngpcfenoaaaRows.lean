/-
  No cell of these rows narrows 'for every input' (looked for: loops, veiled, ifaces, maps, wideKeys, modest, calm, conditions, laid).
  DERIVED. THE GIVEN ROWS OF THIS SEAT. 2 by the template 'for every input the law returns true; each argument reads behind the call as it read before'; 0 by the template 'total and deterministic' (their statements: YtgimngpcfenoaaaTotals.lean).
  GIVEN WITH THE SEED: the statements are not yours to turn. If you find one false, say at which input.
  Laid BY PROGRAM, IN A SANDBOX (cutbox-rows.mjs): the forced cells as the released guide's own fill.sh prints them over the translation 20f078d9d769392a… (all of the seat's roots in one cut). By AI agents, Wed Nov 11 2026. No macro, syntax, notation, axiom, sorry.
-/
import Derived.Test.YtgimngpcfenoaaaChecked
import GoSem.Claim
import GoSem.ClaimJoined
import GoSem.ClaimMapViews
import Derived.JoinedTies
import Derived.KernelRfl
namespace Go.Proofs.Ytgimngpcfenoaaa
/- THE CELL 'sum', in the pinned program and in every row, IS THE sha256 OF THE DUMP (.gsa) THAT YtgimngpcfenoaaaProg.lean LOADS. Nothing in Lean hashes anything: it is a label: what it is worth is what the hold of that sum in a sandbox is worth. -/
noncomputable def Try.pinned : Pinned := { name := "ytgimngpcfenoaaa", sum := "20f078d9d769392afc0915bea74d4668c439669be4b3545311de45c4605a7daf", checked := Try.checked }
namespace Rows
def none {H : Type} : Left H := { results := [], args := [] }

/-- 'routescopelaw17.ScheduleRounds': WHATEVER THE INPUT: true; the input reads as it did. -/
def scheduleRoundsSpec : ChangeSpec := { name := "scheduleRounds", fn := fun _ => fun
  | [d] => { results := [.lit (.bool true)], args := [d] }
  | _ => none }
def scheduleRoundsRow : OpenClaim := { program := "ytgimngpcfenoaaa", sum := "20f078d9d769392afc0915bea74d4668c439669be4b3545311de45c4605a7daf", func := "routescope/routescopelaw17.ScheduleRounds", spec := "scheduleRounds", unfollowed := true, recurses := true, apart := false }
def ScheduleRoundsSaid : Prop := scheduleRoundsRow.holds Try.pinned (OpenSpec.ofChange scheduleRoundsSpec)

/-- ITS FALSE NEIGHBOUR: 'it returns false'. Refute it at one input. -/
def scheduleRoundsWrong : ChangeSpec := { name := "scheduleRounds", fn := fun _ => fun
  | [d] => { results := [.lit (.bool false)], args := [d] }
  | _ => none }
def ScheduleRoundsWrongFalsely : Prop := scheduleRoundsRow.holds Try.pinned (OpenSpec.ofChange scheduleRoundsWrong)

/-- 'routescopelaw17.ScheduleParts': WHATEVER THE INPUT: true; the input reads as it did. -/
def schedulePartsSpec : ChangeSpec := { name := "scheduleParts", fn := fun _ => fun
  | [d1, d2, d3, d4] => { results := [.lit (.bool true)], args := [d1, d2, d3, d4] }
  | _ => none }
def schedulePartsRow : OpenClaim := { program := "ytgimngpcfenoaaa", sum := "20f078d9d769392afc0915bea74d4668c439669be4b3545311de45c4605a7daf", func := "routescope/routescopelaw17.ScheduleParts", spec := "scheduleParts", unfollowed := true, recurses := true, apart := false }
def SchedulePartsSaid : Prop := schedulePartsRow.holds Try.pinned (OpenSpec.ofChange schedulePartsSpec)

/-- ITS FALSE NEIGHBOUR: 'it returns false'. Refute it at one input. -/
def schedulePartsWrong : ChangeSpec := { name := "scheduleParts", fn := fun _ => fun
  | [d1, d2, d3, d4] => { results := [.lit (.bool false)], args := [d1, d2, d3, d4] }
  | _ => none }
def SchedulePartsWrongFalsely : Prop := schedulePartsRow.holds Try.pinned (OpenSpec.ofChange schedulePartsWrong)

/- THE SECOND FORM. 'bulk': how many values and letters a reading holds, each counted each time it is reached (what is shared counts as often as it is met; a slice's spare places count too). A statement '..UptoSaid' is the law's where the arguments, and the package variables that the reading takes, are together of bulk at most 1048576: NARROWER than '..Said'. Prove '..Said' where nothing that the law and all that it calls make is longer than what came in: it says more and counts as full. Else prove '..UptoSaid'. A law counts once. -/
mutual
def uptoBulk {H : Type} : DataW H → Nat
  | .lit (.string bytes) => bytes.length + 1
  | .lit _ => 1
  | .nil => 1
  | .ptr d => uptoBulk d + 1
  | .slice elems spare => uptoBulkAll elems + uptoBulkAll spare + 1
  | .agg parts => uptoBulkAll parts + 1
  | .iface _ d => uptoBulk d + 1
  | .map entries => uptoBulkEntries entries + 1
  | .held _ => 1
def uptoBulkAll {H : Type} : List (DataW H) → Nat
  | [] => 0
  | d :: r => uptoBulk d + uptoBulkAll r
def uptoBulkEntries {H : Type} : List (Lit × DataW H) → Nat
  | [] => 0
  | x :: r => uptoBulkEntry x + uptoBulkEntries r
def uptoBulkEntry {H : Type} : Lit × DataW H → Nat
  | (.string bytes, d) => bytes.length + uptoBulk d + 1
  | (_, d) => uptoBulk d + 1
 end
def uptoSmall : (H : Type) → List (DataW H) → Bool := fun _ ds => decide (uptoBulkAll ds ≤ 1048576)
def OpenSpec.upto (s : _root_.Go.ChangeSpec) : _root_.Go.OpenSpec := { _root_.Go.OpenSpec.ofChange s with cond := some uptoSmall }

/-- 'routescopelaw17.ScheduleRounds', WHERE WHAT IT READS IS OF BULK AT MOST 1048576: true; the input reads as it did. -/
def scheduleRoundsUptoRow : OpenClaim := { program := "ytgimngpcfenoaaa", sum := "20f078d9d769392afc0915bea74d4668c439669be4b3545311de45c4605a7daf", func := "routescope/routescopelaw17.ScheduleRounds", spec := "scheduleRounds", unfollowed := true, recurses := true, apart := false, narrowed := true }
def ScheduleRoundsUptoSaid : Prop := scheduleRoundsUptoRow.holds Try.pinned (OpenSpec.upto scheduleRoundsSpec)

/-- 'routescopelaw17.ScheduleParts', WHERE WHAT IT READS IS OF BULK AT MOST 1048576: true; the input reads as it did. -/
def schedulePartsUptoRow : OpenClaim := { program := "ytgimngpcfenoaaa", sum := "20f078d9d769392afc0915bea74d4668c439669be4b3545311de45c4605a7daf", func := "routescope/routescopelaw17.ScheduleParts", spec := "scheduleParts", unfollowed := true, recurses := true, apart := false, narrowed := true }
def SchedulePartsUptoSaid : Prop := schedulePartsUptoRow.holds Try.pinned (OpenSpec.upto schedulePartsSpec)

end Rows
end Go.Proofs.Ytgimngpcfenoaaa
