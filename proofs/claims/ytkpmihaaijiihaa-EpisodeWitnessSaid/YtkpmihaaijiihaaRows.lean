/-
  No cell of these rows narrows 'for every input' (looked for: loops, veiled, ifaces, maps, wideKeys, modest, calm, conditions, laid).
  DERIVED. THE GIVEN ROWS OF THIS SEAT. 4 by the template 'for every input the law returns true; each argument reads behind the call as it read before'; 0 by the template 'total and deterministic' (their statements: YtkpmihaaijiihaaTotals.lean).
  GIVEN WITH THE SEED: the statements are not yours to turn. If you find one false, say at which input.
  Laid BY PROGRAM, IN A SANDBOX (cutbox-rows.mjs): the forced cells as the released guide's own fill.sh prints them over the translation 0f1137207417c306… (all of the seat's roots in one cut). By AI agents, Wed Nov 11 2026. No macro, syntax, notation, axiom, sorry.
-/
import Derived.Test.YtkpmihaaijiihaaChecked
import GoSem.Claim
import GoSem.ClaimJoined
import GoSem.ClaimMapViews
import Derived.JoinedTies
import Derived.KernelRfl
namespace Go.Proofs.Ytkpmihaaijiihaa
/- THE CELL 'sum', in the pinned program and in every row, IS THE sha256 OF THE DUMP (.gsa) THAT YtkpmihaaijiihaaProg.lean LOADS. Nothing in Lean hashes anything: it is a label: what it is worth is what the hold of that sum in a sandbox is worth. -/
noncomputable def Try.pinned : Pinned := { name := "ytkpmihaaijiihaa", sum := "0f1137207417c306794ad05b3bfce3980c7f2e512404c0d819352209ecd379fb", checked := Try.checked }
namespace Rows
def none {H : Type} : Left H := { results := [], args := [] }

/-- 'routescopelaw26.EpisodeWitness': WHATEVER THE INPUT: true; the input reads as it did. -/
def episodeWitnessSpec : ChangeSpec := { name := "episodeWitness", fn := fun _ => fun
  | [d] => { results := [.lit (.bool true)], args := [d] }
  | _ => none }
def episodeWitnessRow : OpenClaim := { program := "ytkpmihaaijiihaa", sum := "0f1137207417c306794ad05b3bfce3980c7f2e512404c0d819352209ecd379fb", func := "routescope/routescopelaw26.EpisodeWitness", spec := "episodeWitness", unfollowed := true, recurses := true, plainKeys := false, apart := false }
def EpisodeWitnessSaid : Prop := episodeWitnessRow.holds Try.pinned (OpenSpec.ofChange episodeWitnessSpec)

/-- ITS FALSE NEIGHBOUR: 'it returns false'. Refute it at one input. -/
def episodeWitnessWrong : ChangeSpec := { name := "episodeWitness", fn := fun _ => fun
  | [d] => { results := [.lit (.bool false)], args := [d] }
  | _ => none }
def EpisodeWitnessWrongFalsely : Prop := episodeWitnessRow.holds Try.pinned (OpenSpec.ofChange episodeWitnessWrong)

/-- 'routescopelaw26.EpisodeFewest': WHATEVER THE INPUT: true; the input reads as it did. -/
def episodeFewestSpec : ChangeSpec := { name := "episodeFewest", fn := fun _ => fun
  | [d] => { results := [.lit (.bool true)], args := [d] }
  | _ => none }
def episodeFewestRow : OpenClaim := { program := "ytkpmihaaijiihaa", sum := "0f1137207417c306794ad05b3bfce3980c7f2e512404c0d819352209ecd379fb", func := "routescope/routescopelaw26.EpisodeFewest", spec := "episodeFewest", unfollowed := true, recurses := true, plainKeys := false, apart := false }
def EpisodeFewestSaid : Prop := episodeFewestRow.holds Try.pinned (OpenSpec.ofChange episodeFewestSpec)

/-- ITS FALSE NEIGHBOUR: 'it returns false'. Refute it at one input. -/
def episodeFewestWrong : ChangeSpec := { name := "episodeFewest", fn := fun _ => fun
  | [d] => { results := [.lit (.bool false)], args := [d] }
  | _ => none }
def EpisodeFewestWrongFalsely : Prop := episodeFewestRow.holds Try.pinned (OpenSpec.ofChange episodeFewestWrong)

/-- 'routescopelaw26.EpisodeChanges': WHATEVER THE INPUT: true; the input reads as it did. -/
def episodeChangesSpec : ChangeSpec := { name := "episodeChanges", fn := fun _ => fun
  | [d1, d2] => { results := [.lit (.bool true)], args := [d1, d2] }
  | _ => none }
def episodeChangesRow : OpenClaim := { program := "ytkpmihaaijiihaa", sum := "0f1137207417c306794ad05b3bfce3980c7f2e512404c0d819352209ecd379fb", func := "routescope/routescopelaw26.EpisodeChanges", spec := "episodeChanges", unfollowed := true, recurses := true, plainKeys := false, apart := false }
def EpisodeChangesSaid : Prop := episodeChangesRow.holds Try.pinned (OpenSpec.ofChange episodeChangesSpec)

/-- ITS FALSE NEIGHBOUR: 'it returns false'. Refute it at one input. -/
def episodeChangesWrong : ChangeSpec := { name := "episodeChanges", fn := fun _ => fun
  | [d1, d2] => { results := [.lit (.bool false)], args := [d1, d2] }
  | _ => none }
def EpisodeChangesWrongFalsely : Prop := episodeChangesRow.holds Try.pinned (OpenSpec.ofChange episodeChangesWrong)

/-- 'routescopelaw26.EpisodeWhole': WHATEVER THE INPUT: true; the input reads as it did. -/
def episodeWholeSpec : ChangeSpec := { name := "episodeWhole", fn := fun _ => fun
  | [d] => { results := [.lit (.bool true)], args := [d] }
  | _ => none }
def episodeWholeRow : OpenClaim := { program := "ytkpmihaaijiihaa", sum := "0f1137207417c306794ad05b3bfce3980c7f2e512404c0d819352209ecd379fb", func := "routescope/routescopelaw26.EpisodeWhole", spec := "episodeWhole", unfollowed := true, recurses := true, plainKeys := false, apart := false }
def EpisodeWholeSaid : Prop := episodeWholeRow.holds Try.pinned (OpenSpec.ofChange episodeWholeSpec)

/-- ITS FALSE NEIGHBOUR: 'it returns false'. Refute it at one input. -/
def episodeWholeWrong : ChangeSpec := { name := "episodeWhole", fn := fun _ => fun
  | [d] => { results := [.lit (.bool false)], args := [d] }
  | _ => none }
def EpisodeWholeWrongFalsely : Prop := episodeWholeRow.holds Try.pinned (OpenSpec.ofChange episodeWholeWrong)

/- THE SECOND FORM. 'bulk': how many values and letters a reading holds, each counted each time it is reached (what is shared counts as often as it is met; a slice's spare places count too). A statement '..UptoSaid' is the law's where the arguments, and the package variables that the reading takes, are together of bulk at most 1048576: NARROWER than '..Said'. Prove '..Said' where nothing that the law and all that it calls make is longer than what came in: it says more and counts as full. Else prove '..UptoSaid'. A law counts once. -/
mutual
def uptoBulk {H : Type} : DataW H → Nat
  | .lit (.string bytes) => bytes.length + 1
  | .lit _ => 1
  | .nil => 1
  | .ptr d => uptoBulk d + 1
  | .slice elems spare => uptoBulkAll elems + uptoBulkAll spare + 1
  | .agg parts => uptoBulkAll parts + 1
  | .iface _ d => uptoBulk d + 1
  | .map entries => uptoBulkEntries entries + 1
  | .held _ => 1
def uptoBulkAll {H : Type} : List (DataW H) → Nat
  | [] => 0
  | d :: r => uptoBulk d + uptoBulkAll r
def uptoBulkEntries {H : Type} : List (Lit × DataW H) → Nat
  | [] => 0
  | x :: r => uptoBulkEntry x + uptoBulkEntries r
def uptoBulkEntry {H : Type} : Lit × DataW H → Nat
  | (.string bytes, d) => bytes.length + uptoBulk d + 1
  | (_, d) => uptoBulk d + 1
 end
def uptoSmall : (H : Type) → List (DataW H) → Bool := fun _ ds => decide (uptoBulkAll ds ≤ 1048576)
def OpenSpec.upto (s : _root_.Go.ChangeSpec) : _root_.Go.OpenSpec := { _root_.Go.OpenSpec.ofChange s with cond := some uptoSmall }

/-- 'routescopelaw26.EpisodeWitness', WHERE WHAT IT READS IS OF BULK AT MOST 1048576: true; the input reads as it did. -/
def episodeWitnessUptoRow : OpenClaim := { program := "ytkpmihaaijiihaa", sum := "0f1137207417c306794ad05b3bfce3980c7f2e512404c0d819352209ecd379fb", func := "routescope/routescopelaw26.EpisodeWitness", spec := "episodeWitness", unfollowed := true, recurses := true, plainKeys := false, apart := false, narrowed := true }
def EpisodeWitnessUptoSaid : Prop := episodeWitnessUptoRow.holds Try.pinned (OpenSpec.upto episodeWitnessSpec)

/-- 'routescopelaw26.EpisodeFewest', WHERE WHAT IT READS IS OF BULK AT MOST 1048576: true; the input reads as it did. -/
def episodeFewestUptoRow : OpenClaim := { program := "ytkpmihaaijiihaa", sum := "0f1137207417c306794ad05b3bfce3980c7f2e512404c0d819352209ecd379fb", func := "routescope/routescopelaw26.EpisodeFewest", spec := "episodeFewest", unfollowed := true, recurses := true, plainKeys := false, apart := false, narrowed := true }
def EpisodeFewestUptoSaid : Prop := episodeFewestUptoRow.holds Try.pinned (OpenSpec.upto episodeFewestSpec)

/-- 'routescopelaw26.EpisodeChanges', WHERE WHAT IT READS IS OF BULK AT MOST 1048576: true; the input reads as it did. -/
def episodeChangesUptoRow : OpenClaim := { program := "ytkpmihaaijiihaa", sum := "0f1137207417c306794ad05b3bfce3980c7f2e512404c0d819352209ecd379fb", func := "routescope/routescopelaw26.EpisodeChanges", spec := "episodeChanges", unfollowed := true, recurses := true, plainKeys := false, apart := false, narrowed := true }
def EpisodeChangesUptoSaid : Prop := episodeChangesUptoRow.holds Try.pinned (OpenSpec.upto episodeChangesSpec)

/-- 'routescopelaw26.EpisodeWhole', WHERE WHAT IT READS IS OF BULK AT MOST 1048576: true; the input reads as it did. -/
def episodeWholeUptoRow : OpenClaim := { program := "ytkpmihaaijiihaa", sum := "0f1137207417c306794ad05b3bfce3980c7f2e512404c0d819352209ecd379fb", func := "routescope/routescopelaw26.EpisodeWhole", spec := "episodeWhole", unfollowed := true, recurses := true, plainKeys := false, apart := false, narrowed := true }
def EpisodeWholeUptoSaid : Prop := episodeWholeUptoRow.holds Try.pinned (OpenSpec.upto episodeWholeSpec)

end Rows
end Go.Proofs.Ytkpmihaaijiihaa
