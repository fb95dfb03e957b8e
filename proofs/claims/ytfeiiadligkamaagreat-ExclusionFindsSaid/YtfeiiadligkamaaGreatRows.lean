/-
  No cell of these rows narrows 'for every input' (looked for: loops, veiled, ifaces, maps, wideKeys, modest, calm, conditions, laid).
  DERIVED. THE GIVEN ROWS OF THIS SEAT. 4 by the template 'for every input the law returns true; each argument reads behind the call as it read before'; 0 by the template 'total and deterministic' (their statements: YtfeiiadligkamaaGreatTotals.lean).
  GIVEN WITH THE SEED: the statements are not yours to turn. If you find one false, say at which input.
  Laid BY PROGRAM, IN A SANDBOX (cutbox-rows.mjs): the forced cells as the released guide's own fill.sh prints them over the translation 7767d22c35e50634… (all of the seat's roots in one cut). By AI agents, Wed Nov 11 2026. No macro, syntax, notation, axiom, sorry.
-/
import Derived.Test.YtfeiiadligkamaaGreatChecked
import GoSem.Claim
import GoSem.ClaimJoined
import GoSem.ClaimMapViews
import Derived.JoinedTies
import Derived.KernelRfl
namespace Go.Proofs.YtfeiiadligkamaaGreat
/- THE CELL 'sum', in the pinned program and in every row, IS THE sha256 OF THE DUMP (.gsa) THAT YtfeiiadligkamaaGreatProg.lean LOADS. Nothing in Lean hashes anything: it is a label: what it is worth is what the hold of that sum in a sandbox is worth. -/
noncomputable def Tryz.pinned : Pinned := { name := "ytfeiiadligkamaagreat", sum := "7767d22c35e506344f5906dfd9d0df99c58089d6d51461aa9fad6ebe0af7253d", checked := Tryz.checked }
namespace Rows
def none {H : Type} : Left H := { results := [], args := [] }

/-- 'routescopelaw29.ExclusionFinds': WHATEVER THE INPUT: true; the input reads as it did. -/
def exclusionFindsSpec : ChangeSpec := { name := "exclusionFinds", fn := fun _ => fun
  | [d1, d2, d3, d4, d5] => { results := [.lit (.bool true)], args := [d1, d2, d3, d4, d5] }
  | _ => none }
def exclusionFindsRow : OpenClaim := { program := "ytfeiiadligkamaagreat", sum := "7767d22c35e506344f5906dfd9d0df99c58089d6d51461aa9fad6ebe0af7253d", func := "routescope/routescopelaw29.ExclusionFinds", spec := "exclusionFinds", unfollowed := true, recurses := true, plainKeys := false, apart := false }
def ExclusionFindsSaid : Prop := exclusionFindsRow.holds Tryz.pinned (OpenSpec.ofChange exclusionFindsSpec)

/-- ITS FALSE NEIGHBOUR: 'it returns false'. Refute it at one input. -/
def exclusionFindsWrong : ChangeSpec := { name := "exclusionFinds", fn := fun _ => fun
  | [d1, d2, d3, d4, d5] => { results := [.lit (.bool false)], args := [d1, d2, d3, d4, d5] }
  | _ => none }
def ExclusionFindsWrongFalsely : Prop := exclusionFindsRow.holds Tryz.pinned (OpenSpec.ofChange exclusionFindsWrong)

/-- 'routescopelaw29.ExclusionHolds': WHATEVER THE INPUT: true; the input reads as it did. -/
def exclusionHoldsSpec : ChangeSpec := { name := "exclusionHolds", fn := fun _ => fun
  | [d] => { results := [.lit (.bool true)], args := [d] }
  | _ => none }
def exclusionHoldsRow : OpenClaim := { program := "ytfeiiadligkamaagreat", sum := "7767d22c35e506344f5906dfd9d0df99c58089d6d51461aa9fad6ebe0af7253d", func := "routescope/routescopelaw29.ExclusionHolds", spec := "exclusionHolds", unfollowed := true, recurses := true, plainKeys := false, apart := false }
def ExclusionHoldsSaid : Prop := exclusionHoldsRow.holds Tryz.pinned (OpenSpec.ofChange exclusionHoldsSpec)

/-- ITS FALSE NEIGHBOUR: 'it returns false'. Refute it at one input. -/
def exclusionHoldsWrong : ChangeSpec := { name := "exclusionHolds", fn := fun _ => fun
  | [d] => { results := [.lit (.bool false)], args := [d] }
  | _ => none }
def ExclusionHoldsWrongFalsely : Prop := exclusionHoldsRow.holds Tryz.pinned (OpenSpec.ofChange exclusionHoldsWrong)

/-- 'routescopelaw29.ExclusionPaths': WHATEVER THE INPUT: true; the input reads as it did. -/
def exclusionPathsSpec : ChangeSpec := { name := "exclusionPaths", fn := fun _ => fun
  | [d] => { results := [.lit (.bool true)], args := [d] }
  | _ => none }
def exclusionPathsRow : OpenClaim := { program := "ytfeiiadligkamaagreat", sum := "7767d22c35e506344f5906dfd9d0df99c58089d6d51461aa9fad6ebe0af7253d", func := "routescope/routescopelaw29.ExclusionPaths", spec := "exclusionPaths", unfollowed := true, recurses := true, plainKeys := false, apart := false }
def ExclusionPathsSaid : Prop := exclusionPathsRow.holds Tryz.pinned (OpenSpec.ofChange exclusionPathsSpec)

/-- ITS FALSE NEIGHBOUR: 'it returns false'. Refute it at one input. -/
def exclusionPathsWrong : ChangeSpec := { name := "exclusionPaths", fn := fun _ => fun
  | [d] => { results := [.lit (.bool false)], args := [d] }
  | _ => none }
def ExclusionPathsWrongFalsely : Prop := exclusionPathsRow.holds Tryz.pinned (OpenSpec.ofChange exclusionPathsWrong)

/-- 'routescopelaw29.ExclusionTruth': WHATEVER THE INPUT: true; the input reads as it did. -/
def exclusionTruthSpec : ChangeSpec := { name := "exclusionTruth", fn := fun _ => fun
  | [d] => { results := [.lit (.bool true)], args := [d] }
  | _ => none }
def exclusionTruthRow : OpenClaim := { program := "ytfeiiadligkamaagreat", sum := "7767d22c35e506344f5906dfd9d0df99c58089d6d51461aa9fad6ebe0af7253d", func := "routescope/routescopelaw29.ExclusionTruth", spec := "exclusionTruth", unfollowed := true, recurses := true, plainKeys := false, apart := false }
def ExclusionTruthSaid : Prop := exclusionTruthRow.holds Tryz.pinned (OpenSpec.ofChange exclusionTruthSpec)

/-- ITS FALSE NEIGHBOUR: 'it returns false'. Refute it at one input. -/
def exclusionTruthWrong : ChangeSpec := { name := "exclusionTruth", fn := fun _ => fun
  | [d] => { results := [.lit (.bool false)], args := [d] }
  | _ => none }
def ExclusionTruthWrongFalsely : Prop := exclusionTruthRow.holds Tryz.pinned (OpenSpec.ofChange exclusionTruthWrong)

/- THE SECOND FORM. 'bulk': how many values and letters a reading holds, each counted each time it is reached (what is shared counts as often as it is met; a slice's spare places count too). A statement '..UptoSaid' is the law's where the arguments, and the package variables that the reading takes, are together of bulk at most 1048576: NARROWER than '..Said'. Prove '..Said' where nothing that the law and all that it calls make is longer than what came in: it says more and counts as full. Else prove '..UptoSaid'. A law counts once. -/
mutual
def uptoBulk {H : Type} : DataW H → Nat
  | .lit (.string bytes) => bytes.length + 1
  | .lit _ => 1
  | .nil => 1
  | .ptr d => uptoBulk d + 1
  | .slice elems spare => uptoBulkAll elems + uptoBulkAll spare + 1
  | .agg parts => uptoBulkAll parts + 1
  | .iface _ d => uptoBulk d + 1
  | .map entries => uptoBulkEntries entries + 1
  | .held _ => 1
def uptoBulkAll {H : Type} : List (DataW H) → Nat
  | [] => 0
  | d :: r => uptoBulk d + uptoBulkAll r
def uptoBulkEntries {H : Type} : List (Lit × DataW H) → Nat
  | [] => 0
  | x :: r => uptoBulkEntry x + uptoBulkEntries r
def uptoBulkEntry {H : Type} : Lit × DataW H → Nat
  | (.string bytes, d) => bytes.length + uptoBulk d + 1
  | (_, d) => uptoBulk d + 1
 end
def uptoSmall : (H : Type) → List (DataW H) → Bool := fun _ ds => decide (uptoBulkAll ds ≤ 1048576)
def OpenSpec.upto (s : _root_.Go.ChangeSpec) : _root_.Go.OpenSpec := { _root_.Go.OpenSpec.ofChange s with cond := some uptoSmall }

/-- 'routescopelaw29.ExclusionFinds', WHERE WHAT IT READS IS OF BULK AT MOST 1048576: true; the input reads as it did. -/
def exclusionFindsUptoRow : OpenClaim := { program := "ytfeiiadligkamaagreat", sum := "7767d22c35e506344f5906dfd9d0df99c58089d6d51461aa9fad6ebe0af7253d", func := "routescope/routescopelaw29.ExclusionFinds", spec := "exclusionFinds", unfollowed := true, recurses := true, plainKeys := false, apart := false, narrowed := true }
def ExclusionFindsUptoSaid : Prop := exclusionFindsUptoRow.holds Tryz.pinned (OpenSpec.upto exclusionFindsSpec)

/-- 'routescopelaw29.ExclusionHolds', WHERE WHAT IT READS IS OF BULK AT MOST 1048576: true; the input reads as it did. -/
def exclusionHoldsUptoRow : OpenClaim := { program := "ytfeiiadligkamaagreat", sum := "7767d22c35e506344f5906dfd9d0df99c58089d6d51461aa9fad6ebe0af7253d", func := "routescope/routescopelaw29.ExclusionHolds", spec := "exclusionHolds", unfollowed := true, recurses := true, plainKeys := false, apart := false, narrowed := true }
def ExclusionHoldsUptoSaid : Prop := exclusionHoldsUptoRow.holds Tryz.pinned (OpenSpec.upto exclusionHoldsSpec)

/-- 'routescopelaw29.ExclusionPaths', WHERE WHAT IT READS IS OF BULK AT MOST 1048576: true; the input reads as it did. -/
def exclusionPathsUptoRow : OpenClaim := { program := "ytfeiiadligkamaagreat", sum := "7767d22c35e506344f5906dfd9d0df99c58089d6d51461aa9fad6ebe0af7253d", func := "routescope/routescopelaw29.ExclusionPaths", spec := "exclusionPaths", unfollowed := true, recurses := true, plainKeys := false, apart := false, narrowed := true }
def ExclusionPathsUptoSaid : Prop := exclusionPathsUptoRow.holds Tryz.pinned (OpenSpec.upto exclusionPathsSpec)

/-- 'routescopelaw29.ExclusionTruth', WHERE WHAT IT READS IS OF BULK AT MOST 1048576: true; the input reads as it did. -/
def exclusionTruthUptoRow : OpenClaim := { program := "ytfeiiadligkamaagreat", sum := "7767d22c35e506344f5906dfd9d0df99c58089d6d51461aa9fad6ebe0af7253d", func := "routescope/routescopelaw29.ExclusionTruth", spec := "exclusionTruth", unfollowed := true, recurses := true, plainKeys := false, apart := false, narrowed := true }
def ExclusionTruthUptoSaid : Prop := exclusionTruthUptoRow.holds Tryz.pinned (OpenSpec.upto exclusionTruthSpec)

end Rows
end Go.Proofs.YtfeiiadligkamaaGreat
