/-
  No cell of these rows narrows 'for every input' (looked for: loops, veiled, ifaces, maps, wideKeys, modest, calm, conditions, laid).
  DERIVED. THE GIVEN ROWS OF THIS SEAT. 5 by the template 'for every input the law returns true; each argument reads behind the call as it read before'; 0 by the template 'total and deterministic' (their statements: YtchpegjadoodnaaTotals.lean).
  GIVEN WITH THE SEED: the statements are not yours to turn. If you find one false, say at which input.
  Laid BY PROGRAM, IN A SANDBOX (cutbox-rows.mjs): the forced cells as the released guide's own fill.sh prints them over the translation baa37c6bff6c43b6… (all of the seat's roots in one cut). By AI agents, Wed Nov 11 2026. No macro, syntax, notation, axiom, sorry.
-/
import Derived.Test.YtchpegjadoodnaaChecked
import GoSem.Claim
import GoSem.ClaimJoined
import GoSem.ClaimMapViews
import Derived.JoinedTies
import Derived.KernelRfl
namespace Go.Proofs.Ytchpegjadoodnaa
/- THE CELL 'sum', in the pinned program and in every row, IS THE sha256 OF THE DUMP (.gsa) THAT YtchpegjadoodnaaProg.lean LOADS. Nothing in Lean hashes anything: it is a label: what it is worth is what the hold of that sum in a sandbox is worth. -/
noncomputable def Try.pinned : Pinned := { name := "ytchpegjadoodnaa", sum := "baa37c6bff6c43b69b09700106ca6ddfb0eb0f53abf4eae556982562c55e0b2f", checked := Try.checked }
namespace Rows
def none {H : Type} : Left H := { results := [], args := [] }

/-- 'routescopelaw27.SharingExact': WHATEVER THE INPUT: true; the input reads as it did. -/
def sharingExactSpec : ChangeSpec := { name := "sharingExact", fn := fun _ => fun
  | [d] => { results := [.lit (.bool true)], args := [d] }
  | _ => none }
def sharingExactRow : OpenClaim := { program := "ytchpegjadoodnaa", sum := "baa37c6bff6c43b69b09700106ca6ddfb0eb0f53abf4eae556982562c55e0b2f", func := "routescope/routescopelaw27.SharingExact", spec := "sharingExact", recurses := true, apart := false }
def SharingExactSaid : Prop := sharingExactRow.holds Try.pinned (OpenSpec.ofChange sharingExactSpec)

/-- ITS FALSE NEIGHBOUR: 'it returns false'. Refute it at one input. -/
def sharingExactWrong : ChangeSpec := { name := "sharingExact", fn := fun _ => fun
  | [d] => { results := [.lit (.bool false)], args := [d] }
  | _ => none }
def SharingExactWrongFalsely : Prop := sharingExactRow.holds Try.pinned (OpenSpec.ofChange sharingExactWrong)

/-- 'routescopelaw27.SharingTruth': WHATEVER THE INPUT: true; the input reads as it did. -/
def sharingTruthSpec : ChangeSpec := { name := "sharingTruth", fn := fun _ => fun
  | [d1, d2, d3] => { results := [.lit (.bool true)], args := [d1, d2, d3] }
  | _ => none }
def sharingTruthRow : OpenClaim := { program := "ytchpegjadoodnaa", sum := "baa37c6bff6c43b69b09700106ca6ddfb0eb0f53abf4eae556982562c55e0b2f", func := "routescope/routescopelaw27.SharingTruth", spec := "sharingTruth", unfollowed := true, recurses := true, apart := false }
def SharingTruthSaid : Prop := sharingTruthRow.holds Try.pinned (OpenSpec.ofChange sharingTruthSpec)

/-- ITS FALSE NEIGHBOUR: 'it returns false'. Refute it at one input. -/
def sharingTruthWrong : ChangeSpec := { name := "sharingTruth", fn := fun _ => fun
  | [d1, d2, d3] => { results := [.lit (.bool false)], args := [d1, d2, d3] }
  | _ => none }
def SharingTruthWrongFalsely : Prop := sharingTruthRow.holds Try.pinned (OpenSpec.ofChange sharingTruthWrong)

/-- 'routescopelaw27.SharingGrows': WHATEVER THE INPUT: true; the input reads as it did. -/
def sharingGrowsSpec : ChangeSpec := { name := "sharingGrows", fn := fun _ => fun
  | [d1, d2] => { results := [.lit (.bool true)], args := [d1, d2] }
  | _ => none }
def sharingGrowsRow : OpenClaim := { program := "ytchpegjadoodnaa", sum := "baa37c6bff6c43b69b09700106ca6ddfb0eb0f53abf4eae556982562c55e0b2f", func := "routescope/routescopelaw27.SharingGrows", spec := "sharingGrows", unfollowed := true, recurses := true, apart := false }
def SharingGrowsSaid : Prop := sharingGrowsRow.holds Try.pinned (OpenSpec.ofChange sharingGrowsSpec)

/-- ITS FALSE NEIGHBOUR: 'it returns false'. Refute it at one input. -/
def sharingGrowsWrong : ChangeSpec := { name := "sharingGrows", fn := fun _ => fun
  | [d1, d2] => { results := [.lit (.bool false)], args := [d1, d2] }
  | _ => none }
def SharingGrowsWrongFalsely : Prop := sharingGrowsRow.holds Try.pinned (OpenSpec.ofChange sharingGrowsWrong)

/-- 'routescopelaw27.SharingSteps': WHATEVER THE INPUT: true; the input reads as it did. -/
def sharingStepsSpec : ChangeSpec := { name := "sharingSteps", fn := fun _ => fun
  | [d1, d2, d3, d4, d5] => { results := [.lit (.bool true)], args := [d1, d2, d3, d4, d5] }
  | _ => none }
def sharingStepsRow : OpenClaim := { program := "ytchpegjadoodnaa", sum := "baa37c6bff6c43b69b09700106ca6ddfb0eb0f53abf4eae556982562c55e0b2f", func := "routescope/routescopelaw27.SharingSteps", spec := "sharingSteps", unfollowed := true, recurses := true, apart := false }
def SharingStepsSaid : Prop := sharingStepsRow.holds Try.pinned (OpenSpec.ofChange sharingStepsSpec)

/-- ITS FALSE NEIGHBOUR: 'it returns false'. Refute it at one input. -/
def sharingStepsWrong : ChangeSpec := { name := "sharingSteps", fn := fun _ => fun
  | [d1, d2, d3, d4, d5] => { results := [.lit (.bool false)], args := [d1, d2, d3, d4, d5] }
  | _ => none }
def SharingStepsWrongFalsely : Prop := sharingStepsRow.holds Try.pinned (OpenSpec.ofChange sharingStepsWrong)

/-- 'routescopelaw27.SharingMerges': WHATEVER THE INPUT: true; the input reads as it did. -/
def sharingMergesSpec : ChangeSpec := { name := "sharingMerges", fn := fun _ => fun
  | [d] => { results := [.lit (.bool true)], args := [d] }
  | _ => none }
def sharingMergesRow : OpenClaim := { program := "ytchpegjadoodnaa", sum := "baa37c6bff6c43b69b09700106ca6ddfb0eb0f53abf4eae556982562c55e0b2f", func := "routescope/routescopelaw27.SharingMerges", spec := "sharingMerges", unfollowed := true, recurses := true, apart := false }
def SharingMergesSaid : Prop := sharingMergesRow.holds Try.pinned (OpenSpec.ofChange sharingMergesSpec)

/-- ITS FALSE NEIGHBOUR: 'it returns false'. Refute it at one input. -/
def sharingMergesWrong : ChangeSpec := { name := "sharingMerges", fn := fun _ => fun
  | [d] => { results := [.lit (.bool false)], args := [d] }
  | _ => none }
def SharingMergesWrongFalsely : Prop := sharingMergesRow.holds Try.pinned (OpenSpec.ofChange sharingMergesWrong)

/- THE SECOND FORM. 'bulk': how many values and letters a reading holds, each counted each time it is reached (what is shared counts as often as it is met; a slice's spare places count too). A statement '..UptoSaid' is the law's where the arguments, and the package variables that the reading takes, are together of bulk at most 1048576: NARROWER than '..Said'. Prove '..Said' where nothing that the law and all that it calls make is longer than what came in: it says more and counts as full. Else prove '..UptoSaid'. A law counts once. -/
mutual
def uptoBulk {H : Type} : DataW H → Nat
  | .lit (.string bytes) => bytes.length + 1
  | .lit _ => 1
  | .nil => 1
  | .ptr d => uptoBulk d + 1
  | .slice elems spare => uptoBulkAll elems + uptoBulkAll spare + 1
  | .agg parts => uptoBulkAll parts + 1
  | .iface _ d => uptoBulk d + 1
  | .map entries => uptoBulkEntries entries + 1
  | .held _ => 1
def uptoBulkAll {H : Type} : List (DataW H) → Nat
  | [] => 0
  | d :: r => uptoBulk d + uptoBulkAll r
def uptoBulkEntries {H : Type} : List (Lit × DataW H) → Nat
  | [] => 0
  | x :: r => uptoBulkEntry x + uptoBulkEntries r
def uptoBulkEntry {H : Type} : Lit × DataW H → Nat
  | (.string bytes, d) => bytes.length + uptoBulk d + 1
  | (_, d) => uptoBulk d + 1
 end
def uptoSmall : (H : Type) → List (DataW H) → Bool := fun _ ds => decide (uptoBulkAll ds ≤ 1048576)
def OpenSpec.upto (s : _root_.Go.ChangeSpec) : _root_.Go.OpenSpec := { _root_.Go.OpenSpec.ofChange s with cond := some uptoSmall }

/-- 'routescopelaw27.SharingExact', WHERE WHAT IT READS IS OF BULK AT MOST 1048576: true; the input reads as it did. -/
def sharingExactUptoRow : OpenClaim := { program := "ytchpegjadoodnaa", sum := "baa37c6bff6c43b69b09700106ca6ddfb0eb0f53abf4eae556982562c55e0b2f", func := "routescope/routescopelaw27.SharingExact", spec := "sharingExact", recurses := true, apart := false, narrowed := true }
def SharingExactUptoSaid : Prop := sharingExactUptoRow.holds Try.pinned (OpenSpec.upto sharingExactSpec)

/-- 'routescopelaw27.SharingTruth', WHERE WHAT IT READS IS OF BULK AT MOST 1048576: true; the input reads as it did. -/
def sharingTruthUptoRow : OpenClaim := { program := "ytchpegjadoodnaa", sum := "baa37c6bff6c43b69b09700106ca6ddfb0eb0f53abf4eae556982562c55e0b2f", func := "routescope/routescopelaw27.SharingTruth", spec := "sharingTruth", unfollowed := true, recurses := true, apart := false, narrowed := true }
def SharingTruthUptoSaid : Prop := sharingTruthUptoRow.holds Try.pinned (OpenSpec.upto sharingTruthSpec)

/-- 'routescopelaw27.SharingGrows', WHERE WHAT IT READS IS OF BULK AT MOST 1048576: true; the input reads as it did. -/
def sharingGrowsUptoRow : OpenClaim := { program := "ytchpegjadoodnaa", sum := "baa37c6bff6c43b69b09700106ca6ddfb0eb0f53abf4eae556982562c55e0b2f", func := "routescope/routescopelaw27.SharingGrows", spec := "sharingGrows", unfollowed := true, recurses := true, apart := false, narrowed := true }
def SharingGrowsUptoSaid : Prop := sharingGrowsUptoRow.holds Try.pinned (OpenSpec.upto sharingGrowsSpec)

/-- 'routescopelaw27.SharingSteps', WHERE WHAT IT READS IS OF BULK AT MOST 1048576: true; the input reads as it did. -/
def sharingStepsUptoRow : OpenClaim := { program := "ytchpegjadoodnaa", sum := "baa37c6bff6c43b69b09700106ca6ddfb0eb0f53abf4eae556982562c55e0b2f", func := "routescope/routescopelaw27.SharingSteps", spec := "sharingSteps", unfollowed := true, recurses := true, apart := false, narrowed := true }
def SharingStepsUptoSaid : Prop := sharingStepsUptoRow.holds Try.pinned (OpenSpec.upto sharingStepsSpec)

/-- 'routescopelaw27.SharingMerges', WHERE WHAT IT READS IS OF BULK AT MOST 1048576: true; the input reads as it did. -/
def sharingMergesUptoRow : OpenClaim := { program := "ytchpegjadoodnaa", sum := "baa37c6bff6c43b69b09700106ca6ddfb0eb0f53abf4eae556982562c55e0b2f", func := "routescope/routescopelaw27.SharingMerges", spec := "sharingMerges", unfollowed := true, recurses := true, apart := false, narrowed := true }
def SharingMergesUptoSaid : Prop := sharingMergesUptoRow.holds Try.pinned (OpenSpec.upto sharingMergesSpec)

end Rows
end Go.Proofs.Ytchpegjadoodnaa
