/-
  No cell of these rows narrows 'for every input' (looked for: loops, veiled, ifaces, maps, wideKeys, modest, calm, conditions, laid).
  DERIVED. THE GIVEN ROWS OF THIS SEAT. 5 by the template 'for every input the law returns true; each argument reads behind the call as it read before'; 0 by the template 'total and deterministic' (their statements: YtagmohpafjncfaaTotals.lean).
  GIVEN WITH THE SEED: the statements are not yours to turn. If you find one false, say at which input.
  Laid BY PROGRAM, IN A SANDBOX (cutbox-rows.mjs): the forced cells as the released guide's own fill.sh prints them over the translation 2872334f074bd237… (all of the seat's roots in one cut). By AI agents, Wed Nov 11 2026. No macro, syntax, notation, axiom, sorry.
-/
import Derived.Test.YtagmohpafjncfaaChecked
import GoSem.Claim
import GoSem.ClaimJoined
import GoSem.ClaimMapViews
import Derived.JoinedTies
import Derived.KernelRfl
namespace Go.Proofs.Ytagmohpafjncfaa
/- THE CELL 'sum', in the pinned program and in every row, IS THE sha256 OF THE DUMP (.gsa) THAT YtagmohpafjncfaaProg.lean LOADS. Nothing in Lean hashes anything: it is a label: what it is worth is what the hold of that sum in a sandbox is worth. -/
noncomputable def Try.pinned : Pinned := { name := "ytagmohpafjncfaa", sum := "2872334f074bd237c041f7c0c97e32ac6011ec6219d9f09e2cf8cb6311d50e0f", checked := Try.checked }
namespace Rows
def none {H : Type} : Left H := { results := [], args := [] }

/-- 'routescopelaw23.StoppingNeeded': WHATEVER THE INPUT: true; the input reads as it did. -/
def stoppingNeededSpec : ChangeSpec := { name := "stoppingNeeded", fn := fun _ => fun
  | [d] => { results := [.lit (.bool true)], args := [d] }
  | _ => none }
def stoppingNeededRow : OpenClaim := { program := "ytagmohpafjncfaa", sum := "2872334f074bd237c041f7c0c97e32ac6011ec6219d9f09e2cf8cb6311d50e0f", func := "routescope/routescopelaw23.StoppingNeeded", spec := "stoppingNeeded", recurses := true, apart := false }
def StoppingNeededSaid : Prop := stoppingNeededRow.holds Try.pinned (OpenSpec.ofChange stoppingNeededSpec)

/-- ITS FALSE NEIGHBOUR: 'it returns false'. Refute it at one input. -/
def stoppingNeededWrong : ChangeSpec := { name := "stoppingNeeded", fn := fun _ => fun
  | [d] => { results := [.lit (.bool false)], args := [d] }
  | _ => none }
def StoppingNeededWrongFalsely : Prop := stoppingNeededRow.holds Try.pinned (OpenSpec.ofChange stoppingNeededWrong)

/-- 'routescopelaw23.StoppingCounts': WHATEVER THE INPUT: true; the input reads as it did. -/
def stoppingCountsSpec : ChangeSpec := { name := "stoppingCounts", fn := fun _ => fun
  | [d1, d2] => { results := [.lit (.bool true)], args := [d1, d2] }
  | _ => none }
def stoppingCountsRow : OpenClaim := { program := "ytagmohpafjncfaa", sum := "2872334f074bd237c041f7c0c97e32ac6011ec6219d9f09e2cf8cb6311d50e0f", func := "routescope/routescopelaw23.StoppingCounts", spec := "stoppingCounts", recurses := true, apart := false }
def StoppingCountsSaid : Prop := stoppingCountsRow.holds Try.pinned (OpenSpec.ofChange stoppingCountsSpec)

/-- ITS FALSE NEIGHBOUR: 'it returns false'. Refute it at one input. -/
def stoppingCountsWrong : ChangeSpec := { name := "stoppingCounts", fn := fun _ => fun
  | [d1, d2] => { results := [.lit (.bool false)], args := [d1, d2] }
  | _ => none }
def StoppingCountsWrongFalsely : Prop := stoppingCountsRow.holds Try.pinned (OpenSpec.ofChange stoppingCountsWrong)

/-- 'routescopelaw23.StoppingExact': WHATEVER THE INPUT: true; the input reads as it did. -/
def stoppingExactSpec : ChangeSpec := { name := "stoppingExact", fn := fun _ => fun
  | [d1, d2, d3] => { results := [.lit (.bool true)], args := [d1, d2, d3] }
  | _ => none }
def stoppingExactRow : OpenClaim := { program := "ytagmohpafjncfaa", sum := "2872334f074bd237c041f7c0c97e32ac6011ec6219d9f09e2cf8cb6311d50e0f", func := "routescope/routescopelaw23.StoppingExact", spec := "stoppingExact", unfollowed := true, recurses := true, apart := false }
def StoppingExactSaid : Prop := stoppingExactRow.holds Try.pinned (OpenSpec.ofChange stoppingExactSpec)

/-- ITS FALSE NEIGHBOUR: 'it returns false'. Refute it at one input. -/
def stoppingExactWrong : ChangeSpec := { name := "stoppingExact", fn := fun _ => fun
  | [d1, d2, d3] => { results := [.lit (.bool false)], args := [d1, d2, d3] }
  | _ => none }
def StoppingExactWrongFalsely : Prop := stoppingExactRow.holds Try.pinned (OpenSpec.ofChange stoppingExactWrong)

/-- 'routescopelaw23.StoppingFails': WHATEVER THE INPUT: true; the input reads as it did. -/
def stoppingFailsSpec : ChangeSpec := { name := "stoppingFails", fn := fun _ => fun
  | [d] => { results := [.lit (.bool true)], args := [d] }
  | _ => none }
def stoppingFailsRow : OpenClaim := { program := "ytagmohpafjncfaa", sum := "2872334f074bd237c041f7c0c97e32ac6011ec6219d9f09e2cf8cb6311d50e0f", func := "routescope/routescopelaw23.StoppingFails", spec := "stoppingFails", unfollowed := true, recurses := true, apart := false }
def StoppingFailsSaid : Prop := stoppingFailsRow.holds Try.pinned (OpenSpec.ofChange stoppingFailsSpec)

/-- ITS FALSE NEIGHBOUR: 'it returns false'. Refute it at one input. -/
def stoppingFailsWrong : ChangeSpec := { name := "stoppingFails", fn := fun _ => fun
  | [d] => { results := [.lit (.bool false)], args := [d] }
  | _ => none }
def StoppingFailsWrongFalsely : Prop := stoppingFailsRow.holds Try.pinned (OpenSpec.ofChange stoppingFailsWrong)

/-- 'routescopelaw23.StoppingFalls': WHATEVER THE INPUT: true; the input reads as it did. -/
def stoppingFallsSpec : ChangeSpec := { name := "stoppingFalls", fn := fun _ => fun
  | [d1, d2, d3] => { results := [.lit (.bool true)], args := [d1, d2, d3] }
  | _ => none }
def stoppingFallsRow : OpenClaim := { program := "ytagmohpafjncfaa", sum := "2872334f074bd237c041f7c0c97e32ac6011ec6219d9f09e2cf8cb6311d50e0f", func := "routescope/routescopelaw23.StoppingFalls", spec := "stoppingFalls", unfollowed := true, recurses := true, apart := false }
def StoppingFallsSaid : Prop := stoppingFallsRow.holds Try.pinned (OpenSpec.ofChange stoppingFallsSpec)

/-- ITS FALSE NEIGHBOUR: 'it returns false'. Refute it at one input. -/
def stoppingFallsWrong : ChangeSpec := { name := "stoppingFalls", fn := fun _ => fun
  | [d1, d2, d3] => { results := [.lit (.bool false)], args := [d1, d2, d3] }
  | _ => none }
def StoppingFallsWrongFalsely : Prop := stoppingFallsRow.holds Try.pinned (OpenSpec.ofChange stoppingFallsWrong)

/- THE SECOND FORM. 'bulk': how many values and letters a reading holds, each counted each time it is reached (what is shared counts as often as it is met; a slice's spare places count too). A statement '..UptoSaid' is the law's where the arguments, and the package variables that the reading takes, are together of bulk at most 1048576: NARROWER than '..Said'. Prove '..Said' where nothing that the law and all that it calls make is longer than what came in: it says more and counts as full. Else prove '..UptoSaid'. A law counts once. -/
mutual
def uptoBulk {H : Type} : DataW H → Nat
  | .lit (.string bytes) => bytes.length + 1
  | .lit _ => 1
  | .nil => 1
  | .ptr d => uptoBulk d + 1
  | .slice elems spare => uptoBulkAll elems + uptoBulkAll spare + 1
  | .agg parts => uptoBulkAll parts + 1
  | .iface _ d => uptoBulk d + 1
  | .map entries => uptoBulkEntries entries + 1
  | .held _ => 1
def uptoBulkAll {H : Type} : List (DataW H) → Nat
  | [] => 0
  | d :: r => uptoBulk d + uptoBulkAll r
def uptoBulkEntries {H : Type} : List (Lit × DataW H) → Nat
  | [] => 0
  | x :: r => uptoBulkEntry x + uptoBulkEntries r
def uptoBulkEntry {H : Type} : Lit × DataW H → Nat
  | (.string bytes, d) => bytes.length + uptoBulk d + 1
  | (_, d) => uptoBulk d + 1
 end
def uptoSmall : (H : Type) → List (DataW H) → Bool := fun _ ds => decide (uptoBulkAll ds ≤ 1048576)
def OpenSpec.upto (s : _root_.Go.ChangeSpec) : _root_.Go.OpenSpec := { _root_.Go.OpenSpec.ofChange s with cond := some uptoSmall }

/-- 'routescopelaw23.StoppingNeeded', WHERE WHAT IT READS IS OF BULK AT MOST 1048576: true; the input reads as it did. -/
def stoppingNeededUptoRow : OpenClaim := { program := "ytagmohpafjncfaa", sum := "2872334f074bd237c041f7c0c97e32ac6011ec6219d9f09e2cf8cb6311d50e0f", func := "routescope/routescopelaw23.StoppingNeeded", spec := "stoppingNeeded", recurses := true, apart := false, narrowed := true }
def StoppingNeededUptoSaid : Prop := stoppingNeededUptoRow.holds Try.pinned (OpenSpec.upto stoppingNeededSpec)

/-- 'routescopelaw23.StoppingCounts', WHERE WHAT IT READS IS OF BULK AT MOST 1048576: true; the input reads as it did. -/
def stoppingCountsUptoRow : OpenClaim := { program := "ytagmohpafjncfaa", sum := "2872334f074bd237c041f7c0c97e32ac6011ec6219d9f09e2cf8cb6311d50e0f", func := "routescope/routescopelaw23.StoppingCounts", spec := "stoppingCounts", recurses := true, apart := false, narrowed := true }
def StoppingCountsUptoSaid : Prop := stoppingCountsUptoRow.holds Try.pinned (OpenSpec.upto stoppingCountsSpec)

/-- 'routescopelaw23.StoppingExact', WHERE WHAT IT READS IS OF BULK AT MOST 1048576: true; the input reads as it did. -/
def stoppingExactUptoRow : OpenClaim := { program := "ytagmohpafjncfaa", sum := "2872334f074bd237c041f7c0c97e32ac6011ec6219d9f09e2cf8cb6311d50e0f", func := "routescope/routescopelaw23.StoppingExact", spec := "stoppingExact", unfollowed := true, recurses := true, apart := false, narrowed := true }
def StoppingExactUptoSaid : Prop := stoppingExactUptoRow.holds Try.pinned (OpenSpec.upto stoppingExactSpec)

/-- 'routescopelaw23.StoppingFails', WHERE WHAT IT READS IS OF BULK AT MOST 1048576: true; the input reads as it did. -/
def stoppingFailsUptoRow : OpenClaim := { program := "ytagmohpafjncfaa", sum := "2872334f074bd237c041f7c0c97e32ac6011ec6219d9f09e2cf8cb6311d50e0f", func := "routescope/routescopelaw23.StoppingFails", spec := "stoppingFails", unfollowed := true, recurses := true, apart := false, narrowed := true }
def StoppingFailsUptoSaid : Prop := stoppingFailsUptoRow.holds Try.pinned (OpenSpec.upto stoppingFailsSpec)

/-- 'routescopelaw23.StoppingFalls', WHERE WHAT IT READS IS OF BULK AT MOST 1048576: true; the input reads as it did. -/
def stoppingFallsUptoRow : OpenClaim := { program := "ytagmohpafjncfaa", sum := "2872334f074bd237c041f7c0c97e32ac6011ec6219d9f09e2cf8cb6311d50e0f", func := "routescope/routescopelaw23.StoppingFalls", spec := "stoppingFalls", unfollowed := true, recurses := true, apart := false, narrowed := true }
def StoppingFallsUptoSaid : Prop := stoppingFallsUptoRow.holds Try.pinned (OpenSpec.upto stoppingFallsSpec)

end Rows
end Go.Proofs.Ytagmohpafjncfaa
