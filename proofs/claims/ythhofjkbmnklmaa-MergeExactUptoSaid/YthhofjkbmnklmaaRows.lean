/-
  No cell of these rows narrows 'for every input' (looked for: loops, veiled, ifaces, maps, wideKeys, modest, calm, conditions, laid).
  DERIVED. THE GIVEN ROWS OF THIS SEAT. 6 by the template 'for every input the law returns true; each argument reads behind the call as it read before'; 0 by the template 'total and deterministic' (their statements: YthhofjkbmnklmaaTotals.lean).
  GIVEN WITH THE SEED: the statements are not yours to turn. If you find one false, say at which input.
  Laid BY PROGRAM, IN A SANDBOX (cutbox-rows.mjs): the forced cells as the released guide's own fill.sh prints them over the translation a9defa488c2a2e9a… (all of the seat's roots in one cut). By AI agents, Wed Nov 11 2026. No macro, syntax, notation, axiom, sorry.
-/
import Derived.Test.YthhofjkbmnklmaaChecked
import GoSem.Claim
import GoSem.ClaimJoined
import GoSem.ClaimMapViews
import Derived.JoinedTies
import Derived.KernelRfl
namespace Go.Proofs.Ythhofjkbmnklmaa
/- THE CELL 'sum', in the pinned program and in every row, IS THE sha256 OF THE DUMP (.gsa) THAT YthhofjkbmnklmaaProg.lean LOADS. Nothing in Lean hashes anything: it is a label: what it is worth is what the hold of that sum in a sandbox is worth. -/
noncomputable def Try.pinned : Pinned := { name := "ythhofjkbmnklmaa", sum := "a9defa488c2a2e9a9b8221cf5426e937b6358d729f7f472798c4de13619bb78d", checked := Try.checked }
namespace Rows
def none {H : Type} : Left H := { results := [], args := [] }

/-- 'routescopelaw22.MergeFinds': WHATEVER THE INPUT: true; the input reads as it did. -/
def mergeFindsSpec : ChangeSpec := { name := "mergeFinds", fn := fun _ => fun
  | [d] => { results := [.lit (.bool true)], args := [d] }
  | _ => none }
def mergeFindsRow : OpenClaim := { program := "ythhofjkbmnklmaa", sum := "a9defa488c2a2e9a9b8221cf5426e937b6358d729f7f472798c4de13619bb78d", func := "routescope/routescopelaw22.MergeFinds", spec := "mergeFinds", unfollowed := true, recurses := true, apart := false }
def MergeFindsSaid : Prop := mergeFindsRow.holds Try.pinned (OpenSpec.ofChange mergeFindsSpec)

/-- ITS FALSE NEIGHBOUR: 'it returns false'. Refute it at one input. -/
def mergeFindsWrong : ChangeSpec := { name := "mergeFinds", fn := fun _ => fun
  | [d] => { results := [.lit (.bool false)], args := [d] }
  | _ => none }
def MergeFindsWrongFalsely : Prop := mergeFindsRow.holds Try.pinned (OpenSpec.ofChange mergeFindsWrong)

/-- 'routescopelaw22.MergeLimits': WHATEVER THE INPUT: true; the input reads as it did. -/
def mergeLimitsSpec : ChangeSpec := { name := "mergeLimits", fn := fun _ => fun
  | [d] => { results := [.lit (.bool true)], args := [d] }
  | _ => none }
def mergeLimitsRow : OpenClaim := { program := "ythhofjkbmnklmaa", sum := "a9defa488c2a2e9a9b8221cf5426e937b6358d729f7f472798c4de13619bb78d", func := "routescope/routescopelaw22.MergeLimits", spec := "mergeLimits", unfollowed := true, recurses := true, apart := false }
def MergeLimitsSaid : Prop := mergeLimitsRow.holds Try.pinned (OpenSpec.ofChange mergeLimitsSpec)

/-- ITS FALSE NEIGHBOUR: 'it returns false'. Refute it at one input. -/
def mergeLimitsWrong : ChangeSpec := { name := "mergeLimits", fn := fun _ => fun
  | [d] => { results := [.lit (.bool false)], args := [d] }
  | _ => none }
def MergeLimitsWrongFalsely : Prop := mergeLimitsRow.holds Try.pinned (OpenSpec.ofChange mergeLimitsWrong)

/-- 'routescopelaw22.MergeUnion': WHATEVER THE INPUT: true; the input reads as it did. -/
def mergeUnionSpec : ChangeSpec := { name := "mergeUnion", fn := fun _ => fun
  | [d] => { results := [.lit (.bool true)], args := [d] }
  | _ => none }
def mergeUnionRow : OpenClaim := { program := "ythhofjkbmnklmaa", sum := "a9defa488c2a2e9a9b8221cf5426e937b6358d729f7f472798c4de13619bb78d", func := "routescope/routescopelaw22.MergeUnion", spec := "mergeUnion", unfollowed := true, recurses := true, apart := false }
def MergeUnionSaid : Prop := mergeUnionRow.holds Try.pinned (OpenSpec.ofChange mergeUnionSpec)

/-- ITS FALSE NEIGHBOUR: 'it returns false'. Refute it at one input. -/
def mergeUnionWrong : ChangeSpec := { name := "mergeUnion", fn := fun _ => fun
  | [d] => { results := [.lit (.bool false)], args := [d] }
  | _ => none }
def MergeUnionWrongFalsely : Prop := mergeUnionRow.holds Try.pinned (OpenSpec.ofChange mergeUnionWrong)

/-- 'routescopelaw22.MergeUntil': WHATEVER THE INPUT: true; the input reads as it did. -/
def mergeUntilSpec : ChangeSpec := { name := "mergeUntil", fn := fun _ => fun
  | [d1, d2, d3] => { results := [.lit (.bool true)], args := [d1, d2, d3] }
  | _ => none }
def mergeUntilRow : OpenClaim := { program := "ythhofjkbmnklmaa", sum := "a9defa488c2a2e9a9b8221cf5426e937b6358d729f7f472798c4de13619bb78d", func := "routescope/routescopelaw22.MergeUntil", spec := "mergeUntil", unfollowed := true, recurses := true, apart := false }
def MergeUntilSaid : Prop := mergeUntilRow.holds Try.pinned (OpenSpec.ofChange mergeUntilSpec)

/-- ITS FALSE NEIGHBOUR: 'it returns false'. Refute it at one input. -/
def mergeUntilWrong : ChangeSpec := { name := "mergeUntil", fn := fun _ => fun
  | [d1, d2, d3] => { results := [.lit (.bool false)], args := [d1, d2, d3] }
  | _ => none }
def MergeUntilWrongFalsely : Prop := mergeUntilRow.holds Try.pinned (OpenSpec.ofChange mergeUntilWrong)

/-- 'routescopelaw22.MergeOrder': WHATEVER THE INPUT: true; the input reads as it did. -/
def mergeOrderSpec : ChangeSpec := { name := "mergeOrder", fn := fun _ => fun
  | [d1, d2] => { results := [.lit (.bool true)], args := [d1, d2] }
  | _ => none }
def mergeOrderRow : OpenClaim := { program := "ythhofjkbmnklmaa", sum := "a9defa488c2a2e9a9b8221cf5426e937b6358d729f7f472798c4de13619bb78d", func := "routescope/routescopelaw22.MergeOrder", spec := "mergeOrder", unfollowed := true, recurses := true, apart := false }
def MergeOrderSaid : Prop := mergeOrderRow.holds Try.pinned (OpenSpec.ofChange mergeOrderSpec)

/-- ITS FALSE NEIGHBOUR: 'it returns false'. Refute it at one input. -/
def mergeOrderWrong : ChangeSpec := { name := "mergeOrder", fn := fun _ => fun
  | [d1, d2] => { results := [.lit (.bool false)], args := [d1, d2] }
  | _ => none }
def MergeOrderWrongFalsely : Prop := mergeOrderRow.holds Try.pinned (OpenSpec.ofChange mergeOrderWrong)

/-- 'routescopelaw22.MergeExact': WHATEVER THE INPUT: true; the input reads as it did. -/
def mergeExactSpec : ChangeSpec := { name := "mergeExact", fn := fun _ => fun
  | [d1, d2, d3, d4, d5] => { results := [.lit (.bool true)], args := [d1, d2, d3, d4, d5] }
  | _ => none }
def mergeExactRow : OpenClaim := { program := "ythhofjkbmnklmaa", sum := "a9defa488c2a2e9a9b8221cf5426e937b6358d729f7f472798c4de13619bb78d", func := "routescope/routescopelaw22.MergeExact", spec := "mergeExact", unfollowed := true, recurses := true, apart := false }
def MergeExactSaid : Prop := mergeExactRow.holds Try.pinned (OpenSpec.ofChange mergeExactSpec)

/-- ITS FALSE NEIGHBOUR: 'it returns false'. Refute it at one input. -/
def mergeExactWrong : ChangeSpec := { name := "mergeExact", fn := fun _ => fun
  | [d1, d2, d3, d4, d5] => { results := [.lit (.bool false)], args := [d1, d2, d3, d4, d5] }
  | _ => none }
def MergeExactWrongFalsely : Prop := mergeExactRow.holds Try.pinned (OpenSpec.ofChange mergeExactWrong)

/- THE SECOND FORM. 'bulk': how many values and letters a reading holds, each counted each time it is reached (what is shared counts as often as it is met; a slice's spare places count too). A statement '..UptoSaid' is the law's where the arguments, and the package variables that the reading takes, are together of bulk at most 1048576: NARROWER than '..Said'. Prove '..Said' where nothing that the law and all that it calls make is longer than what came in: it says more and counts as full. Else prove '..UptoSaid'. A law counts once. -/
mutual
def uptoBulk {H : Type} : DataW H → Nat
  | .lit (.string bytes) => bytes.length + 1
  | .lit _ => 1
  | .nil => 1
  | .ptr d => uptoBulk d + 1
  | .slice elems spare => uptoBulkAll elems + uptoBulkAll spare + 1
  | .agg parts => uptoBulkAll parts + 1
  | .iface _ d => uptoBulk d + 1
  | .map entries => uptoBulkEntries entries + 1
  | .held _ => 1
def uptoBulkAll {H : Type} : List (DataW H) → Nat
  | [] => 0
  | d :: r => uptoBulk d + uptoBulkAll r
def uptoBulkEntries {H : Type} : List (Lit × DataW H) → Nat
  | [] => 0
  | x :: r => uptoBulkEntry x + uptoBulkEntries r
def uptoBulkEntry {H : Type} : Lit × DataW H → Nat
  | (.string bytes, d) => bytes.length + uptoBulk d + 1
  | (_, d) => uptoBulk d + 1
 end
def uptoSmall : (H : Type) → List (DataW H) → Bool := fun _ ds => decide (uptoBulkAll ds ≤ 1048576)
def OpenSpec.upto (s : _root_.Go.ChangeSpec) : _root_.Go.OpenSpec := { _root_.Go.OpenSpec.ofChange s with cond := some uptoSmall }

/-- 'routescopelaw22.MergeFinds', WHERE WHAT IT READS IS OF BULK AT MOST 1048576: true; the input reads as it did. -/
def mergeFindsUptoRow : OpenClaim := { program := "ythhofjkbmnklmaa", sum := "a9defa488c2a2e9a9b8221cf5426e937b6358d729f7f472798c4de13619bb78d", func := "routescope/routescopelaw22.MergeFinds", spec := "mergeFinds", unfollowed := true, recurses := true, apart := false, narrowed := true }
def MergeFindsUptoSaid : Prop := mergeFindsUptoRow.holds Try.pinned (OpenSpec.upto mergeFindsSpec)

/-- 'routescopelaw22.MergeLimits', WHERE WHAT IT READS IS OF BULK AT MOST 1048576: true; the input reads as it did. -/
def mergeLimitsUptoRow : OpenClaim := { program := "ythhofjkbmnklmaa", sum := "a9defa488c2a2e9a9b8221cf5426e937b6358d729f7f472798c4de13619bb78d", func := "routescope/routescopelaw22.MergeLimits", spec := "mergeLimits", unfollowed := true, recurses := true, apart := false, narrowed := true }
def MergeLimitsUptoSaid : Prop := mergeLimitsUptoRow.holds Try.pinned (OpenSpec.upto mergeLimitsSpec)

/-- 'routescopelaw22.MergeUnion', WHERE WHAT IT READS IS OF BULK AT MOST 1048576: true; the input reads as it did. -/
def mergeUnionUptoRow : OpenClaim := { program := "ythhofjkbmnklmaa", sum := "a9defa488c2a2e9a9b8221cf5426e937b6358d729f7f472798c4de13619bb78d", func := "routescope/routescopelaw22.MergeUnion", spec := "mergeUnion", unfollowed := true, recurses := true, apart := false, narrowed := true }
def MergeUnionUptoSaid : Prop := mergeUnionUptoRow.holds Try.pinned (OpenSpec.upto mergeUnionSpec)

/-- 'routescopelaw22.MergeUntil', WHERE WHAT IT READS IS OF BULK AT MOST 1048576: true; the input reads as it did. -/
def mergeUntilUptoRow : OpenClaim := { program := "ythhofjkbmnklmaa", sum := "a9defa488c2a2e9a9b8221cf5426e937b6358d729f7f472798c4de13619bb78d", func := "routescope/routescopelaw22.MergeUntil", spec := "mergeUntil", unfollowed := true, recurses := true, apart := false, narrowed := true }
def MergeUntilUptoSaid : Prop := mergeUntilUptoRow.holds Try.pinned (OpenSpec.upto mergeUntilSpec)

/-- 'routescopelaw22.MergeOrder', WHERE WHAT IT READS IS OF BULK AT MOST 1048576: true; the input reads as it did. -/
def mergeOrderUptoRow : OpenClaim := { program := "ythhofjkbmnklmaa", sum := "a9defa488c2a2e9a9b8221cf5426e937b6358d729f7f472798c4de13619bb78d", func := "routescope/routescopelaw22.MergeOrder", spec := "mergeOrder", unfollowed := true, recurses := true, apart := false, narrowed := true }
def MergeOrderUptoSaid : Prop := mergeOrderUptoRow.holds Try.pinned (OpenSpec.upto mergeOrderSpec)

/-- 'routescopelaw22.MergeExact', WHERE WHAT IT READS IS OF BULK AT MOST 1048576: true; the input reads as it did. -/
def mergeExactUptoRow : OpenClaim := { program := "ythhofjkbmnklmaa", sum := "a9defa488c2a2e9a9b8221cf5426e937b6358d729f7f472798c4de13619bb78d", func := "routescope/routescopelaw22.MergeExact", spec := "mergeExact", unfollowed := true, recurses := true, apart := false, narrowed := true }
def MergeExactUptoSaid : Prop := mergeExactUptoRow.holds Try.pinned (OpenSpec.upto mergeExactSpec)

end Rows
end Go.Proofs.Ythhofjkbmnklmaa
