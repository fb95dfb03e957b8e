/-
  No cell of these rows narrows 'for every input' (looked for: loops, veiled, ifaces, maps, wideKeys, modest, calm, conditions, laid).
  DERIVED. THE GIVEN ROWS OF THIS SEAT. 4 by the template 'for every input the law returns true; each argument reads behind the call as it read before'; 0 by the template 'total and deterministic' (their statements: YtepbdjpcoleegaaTotals.lean).
  GIVEN WITH THE SEED: the statements are not yours to turn. If you find one false, say at which input.
  Laid BY PROGRAM, IN A SANDBOX (cutbox-rows.mjs): the forced cells as the released guide's own fill.sh prints them over the translation 562d886603627c71… (all of the seat's roots in one cut). By AI agents, Wed Nov 11 2026. No macro, syntax, notation, axiom, sorry.
-/
import Derived.Test.YtepbdjpcoleegaaChecked
import GoSem.Claim
import GoSem.ClaimJoined
import GoSem.ClaimMapViews
import Derived.JoinedTies
import Derived.KernelRfl
namespace Go.Proofs.Ytepbdjpcoleegaa
/- THE CELL 'sum', in the pinned program and in every row, IS THE sha256 OF THE DUMP (.gsa) THAT YtepbdjpcoleegaaProg.lean LOADS. Nothing in Lean hashes anything: it is a label: what it is worth is what the hold of that sum in a sandbox is worth. -/
noncomputable def Try.pinned : Pinned := { name := "ytepbdjpcoleegaa", sum := "562d886603627c716b66c68b3388dcabe53fb0b9fbbed32907c77aea9ff9b5b8", checked := Try.checked }
namespace Rows
def none {H : Type} : Left H := { results := [], args := [] }

/-- 'routescopelaw28.CommonGrows': WHATEVER THE INPUT: true; the input reads as it did. -/
def commonGrowsSpec : ChangeSpec := { name := "commonGrows", fn := fun _ => fun
  | [d] => { results := [.lit (.bool true)], args := [d] }
  | _ => none }
def commonGrowsRow : OpenClaim := { program := "ytepbdjpcoleegaa", sum := "562d886603627c716b66c68b3388dcabe53fb0b9fbbed32907c77aea9ff9b5b8", func := "routescope/routescopelaw28.CommonGrows", spec := "commonGrows", unfollowed := true, recurses := true, plainKeys := false, apart := false }
def CommonGrowsSaid : Prop := commonGrowsRow.holds Try.pinned (OpenSpec.ofChange commonGrowsSpec)

/-- ITS FALSE NEIGHBOUR: 'it returns false'. Refute it at one input. -/
def commonGrowsWrong : ChangeSpec := { name := "commonGrows", fn := fun _ => fun
  | [d] => { results := [.lit (.bool false)], args := [d] }
  | _ => none }
def CommonGrowsWrongFalsely : Prop := commonGrowsRow.holds Try.pinned (OpenSpec.ofChange commonGrowsWrong)

/-- 'routescopelaw28.CommonTruth': WHATEVER THE INPUT: true; the input reads as it did. -/
def commonTruthSpec : ChangeSpec := { name := "commonTruth", fn := fun _ => fun
  | [d1, d2] => { results := [.lit (.bool true)], args := [d1, d2] }
  | _ => none }
def commonTruthRow : OpenClaim := { program := "ytepbdjpcoleegaa", sum := "562d886603627c716b66c68b3388dcabe53fb0b9fbbed32907c77aea9ff9b5b8", func := "routescope/routescopelaw28.CommonTruth", spec := "commonTruth", unfollowed := true, recurses := true, plainKeys := false, apart := false }
def CommonTruthSaid : Prop := commonTruthRow.holds Try.pinned (OpenSpec.ofChange commonTruthSpec)

/-- ITS FALSE NEIGHBOUR: 'it returns false'. Refute it at one input. -/
def commonTruthWrong : ChangeSpec := { name := "commonTruth", fn := fun _ => fun
  | [d1, d2] => { results := [.lit (.bool false)], args := [d1, d2] }
  | _ => none }
def CommonTruthWrongFalsely : Prop := commonTruthRow.holds Try.pinned (OpenSpec.ofChange commonTruthWrong)

/-- 'routescopelaw28.CommonHolds': WHATEVER THE INPUT: true; the input reads as it did. -/
def commonHoldsSpec : ChangeSpec := { name := "commonHolds", fn := fun _ => fun
  | [d] => { results := [.lit (.bool true)], args := [d] }
  | _ => none }
def commonHoldsRow : OpenClaim := { program := "ytepbdjpcoleegaa", sum := "562d886603627c716b66c68b3388dcabe53fb0b9fbbed32907c77aea9ff9b5b8", func := "routescope/routescopelaw28.CommonHolds", spec := "commonHolds", unfollowed := true, recurses := true, plainKeys := false, apart := false }
def CommonHoldsSaid : Prop := commonHoldsRow.holds Try.pinned (OpenSpec.ofChange commonHoldsSpec)

/-- ITS FALSE NEIGHBOUR: 'it returns false'. Refute it at one input. -/
def commonHoldsWrong : ChangeSpec := { name := "commonHolds", fn := fun _ => fun
  | [d] => { results := [.lit (.bool false)], args := [d] }
  | _ => none }
def CommonHoldsWrongFalsely : Prop := commonHoldsRow.holds Try.pinned (OpenSpec.ofChange commonHoldsWrong)

/-- 'routescopelaw28.CommonOrders': WHATEVER THE INPUT: true; the input reads as it did. -/
def commonOrdersSpec : ChangeSpec := { name := "commonOrders", fn := fun _ => fun
  | [d1, d2, d3, d4] => { results := [.lit (.bool true)], args := [d1, d2, d3, d4] }
  | _ => none }
def commonOrdersRow : OpenClaim := { program := "ytepbdjpcoleegaa", sum := "562d886603627c716b66c68b3388dcabe53fb0b9fbbed32907c77aea9ff9b5b8", func := "routescope/routescopelaw28.CommonOrders", spec := "commonOrders", unfollowed := true, recurses := true, plainKeys := false, apart := false }
def CommonOrdersSaid : Prop := commonOrdersRow.holds Try.pinned (OpenSpec.ofChange commonOrdersSpec)

/-- ITS FALSE NEIGHBOUR: 'it returns false'. Refute it at one input. -/
def commonOrdersWrong : ChangeSpec := { name := "commonOrders", fn := fun _ => fun
  | [d1, d2, d3, d4] => { results := [.lit (.bool false)], args := [d1, d2, d3, d4] }
  | _ => none }
def CommonOrdersWrongFalsely : Prop := commonOrdersRow.holds Try.pinned (OpenSpec.ofChange commonOrdersWrong)

/- THE SECOND FORM. 'bulk': how many values and letters a reading holds, each counted each time it is reached (what is shared counts as often as it is met; a slice's spare places count too). A statement '..UptoSaid' is the law's where the arguments, and the package variables that the reading takes, are together of bulk at most 1048576: NARROWER than '..Said'. Prove '..Said' where nothing that the law and all that it calls make is longer than what came in: it says more and counts as full. Else prove '..UptoSaid'. A law counts once. -/
mutual
def uptoBulk {H : Type} : DataW H → Nat
  | .lit (.string bytes) => bytes.length + 1
  | .lit _ => 1
  | .nil => 1
  | .ptr d => uptoBulk d + 1
  | .slice elems spare => uptoBulkAll elems + uptoBulkAll spare + 1
  | .agg parts => uptoBulkAll parts + 1
  | .iface _ d => uptoBulk d + 1
  | .map entries => uptoBulkEntries entries + 1
  | .held _ => 1
def uptoBulkAll {H : Type} : List (DataW H) → Nat
  | [] => 0
  | d :: r => uptoBulk d + uptoBulkAll r
def uptoBulkEntries {H : Type} : List (Lit × DataW H) → Nat
  | [] => 0
  | x :: r => uptoBulkEntry x + uptoBulkEntries r
def uptoBulkEntry {H : Type} : Lit × DataW H → Nat
  | (.string bytes, d) => bytes.length + uptoBulk d + 1
  | (_, d) => uptoBulk d + 1
 end
def uptoSmall : (H : Type) → List (DataW H) → Bool := fun _ ds => decide (uptoBulkAll ds ≤ 1048576)
def OpenSpec.upto (s : _root_.Go.ChangeSpec) : _root_.Go.OpenSpec := { _root_.Go.OpenSpec.ofChange s with cond := some uptoSmall }

/-- 'routescopelaw28.CommonGrows', WHERE WHAT IT READS IS OF BULK AT MOST 1048576: true; the input reads as it did. -/
def commonGrowsUptoRow : OpenClaim := { program := "ytepbdjpcoleegaa", sum := "562d886603627c716b66c68b3388dcabe53fb0b9fbbed32907c77aea9ff9b5b8", func := "routescope/routescopelaw28.CommonGrows", spec := "commonGrows", unfollowed := true, recurses := true, plainKeys := false, apart := false, narrowed := true }
def CommonGrowsUptoSaid : Prop := commonGrowsUptoRow.holds Try.pinned (OpenSpec.upto commonGrowsSpec)

/-- 'routescopelaw28.CommonTruth', WHERE WHAT IT READS IS OF BULK AT MOST 1048576: true; the input reads as it did. -/
def commonTruthUptoRow : OpenClaim := { program := "ytepbdjpcoleegaa", sum := "562d886603627c716b66c68b3388dcabe53fb0b9fbbed32907c77aea9ff9b5b8", func := "routescope/routescopelaw28.CommonTruth", spec := "commonTruth", unfollowed := true, recurses := true, plainKeys := false, apart := false, narrowed := true }
def CommonTruthUptoSaid : Prop := commonTruthUptoRow.holds Try.pinned (OpenSpec.upto commonTruthSpec)

/-- 'routescopelaw28.CommonHolds', WHERE WHAT IT READS IS OF BULK AT MOST 1048576: true; the input reads as it did. -/
def commonHoldsUptoRow : OpenClaim := { program := "ytepbdjpcoleegaa", sum := "562d886603627c716b66c68b3388dcabe53fb0b9fbbed32907c77aea9ff9b5b8", func := "routescope/routescopelaw28.CommonHolds", spec := "commonHolds", unfollowed := true, recurses := true, plainKeys := false, apart := false, narrowed := true }
def CommonHoldsUptoSaid : Prop := commonHoldsUptoRow.holds Try.pinned (OpenSpec.upto commonHoldsSpec)

/-- 'routescopelaw28.CommonOrders', WHERE WHAT IT READS IS OF BULK AT MOST 1048576: true; the input reads as it did. -/
def commonOrdersUptoRow : OpenClaim := { program := "ytepbdjpcoleegaa", sum := "562d886603627c716b66c68b3388dcabe53fb0b9fbbed32907c77aea9ff9b5b8", func := "routescope/routescopelaw28.CommonOrders", spec := "commonOrders", unfollowed := true, recurses := true, plainKeys := false, apart := false, narrowed := true }
def CommonOrdersUptoSaid : Prop := commonOrdersUptoRow.holds Try.pinned (OpenSpec.upto commonOrdersSpec)

end Rows
end Go.Proofs.Ytepbdjpcoleegaa
