/-
  No cell of these rows narrows 'for every input' (looked for: loops, veiled, ifaces, maps, wideKeys, modest, calm, conditions, laid).
  DERIVED. THE GIVEN ROWS OF THIS SEAT. 5 by the template 'for every input the law returns true; each argument reads behind the call as it read before'; 0 by the template 'total and deterministic' (their statements: YtjkeobdpjcdlnaaTotals.lean).
  GIVEN WITH THE SEED: the statements are not yours to turn. If you find one false, say at which input.
  Laid BY PROGRAM, IN A SANDBOX (cutbox-rows.mjs): the forced cells as the released guide's own fill.sh prints them over the translation 50e76d0e4beaee49… (all of the seat's roots in one cut). By AI agents, Wed Nov 11 2026. No macro, syntax, notation, axiom, sorry.
-/
import Derived.Test.YtjkeobdpjcdlnaaChecked
import GoSem.Claim
import GoSem.ClaimJoined
import GoSem.ClaimMapViews
import Derived.JoinedTies
import Derived.KernelRfl
namespace Go.Proofs.Ytjkeobdpjcdlnaa
/- THE CELL 'sum', in the pinned program and in every row, IS THE sha256 OF THE DUMP (.gsa) THAT YtjkeobdpjcdlnaaProg.lean LOADS. Nothing in Lean hashes anything: it is a label: what it is worth is what the hold of that sum in a sandbox is worth. -/
noncomputable def Try.pinned : Pinned := { name := "ytjkeobdpjcdlnaa", sum := "50e76d0e4beaee49e6e0bf391f85348f7407b35ee52cfeb8b3a4fc07de314e73", checked := Try.checked }
namespace Rows
def none {H : Type} : Left H := { results := [], args := [] }

/-- 'routescopelaw02.NaturalPascal': WHATEVER THE INPUT: true; the input reads as it did. -/
def naturalPascalSpec : ChangeSpec := { name := "naturalPascal", fn := fun _ => fun
  | [d1, d2] => { results := [.lit (.bool true)], args := [d1, d2] }
  | _ => none }
def naturalPascalRow : OpenClaim := { program := "ytjkeobdpjcdlnaa", sum := "50e76d0e4beaee49e6e0bf391f85348f7407b35ee52cfeb8b3a4fc07de314e73", func := "routescope/routescopelaw02.NaturalPascal", spec := "naturalPascal", apart := false }
def NaturalPascalSaid : Prop := naturalPascalRow.holds Try.pinned (OpenSpec.ofChange naturalPascalSpec)

/-- ITS FALSE NEIGHBOUR: 'it returns false'. Refute it at one input. -/
def naturalPascalWrong : ChangeSpec := { name := "naturalPascal", fn := fun _ => fun
  | [d1, d2] => { results := [.lit (.bool false)], args := [d1, d2] }
  | _ => none }
def NaturalPascalWrongFalsely : Prop := naturalPascalRow.holds Try.pinned (OpenSpec.ofChange naturalPascalWrong)

/-- 'routescopelaw02.NaturalRing': WHATEVER THE INPUT: true; the input reads as it did. -/
def naturalRingSpec : ChangeSpec := { name := "naturalRing", fn := fun _ => fun
  | [d] => { results := [.lit (.bool true)], args := [d] }
  | _ => none }
def naturalRingRow : OpenClaim := { program := "ytjkeobdpjcdlnaa", sum := "50e76d0e4beaee49e6e0bf391f85348f7407b35ee52cfeb8b3a4fc07de314e73", func := "routescope/routescopelaw02.NaturalRing", spec := "naturalRing", recurses := true, apart := false }
def NaturalRingSaid : Prop := naturalRingRow.holds Try.pinned (OpenSpec.ofChange naturalRingSpec)

/-- ITS FALSE NEIGHBOUR: 'it returns false'. Refute it at one input. -/
def naturalRingWrong : ChangeSpec := { name := "naturalRing", fn := fun _ => fun
  | [d] => { results := [.lit (.bool false)], args := [d] }
  | _ => none }
def NaturalRingWrongFalsely : Prop := naturalRingRow.holds Try.pinned (OpenSpec.ofChange naturalRingWrong)

/-- 'routescopelaw02.NaturalLimits': WHATEVER THE INPUT: true; the input reads as it did. -/
def naturalLimitsSpec : ChangeSpec := { name := "naturalLimits", fn := fun _ => fun
  | [d1, d2] => { results := [.lit (.bool true)], args := [d1, d2] }
  | _ => none }
def naturalLimitsRow : OpenClaim := { program := "ytjkeobdpjcdlnaa", sum := "50e76d0e4beaee49e6e0bf391f85348f7407b35ee52cfeb8b3a4fc07de314e73", func := "routescope/routescopelaw02.NaturalLimits", spec := "naturalLimits", apart := false }
def NaturalLimitsSaid : Prop := naturalLimitsRow.holds Try.pinned (OpenSpec.ofChange naturalLimitsSpec)

/-- ITS FALSE NEIGHBOUR: 'it returns false'. Refute it at one input. -/
def naturalLimitsWrong : ChangeSpec := { name := "naturalLimits", fn := fun _ => fun
  | [d1, d2] => { results := [.lit (.bool false)], args := [d1, d2] }
  | _ => none }
def NaturalLimitsWrongFalsely : Prop := naturalLimitsRow.holds Try.pinned (OpenSpec.ofChange naturalLimitsWrong)

/-- 'routescopelaw02.NaturalDivides': WHATEVER THE INPUT: true; the input reads as it did. -/
def naturalDividesSpec : ChangeSpec := { name := "naturalDivides", fn := fun _ => fun
  | [d] => { results := [.lit (.bool true)], args := [d] }
  | _ => none }
def naturalDividesRow : OpenClaim := { program := "ytjkeobdpjcdlnaa", sum := "50e76d0e4beaee49e6e0bf391f85348f7407b35ee52cfeb8b3a4fc07de314e73", func := "routescope/routescopelaw02.NaturalDivides", spec := "naturalDivides", recurses := true, apart := false }
def NaturalDividesSaid : Prop := naturalDividesRow.holds Try.pinned (OpenSpec.ofChange naturalDividesSpec)

/-- ITS FALSE NEIGHBOUR: 'it returns false'. Refute it at one input. -/
def naturalDividesWrong : ChangeSpec := { name := "naturalDivides", fn := fun _ => fun
  | [d] => { results := [.lit (.bool false)], args := [d] }
  | _ => none }
def NaturalDividesWrongFalsely : Prop := naturalDividesRow.holds Try.pinned (OpenSpec.ofChange naturalDividesWrong)

/-- 'routescopelaw02.NaturalGcd': WHATEVER THE INPUT: true; the input reads as it did. -/
def naturalGcdSpec : ChangeSpec := { name := "naturalGcd", fn := fun _ => fun
  | [d1, d2] => { results := [.lit (.bool true)], args := [d1, d2] }
  | _ => none }
def naturalGcdRow : OpenClaim := { program := "ytjkeobdpjcdlnaa", sum := "50e76d0e4beaee49e6e0bf391f85348f7407b35ee52cfeb8b3a4fc07de314e73", func := "routescope/routescopelaw02.NaturalGcd", spec := "naturalGcd", recurses := true, apart := false }
def NaturalGcdSaid : Prop := naturalGcdRow.holds Try.pinned (OpenSpec.ofChange naturalGcdSpec)

/-- ITS FALSE NEIGHBOUR: 'it returns false'. Refute it at one input. -/
def naturalGcdWrong : ChangeSpec := { name := "naturalGcd", fn := fun _ => fun
  | [d1, d2] => { results := [.lit (.bool false)], args := [d1, d2] }
  | _ => none }
def NaturalGcdWrongFalsely : Prop := naturalGcdRow.holds Try.pinned (OpenSpec.ofChange naturalGcdWrong)

/- THE SECOND FORM. 'bulk': how many values and letters a reading holds, each counted each time it is reached (what is shared counts as often as it is met; a slice's spare places count too). A statement '..UptoSaid' is the law's where the arguments, and the package variables that the reading takes, are together of bulk at most 1048576: NARROWER than '..Said'. Prove '..Said' where nothing that the law and all that it calls make is longer than what came in: it says more and counts as full. Else prove '..UptoSaid'. A law counts once. -/
mutual
def uptoBulk {H : Type} : DataW H → Nat
  | .lit (.string bytes) => bytes.length + 1
  | .lit _ => 1
  | .nil => 1
  | .ptr d => uptoBulk d + 1
  | .slice elems spare => uptoBulkAll elems + uptoBulkAll spare + 1
  | .agg parts => uptoBulkAll parts + 1
  | .iface _ d => uptoBulk d + 1
  | .map entries => uptoBulkEntries entries + 1
  | .held _ => 1
def uptoBulkAll {H : Type} : List (DataW H) → Nat
  | [] => 0
  | d :: r => uptoBulk d + uptoBulkAll r
def uptoBulkEntries {H : Type} : List (Lit × DataW H) → Nat
  | [] => 0
  | x :: r => uptoBulkEntry x + uptoBulkEntries r
def uptoBulkEntry {H : Type} : Lit × DataW H → Nat
  | (.string bytes, d) => bytes.length + uptoBulk d + 1
  | (_, d) => uptoBulk d + 1
 end
def uptoSmall : (H : Type) → List (DataW H) → Bool := fun _ ds => decide (uptoBulkAll ds ≤ 1048576)
def OpenSpec.upto (s : _root_.Go.ChangeSpec) : _root_.Go.OpenSpec := { _root_.Go.OpenSpec.ofChange s with cond := some uptoSmall }

/-- 'routescopelaw02.NaturalPascal', WHERE WHAT IT READS IS OF BULK AT MOST 1048576: true; the input reads as it did. -/
def naturalPascalUptoRow : OpenClaim := { program := "ytjkeobdpjcdlnaa", sum := "50e76d0e4beaee49e6e0bf391f85348f7407b35ee52cfeb8b3a4fc07de314e73", func := "routescope/routescopelaw02.NaturalPascal", spec := "naturalPascal", apart := false, narrowed := true }
def NaturalPascalUptoSaid : Prop := naturalPascalUptoRow.holds Try.pinned (OpenSpec.upto naturalPascalSpec)

/-- 'routescopelaw02.NaturalRing', WHERE WHAT IT READS IS OF BULK AT MOST 1048576: true; the input reads as it did. -/
def naturalRingUptoRow : OpenClaim := { program := "ytjkeobdpjcdlnaa", sum := "50e76d0e4beaee49e6e0bf391f85348f7407b35ee52cfeb8b3a4fc07de314e73", func := "routescope/routescopelaw02.NaturalRing", spec := "naturalRing", recurses := true, apart := false, narrowed := true }
def NaturalRingUptoSaid : Prop := naturalRingUptoRow.holds Try.pinned (OpenSpec.upto naturalRingSpec)

/-- 'routescopelaw02.NaturalLimits', WHERE WHAT IT READS IS OF BULK AT MOST 1048576: true; the input reads as it did. -/
def naturalLimitsUptoRow : OpenClaim := { program := "ytjkeobdpjcdlnaa", sum := "50e76d0e4beaee49e6e0bf391f85348f7407b35ee52cfeb8b3a4fc07de314e73", func := "routescope/routescopelaw02.NaturalLimits", spec := "naturalLimits", apart := false, narrowed := true }
def NaturalLimitsUptoSaid : Prop := naturalLimitsUptoRow.holds Try.pinned (OpenSpec.upto naturalLimitsSpec)

/-- 'routescopelaw02.NaturalDivides', WHERE WHAT IT READS IS OF BULK AT MOST 1048576: true; the input reads as it did. -/
def naturalDividesUptoRow : OpenClaim := { program := "ytjkeobdpjcdlnaa", sum := "50e76d0e4beaee49e6e0bf391f85348f7407b35ee52cfeb8b3a4fc07de314e73", func := "routescope/routescopelaw02.NaturalDivides", spec := "naturalDivides", recurses := true, apart := false, narrowed := true }
def NaturalDividesUptoSaid : Prop := naturalDividesUptoRow.holds Try.pinned (OpenSpec.upto naturalDividesSpec)

/-- 'routescopelaw02.NaturalGcd', WHERE WHAT IT READS IS OF BULK AT MOST 1048576: true; the input reads as it did. -/
def naturalGcdUptoRow : OpenClaim := { program := "ytjkeobdpjcdlnaa", sum := "50e76d0e4beaee49e6e0bf391f85348f7407b35ee52cfeb8b3a4fc07de314e73", func := "routescope/routescopelaw02.NaturalGcd", spec := "naturalGcd", recurses := true, apart := false, narrowed := true }
def NaturalGcdUptoSaid : Prop := naturalGcdUptoRow.holds Try.pinned (OpenSpec.upto naturalGcdSpec)

end Rows
end Go.Proofs.Ytjkeobdpjcdlnaa
