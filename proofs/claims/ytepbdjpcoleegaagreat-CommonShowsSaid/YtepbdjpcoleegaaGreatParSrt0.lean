import Derived.Test.YtepbdjpcoleegaaGreatParMath
import Derived.Test.YtepbdjpcoleegaaGreatPk2
import Derived.Sort.AssemblyPlain

/- Sorting in place, by the evaluator: what is common; insertion sort. -/
set_option linter.unusedSimpArgs false
set_option linter.unusedVariables false
namespace Go.Proofs.YtepbdjpcoleegaaGreat
open Go.Sort Eng
def parRd (d : Array Par) : Nat → Nat → SV := fun i j => (Par.cs d[i]!).getD j default
def parRow (ad : Option Addr) (N cap : Nat) (d : Array Par) : Own := .row ad 45 N cap 2 (parRd d)
def parAg (x : Par) : SV := .agg 2 fun j => (Par.cs x).getD j default
theorem par_one (d : Array Par) (i j : Nat) (h : j < 2) : oneS (parRd d i j) = true := by
 rcases (show j = 0 ∨ j = 1 by omega) with rfl | rfl <;> rfl
def parCmp (g : FuncId) (lt : Par → Par → Bool) : Prop := ∀ x y, ∃ c : Int, lt x y = decide (c < 0) ∧ ∀ F, Contract F Tryz.prog g [parAg x, parAg y] (fun r => r = .i .i64 c)
end Go.Proofs.YtepbdjpcoleegaaGreat
