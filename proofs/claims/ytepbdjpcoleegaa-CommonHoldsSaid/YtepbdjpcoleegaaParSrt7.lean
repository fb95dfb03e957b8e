import Derived.Test.YtepbdjpcoleegaaParSrt0
import Derived.Test.YtepbdjpcoleegaaPk3
import Derived.Test.YtepbdjpcoleegaaSrtLay

/- slices.SortFunc, by the shelf: sorts. -/
set_option linter.unusedSimpArgs false
set_option linter.unusedVariables false
namespace Go.Proofs.Ytepbdjpcoleegaa
open Go.Sort Eng
theorem par_one1 (x : Par) : ∀ s ∈ Par.cs x, s.den.oneCell' = true := fun s hs => one_den (List.all_eq_true.1 (show (Par.cs x).all oneS = true from rfl) s hs)
theorem par_def (R : Nat → Prop) (w : World) : ∀ s ∈ Par.cs default, s.ok R w := by
 intro s hs
 simp only [Par.cs, List.mem_cons, List.not_mem_nil, or_false] at hs
 rcases hs with rfl | rfl <;> first | trivial | exact ⟨Nat.le_refl _, Nat.zero_le _, .inl rfl⟩
theorem parSortC (F : Frm) {g : FuncId} {rdc : Nat → SV} {lt : Par → Par → Bool} (hw : SWO lt) (hc : parCmp g lt) (ad : Option Addr) (cap N : Nat) (hN : N ≤ 1000000000000) (d : Array Par) (hd : d.size = N) :
  ContractM F Try.prog 53 [.os 0 ad N cap, .fn g 0 rdc] (parRow ad N cap d)
   (fun r o1 => r = tupL [] ∧ ∃ d', d'.size = N ∧ (PermIn 0 N d d' ∧ SortedIn lt 0 N d') ∧ o1 = parRow ad N cap d') :=
 sortK Try.sortPair 2 (by decide) Try.isAgg52 Try.sizeOf52 Par.cs (fun _ => rfl) par_one1 par_def F 52 (enters_of Try.func53 (by kernel_rfl) rfl) hw hc ad cap N hN d hd
end Go.Proofs.Ytepbdjpcoleegaa
