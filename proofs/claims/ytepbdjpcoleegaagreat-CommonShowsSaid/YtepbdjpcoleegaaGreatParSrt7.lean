import Derived.Test.YtepbdjpcoleegaaGreatParSrt0
import Derived.Test.YtepbdjpcoleegaaGreatPk3
import Derived.Test.YtepbdjpcoleegaaGreatSrtLay

/- slices.SortFunc, by the shelf: sorts. -/
set_option linter.unusedSimpArgs false
set_option linter.unusedVariables false
namespace Go.Proofs.YtepbdjpcoleegaaGreat
open Go.Sort Eng
theorem par_one1 (x : Par) : ∀ s ∈ Par.cs x, s.den.oneCell' = true := fun s hs => one_den (List.all_eq_true.1 (show (Par.cs x).all oneS = true from rfl) s hs)
theorem par_def (R : Nat → Prop) (w : World) : ∀ s ∈ Par.cs default, s.ok R w := by
 intro s hs
 simp only [Par.cs, List.mem_cons, List.not_mem_nil, or_false] at hs
 rcases hs with rfl | rfl <;> first | trivial | exact ⟨Nat.le_refl _, Nat.zero_le _, .inl rfl⟩
theorem parSortC (F : Frm) {g : FuncId} {rdc : Nat → SV} {lt : Par → Par → Bool} (hw : SWO lt) (hc : parCmp g lt) (ad : Option Addr) (cap N : Nat) (hN : N ≤ 1000000000000) (d : Array Par) (hd : d.size = N) :
  ContractM F Tryz.prog 66 [.os 0 ad N cap, .fn g 0 rdc] (parRow ad N cap d)
   (fun r o1 => r = tupL [] ∧ ∃ d', d'.size = N ∧ (PermIn 0 N d d' ∧ SortedIn lt 0 N d') ∧ o1 = parRow ad N cap d') :=
 sortK Tryz.sortPair 2 (by decide) Tryz.isAgg45 Tryz.sizeOf45 Par.cs (fun _ => rfl) par_one1 par_def F 45 (enters_of Tryz.func66 (by kernel_rfl) rfl) hw hc ad cap N hN d hd
end Go.Proofs.YtepbdjpcoleegaaGreat
