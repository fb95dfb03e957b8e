/- math/bits.TrailingZeros64 and Len64, by the evaluator. -/
import Derived.Test.YtceacooambpkdaaDoorGlbE
import Derived.Test.YtceacooambpkdaaDoorShelf
import Derived.Shelf.Spec.TrailingZeros
import Derived.Test.YtceacooambpkdaaDoorAtoE
set_option linter.unusedSimpArgs false
set_option linter.unusedVariables false
namespace Go.Proofs.YtceacooambpkdaaDoor
open Go.RowKit Eng
def tzRen : Go.Shelf.Ren := ⟨fun | 29 => 52 | n => n, fun | 0 => 0 | 3 => 3 | 4 => 4 | 5 => 5 | 22 => 42 | 25 => 60 | 54 => 95 | n => n, fun | 1 => 1 | n => n⟩
set_option maxRecDepth 100000 in
theorem tzLays : Go.Proofs.Lays7.n29 Tryd.prog tzRen := {
  mixed := by kernel_rfl
  f29 := Tryd.func52.trans (congrArg some (by kernel_rfl))
  t0 := by kernel_rfl
  a0 := fun w => by kernel_rfl
  z0 := fun w => by kernel_rfl
  v0 := fun w => by kernel_rfl
  i0 := by kernel_rfl
  t3 := by kernel_rfl
  a3 := fun w => by kernel_rfl
  z3 := fun w => by kernel_rfl
  v3 := fun w => by kernel_rfl
  i3 := by kernel_rfl
  t4 := by kernel_rfl
  a4 := fun w => by kernel_rfl
  z4 := fun w => by kernel_rfl
  v4 := fun w => by kernel_rfl
  i4 := by kernel_rfl
  t5 := by kernel_rfl
  a5 := fun w => by kernel_rfl
  z5 := fun w => by kernel_rfl
  v5 := fun w => by kernel_rfl
  i5 := by kernel_rfl
  t22 := by kernel_rfl
  a22 := fun w => by kernel_rfl
  z22 := fun w => by kernel_rfl
  v22 := fun w => by kernel_rfl
  i22 := by kernel_rfl
  t25 := by kernel_rfl
  a25 := fun w => by kernel_rfl
  z25 := fun w => by kernel_rfl
  v25 := fun w => by kernel_rfl
  i25 := by kernel_rfl
  t54 := by kernel_rfl
  a54 := fun w => by kernel_rfl
  z54 := fun w => by kernel_rfl
  g1 := by kernel_rfl }
/-- the table of TrailingZeros64 -/
def TzT (w : World) : Prop := TabAt 1 Lib.deBruijn64tab w
theorem tz_low : LowFact (1 + 1) TzT := fun w w' h ht j hj => (World.cell?_of_block (w := w) (a := ⟨1, j, none⟩) (h _ (Nat.lt_succ_self _))).trans (ht j hj)
abbrev FrZ : Frm := Frm.tab (1 + 1) TzT tz_low
theorem tz64C (x : Nat) (hx : x < 18446744073709551616) : Contract FrZ Tryd.prog 52 [.i .u64 x] (fun r => r = .i .i64 (Lib.ctz 64 x : Nat)) := by
  refine ⟨enters_of Tryd.func52 rfl (by kernel_rfl), fun R w hinv hargs hR => ?_⟩
  refine (Any7.bits_TrailingZeros64 tzLays x hx w (fun _ => hinv.2)).mono ?_
  rintro e w' ⟨rfl, rfl⟩
  exact ⟨_, rfl, rfl, trivial, Evo.refl _ _, hinv⟩
theorem len64C (F : Frm) (x : Nat) (hx : x < 18446744073709551616) : Contract F Tryd.prog 53 [.i .u64 x] (fun r => r = .i .i64 (Lib.bitLen x : Nat)) := by
  refine ofCalls1 Tryd.func53 rfl (by kernel_rfl) fun R w hs hR => ?_
  refine (Tryd.bits_Len64 (x : Int) w (by omega) (by omega)).mono ?_
  rintro e w' ⟨rfl, rfl⟩
  exact ⟨_, rfl, rfl, trivial, below_refl _⟩
theorem tz_of_laid {w : World} {l : List (String × DataW Unit)} (h : laidMetH Tryd.prog l w) (hp : (l.all fun x => x.2.handleName?.isNone) = true) (hm : ("math/bits.deBruijn64tab", Lib.tabData .u8 (Lib.deBruijn64tab.map (fun n : Nat => (n : Int)))) ∈ l) : TzT w ∧ 1 + 1 ≤ w.heap.size := by
  have hg : Tryd.prog.globalNamed "math/bits.deBruijn64tab" = some 1 := by kernel_rfl
  have ht := laid_tab h hp hm (t := 95) (e := 5) (m := 64) hg (by kernel_rfl) (by kernel_rfl) (by kernel_rfl) (by kernel_rfl) (by kernel_rfl)
  refine ⟨fun j hj => ?_, ?_⟩
  · have := ht.cell hg j (by simpa using hj)
    rw [this]
    congr 2
    simp [List.getD, hj]
  · unfold Lib.TabIs World.var? at ht
    rw [hg] at ht
    simp only [Option.bind_some] at ht
    by_cases h0 : 1 < w.heap.size
    · exact h0
    · rw [Array.getElem?_eq_none (by omega)] at ht; cases ht
end Go.Proofs.YtceacooambpkdaaDoor
