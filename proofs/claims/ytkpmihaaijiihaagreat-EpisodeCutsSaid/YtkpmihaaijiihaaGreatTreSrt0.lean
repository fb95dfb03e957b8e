/- Sorting in place, by the evaluator: what is common; insertion sort. -/
import Derived.Test.YtkpmihaaijiihaaGreatTreMath
import Derived.Test.YtkpmihaaijiihaaGreatPk3
import Derived.Sort.AssemblyPlain
set_option linter.unusedSimpArgs false
set_option linter.unusedVariables false
namespace Go.Proofs.YtkpmihaaijiihaaGreat
open Go.Sort Eng
def treRd (d : Array Tre) : Nat → Nat → SV := fun i j => (Tre.cs d[i]!).getD j default
def treRow (ad : Option Addr) (N cap : Nat) (d : Array Tre) : Own := .row ad 63 N cap 3 (treRd d)
def treAg (x : Tre) : SV := .agg 3 fun j => (Tre.cs x).getD j default
theorem tre_one (d : Array Tre) (i j : Nat) (h : j < 3) : oneS (treRd d i j) = true := by
  rcases (show j = 0 ∨ j = 1 ∨ j = 2 by omega) with rfl | rfl | rfl <;> rfl
def treCmp (g : FuncId) (lt : Tre → Tre → Bool) : Prop := ∀ x y, ∃ c : Int, lt x y = decide (c < 0) ∧ ∀ F, Contract F Tryz.prog g [treAg x, treAg y] (fun r => r = .i .i64 c)
theorem tre_swp {d : Array Tre} {N i j : Nat} (hN : d.size = N) (hi : i < N) (hj : j < N) : rdEq N 3 (rdSet (rdSet (treRd d) i 0 ((List.range 3).map (treRd d j))) j 0 ((List.range 3).map (treRd d i))) (treRd (swp d i j)) := by
  intro p q hp hq
  have hl : ∀ k, ((List.range 3).map (treRd d k)).length = 3 := fun k => by simp
  have hg : ∀ k, ((List.range 3).map (treRd d k)).getD (q - 0) default = treRd d k q := fun k => by simp [List.getD, hq]
  have hs := swp_get d (show i < d.size by omega) (show j < d.size by omega) p
  unfold rdSet
  simp only [hl, hg, Nat.zero_le, Nat.zero_add, hq, and_true, true_and]
  show (if p = j then treRd d i q else if p = i then treRd d j q else treRd d p q) = (Tre.cs (swp d i j)[p]!).getD q default
  rw [hs]
  unfold treRd
  split
  · rename_i e; subst e; simp
  · split
    · rename_i e1 e; subst e; simp [e1]
    · rename_i e1 e2; simp [e1, e2]
theorem tre_blk {ad : Option Addr} {N cap : Nat} (d d' : Array Tre) : (treRow ad N cap d').blk = (treRow ad N cap d).blk := by cases ad <;> rfl
theorem tre_qcmp {g : FuncId} {lt : Tre → Tre → Bool} (hc : treCmp g lt) {ds : List (Option Tmp)} {rest : List Oper} {dst : Option Tmp} {st : St} {k : St → Prop} (x y : Tre) (hk : ∀ c : Int, lt x y = decide (c < 0) → WQ Tryz.prog ds rest (st.put dst (.i .i64 c)) k) :
    QCall Tryz.prog ds rest dst st g (some [treAg x, treAg y]) k := by
  obtain ⟨c, h1, h2⟩ := hc x y
  exact qcall (h2 Frm.nil) rfl (ok_plain rfl) (hk c h1)
end Go.Proofs.YtkpmihaaijiihaaGreat
