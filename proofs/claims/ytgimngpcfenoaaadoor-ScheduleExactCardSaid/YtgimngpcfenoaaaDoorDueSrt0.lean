/- Sorting in place, by the evaluator: what is common; insertion sort. -/
import Derived.Test.YtgimngpcfenoaaaDoorDueMath
import Derived.Test.YtgimngpcfenoaaaDoorPk3
import Derived.Sort.AssemblyPlain
set_option linter.unusedSimpArgs false
set_option linter.unusedVariables false
namespace Go.Proofs.YtgimngpcfenoaaaDoor
open Go.Sort Eng
def dueRd (d : Array Due) : Nat → Nat → SV := fun i j => (Due.cs d[i]!).getD j default
def dueRow (ad : Option Addr) (N cap : Nat) (d : Array Due) : Own := .row ad 36 N cap 3 (dueRd d)
def dueAg (x : Due) : SV := .agg 3 fun j => (Due.cs x).getD j default
theorem due_one (d : Array Due) (i j : Nat) (h : j < 3) : oneS (dueRd d i j) = true := by
  rcases (show j = 0 ∨ j = 1 ∨ j = 2 by omega) with rfl | rfl | rfl <;> rfl
def dueCmp (g : FuncId) (lt : Due → Due → Bool) : Prop := ∀ x y, ∃ c : Int, lt x y = decide (c < 0) ∧ ∀ F, Contract F Tryd.prog g [dueAg x, dueAg y] (fun r => r = .i .i64 c)
theorem due_swp {d : Array Due} {N i j : Nat} (hN : d.size = N) (hi : i < N) (hj : j < N) : rdEq N 3 (rdSet (rdSet (dueRd d) i 0 ((List.range 3).map (dueRd d j))) j 0 ((List.range 3).map (dueRd d i))) (dueRd (swp d i j)) := by
  intro p q hp hq
  have hl : ∀ k, ((List.range 3).map (dueRd d k)).length = 3 := fun k => by simp
  have hg : ∀ k, ((List.range 3).map (dueRd d k)).getD (q - 0) default = dueRd d k q := fun k => by simp [List.getD, hq]
  have hs := swp_get d (show i < d.size by omega) (show j < d.size by omega) p
  unfold rdSet
  simp only [hl, hg, Nat.zero_le, Nat.zero_add, hq, and_true, true_and]
  show (if p = j then dueRd d i q else if p = i then dueRd d j q else dueRd d p q) = (Due.cs (swp d i j)[p]!).getD q default
  rw [hs]
  unfold dueRd
  split
  · rename_i e; subst e; simp
  · split
    · rename_i e1 e; subst e; simp [e1]
    · rename_i e1 e2; simp [e1, e2]
theorem due_blk {ad : Option Addr} {N cap : Nat} (d d' : Array Due) : (dueRow ad N cap d').blk = (dueRow ad N cap d).blk := by cases ad <;> rfl
theorem due_qcmp {g : FuncId} {lt : Due → Due → Bool} (hc : dueCmp g lt) {ds : List (Option Tmp)} {rest : List Oper} {dst : Option Tmp} {st : St} {k : St → Prop} (x y : Due) (hk : ∀ c : Int, lt x y = decide (c < 0) → WQ Tryd.prog ds rest (st.put dst (.i .i64 c)) k) :
    QCall Tryd.prog ds rest dst st g (some [dueAg x, dueAg y]) k := by
  obtain ⟨c, h1, h2⟩ := hc x y
  exact qcall (h2 Frm.nil) rfl (ok_plain rfl) (hk c h1)
end Go.Proofs.YtgimngpcfenoaaaDoor
