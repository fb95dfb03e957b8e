/- Sorting in place, by the evaluator: what is common; insertion sort. -/
import Derived.Test.YtchpegjadoodnaaSmpE
import Derived.Test.YtchpegjadoodnaaEngP
import Derived.Sort.AssemblyPlain
set_option linter.unusedSimpArgs false
set_option linter.unusedVariables false
namespace Go.Proofs.Ytchpegjadoodnaa
open Go.Sort Eng

/-- a row of elements -/
def smpRd (d : Array Smp) : Nat → Nat → SV := fun i j => (Smp.cs d[i]!).getD j default
def smpRow (ad : Option Addr) (N cap : Nat) (d : Array Smp) : Own := .row ad 39 N cap 4 (smpRd d)
def smpAg (x : Smp) : SV := .agg 4 fun j => (Smp.cs x).getD j default
theorem smp_one (d : Array Smp) (i j : Nat) (h : j < 4) : oneS (smpRd d i j) = true := by
  rcases (show j = 0 ∨ j = 1 ∨ j = 2 ∨ j = 3 by omega) with rfl | rfl | rfl | rfl <;> rfl

/-- a comparison that is handed over -/
def smpCmp (g : FuncId) (lt : Smp → Smp → Bool) : Prop := ∀ x y, ∃ c : Int, lt x y = decide (c < 0) ∧ ∀ F, Contract F Try.prog g [smpAg x, smpAg y] (fun r => r = .i .i64 c)

theorem smp_swp {d : Array Smp} {N i j : Nat} (hN : d.size = N) (hi : i < N) (hj : j < N) : rdEq N 4 (rdSet (rdSet (smpRd d) i 0 ((List.range 4).map (smpRd d j))) j 0 ((List.range 4).map (smpRd d i))) (smpRd (swp d i j)) := by
  intro p q hp hq
  have hl : ∀ k, ((List.range 4).map (smpRd d k)).length = 4 := fun k => by simp
  have hg : ∀ k, ((List.range 4).map (smpRd d k)).getD (q - 0) default = smpRd d k q := fun k => by simp [List.getD, hq]
  have hs := swp_get d (show i < d.size by omega) (show j < d.size by omega) p
  unfold rdSet
  simp only [hl, hg, Nat.zero_le, Nat.zero_add, hq, and_true, true_and]
  show (if p = j then smpRd d i q else if p = i then smpRd d j q else smpRd d p q) = (Smp.cs (swp d i j)[p]!).getD q default
  rw [hs]
  unfold smpRd
  split
  · rename_i e; subst e; simp
  · split
    · rename_i e1 e; subst e; simp [e1]
    · rename_i e1 e2; simp [e1, e2]

theorem smp_blk {ad : Option Addr} {N cap : Nat} (d d' : Array Smp) : (smpRow ad N cap d').blk = (smpRow ad N cap d).blk := by cases ad <;> rfl
theorem smp_qcmp {g : FuncId} {lt : Smp → Smp → Bool} (hc : smpCmp g lt) {ds : List (Option Tmp)} {rest : List Oper} {dst : Option Tmp} {st : St} {k : St → Prop} (x y : Smp) (hk : ∀ c : Int, lt x y = decide (c < 0) → WQ Try.prog ds rest (st.put dst (.i .i64 c)) k) :
    QCall Try.prog ds rest dst st g (some [smpAg x, smpAg y]) k := by
  obtain ⟨c, h1, h2⟩ := hc x y
  exact qcall (h2 Frm.nil) rfl (ok_plain rfl) (hk c h1)
end Go.Proofs.Ytchpegjadoodnaa
