import Derived.Test.YtepbdjpcoleegaaParMath
import Derived.Test.YtepbdjpcoleegaaEngP
import Derived.Sort.AssemblyPlain

/- Sorting in place, by the evaluator: what is common; insertion sort. -/
set_option linter.unusedSimpArgs false
set_option linter.unusedVariables false
namespace Go.Proofs.Ytepbdjpcoleegaa
open Go.Sort Eng
def parRd (d : Array Par) : Nat → Nat → SV := fun i j => (Par.cs d[i]!).getD j default
def parRow (ad : Option Addr) (N cap : Nat) (d : Array Par) : Own := .row ad 52 N cap 2 (parRd d)
def parAg (x : Par) : SV := .agg 2 fun j => (Par.cs x).getD j default
theorem par_one (d : Array Par) (i j : Nat) (h : j < 2) : oneS (parRd d i j) = true := by
 rcases (show j = 0 ∨ j = 1 by omega) with rfl | rfl <;> rfl
def parCmp (g : FuncId) (lt : Par → Par → Bool) : Prop := ∀ x y, ∃ c : Int, lt x y = decide (c < 0) ∧ ∀ F, Contract F Try.prog g [parAg x, parAg y] (fun r => r = .i .i64 c)
theorem par_swp {d : Array Par} {N i j : Nat} (hN : d.size = N) (hi : i < N) (hj : j < N) : rdEq N 2 (rdSet (rdSet (parRd d) i 0 ((List.range 2).map (parRd d j))) j 0 ((List.range 2).map (parRd d i))) (parRd (swp d i j)) := by
 intro p q hp hq
 have hl : ∀ k, ((List.range 2).map (parRd d k)).length = 2 := fun k => by simp
 have hg : ∀ k, ((List.range 2).map (parRd d k)).getD (q - 0) default = parRd d k q := fun k => by simp [List.getD, hq]
 have hs := swp_get d (show i < d.size by omega) (show j < d.size by omega) p
 unfold rdSet
 simp only [hl, hg, Nat.zero_le, Nat.zero_add, hq, and_true, true_and]
 show (if p = j then parRd d i q else if p = i then parRd d j q else parRd d p q) = (Par.cs (swp d i j)[p]!).getD q default
 rw [hs]
 unfold parRd
 split
 ·rename_i e; subst e; simp
 ·split
  ·rename_i e1 e; subst e; simp [e1]
  ·rename_i e1 e2; simp [e1, e2]
theorem par_blk {ad : Option Addr} {N cap : Nat} (d d' : Array Par) : (parRow ad N cap d').blk = (parRow ad N cap d).blk := by cases ad <;> rfl
theorem par_qcmp {g : FuncId} {lt : Par → Par → Bool} (hc : parCmp g lt) {ds : List (Option Tmp)} {rest : List Oper} {dst : Option Tmp} {st : St} {k : St → Prop} (x y : Par) (hk : ∀ c : Int, lt x y = decide (c < 0) → WQ Try.prog ds rest (st.put dst (.i .i64 c)) k) :
  QCall Try.prog ds rest dst st g (some [parAg x, parAg y]) k := by
 obtain ⟨c, h1, h2⟩ := hc x y
 exact qcall (h2 Frm.nil) rfl (ok_plain rfl) (hk c h1)
end Go.Proofs.Ytepbdjpcoleegaa
