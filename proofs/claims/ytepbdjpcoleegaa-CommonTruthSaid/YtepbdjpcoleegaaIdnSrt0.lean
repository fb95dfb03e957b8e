import Derived.Test.YtepbdjpcoleegaaIdnMath
import Derived.Test.YtepbdjpcoleegaaEngP
import Derived.Sort.AssemblyPlain

/- Sorting in place, by the evaluator: what is common; insertion sort. -/
set_option linter.unusedSimpArgs false
set_option linter.unusedVariables false
namespace Go.Proofs.Ytepbdjpcoleegaa
open Go.Sort Eng
def idnRd (d : Array Idn) : Nat → Nat → SV := fun i j => (Idn.cs d[i]!).getD j default
def idnRow (ad : Option Addr) (N cap : Nat) (d : Array Idn) : Own := .row ad 56 N cap 3 (idnRd d)
def idnAg (x : Idn) : SV := .agg 3 fun j => (Idn.cs x).getD j default
theorem idn_one (d : Array Idn) (i j : Nat) (h : j < 3) : oneS (idnRd d i j) = true := by
 rcases (show j = 0 ∨ j = 1 ∨ j = 2 by omega) with rfl | rfl | rfl <;> rfl
def idnCmp (g : FuncId) (lt : Idn → Idn → Bool) : Prop := ∀ x y, ∃ c : Int, lt x y = decide (c < 0) ∧ ∀ F, Contract F Try.prog g [idnAg x, idnAg y] (fun r => r = .i .i64 c)
theorem idn_swp {d : Array Idn} {N i j : Nat} (hN : d.size = N) (hi : i < N) (hj : j < N) : rdEq N 3 (rdSet (rdSet (idnRd d) i 0 ((List.range 3).map (idnRd d j))) j 0 ((List.range 3).map (idnRd d i))) (idnRd (swp d i j)) := by
 intro p q hp hq
 have hl : ∀ k, ((List.range 3).map (idnRd d k)).length = 3 := fun k => by simp
 have hg : ∀ k, ((List.range 3).map (idnRd d k)).getD (q - 0) default = idnRd d k q := fun k => by simp [List.getD, hq]
 have hs := swp_get d (show i < d.size by omega) (show j < d.size by omega) p
 unfold rdSet
 simp only [hl, hg, Nat.zero_le, Nat.zero_add, hq, and_true, true_and]
 show (if p = j then idnRd d i q else if p = i then idnRd d j q else idnRd d p q) = (Idn.cs (swp d i j)[p]!).getD q default
 rw [hs]
 unfold idnRd
 split
 ·rename_i e; subst e; simp
 ·split
  ·rename_i e1 e; subst e; simp [e1]
  ·rename_i e1 e2; simp [e1, e2]
theorem idn_blk {ad : Option Addr} {N cap : Nat} (d d' : Array Idn) : (idnRow ad N cap d').blk = (idnRow ad N cap d).blk := by cases ad <;> rfl
theorem idn_qcmp {g : FuncId} {lt : Idn → Idn → Bool} (hc : idnCmp g lt) {ds : List (Option Tmp)} {rest : List Oper} {dst : Option Tmp} {st : St} {k : St → Prop} (x y : Idn) (hk : ∀ c : Int, lt x y = decide (c < 0) → WQ Try.prog ds rest (st.put dst (.i .i64 c)) k) :
  QCall Try.prog ds rest dst st g (some [idnAg x, idnAg y]) k := by
 obtain ⟨c, h1, h2⟩ := hc x y
 exact qcall (h2 Frm.nil) rfl (ok_plain rfl) (hk c h1)
end Go.Proofs.Ytepbdjpcoleegaa
