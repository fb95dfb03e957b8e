import Derived.Test.YtepbdjpcoleegaaResMath
import Derived.Test.YtepbdjpcoleegaaEngP
import Derived.Sort.AssemblyPlain

/- Sorting in place, by the evaluator: what is common; insertion sort. -/
set_option linter.unusedSimpArgs false
set_option linter.unusedVariables false
namespace Go.Proofs.Ytepbdjpcoleegaa
open Go.Sort Eng
def resRd (d : Array Res) : Nat → Nat → SV := fun i j => (Res.cs d[i]!).getD j default
def resRow (ad : Option Addr) (N cap : Nat) (d : Array Res) : Own := .row ad 44 N cap 17 (resRd d)
def resAg (x : Res) : SV := .agg 17 fun j => (Res.cs x).getD j default
theorem res_one (d : Array Res) (i j : Nat) (h : j < 17) : oneS (resRd d i j) = true := by
 rcases (show j = 0 ∨ j = 1 ∨ j = 2 ∨ j = 3 ∨ j = 4 ∨ j = 5 ∨ j = 6 ∨ j = 7 ∨ j = 8 ∨ j = 9 ∨ j = 10 ∨ j = 11 ∨ j = 12 ∨ j = 13 ∨ j = 14 ∨ j = 15 ∨ j = 16 by omega) with rfl | rfl | rfl | rfl | rfl | rfl | rfl | rfl | rfl | rfl | rfl | rfl | rfl | rfl | rfl | rfl | rfl <;> rfl
def resCmp (g : FuncId) (lt : Res → Res → Bool) : Prop := ∀ x y, ∃ c : Int, lt x y = decide (c < 0) ∧ ∀ F, Contract F Try.prog g [resAg x, resAg y] (fun r => r = .i .i64 c)
theorem res_swp {d : Array Res} {N i j : Nat} (hN : d.size = N) (hi : i < N) (hj : j < N) : rdEq N 17 (rdSet (rdSet (resRd d) i 0 ((List.range 17).map (resRd d j))) j 0 ((List.range 17).map (resRd d i))) (resRd (swp d i j)) := by
 intro p q hp hq
 have hl : ∀ k, ((List.range 17).map (resRd d k)).length = 17 := fun k => by simp
 have hg : ∀ k, ((List.range 17).map (resRd d k)).getD (q - 0) default = resRd d k q := fun k => by simp [List.getD, hq]
 have hs := swp_get d (show i < d.size by omega) (show j < d.size by omega) p
 unfold rdSet
 simp only [hl, hg, Nat.zero_le, Nat.zero_add, hq, and_true, true_and]
 show (if p = j then resRd d i q else if p = i then resRd d j q else resRd d p q) = (Res.cs (swp d i j)[p]!).getD q default
 rw [hs]
 unfold resRd
 split
 ·rename_i e; subst e; simp
 ·split
  ·rename_i e1 e; subst e; simp [e1]
  ·rename_i e1 e2; simp [e1, e2]
theorem res_blk {ad : Option Addr} {N cap : Nat} (d d' : Array Res) : (resRow ad N cap d').blk = (resRow ad N cap d).blk := by cases ad <;> rfl
theorem res_qcmp {g : FuncId} {lt : Res → Res → Bool} (hc : resCmp g lt) {ds : List (Option Tmp)} {rest : List Oper} {dst : Option Tmp} {st : St} {k : St → Prop} (x y : Res) (hk : ∀ c : Int, lt x y = decide (c < 0) → WQ Try.prog ds rest (st.put dst (.i .i64 c)) k) :
  QCall Try.prog ds rest dst st g (some [resAg x, resAg y]) k := by
 obtain ⟨c, h1, h2⟩ := hc x y
 exact qcall (h2 Frm.nil) rfl (ok_plain rfl) (hk c h1)
end Go.Proofs.Ytepbdjpcoleegaa
