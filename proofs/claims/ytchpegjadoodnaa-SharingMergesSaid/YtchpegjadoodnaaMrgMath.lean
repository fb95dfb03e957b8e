/- What is merged back: a plain law (no program in sight). -/
import Derived.Test.YtchpegjadoodnaaSmpMath
import Derived.Sort.AssemblyPlain
namespace Go.Proofs.Ytchpegjadoodnaa
open Go.Sort

theorem sorted_eq : ∀ (x y : List Smp), y.Perm x → x.Pairwise (fun a b => a.at_ < b.at_) → y.Pairwise (fun a b => a.at_ ≤ b.at_) → y = x
  | [], y, hp, _, _ => List.Perm.eq_nil hp
  | a :: x, [], hp, _, _ => by simpa using hp.length_eq
  | a :: x, b :: y, hp, hx, hy => by
    have hb : b ∈ a :: x := hp.mem_iff.1 (by simp)
    have ha : a ∈ b :: y := hp.mem_iff.2 (by simp)
    rw [List.pairwise_cons] at hx hy
    have e : b = a := by
      rcases List.mem_cons.1 hb with e | hb
      · exact e
      · rcases List.mem_cons.1 ha with e | ha
        · exact e.symm
        · have h1 := hx.1 b hb
          have h2 := hy.1 a ha
          omega
    subst e
    rw [sorted_eq x y (List.Perm.cons_inv hp) hx.2 hy.2]

theorem valid_pairwise {l : List Smp} (hv : validL l = true) : l.Pairwise (fun a b => a.at_ < b.at_) := by
  rw [validL_iff] at hv
  have key : ∀ n i, i + n + 1 < l.length → (l.getD i default).at_ < (l.getD (i + n + 1) default).at_ := by
    intro n
    induction n with
    | zero =>
      intro i hi
      have h1 := (hv i (by omega)).1
      have h2 := (hv (i + 1) (by omega)).2 (by omega)
      unfold Smp.Ok at h1
      simp only [Nat.add_sub_cancel] at h2
      simp only [Nat.add_zero]
      omega
    | succ n ih =>
      intro i hi
      have h0 := ih i (by omega)
      have h1 := (hv (i + n + 1) (by omega)).1
      have h2 := (hv (i + n + 1 + 1) (by omega)).2 (by omega)
      unfold Smp.Ok at h1
      simp only [Nat.add_sub_cancel] at h2
      rw [show i + (n + 1) + 1 = i + n + 1 + 1 by omega]
      omega
  rw [List.pairwise_iff_getElem]
  intro i j hi hj hij
  have := key (j - i - 1) i (by omega)
  rw [show i + (j - i - 1) + 1 = j by omega] at this
  simpa [List.getD, hi, hj] using this

theorem swo_at : SWO (fun x y : Smp => decide (x.at_ < y.at_)) where
  irrefl x := by simp
  trans x y z h1 h2 := by simp only [decide_eq_true_eq] at *; omega
  ntrans x y z h1 h2 := by simp only [decide_eq_false_iff_not] at *; omega

theorem merge_back (x : List Smp) (d : Array Smp) (hv : validL x = true) (hp : d.toList.Perm x) : (insertionSort (fun x y : Smp => decide (x.at_ < y.at_)) d 0 d.size).toList = x := by
  have hs := insertionSort_holds swo_at d 0 d.size (Nat.zero_le _) (Nat.le_refl _)
  generalize insertionSort (fun x y : Smp => decide (x.at_ < y.at_)) d 0 d.size = d' at hs
  obtain ⟨⟨h1, h2, h3⟩, h4⟩ := hs
  refine sorted_eq x d'.toList ?_ (valid_pairwise hv) ?_
  · refine List.Perm.trans ?_ hp
    have e1 : d'.extract 0 d.size = d' := by rw [← h1]; simp
    have e2 : d.extract 0 d.size = d := by simp
    rw [e1, e2] at h3
    exact h3
  · rw [List.pairwise_iff_getElem]
    intro i j hi hj hij
    have := h4 i j (Nat.zero_le _) hij (by simp at hj; omega)
    simp only [decide_eq_false_iff_not] at this
    simp at hi hj
    simp only [getElem!_def] at this
    simp [hi, hj] at this
    simpa using this
end Go.Proofs.Ytchpegjadoodnaa
