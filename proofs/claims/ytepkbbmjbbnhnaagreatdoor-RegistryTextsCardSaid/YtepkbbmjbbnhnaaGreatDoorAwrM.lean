/- The example of the chapter, reckoned. -/
import Derived.Test.YtepkbbmjbbnhnaaGreatDoorPvrE
import Derived.Test.YtepkbbmjbbnhnaaGreatDoorRadE
import Derived.Test.YtepkbbmjbbnhnaaGreatDoorFmrE
set_option linter.unusedSimpArgs false
set_option linter.unusedVariables false
namespace Go.Proofs.YtepkbbmjbbnhnaaGreatDoor
open Go.Sort Eng
def aw1 : Ent := ⟨167772160, 8, 5, 0, 100⟩
def aw2 : Ent := ⟨167837696, 16, 7, 50, 80⟩
set_option maxRecDepth 100000 in
theorem aw_add1 : addV [] aw1 = ([aw1], 0) := by kernel_rfl
set_option maxRecDepth 100000 in
theorem aw_add2 : addV [aw1] aw2 = ([aw1, aw2], 0) := by kernel_rfl
set_option maxRecDepth 100000 in
theorem aw_p1 : (optE (lkV 167837697 49 [aw1, aw2])).prov = 5 := by kernel_rfl
set_option maxRecDepth 100000 in
theorem aw_p2 : (optE (lkV 167837697 50 [aw1, aw2])).prov = 7 := by kernel_rfl
set_option maxRecDepth 100000 in
theorem aw_p3 : (optE (lkV 167837697 100 [aw1, aw2])).prov = 0 := by kernel_rfl
set_option maxRecDepth 100000 in
theorem aw_ok : RegOk [aw1, aw2] := by decide +kernel
set_option maxRecDepth 100000 in
theorem aw_fmt : fmtV [aw1, aw2] = ("10.0.0.0/8 5 0 100\n10.1.0.0/16 7 50 80\n".toUTF8.data.toList, 0) := by decide +kernel
theorem perm_sorted_eq : ∀ {l m : List Int}, l.Perm m → l.Pairwise (· ≤ ·) → m.Pairwise (· ≤ ·) → l = m
  | [], m, h, _, _ => (List.nil_perm.1 h).symm
  | a :: l, [], h, _, _ => absurd (List.perm_nil.1 h) (by simp)
  | a :: l, b :: m, h, h1, h2 => by
    rw [List.pairwise_cons] at h1 h2
    have ha : a = b := by
      rcases List.mem_cons.1 (h.subset List.mem_cons_self) with e | e
      · exact e
      · rcases List.mem_cons.1 (h.symm.subset List.mem_cons_self) with e' | e'
        · exact e'.symm
        · have := h1.1 b e'
          have := h2.1 a e
          omega
    subst ha
    rw [perm_sorted_eq ((List.perm_cons a).1 h) h1.2 h2.2]
theorem sortI_perm (l : List Int) : (sortI l).Perm l := List.mergeSort_perm l _
theorem sortI_sorted (l : List Int) : (sortI l).Pairwise (· ≤ ·) := by
  have := List.pairwise_mergeSort (le := fun x y : Int => decide (x ≤ y)) (fun a b c h1 h2 => by simp only [decide_eq_true_eq] at *; omega) (fun a b => by simp only [Bool.or_eq_true, decide_eq_true_eq]; omega) l
  exact this.imp fun h => by simpa using h
theorem sortI_eq {l m : List Int} (h : m.Perm l) (hs : m.Pairwise (· ≤ ·)) : sortI l = m := perm_sorted_eq ((sortI_perm l).trans h.symm) (sortI_sorted l) hs
set_option maxRecDepth 100000 in
theorem aw_his (p : RgP) (h : p.es = [aw1, aw2]) : histL 167837697 p = [⟨5, 0, 50⟩, ⟨7, 50, 80⟩, ⟨5, 80, 100⟩, ⟨0, 100, 1125899906842624⟩] := by
  obtain ⟨ad, cap, es⟩ := p
  simp only at h
  subst h
  have e1 : ftsL 167837697 [⟨ad, cap, [aw1, aw2]⟩] = [0, 100, 50, 80] := by kernel_rfl
  have e2 : sortI ([0, 1125899906842624] ++ [0, 100, 50, 80]) = [0, 0, 50, 80, 100, 1125899906842624] := sortI_eq (by decide +kernel) (by decide +kernel)
  have e3 : timesL 167837697 [⟨ad, cap, [aw1, aw2]⟩] = [0, 50, 80, 100, 1125899906842624] := by unfold timesL; rw [e1, e2]; rfl
  unfold histL
  rw [if_pos (show RegOk (RgP.mk ad cap [aw1, aw2]).es from aw_ok), e3]
  show hist 167837697 [aw1, aw2] [0, 50, 80, 100, 1125899906842624] 4 = [⟨5, 0, 50⟩, ⟨7, 50, 80⟩, ⟨5, 80, 100⟩, ⟨0, 100, 1125899906842624⟩]
  kernel_rfl
end Go.Proofs.YtepkbbmjbbnhnaaGreatDoor
