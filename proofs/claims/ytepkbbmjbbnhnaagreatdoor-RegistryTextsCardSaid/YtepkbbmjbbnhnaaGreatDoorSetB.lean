/- A variable of the call's own is only read from now on. -/
import Derived.Test.YtepkbbmjbbnhnaaGreatDoorPk4
import Derived.Test.YtepkbbmjbbnhnaaGreatDoorDrwB
set_option linter.unusedSimpArgs false
set_option linter.unusedVariables false
namespace Go.Proofs.YtepkbbmjbbnhnaaGreatDoor
namespace Eng
theorem Sat.settleBox {P : Program} {F : Frm} {n : Nat} {env : List (Nat × SV)} {own : List Own} {c : Code} {K : Exit → St → Prop} (t : Nat) {id blk ty : Nat} {cs : List SV} (hl : look env t = some (.op id blk 0)) (ho : own[id]? = some (.box blk ty cs))
    (h : Sat P F c ⟨n, (t, .el ⟨blk, 0, none⟩ cs.length fun j => cs.getD j default) :: env, own.set id .gone⟩ K) : Sat P F c ⟨n, env, own⟩ K := by
  rintro R0 w0 a w ⟨ob, R, hr⟩
  have hidl : id < own.length := (List.getElem?_eq_some_iff.1 ho).1
  have hob := hr.own id _ ho
  obtain ⟨b1, b2, b3, b4⟩ := hob
  have hblt : blk < w.heap.size := (Array.getElem?_eq_some_iff.1 b3).1
  have hr' : RelR F R0 w0 ob (fun b => R b ∨ b = blk) ⟨n, env, own.set id .gone⟩ a w := by
    refine hr.turn (fun _ => False) rfl rfl rfl (Nat.le_refl _) (fun _ h => h.elim) (fun _ _ _ => rfl) (fun _ h => .inl h) (fun b hb => ?_) ?_ ?_ (gb_set hr.evo.size hr.gb ho fun b hb => by cases hb)
    · rcases hb with hb | rfl
      · exact .inl hb
      · exact .inr ⟨b1, hblt, hr.gb id _ ho b rfl⟩
    · intro i x hx
      rw [List.getElem?_set] at hx
      split at hx
      · rename_i e'
        subst e'
        simp only [hidl, if_true, Option.some.injEq] at hx
        subst hx
        trivial
      · rename_i hne
        refine Own.ok_keep (hr.own i x hx) (fun _ h => .inl h) (fun b hbx hb => ?_) (fun _ _ => rfl) (fun _ _ => rfl)
        rcases hb with hb | rfl
        · exact hb
        · exact absurd hbx (hr.dist id i _ x hne ho hx b rfl)
    · intro i j o1 o2 hij h1 h2 b hb1 hb2
      rw [List.getElem?_set] at h1 h2
      split at h1 <;> split at h2
      · omega
      · rename_i e' hne
        subst e'
        simp only [hidl, if_true, Option.some.injEq] at h1
        subst h1
        cases hb1
      · rename_i hne e'
        subst e'
        simp only [hidl, if_true, Option.some.injEq] at h2
        subst h2
        cases hb2
      · exact hr.dist i j o1 o2 hij h1 h2 b hb1 hb2
  refine h R0 w0 a w ⟨ob, _, hr'.defers, ?_, hr'.size, hr'.own, hr'.dist, hr'.evo, hr'.inv, hr'.obM, hr'.gb, hr'.obw, hr'.rr, hr'.r0⟩
  intro u s hu
  simp only [look] at hu
  split at hu
  · rename_i e
    simp only [Option.some.injEq] at hu
    subst hu
    subst e
    refine ⟨(hr'.env t _ hl).1, blk, 0, rfl, .inr rfl, fun j hj => ?_⟩
    have hm : cs.getD j default ∈ cs := getD_mem hj
    refine ⟨?_, (b4 _ hm).1, SV.ok_mono (fun _ h => .inl h) (fun _ _ => rfl) _ (b4 _ hm).2⟩
    rw [cell_of_row w blk _ _ _ _ b3]
    simp [List.getD, hj]
  · exact hr'.env u s hu
theorem Sat.settleLeaf {P : Program} {F : Frm} {n : Nat} {env : List (Nat × SV)} {own : List Own} {c : Code} {K : Exit → St → Prop} (id j : Nat) {blk ty id2 len cap e sz : Nat} {ad : Option Addr} {cs : List SV} {rd : Nat → Nat → SV}
    (hb : own[id]? = some (.box blk ty cs)) (hj : cs[j]? = some (.os id2 ad len cap)) (h2 : own[id2]? = some (.row ad e len cap sz rd))
    (h : Sat P F c ⟨n, env, (own.set id2 (.frz ad len cap sz rd)).set id (.box blk ty (cs.set j (.sl ad len cap sz rd)))⟩ K) : Sat P F c ⟨n, env, own⟩ K := by
  rintro R0 w0 a w ⟨ob, R, hr⟩
  have hf : frz own [.os id2 ad len cap] = own.set id2 (.frz ad len cap sz rd) := by simp [frz, frzOne, h2]
  have hne : id2 ≠ id := fun e => by subst e; rw [hb] at h2; cases h2
  have hlt2 : id2 < own.length := (List.getElem?_eq_some_iff.1 h2).1
  obtain ⟨R', hRR, hr'⟩ := hr.frz [.os id2 ad len cap]
  rw [hf] at hr'
  have hb' : (own.set id2 (.frz ad len cap sz rd))[id]? = some (.box blk ty cs) := by rw [List.getElem?_set_ne hne]; exact hb
  have h2' : (own.set id2 (.frz ad len cap sz rd))[id2]? = some (.frz ad len cap sz rd) := by rw [List.getElem?_set_self hlt2]
  obtain ⟨g1, g2, g3, g4⟩ := hr'.own id _ hb'
  have hfz : (SV.sl ad len cap sz rd).ok R' w := hr'.own id2 _ h2'
  refine h R0 w0 a w ⟨ob, R', ?_⟩
  have hjl : j < cs.length := (List.getElem?_eq_some_iff.1 hj).1
  have hden : (cs.set j (.sl ad len cap sz rd)).map SV.den = cs.map SV.den := by
    apply List.ext_getElem?
    intro q
    rw [List.getElem?_map, List.getElem?_map, List.getElem?_set]
    split
    · rename_i e
      subst e
      simp only [hjl, if_true, hj, Option.map_some]
      rfl
    · rfl
  refine hr'.setOwn (g := blk) hb' rfl (fun b hb => by simpa [Own.blk] using hb.symm) rfl rfl rfl (Nat.le_refl _) (fun _ _ _ => rfl) ⟨g1, g2, by rw [hden]; exact g3, fun c' hc' => ?_⟩
  rcases List.mem_or_eq_of_mem_set hc' with hc' | rfl
  · exact g4 c' hc'
  · exact ⟨rfl, hfz⟩
end Eng
end Go.Proofs.YtepkbbmjbbnhnaaGreatDoor
