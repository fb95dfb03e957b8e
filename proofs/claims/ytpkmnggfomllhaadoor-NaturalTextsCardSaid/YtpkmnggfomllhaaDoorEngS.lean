/- The evaluator, part S: Bools of a variable that are written out, as Bools. -/
import Derived.Test.YtpkmnggfomllhaaDoorEngR
set_option linter.unusedSimpArgs false
set_option linter.unusedVariables false
namespace Go.Proofs.YtpkmnggfomllhaaDoor
namespace Eng
variable {P : Program} {F : Frm}
theorem Sat.boxBools {c : Code} {K : Exit → St → Prop} {n : Nat} {env : List (Nat × SV)} {own : List Own} (id : Nat) {blk ty : Nat} {cs : List SV} (hl : own[id]? = some (.box blk ty cs))
    (h : Sat P F c ⟨n, env, own.set id (.box blk ty (cs.map roB))⟩ K) : Sat P F c ⟨n, env, own⟩ K := by
  rintro R0 w0 a w ⟨ob, R, hr⟩
  refine h R0 w0 a w ⟨ob, R, ?_⟩
  have hbox := hr.own id _ hl
  have hidl : id < own.length := (List.getElem?_eq_some_iff.1 hl).1
  have hden : (cs.map roB).map SV.den = cs.map SV.den := by
    rw [List.map_map]
    exact List.map_congr_left fun s _ => roB_den s
  have hok : (Own.box blk ty (cs.map roB)).ok R ob w := by
    refine ⟨hbox.1, hbox.2.1, by rw [hden]; exact hbox.2.2.1, fun x hx => ?_⟩
    obtain ⟨s, hs, rfl⟩ := List.mem_map.1 hx
    obtain ⟨h1, h2⟩ := hbox.2.2.2 s hs
    refine ⟨by rw [roB_den]; exact h1, ?_⟩
    cases s <;> first | exact h2 | trivial
  refine ⟨hr.defers, hr.env, hr.size, ?_, ?_, hr.evo, hr.inv, hr.obM, ?_, hr.obw, hr.rr, hr.r0⟩
  · intro i x hx
    rw [List.getElem?_set] at hx
    split at hx
    · simp only [hidl, if_true, Option.some.injEq] at hx
      subst hx
      exact hok
    · exact hr.own i x hx
  · intro i k x y hik hx hy b hb1 hb2
    rw [List.getElem?_set] at hx hy
    split at hx <;> split at hy
    · omega
    · rename_i e1 _
      subst e1
      simp only [hidl, if_true, Option.some.injEq] at hx
      subst hx
      exact hr.dist id k _ y hik hl hy b hb1 hb2
    · rename_i _ e1
      subst e1
      simp only [hidl, if_true, Option.some.injEq] at hy
      subst hy
      exact hr.dist i id x _ hik hx hl b hb1 hb2
    · exact hr.dist i k x y hik hx hy b hb1 hb2
  · exact gb_set (m := w0.w.heap.size) (Nat.le_refl _) hr.gb hl fun b hb => .inl hb
end Eng
end Go.Proofs.YtpkmnggfomllhaaDoor
