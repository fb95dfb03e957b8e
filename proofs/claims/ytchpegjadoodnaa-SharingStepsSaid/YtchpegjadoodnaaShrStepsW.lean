/- SharingSteps: from the contract to the statement. -/
import Derived.Test.YtchpegjadoodnaaShrSteps
import Derived.Test.YtchpegjadoodnaaOpenE
import Derived.Test.YtchpegjadoodnaaShSharingSteps
set_option linter.unusedSimpArgs false
set_option linter.unusedVariables false
namespace Go.Proofs.Ytchpegjadoodnaa
open Eng Go.RowKit Go.WideShapes Go.ChangeShapes

theorem sh_fields {P : Program} {D : Nat} {t : TypeId} {ps : List (Nat × TypeId)} {l : List SV} (hu : P.underlying t = some (.struct (P.fieldsOf t))) (hm : (P.fieldsOf t).toList.map (fun f => (f.offset, f.type)) = ps) (h : Sh P (D + 1) t l) :
    l.length = P.cellsOf t ∧ ∀ p ∈ ps, Sh P D p.2 ((l.drop p.1).take (P.cellsOf p.2)) := by
  obtain ⟨h1, h2⟩ := sh_struct hu h
  refine ⟨h1, fun p hp => ?_⟩
  rw [← hm] at hp
  obtain ⟨f, hf, rfl⟩ := List.mem_map.1 hp
  exact h2 f hf

theorem smp_of_sh {D : Nat} {l : List SV} (h : Sh Try.prog (D + 2) 39 l) : ∃ s : Smp, l = s.cs ∧ i64 s.id := by
  obtain ⟨h1, h2⟩ := sh_fields (ps := [(0, 3), (1, 3), (2, 3), (3, 37)]) (by kernel_rfl) (by kernel_rfl) h
  have hc : Try.prog.cellsOf 39 = 4 := by kernel_rfl
  have c1 : Try.prog.cellsOf 3 = 1 := by kernel_rfl
  have c2 : Try.prog.cellsOf 37 = 1 := by kernel_rfl
  rw [hc] at h1
  match l, h1 with
  | [x0, x1, x2, x3], _ =>
    have g0 := h2 (0, 3) (by simp)
    have g1 := h2 (1, 3) (by simp)
    have g2 := h2 (2, 3) (by simp)
    have g3 := h2 (3, 37) (by simp)
    simp only [c1, c2] at g0 g1 g2 g3
    obtain ⟨n0, e0, w0⟩ := sh_int (k := .i64) (by kernel_rfl) g0
    obtain ⟨n1, e1, w1⟩ := sh_int (k := .i64) (by kernel_rfl) g1
    obtain ⟨n2, e2, w2⟩ := sh_int (k := .i64) (by kernel_rfl) g2
    obtain ⟨n3, e3, w3⟩ := sh_int (k := .u32) (by kernel_rfl) g3
    simp at e0 e1 e2 e3
    subst e0 e1 e2 e3
    exact ⟨⟨n0, n1, n2, n3⟩, rfl, by have := bounds_i64 w2; exact ⟨this.1, this.2⟩⟩

theorem steps_walk : sharingSteps.Walk := by
  intro w l0 l1 l2 l3 l4 c0 s0 o0 c1 s1 o1 c2 s2 o2 c3 s3 o3 c4 s4 o4
  obtain ⟨a, cap, z, rd, rfl, hz, hrd⟩ := sh_ints (e := 5) (k := .u8) (by kernel_rfl) (by kernel_rfl) (by kernel_rfl) s0
  obtain ⟨ra, rc, raw, rrd, rfl, hraw, hrr⟩ := sh_slice Smp.cs (fun s => i64 s.id) (sz := 4) (e := 39) (by kernel_rfl) (by kernel_rfl) (fun l h => smp_of_sh h) s1
  obtain ⟨n2, rfl, w2⟩ := sh_int (k := .i64) (by kernel_rfl) s2
  obtain ⟨n3, rfl, w3⟩ := sh_int (k := .i64) (by kernel_rfl) s3
  obtain ⟨n4, rfl, w4⟩ := sh_int (k := .i64) (by kernel_rfl) s4
  rw [valS_one (by kernel_rfl)] at o0 o1 o2 o3 o4 ⊢
  rw [valS_one (by kernel_rfl), valS_one (by kernel_rfl), valS_one (by kernel_rfl), valS_one (by kernel_rfl)]
  have hl : raw.length ≤ 9223372036854775807 := by
    obtain ⟨h1, h2, _⟩ := o1
    unfold maxLen at h2
    omega
  have hc := stepsC a cap z hz ra rc raw (fun i hi => hraw _ (getD_mem hi)) hl n2 n3 n4
  have hc' : Contract Frm.nil Try.prog 6 [.sl a z.length cap 1 rd, .sl ra raw.length rc 4 rrd, .i .i64 n2, .i .i64 n3, .i .i64 n4] (fun r => r = .b true) :=
    Contract.of_sim hc ⟨sim_sl hrd, sim_sl hrr, sim_refl _, sim_refl _, sim_refl _, trivial⟩
  exact walk_of hc' (by
    intro s hs
    simp only [List.mem_cons, List.mem_singleton, List.not_mem_nil, or_false] at hs
    rcases hs with rfl | rfl | rfl | rfl | rfl <;> assumption)

theorem steps_holds : Rows.SharingStepsSaid := sharingSteps.of_walk steps_walk
end Go.Proofs.Ytchpegjadoodnaa
