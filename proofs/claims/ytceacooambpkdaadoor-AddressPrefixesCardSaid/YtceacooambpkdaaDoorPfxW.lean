/- AddressPrefixes: which prefixes are valid, what they contain, and how they compare, for any prefixes: the code's answers are the reference's: for every input, with no condition. -/
import Derived.Test.YtceacooambpkdaaDoorPfxE
set_option linter.unusedSimpArgs false
set_option linter.unusedVariables false
namespace Go.Proofs.YtceacooambpkdaaDoor
open Eng Go.RowKit Go.WideShapes Go.ChangeShapes

theorem sh_fields {P : Program} {D : Nat} {t : TypeId} {ps : List (Nat × TypeId)} {l : List SV} (hu : P.underlying t = some (.struct (P.fieldsOf t))) (hm : (P.fieldsOf t).toList.map (fun f => (f.offset, f.type)) = ps) (h : Sh P (D + 1) t l) :
    l.length = P.cellsOf t ∧ ∀ p ∈ ps, Sh P D p.2 ((l.drop p.1).take (P.cellsOf p.2)) := by
  obtain ⟨h1, h2⟩ := sh_struct hu h
  refine ⟨h1, fun p hp => ?_⟩
  rw [← hm] at hp
  obtain ⟨f, hf, rfl⟩ := List.mem_map.1 hp
  exact h2 f hf

set_option maxRecDepth 100000 in
theorem prf_of_sh {D : Nat} {l : List SV} (h : Sh Tryd.prog (D + 2) 25 l) : ∃ p : Prf, l = prC p ∧ prOk p := by
  obtain ⟨h1, h2⟩ := sh_fields (ps := [(0, 23), (1, 3)]) (by kernel_rfl) (by kernel_rfl) h
  have hc : Tryd.prog.cellsOf 25 = 2 := by kernel_rfl
  have c1 : Tryd.prog.cellsOf 3 = 1 := by kernel_rfl
  have c2 : Tryd.prog.cellsOf 23 = 1 := by kernel_rfl
  rw [hc] at h1
  match l, h1 with
  | [x0, x1], _ =>
    have g0 := h2 (0, 23) (by simp)
    have g1 := h2 (1, 3) (by simp)
    rw [c2] at g0
    rw [c1] at g1
    obtain ⟨n0, e0, w0⟩ := sh_int (k := .u32) (by kernel_rfl) g0
    obtain ⟨n1, e1, w1⟩ := sh_int (k := .i64) (by kernel_rfl) g1
    simp at e0 e1
    subst e0 e1
    have k0 := bounds_u32 w0
    obtain ⟨m, rfl⟩ := Int.eq_ofNat_of_zero_le (show 0 ≤ n0 by omega)
    exact ⟨⟨m, n1⟩, rfl, by unfold prOk; simp only; omega⟩
set_option maxRecDepth 100000 in
theorem valS_pr (p : Prf) : valS Tryd.prog 25 (prC p) = prS p := by
  have hu : Tryd.prog.underlying 25 = some (.struct (Tryd.prog.fieldsOf 25)) := by kernel_rfl
  unfold valS
  rw [hu]
  rfl
set_option maxRecDepth 100000 in
theorem prefixes_walk : addressPrefixes.Walk := by
  intro w hL l0 l1 l2 l3 c0 s0 o0 c1 s1 o1 c2 s2 o2 c3 s3 o3
  obtain ⟨p, rfl, hp⟩ := prf_of_sh s0
  obtain ⟨q, rfl, hq⟩ := prf_of_sh s1
  obtain ⟨n2, rfl, w2⟩ := sh_int (k := .u32) (by kernel_rfl) s2
  obtain ⟨a, cap, z, rd, rfl, hz, hrd⟩ := sh_ints (e := 5) (k := .u8) (by kernel_rfl) (by kernel_rfl) (by kernel_rfl) s3
  rw [valS_pr] at o0 o1 ⊢
  rw [valS_pr]
  rw [valS_one (by kernel_rfl)] at o2 o3 ⊢
  rw [valS_one (by kernel_rfl)]
  have k2 := bounds_u32 w2
  obtain ⟨x, rfl⟩ := Int.eq_ofNat_of_zero_le (show 0 ≤ n2 by omega)
  have hc := prefixesC a cap z (slB_bytes1 a cap z hz) p q hp hq x (by omega)
  have hc' : Contract Frm.nil Tryd.prog 8 [prS p, prS q, .i .u32 x, .sl a z.length cap 1 rd] (fun r => r = .b true) :=
    Contract.of_sim hc ⟨sim_refl _, sim_refl _, sim_refl _, sim_sl hrd, trivial⟩
  exact walk_of hc' (by
    intro s hs
    simp only [List.mem_cons, List.mem_singleton, List.not_mem_nil, or_false] at hs
    rcases hs with rfl | rfl | rfl | rfl <;> assumption)

theorem prefixes_holds : Rows.AddressPrefixesCardSaid := addressPrefixes.card_of_walk prefixes_walk
end Go.Proofs.YtceacooambpkdaaDoor
