/- It is proved that the statement RegistrySteps holds for every input: what package registry returns is what the reference returns. No conditions. -/
import Derived.Test.YtepkbbmjbbnhnaaGreatDoorPk5
import Derived.Test.YtepkbbmjbbnhnaaGreatDoorShRegistrySteps
set_option linter.unusedSimpArgs false
set_option linter.unusedVariables false
namespace Go.Proofs.YtepkbbmjbbnhnaaGreatDoor
open Go.RowKit Eng
theorem sh_fieldsO {P : Program} {D : Nat} {t : TypeId} {ps : List (Nat × TypeId)} {l : List SV} (hu : P.underlying t = some (.struct (P.fieldsOf t))) (hm : (P.fieldsOf t).toList.map (fun f => (f.offset, f.type)) = ps) (h : Sh P (D + 1) t l) :
    l.length = P.cellsOf t ∧ ∀ p ∈ ps, Sh P D p.2 ((l.drop p.1).take (P.cellsOf p.2)) := by
  obtain ⟨h1, h2⟩ := sh_struct hu h
  refine ⟨h1, fun p hp => ?_⟩
  rw [← hm] at hp
  obtain ⟨f, hf, rfl⟩ := List.mem_map.1 hp
  exact h2 f hf
set_option maxRecDepth 100000 in
theorem ent_of_sh {D : Nat} {l : List SV} (h : Sh Tryz.prog (D + 3) 31 l) : ∃ e : Ent, l = Ent.cs e ∧ eOk e := by
  obtain ⟨h1, h2⟩ := sh_fieldsO (ps := [(0, 29), (2, 3), (3, 3), (4, 3)]) (by kernel_rfl) (by kernel_rfl) h
  have hc : Tryz.prog.cellsOf 31 = 5 := by kernel_rfl
  have q1 : Tryz.prog.cellsOf 29 = 2 := by kernel_rfl
  have q2 : Tryz.prog.cellsOf 27 = 1 := by kernel_rfl
  have q3 : Tryz.prog.cellsOf 3 = 1 := by kernel_rfl
  rw [hc] at h1
  match l, h1 with
  | [x0, x1, x2, x3, x4], _ =>
    have g0 := h2 (0, 29) (by simp)
    have g1 := h2 (2, 3) (by simp)
    have g2 := h2 (3, 3) (by simp)
    have g3 := h2 (4, 3) (by simp)
    simp only [q1, q3] at g0 g1 g2 g3
    obtain ⟨k1, k2⟩ := sh_fieldsO (ps := [(0, 27), (1, 3)]) (by kernel_rfl) (by kernel_rfl) g0
    have m0 := k2 (0, 27) (by simp)
    have m1 := k2 (1, 3) (by simp)
    simp only [q2, q3] at m0 m1
    obtain ⟨n0, y0, w0⟩ := sh_int (k := .u32) (by kernel_rfl) m0
    obtain ⟨n1, y1, _⟩ := sh_int (k := .i64) (by kernel_rfl) m1
    obtain ⟨n2, y2, _⟩ := sh_int (k := .i64) (by kernel_rfl) g1
    obtain ⟨n3, y3, _⟩ := sh_int (k := .i64) (by kernel_rfl) g2
    obtain ⟨n4, y4, _⟩ := sh_int (k := .i64) (by kernel_rfl) g3
    have b0 := bounds_u32 w0
    obtain ⟨a, rfl⟩ := Int.eq_ofNat_of_zero_le b0.1
    simp at y0 y1 y2 y3 y4
    subst y0 y1 y2 y3 y4
    exact ⟨⟨a, n1, n2, n3, n4⟩, rfl, by show a < 2 ^ 32; omega⟩
set_option maxRecDepth 100000 in
theorem valS_ent (e : Ent) : valS Tryz.prog 31 (Ent.cs e) = entS e := by
  have : ∀ x0 x1 x2 x3 x4 : SV, valS Tryz.prog 31 [x0, x1, x2, x3, x4] = .agg 5 fun j => [x0, x1, x2, x3, x4].getD j default := fun _ _ _ _ _ => by kernel_rfl
  exact this _ _ _ _ _
set_option maxRecDepth 100000 in
theorem pfx_of_sh {D : Nat} {l : List SV} (h : Sh Tryz.prog (D + 2) 29 l) : ∃ q : Prf, l = prC q ∧ prOk q := by
  obtain ⟨k1, k2⟩ := sh_fieldsO (ps := [(0, 27), (1, 3)]) (by kernel_rfl) (by kernel_rfl) h
  have hc : Tryz.prog.cellsOf 29 = 2 := by kernel_rfl
  have q2 : Tryz.prog.cellsOf 27 = 1 := by kernel_rfl
  have q3 : Tryz.prog.cellsOf 3 = 1 := by kernel_rfl
  rw [hc] at k1
  match l, k1 with
  | [x0, x1], _ =>
    have m0 := k2 (0, 27) (by simp)
    have m1 := k2 (1, 3) (by simp)
    simp only [q2, q3] at m0 m1
    obtain ⟨n0, y0, w0⟩ := sh_int (k := .u32) (by kernel_rfl) m0
    obtain ⟨n1, y1, _⟩ := sh_int (k := .i64) (by kernel_rfl) m1
    have b0 := bounds_u32 w0
    obtain ⟨a, rfl⟩ := Int.eq_ofNat_of_zero_le b0.1
    simp at y0 y1
    subst y0 y1
    exact ⟨⟨a, n1⟩, rfl, by show a < 2 ^ 32; omega⟩
set_option maxRecDepth 100000 in
theorem reg_of_sh {D : Nat} {l : List SV} (h : Sh Tryz.prog (D + 5) 25 l) : ∃ (a : Option Addr) (cap : Nat) (es : List Ent) (rd : Nat → Nat → SV), l = [.sl a es.length cap 5 rd] ∧ esOk es ∧ rdEq es.length 5 rd (entRd es) := by
  obtain ⟨k1, k2⟩ := sh_fieldsO (ps := [(0, 23)]) (by kernel_rfl) (by kernel_rfl) h
  have hc : Tryz.prog.cellsOf 25 = 1 := by kernel_rfl
  have q2 : Tryz.prog.cellsOf 23 = 1 := by kernel_rfl
  rw [hc] at k1
  match l, k1 with
  | [x0], _ =>
    have m0 := k2 (0, 23) (by simp)
    simp only [q2] at m0
    obtain ⟨a, cap, es, rd, y0, he, hr⟩ := sh_slice Ent.cs eOk (sz := 5) (e := 31) (by kernel_rfl) (by kernel_rfl) (fun l h => ent_of_sh h) m0
    simp at y0
    subst y0
    exact ⟨a, cap, es, rd, rfl, he, hr⟩
set_option maxRecDepth 100000 in
theorem valS_pfx (q : Prf) : valS Tryz.prog 29 (prC q) = prS q := by
  have : ∀ x0 x1 : SV, valS Tryz.prog 29 [x0, x1] = .agg 2 fun j => [x0, x1].getD j default := fun _ _ => by kernel_rfl
  exact this _ _
set_option maxRecDepth 100000 in
theorem valS_reg (x0 : SV) : valS Tryz.prog 25 [x0] = .agg 1 fun j => [x0].getD j default := by kernel_rfl
open Go.RowKit Go.WideShapes Go.ChangeShapes in
set_option maxRecDepth 100000 in
theorem steps_walk : registrySteps.Walk := by
  intro w hL l0 l1 l2 l3 l4 l5 l6 c0 s0 o0 c1 s1 o1 c2 s2 o2 c3 s3 o3 c4 s4 o4 c5 s5 o5 c6 s6 o6
  obtain ⟨a, cap, z, rd, rfl, hz, hrd⟩ := sh_ints (e := 5) (k := .u8) (by kernel_rfl) (by kernel_rfl) (by kernel_rfl) s0
  obtain ⟨wa, wc, ws, wrd, rfl, hws, hwr⟩ := reg_of_sh s1
  obtain ⟨e, rfl, he⟩ := ent_of_sh s2
  obtain ⟨f, rfl, hf⟩ := ent_of_sh s3
  obtain ⟨n4, rfl, w4⟩ := sh_int (k := .u32) (by kernel_rfl) s4
  obtain ⟨n5, rfl, w5⟩ := sh_int (k := .i64) (by kernel_rfl) s5
  obtain ⟨q, rfl, _⟩ := pfx_of_sh s6
  have b4 := bounds_u32 w4
  obtain ⟨ad, rfl⟩ := Int.eq_ofNat_of_zero_le b4.1
  rw [valS_one (by kernel_rfl)] at o0 o4 o5
  rw [valS_reg] at o1
  rw [valS_ent] at o2 o3
  rw [valS_pfx] at o6
  rw [valS_one (t := 22) (by kernel_rfl), valS_reg, valS_ent, valS_ent, valS_one (t := 27) (by kernel_rfl), valS_one (t := 3) (by kernel_rfl), valS_pfx]
  have hT : TxT w := laid_tab hL (by decide +kernel) (by simp [Rows.registryStepsRow]; rfl) (g := 1) (t := 169) (e := 151) (m := 20) (by kernel_rfl) (by kernel_rfl) (by kernel_rfl) (by kernel_rfl) (by kernel_rfl) (by kernel_rfl)
  have hc := stepsLawC a cap z hz wa wc ws hws e f he hf ad (by omega) n5 q
  have hc' : Contract FrA Tryz.prog 3 [.sl a z.length cap 1 rd, .agg 1 fun j => [SV.sl wa ws.length wc 5 wrd].getD j default, entS e, entS f, .i .u32 (ad : Nat), .i .i64 n5, prS q] (fun r => r = .b true) :=
    Contract.of_sim hc ⟨sim_sl hrd, sim_agg1 (f := fun j => [SV.sl wa ws.length wc 5 wrd].getD j default) (g := fun j => [SV.sl wa ws.length wc 5 (entRd ws)].getD j default) (by show sim (SV.sl wa ws.length wc 5 wrd) (SV.sl wa ws.length wc 5 (entRd ws)); exact sim_sl hwr), sim_refl _, sim_refl _, sim_refl _, sim_refl _, sim_refl _, trivial⟩
  exact walk_ofT hc' (tx_lt hT) hT (by
    intro s hs
    simp only [List.mem_cons, List.mem_singleton, List.not_mem_nil, or_false] at hs
    rcases hs with rfl | rfl | rfl | rfl | rfl | rfl | rfl <;> assumption)
theorem steps_holds : Rows.RegistryStepsCardSaid := registrySteps.card_of_walk steps_walk
end Go.Proofs.YtepkbbmjbbnhnaaGreatDoor
