/- It is proved that the statement RegistryTexts holds for every input: Format and Parse of package registry answer as those of the reference. No conditions. -/
import Derived.Test.YtepkbbmjbbnhnaaGreatDoorPk5
import Derived.Test.YtepkbbmjbbnhnaaGreatDoorShRegistryTexts
set_option linter.unusedSimpArgs false
set_option linter.unusedVariables false
namespace Go.Proofs.YtepkbbmjbbnhnaaGreatDoor
open Go.RowKit Eng
theorem sh_fieldsO {P : Program} {D : Nat} {t : TypeId} {ps : List (Nat × TypeId)} {l : List SV} (hu : P.underlying t = some (.struct (P.fieldsOf t))) (hm : (P.fieldsOf t).toList.map (fun f => (f.offset, f.type)) = ps) (h : Sh P (D + 1) t l) :
    l.length = P.cellsOf t ∧ ∀ p ∈ ps, Sh P D p.2 ((l.drop p.1).take (P.cellsOf p.2)) := by
  obtain ⟨h1, h2⟩ := sh_struct hu h
  refine ⟨h1, fun p hp => ?_⟩
  rw [← hm] at hp
  obtain ⟨f, hf, rfl⟩ := List.mem_map.1 hp
  exact h2 f hf
set_option maxRecDepth 100000 in
theorem ent_of_sh {D : Nat} {l : List SV} (h : Sh Tryz.prog (D + 3) 31 l) : ∃ e : Ent, l = Ent.cs e ∧ eOk e := by
  obtain ⟨h1, h2⟩ := sh_fieldsO (ps := [(0, 29), (2, 3), (3, 3), (4, 3)]) (by kernel_rfl) (by kernel_rfl) h
  have hc : Tryz.prog.cellsOf 31 = 5 := by kernel_rfl
  have q1 : Tryz.prog.cellsOf 29 = 2 := by kernel_rfl
  have q2 : Tryz.prog.cellsOf 27 = 1 := by kernel_rfl
  have q3 : Tryz.prog.cellsOf 3 = 1 := by kernel_rfl
  rw [hc] at h1
  match l, h1 with
  | [x0, x1, x2, x3, x4], _ =>
    have g0 := h2 (0, 29) (by simp)
    have g1 := h2 (2, 3) (by simp)
    have g2 := h2 (3, 3) (by simp)
    have g3 := h2 (4, 3) (by simp)
    simp only [q1, q3] at g0 g1 g2 g3
    obtain ⟨k1, k2⟩ := sh_fieldsO (ps := [(0, 27), (1, 3)]) (by kernel_rfl) (by kernel_rfl) g0
    have m0 := k2 (0, 27) (by simp)
    have m1 := k2 (1, 3) (by simp)
    simp only [q2, q3] at m0 m1
    obtain ⟨n0, y0, w0⟩ := sh_int (k := .u32) (by kernel_rfl) m0
    obtain ⟨n1, y1, _⟩ := sh_int (k := .i64) (by kernel_rfl) m1
    obtain ⟨n2, y2, _⟩ := sh_int (k := .i64) (by kernel_rfl) g1
    obtain ⟨n3, y3, _⟩ := sh_int (k := .i64) (by kernel_rfl) g2
    obtain ⟨n4, y4, _⟩ := sh_int (k := .i64) (by kernel_rfl) g3
    have b0 := bounds_u32 w0
    obtain ⟨a, rfl⟩ := Int.eq_ofNat_of_zero_le b0.1
    simp at y0 y1 y2 y3 y4
    subst y0 y1 y2 y3 y4
    exact ⟨⟨a, n1, n2, n3, n4⟩, rfl, by show a < 2 ^ 32; omega⟩
set_option maxRecDepth 100000 in
theorem reg_of_sh {D : Nat} {l : List SV} (h : Sh Tryz.prog (D + 5) 25 l) : ∃ (a : Option Addr) (cap : Nat) (es : List Ent) (rd : Nat → Nat → SV), l = [.sl a es.length cap 5 rd] ∧ esOk es ∧ rdEq es.length 5 rd (entRd es) := by
  obtain ⟨k1, k2⟩ := sh_fieldsO (ps := [(0, 23)]) (by kernel_rfl) (by kernel_rfl) h
  have hc : Tryz.prog.cellsOf 25 = 1 := by kernel_rfl
  have q2 : Tryz.prog.cellsOf 23 = 1 := by kernel_rfl
  rw [hc] at k1
  match l, k1 with
  | [x0], _ =>
    have m0 := k2 (0, 23) (by simp)
    simp only [q2] at m0
    obtain ⟨a, cap, es, rd, y0, he, hr⟩ := sh_slice Ent.cs eOk (sz := 5) (e := 31) (by kernel_rfl) (by kernel_rfl) (fun l h => ent_of_sh h) m0
    simp at y0
    subst y0
    exact ⟨a, cap, es, rd, rfl, he, hr⟩
set_option maxRecDepth 100000 in
theorem valS_reg (x0 : SV) : valS Tryz.prog 25 [x0] = .agg 1 fun j => [x0].getD j default := by kernel_rfl
theorem ifc_of_laid {P : Program} {w : World} {l : List (String × DataW Unit)} (h : laidMetH P l w) (hp : (l.all fun x => x.2.handleName?.isNone) = true) {n nm : String} (hm : ∃ d, (n, DataW.iface nm d) ∈ l) {g : Nat} {t : TypeId}
    (hg : P.globalNamed n = some g) (hty : (P.globals[g]?).map (·.type) = some t) (hti : isIf P t = true) : IfcAt g w := by
  obtain ⟨ms, ht⟩ : ∃ ms, P.underlying t = some (.interface ms) := by
    unfold isIf at hti
    split at hti
    · rename_i ms hu; exact ⟨ms, hu⟩
    · cases hti
  rw [MakeChecks.laidMetH_plain _ _ _ hp] at h
  obtain ⟨d, hm⟩ := hm
  obtain ⟨ps, hl, _, _⟩ := h
  obtain ⟨g', t', cs, fuel, p, hg', ht', hvar, hd⟩ := laid_mem hl hm
  obtain rfl := Option.some.inj (hg.symm.trans hg')
  obtain rfl := Option.some.inj (hty.symm.trans ht')
  have hcell := World.var?_cell hg hvar 0
  cases fuel with
  | zero => simp [DataW.trod] at hd
  | succ m =>
    unfold DataW.trod at hd
    rw [ht] at hd
    split at hd <;> first | (cases hd; done) | skip
    all_goals first
      | (rename_i u v h1 h2
         refine ⟨u, v, hcell.trans ?_⟩
         rw [← Array.getElem?_toList, h2]; rfl)
      | simp_all
open Go.RowKit Go.WideShapes Go.ChangeShapes in
set_option maxRecDepth 100000 in
theorem texts_walk : registryTexts.Walk := by
  intro w hL l0 l1 l2 c0 s0 o0 c1 s1 o1 c2 s2 o2
  obtain ⟨a, cap, z, rd, rfl, hz, hrd⟩ := sh_ints (e := 5) (k := .u8) (by kernel_rfl) (by kernel_rfl) (by kernel_rfl) s0
  obtain ⟨wa, wc, ws, wrd, rfl, hws, hwr⟩ := reg_of_sh s1
  obtain ⟨st, rfl, _⟩ := sh_string (t := 9) (by kernel_rfl) s2
  obtain ⟨tx, rfl⟩ : ∃ tx, st = mkB tx := ⟨_, mkB_of st⟩
  rw [valS_one (by kernel_rfl)] at o0 o2
  rw [valS_reg] at o1
  rw [valS_one (t := 22) (by kernel_rfl), valS_reg, valS_one (t := 9) (by kernel_rfl)]
  have hp : (Rows.registryTextsRow.laid.all fun x => x.2.handleName?.isNone) = true := by decide +kernel
  have hT : TxU w := ⟨laid_tab hL hp (by simp [Rows.registryTextsRow]; rfl) (g := 1) (t := 169) (e := 151) (m := 20) (by kernel_rfl) (by kernel_rfl) (by kernel_rfl) (by kernel_rfl) (by kernel_rfl) (by kernel_rfl),
    ifc_of_laid hL hp ⟨_, .tail _ (.tail _ (.tail _ (.tail _ (.tail _ (.head _)))))⟩ (g := 2) (t := 91) (by kernel_rfl) (by kernel_rfl) (by kernel_rfl),
    ifc_of_laid hL hp ⟨_, .tail _ (.tail _ (.tail _ (.tail _ (.head _))))⟩ (g := 3) (t := 91) (by kernel_rfl) (by kernel_rfl) (by kernel_rfl)⟩
  have hc' : Contract FrB Tryz.prog 5 [.sl a z.length cap 1 rd, .agg 1 fun j => [SV.sl wa ws.length wc 5 wrd].getD j default, sB tx] (fun r => r = .b true) :=
    Contract.of_sim (textsLawC a cap z hz wa wc ws hws tx) ⟨sim_sl hrd, sim_agg1 (f := fun j => [SV.sl wa ws.length wc 5 wrd].getD j default) (g := fun j => [SV.sl wa ws.length wc 5 (entRd ws)].getD j default) (by show sim (SV.sl wa ws.length wc 5 wrd) (SV.sl wa ws.length wc 5 (entRd ws)); exact sim_sl hwr), sim_refl _, trivial⟩
  exact walk_ofT hc' (tu_lt hT) hT (by
    intro s hs
    simp only [List.mem_cons, List.mem_singleton, List.not_mem_nil, or_false] at hs
    rcases hs with rfl | rfl | rfl <;> assumption)
theorem texts_holds : Rows.RegistryTextsCardSaid := registryTexts.card_of_walk texts_walk
end Go.Proofs.YtepkbbmjbbnhnaaGreatDoor
