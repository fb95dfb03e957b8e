/- AddressTexts: what any string means as an address or a prefix, and the texts of any of them: the code's answers are the reference's: for every input, with no condition. -/
import Derived.Test.YtceacooambpkdaaDoorPk1
set_option linter.unusedSimpArgs false
set_option linter.unusedVariables false
namespace Go.Proofs.YtceacooambpkdaaDoor
open Eng Go.RowKit Go.WideShapes Go.ChangeShapes

/-- what the card says of the variables that texts read -/
theorem ifc_of_laid {P : Program} {w : World} {l : List (String × DataW Unit)} (h : laidMetH P l w) (hp : (l.all fun x => x.2.handleName?.isNone) = true) {n nm : String} (hm : ∃ d, (n, DataW.iface nm d) ∈ l) {g : Nat} {t : TypeId}
    (hg : P.globalNamed n = some g) (hty : (P.globals[g]?).map (·.type) = some t) (hti : isIf P t = true) : IfcAt g w := by
  obtain ⟨ms, ht⟩ : ∃ ms, P.underlying t = some (.interface ms) := by
    unfold isIf at hti
    split at hti
    · rename_i ms hu; exact ⟨ms, hu⟩
    · cases hti
  rw [MakeChecks.laidMetH_plain _ _ _ hp] at h
  obtain ⟨d, hm⟩ := hm
  obtain ⟨ps, hl, _, _⟩ := h
  obtain ⟨g', t', cs, fuel, p, hg', ht', hvar, hd⟩ := laid_mem hl hm
  obtain rfl := Option.some.inj (hg.symm.trans hg')
  obtain rfl := Option.some.inj (hty.symm.trans ht')
  have hcell := World.var?_cell hg hvar 0
  cases fuel with
  | zero => simp [DataW.trod] at hd
  | succ m =>
    unfold DataW.trod at hd
    rw [ht] at hd
    split at hd <;> first | (cases hd; done) | skip
    all_goals first
      | (rename_i u v h1 h2
         refine ⟨u, v, hcell.trans ?_⟩
         rw [← Array.getElem?_toList, h2]; rfl)
      | simp_all
theorem sh_fields {P : Program} {D : Nat} {t : TypeId} {ps : List (Nat × TypeId)} {l : List SV} (hu : P.underlying t = some (.struct (P.fieldsOf t))) (hm : (P.fieldsOf t).toList.map (fun f => (f.offset, f.type)) = ps) (h : Sh P (D + 1) t l) :
    l.length = P.cellsOf t ∧ ∀ p ∈ ps, Sh P D p.2 ((l.drop p.1).take (P.cellsOf p.2)) := by
  obtain ⟨h1, h2⟩ := sh_struct hu h
  refine ⟨h1, fun p hp => ?_⟩
  rw [← hm] at hp
  obtain ⟨f, hf, rfl⟩ := List.mem_map.1 hp
  exact h2 f hf

set_option maxRecDepth 100000 in
theorem prf_of_sh {D : Nat} {l : List SV} (h : Sh Tryd.prog (D + 2) 25 l) : ∃ p : Prf, l = prC p ∧ prOk p := by
  obtain ⟨h1, h2⟩ := sh_fields (ps := [(0, 23), (1, 3)]) (by kernel_rfl) (by kernel_rfl) h
  have hc : Tryd.prog.cellsOf 25 = 2 := by kernel_rfl
  have c1 : Tryd.prog.cellsOf 3 = 1 := by kernel_rfl
  have c2 : Tryd.prog.cellsOf 23 = 1 := by kernel_rfl
  rw [hc] at h1
  match l, h1 with
  | [x0, x1], _ =>
    have g0 := h2 (0, 23) (by simp)
    have g1 := h2 (1, 3) (by simp)
    rw [c2] at g0
    rw [c1] at g1
    obtain ⟨n0, e0, w0⟩ := sh_int (k := .u32) (by kernel_rfl) g0
    obtain ⟨n1, e1, w1⟩ := sh_int (k := .i64) (by kernel_rfl) g1
    simp at e0 e1
    subst e0 e1
    have k0 := bounds_u32 w0
    obtain ⟨m, rfl⟩ := Int.eq_ofNat_of_zero_le (show 0 ≤ n0 by omega)
    exact ⟨⟨m, n1⟩, rfl, by unfold prOk; simp only; omega⟩
set_option maxRecDepth 100000 in
theorem valS_pr (p : Prf) : valS Tryd.prog 25 (prC p) = prS p := by
  have hu : Tryd.prog.underlying 25 = some (.struct (Tryd.prog.fieldsOf 25)) := by kernel_rfl
  unfold valS
  rw [hu]
  rfl
set_option maxRecDepth 100000 in
theorem texts_walk : addressTexts.Walk := by
  intro w hL l0 l1 l2 l3 c0 s0 o0 c1 s1 o1 c2 s2 o2 c3 s3 o3
  obtain ⟨s, rfl, hsz⟩ := sh_string (by kernel_rfl) s0
  obtain ⟨n1, rfl, w1⟩ := sh_int (k := .u32) (by kernel_rfl) s1
  obtain ⟨p, rfl, hp⟩ := prf_of_sh s2
  obtain ⟨a, cap, z, rd, rfl, hz, hrd⟩ := sh_ints (e := 5) (k := .u8) (by kernel_rfl) (by kernel_rfl) (by kernel_rfl) s3
  rw [valS_pr] at o2 ⊢
  rw [valS_one (by kernel_rfl)] at o0 o1 o3 ⊢
  rw [valS_one (by kernel_rfl), valS_one (by kernel_rfl)]
  have k1 := bounds_u32 w1
  obtain ⟨x, rfl⟩ := Int.eq_ofNat_of_zero_le (show 0 ≤ n1 by omega)
  rw [mkB_of s] at o0 ⊢
  generalize s.data.toList = l at o0 ⊢
  have hc : Contract FrA Tryd.prog 3 [sB l, .i .u32 x, prS p, slB a cap z] (fun r => r = .b true) := by
    by_cases h : l.length ≤ 200
    · have hf := fmt_short x
      exact textsC l h x (by omega) p hp a cap z (slB_bytesT a cap z hz) (cat_lim (by omega)) (cat_lim (by omega)) (cat_lim (by simp only [List.length_append, List.length_cons, List.length_nil]; omega))
    · exact textsLongC l (by omega) x (by omega) p hp a cap z (slB_bytesT a cap z hz)
  have hc' : Contract FrA Tryd.prog 3 [sB l, .i .u32 x, prS p, .sl a z.length cap 1 rd] (fun r => r = .b true) :=
    Contract.of_sim hc ⟨sim_refl _, sim_refl _, sim_refl _, sim_sl hrd, trivial⟩
  have hpl : (Rows.addressTextsRow.laid.all fun x => x.2.handleName?.isNone) = true := by decide +kernel
  have hT : TxT w := ⟨laid_tab hL hpl (by simp [Rows.addressTextsRow]; rfl) (g := 3) (t := 117) (e := 42) (m := 20) (by kernel_rfl) (by kernel_rfl) (by kernel_rfl) (by kernel_rfl) (by kernel_rfl) (by kernel_rfl),
    ifc_of_laid hL hpl ⟨_, .tail _ (.tail _ (.tail _ (.tail _ (.head _))))⟩ (g := 4) (t := 90) (by kernel_rfl) (by kernel_rfl) (by kernel_rfl),
    ifc_of_laid hL hpl ⟨_, .tail _ (.tail _ (.tail _ (.head _)))⟩ (g := 5) (t := 90) (by kernel_rfl) (by kernel_rfl) (by kernel_rfl)⟩
  exact walk_ofT hc' (tx_lt hT) hT (by
    intro s hs
    simp only [List.mem_cons, List.mem_singleton, List.not_mem_nil, or_false] at hs
    rcases hs with rfl | rfl | rfl | rfl <;> assumption)
theorem texts_holds : Rows.AddressTextsCardSaid := addressTexts.card_of_walk texts_walk
end Go.Proofs.YtceacooambpkdaaDoor
