/- It is proved that the statement RegistryBack holds for every input: registries and their texts correspond to each other. No conditions. -/
import Derived.Test.YtepkbbmjbbnhnaaGreatDoorPk5
import Derived.Test.YtepkbbmjbbnhnaaGreatDoorShRegistryBack
set_option linter.unusedSimpArgs false
set_option linter.unusedVariables false
namespace Go.Proofs.YtepkbbmjbbnhnaaGreatDoor
open Go.RowKit Eng
theorem ifc_of_laid {P : Program} {w : World} {l : List (String × DataW Unit)} (h : laidMetH P l w) (hp : (l.all fun x => x.2.handleName?.isNone) = true) {n nm : String} (hm : ∃ d, (n, DataW.iface nm d) ∈ l) {g : Nat} {t : TypeId}
    (hg : P.globalNamed n = some g) (hty : (P.globals[g]?).map (·.type) = some t) (hti : isIf P t = true) : IfcAt g w := by
  obtain ⟨ms, ht⟩ : ∃ ms, P.underlying t = some (.interface ms) := by
    unfold isIf at hti
    split at hti
    · rename_i ms hu; exact ⟨ms, hu⟩
    · cases hti
  rw [MakeChecks.laidMetH_plain _ _ _ hp] at h
  obtain ⟨d, hm⟩ := hm
  obtain ⟨ps, hl, _, _⟩ := h
  obtain ⟨g', t', cs, fuel, p, hg', ht', hvar, hd⟩ := laid_mem hl hm
  obtain rfl := Option.some.inj (hg.symm.trans hg')
  obtain rfl := Option.some.inj (hty.symm.trans ht')
  have hcell := World.var?_cell hg hvar 0
  cases fuel with
  | zero => simp [DataW.trod] at hd
  | succ m =>
    unfold DataW.trod at hd
    rw [ht] at hd
    split at hd <;> first | (cases hd; done) | skip
    all_goals first
      | (rename_i u v h1 h2
         refine ⟨u, v, hcell.trans ?_⟩
         rw [← Array.getElem?_toList, h2]; rfl)
      | simp_all
theorem back_holds : Rows.RegistryBackCardSaid := registryBack.card_of_walk fun v z w hL ⟨h, hz⟩ => by
  obtain ⟨a, cap, rfl, hok⟩ := slB_of h
  have hp : (Rows.registryBackRow.laid.all fun x => x.2.handleName?.isNone) = true := by decide +kernel
  have hT : TxU w := ⟨laid_tab hL hp (by simp [Rows.registryBackRow]; rfl) (g := 1) (t := 169) (e := 151) (m := 20) (by kernel_rfl) (by kernel_rfl) (by kernel_rfl) (by kernel_rfl) (by kernel_rfl) (by kernel_rfl),
    ifc_of_laid hL hp ⟨_, .tail _ (.tail _ (.tail _ (.tail _ (.tail _ (.head _)))))⟩ (g := 2) (t := 91) (by kernel_rfl) (by kernel_rfl) (by kernel_rfl),
    ifc_of_laid hL hp ⟨_, .tail _ (.tail _ (.tail _ (.tail _ (.head _))))⟩ (g := 3) (t := 91) (by kernel_rfl) (by kernel_rfl) (by kernel_rfl)⟩
  exact walk_ofT (backLawC a cap z hz) (tu_lt hT) hT (fun s hs => by
    simp only [List.mem_singleton] at hs
    subst hs
    exact hok)
end Go.Proofs.YtepkbbmjbbnhnaaGreatDoor
