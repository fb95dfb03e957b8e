/- Prefixes: two addresses part below their longest common prefix (no program in sight). -/
import Derived.Test.YtceacooambpkdaaDoorComM
namespace Go.Proofs.YtceacooambpkdaaDoor

theorem cont_iff {p : Prf} (h : vld p = true) (a : Nat) : cont p a = true ↔ a / 2 ^ p.k * 2 ^ p.k = p.addr := by
  unfold cont
  rw [h]
  simp
theorem same_div {a b k : Nat} (h : a / 2 ^ k * 2 ^ k = b / 2 ^ k * 2 ^ k) : a / 2 ^ k = b / 2 ^ k := Nat.eq_of_mul_eq_mul_right (Nat.two_pow_pos k) h
theorem com_halves {a b : Nat} (ha : a < 2 ^ 32) (hb : b < 2 ^ 32) (hne : (comP a b).len ≠ 32) : (cont (half1 (comP a b)) a != cont (half1 (comP a b)) b) = true := by
  have hv := comP_vld ha hb
  obtain ⟨v1, v2⟩ := half_vld hv hne
  obtain ⟨k1, k2, k3⟩ := half_k hv hne
  obtain ⟨c1, c2⟩ := comP_cont ha hb
  have hk : a / 2 ^ 32 = b / 2 ^ 32 := by omega
  have hs := (comK_spec a b 32 hk).2.2
  rw [comP_k ha hb] at k1 k2 k3
  have hd : ¬ a / 2 ^ (comK a b 32 - 1) = b / 2 ^ (comK a b 32 - 1) := hs _ (by omega)
  have ea := (half_cont hv hne a).1
  have eb := (half_cont hv hne b).1
  rw [c1] at ea
  rw [c2] at eb
  have i1 := cont_iff v1 a
  have i2 := cont_iff v1 b
  have j1 := cont_iff v2 a
  have j2 := cont_iff v2 b
  rw [k1] at i1 i2
  rw [k2] at j1 j2
  revert ea eb i1 i2 j1 j2
  cases cont (half1 (comP a b)) a <;> cases cont (half1 (comP a b)) b <;> intro ea eb i1 i2 j1 j2
  · exfalso
    have e1 := j1.1 (by simpa using ea.symm)
    have e2 := j2.1 (by simpa using eb.symm)
    exact hd (same_div (e1.trans e2.symm))
  · rfl
  · rfl
  · exfalso
    exact hd (same_div ((i1.1 rfl).trans (i2.1 rfl).symm))
end Go.Proofs.YtceacooambpkdaaDoor
