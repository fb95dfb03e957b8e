/- The shortest list of prefixes of a range, plain. -/
import Derived.Test.YtceacooambpkdaaDoorPrfM
import Derived.Test.YtceacooambpkdaaDoorComM
import Derived.Lib.TrailingZeros
namespace Go.Proofs.YtceacooambpkdaaDoor

/-- how great the next prefix may be -/
def CanK (low w j : Nat) : Prop := low % 2 ^ j = 0 ∧ 2 ^ j ≤ w
instance (low w j : Nat) : Decidable (CanK low w j) := inferInstanceAs (Decidable (_ ∧ _))
theorem CanK.down {low w i j : Nat} (h : CanK low w j) (hij : i ≤ j) : CanK low w i :=
  ⟨mod_of_mod hij h.1, Nat.le_trans (pow_mono hij) h.2⟩
def bestF (low w : Nat) : Nat → Nat
  | 0 => 0
  | j + 1 => if CanK low w (j + 1) then j + 1 else bestF low w j
def bestK (low w : Nat) : Nat := bestF low w 32
theorem bestF_spec {low w : Nat} (hw : 0 < w) : ∀ j, bestF low w j ≤ j ∧ CanK low w (bestF low w j) ∧ ∀ i, i ≤ j → CanK low w i → i ≤ bestF low w j
  | 0 => ⟨Nat.le_refl _, ⟨Nat.mod_one _, hw⟩, fun i hi _ => by simpa [bestF] using hi⟩
  | j + 1 => by
    unfold bestF
    split
    · rename_i h
      exact ⟨Nat.le_refl _, h, fun i hi _ => hi⟩
    · rename_i h
      obtain ⟨h1, h2, h3⟩ := bestF_spec (low := low) hw j
      refine ⟨by omega, h2, fun i hi hc => ?_⟩
      rcases Nat.lt_or_ge i (j + 1) with hlt | hge
      · exact h3 i (by omega) hc
      · obtain rfl : i = j + 1 := by omega
        exact absurd hc h
theorem bestK_spec {low w : Nat} (hw : 0 < w) : bestK low w ≤ 32 ∧ CanK low w (bestK low w) ∧ ∀ i, i ≤ 32 → CanK low w i → i ≤ bestK low w := bestF_spec hw 32
theorem bestK_unique {low w k : Nat} (hw : 0 < w) (h1 : k ≤ 32) (h2 : CanK low w k) (h3 : k = 32 ∨ ¬ CanK low w (k + 1)) : bestK low w = k := by
  obtain ⟨g1, g2, g3⟩ := bestK_spec (low := low) hw
  have h4 := g3 k h1 h2
  rcases h3 with rfl | h3
  · omega
  · rcases Nat.lt_or_ge k (bestK low w) with h | h
    · exact absurd (g2.down h) h3
    · omega
/-- the prefixes of w addresses from low on -/
def covL (low w : Nat) : List Prf :=
  if h : w = 0 then [] else ⟨low, 32 - (bestK low w : Int)⟩ :: covL (low + 2 ^ bestK low w) (w - 2 ^ bestK low w)
termination_by w
decreasing_by
  have := Nat.two_pow_pos (bestK low w)
  omega
theorem covL_nil (low : Nat) : covL low 0 = [] := by rw [covL]; simp
theorem covL_cons {low w : Nat} (h : 0 < w) : covL low w = ⟨low, 32 - (bestK low w : Int)⟩ :: covL (low + 2 ^ bestK low w) (w - 2 ^ bestK low w) := by
  rw [covL]; rw [dif_neg (by omega)]
theorem piece_k {low k : Nat} (hk : k ≤ 32) : (Prf.mk low (32 - (k : Int))).k = k := by unfold Prf.k; simp only; omega
theorem piece_vld {low w : Nat} (hw : 0 < w) : vld ⟨low, 32 - (bestK low w : Int)⟩ = true := by
  obtain ⟨g1, g2, g3⟩ := bestK_spec (low := low) hw
  refine vld_iff.2 ⟨by simp only; omega, by simp only; omega, ?_⟩
  rw [piece_k g1]
  exact g2.1
theorem covL_vld : ∀ (w low : Nat), ∀ p ∈ covL low w, vld p = true := by
  intro w
  induction w using Nat.strongRecOn with
  | _ w ih =>
    intro low p hp
    rcases Nat.eq_zero_or_pos w with rfl | hw
    · rw [covL_nil] at hp; cases hp
    · rw [covL_cons hw] at hp
      have := Nat.two_pow_pos (bestK low w)
      rcases List.mem_cons.1 hp with rfl | hp
      · exact piece_vld hw
      · exact ih _ (by omega) _ p hp
theorem covL_lt {w : Nat} : ∀ (low : Nat), low + w ≤ 2 ^ 32 → ∀ p ∈ covL low w, p.addr < 2 ^ 32 := by
  induction w using Nat.strongRecOn with
  | _ w ih =>
    intro low hl p hp
    rcases Nat.eq_zero_or_pos w with rfl | hw
    · rw [covL_nil] at hp; cases hp
    · rw [covL_cons hw] at hp
      have h1 := Nat.two_pow_pos (bestK low w)
      have h2 := (bestK_spec (low := low) hw).2.1.2
      rcases List.mem_cons.1 hp with rfl | hp
      · show low < 2 ^ 32; omega
      · exact ih _ (by omega) _ (by omega) p hp

/-! ### How many -/
theorem cov_low {m : Nat} : ∀ (low w : Nat), m ≤ 32 → low % 2 ^ m = 0 → w < 2 ^ m → (covL low w).length ≤ m := by
  induction m with
  | zero =>
    intro low w _ _ hw
    have h0 : w = 0 := by omega
    rw [h0, covL_nil]; exact Nat.le_refl _
  | succ m ih =>
    intro low w hm hd hw
    have hd' : low % 2 ^ m = 0 := mod_of_mod (by omega) hd
    rcases Nat.lt_or_ge w (2 ^ m) with h | h
    · exact Nat.le_succ_of_le (ih low w (by omega) hd' h)
    · have hp := Nat.two_pow_pos m
      have e2 : 2 ^ (m + 1) = 2 ^ m + 2 ^ m := by rw [Nat.pow_succ]; omega
      have hk : bestK low w = m := bestK_unique (by omega) (by omega) ⟨hd', h⟩ (.inr fun hc => by have := hc.2; omega)
      rw [covL_cons (by omega), hk, List.length_cons]
      refine Nat.succ_le_succ (ih _ _ (by omega) ?_ (by omega))
      rw [Nat.add_mod_right]; exact hd'
theorem cov_one {m low : Nat} (hm : m ≤ 32) (hd : low % 2 ^ m = 0) : (covL low (2 ^ m)).length = 1 := by
  have hp := Nat.two_pow_pos m
  have hk : bestK low (2 ^ m) = m := bestK_unique hp hm ⟨hd, Nat.le_refl _⟩ (.inr fun hc => by have := hc.2; rw [Nat.pow_succ] at this; omega)
  rw [covL_cons hp, hk, Nat.sub_self, covL_nil]
  rfl
theorem cov_up : ∀ (s low w : Nat), s ≤ 31 → 0 < low → low % 2 ^ (31 - s) = 0 → low + w ≤ 2 ^ 32 → (covL low w).length ≤ s + 31 := by
  intro s
  induction s with
  | zero =>
    intro low w _ hl hd hs
    have hd31 : low % 2 ^ 31 = 0 := hd
    have h1 : 2 ^ 31 ≤ low := by omega
    rcases Nat.lt_or_ge w (2 ^ 31) with h | h
    · have := cov_low (m := 31) low w (by decide) hd31 h; omega
    · obtain rfl : w = 2 ^ 31 := by omega
      rw [cov_one (by decide) hd31]; decide
  | succ s ih =>
    intro low w hs hl hd hb
    have e : 31 - s = (31 - (s + 1)) + 1 := by omega
    generalize ht : 31 - (s + 1) = t at *
    by_cases h2 : low % 2 ^ (t + 1) = 0
    · exact Nat.le_trans (ih low w (by omega) hl (by rw [e]; exact h2) hb) (by omega)
    · have hp := Nat.two_pow_pos t
      rcases Nat.lt_or_ge w (2 ^ t) with h | h
      · have := cov_low (m := t) low w (by omega) hd h; omega
      · have hk : bestK low w = t := bestK_unique (by omega) (by omega) ⟨hd, h⟩ (.inr fun hc => h2 hc.1)
        rw [covL_cons (by omega), hk, List.length_cons]
        have h3 : (low + 2 ^ t) % 2 ^ (t + 1) = 0 := by
          have e3 : 2 ^ (t + 1) = 2 * 2 ^ t := by rw [Nat.pow_succ]; omega
          have e4 := Nat.div_add_mod low (2 ^ t)
          rw [hd, Nat.add_zero] at e4
          have hodd : low / 2 ^ t % 2 = 1 := by
            rcases Nat.mod_two_eq_zero_or_one (low / 2 ^ t) with h9 | h9
            · refine absurd ?_ h2
              rw [← e4, e3, Nat.mul_comm 2 (2 ^ t), Nat.mul_mod_mul_left, h9, Nat.mul_zero]
            · exact h9
          rw [← e4, e3, Nat.mul_comm 2 (2 ^ t)]
          have : 2 ^ t * (low / 2 ^ t) + 2 ^ t = 2 ^ t * (low / 2 ^ t + 1) := by rw [Nat.mul_add, Nat.mul_one]
          rw [this, Nat.mul_mod_mul_left]
          have : (low / 2 ^ t + 1) % 2 = 0 := by omega
          rw [this, Nat.mul_zero]
        have := ih (low + 2 ^ t) (w - 2 ^ t) (by omega) (by omega) (by rw [e]; exact h3) (by omega)
        omega
theorem cov_len {low w : Nat} (h : low + w ≤ 2 ^ 32) : (covL low w).length ≤ 62 := by
  rcases Nat.eq_zero_or_pos low with rfl | hl
  · rcases Nat.lt_or_ge w (2 ^ 32) with h1 | h1
    · have := cov_low (m := 32) 0 w (by decide) (by decide) h1; omega
    · obtain rfl : w = 2 ^ 32 := by omega
      rw [cov_one (by decide) (by decide)]; decide
  · exact cov_up 31 low w (by decide) hl (by show low % 2 ^ 0 = 0; omega) h

/-! ### What they contain -/
def cntC (a : Nat) (l : List Prf) : Nat := (l.filter fun p => cont p a).length
theorem cntC_snoc (a : Nat) (l : List Prf) (p : Prf) : cntC a (l ++ [p]) = cntC a l + if cont p a = true then 1 else 0 := by
  unfold cntC
  rw [List.filter_append, List.length_append]
  congr 1
  by_cases h : cont p a = true <;> simp [h]
theorem cov_cnt (a : Nat) : ∀ (w low : Nat), cntC a (covL low w) = if low ≤ a ∧ a < low + w then 1 else 0 := by
  intro w
  induction w using Nat.strongRecOn with
  | _ w ih =>
    intro low
    rcases Nat.eq_zero_or_pos w with rfl | hw
    · rw [covL_nil, if_neg (by omega)]; rfl
    · have hp := Nat.two_pow_pos (bestK low w)
      obtain ⟨g1, g2, g3⟩ := bestK_spec (low := low) hw
      have g4 := g2.2
      have hc : cont ⟨low, 32 - (bestK low w : Int)⟩ a = (decide (low ≤ a) && decide (a ≤ low + (2 ^ bestK low w - 1))) := by
        rw [cont_range (piece_vld hw)]
        unfold Prf.high
        rw [piece_k g1]
      rw [covL_cons hw]
      have h1 := ih (w - 2 ^ bestK low w) (by omega) (low + 2 ^ bestK low w)
      unfold cntC at h1 ⊢
      rw [List.filter_cons, hc]
      by_cases h2 : low ≤ a ∧ a ≤ low + (2 ^ bestK low w - 1)
      · rw [if_pos (by simpa using h2), List.length_cons, h1, if_neg (by omega), if_pos (by omega)]
      · rw [if_neg (by simpa using h2), h1]
        by_cases h3 : low ≤ a ∧ a < low + w
        · rw [if_pos (by omega), if_pos h3]
        · rw [if_neg (by omega), if_neg h3]

/-! ### No two neighbours are the halves of a prefix -/
theorem half_even {low k : Nat} (hd : low % 2 ^ k = 0) (h : low / 2 ^ (k + 1) = (low + 2 ^ k) / 2 ^ (k + 1)) : low % 2 ^ (k + 1) = 0 := by
  have hp := Nat.two_pow_pos k
  have e3 : 2 ^ (k + 1) = 2 ^ k * 2 := by rw [Nat.pow_succ]
  have e4 := Nat.div_add_mod low (2 ^ k)
  rw [hd, Nat.add_zero] at e4
  generalize low / 2 ^ k = t at e4
  subst e4
  rw [e3] at h ⊢
  have e5 : 2 ^ k * t + 2 ^ k = 2 ^ k * (t + 1) := by rw [Nat.mul_add, Nat.mul_one]
  rw [e5, Nat.mul_div_mul_left _ _ hp, Nat.mul_div_mul_left _ _ hp] at h
  rw [Nat.mul_mod_mul_left]
  have : t % 2 = 0 := by omega
  rw [this, Nat.mul_zero]
theorem cov_next : ∀ (w low : Nat), low + w ≤ 2 ^ 32 → ∀ i p q, (covL low w)[i]? = some p → (covL low w)[i + 1]? = some q → q.len = p.len → 0 < q.len → (comP p.addr q.addr).len ≠ q.len - 1 := by
  intro w
  induction w using Nat.strongRecOn with
  | _ w ih =>
    intro low hb i p q hpi hqi he h0 hc
    rcases Nat.eq_zero_or_pos w with rfl | hw
    · rw [covL_nil] at hpi; cases hpi
    · have hp := Nat.two_pow_pos (bestK low w)
      obtain ⟨g1, g2, g3⟩ := bestK_spec (low := low) hw
      have g4 := g2.2
      rw [covL_cons hw] at hpi hqi
      cases i with
      | succ i => exact ih _ (by omega) _ (by omega) i p q hpi hqi he h0 hc
      | zero =>
        simp only [List.getElem?_cons_zero, Option.some.injEq] at hpi
        simp only [Nat.zero_add, List.getElem?_cons_succ] at hqi
        subst hpi
        rcases Nat.eq_zero_or_pos (w - 2 ^ bestK low w) with h9 | h9
        · rw [h9, covL_nil] at hqi; cases hqi
        · rw [covL_cons h9] at hqi
          simp only [List.getElem?_cons_zero, Option.some.injEq] at hqi
          subst hqi
          obtain ⟨k1, k2, k3⟩ := bestK_spec (low := low + 2 ^ bestK low w) h9
          simp only at he h0 hc
          have ek : bestK (low + 2 ^ bestK low w) (w - 2 ^ bestK low w) = bestK low w := by omega
          rw [ek] at k2 h0 hc
          have k4 := k2.2
          have hcl : (comP low (low + 2 ^ bestK low w)).len = 32 - (comK low (low + 2 ^ bestK low w) 32 : Int) := rfl
          rw [hcl] at hc
          have hcm : comK low (low + 2 ^ bestK low w) 32 = bestK low w + 1 := by omega
          have hk : low / 2 ^ 32 = (low + 2 ^ bestK low w) / 2 ^ 32 := by omega
          have hs := (comK_spec low (low + 2 ^ bestK low w) 32 hk).2.1
          rw [hcm] at hs
          have hev := half_even g2.1 hs
          have := g3 (bestK low w + 1) (by omega) ⟨hev, by rw [Nat.pow_succ]; omega⟩
          omega
end Go.Proofs.YtceacooambpkdaaDoor
