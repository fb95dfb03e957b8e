/- Tables for which a rule stops too early: their numbers. -/
import Derived.Test.YtagmohpafjncfaaStopM
namespace Go.Proofs.Ytagmohpafjncfaa.Lmb

def sumUp (f : Nat → Nat) : Nat → Nat
  | 0 => 0
  | m + 1 => sumUp f m + f m
theorem sumUp_congr {f g : Nat → Nat} : ∀ {m : Nat}, (∀ i, i < m → f i = g i) → sumUp f m = sumUp g m
  | 0, _ => rfl
  | m + 1, h => by
    unfold sumUp
    rw [sumUp_congr (fun i hi => h i (by omega)), h m (by omega)]
theorem sumUp_add (f g : Nat → Nat) : ∀ m, sumUp (fun i => f i + g i) m = sumUp f m + sumUp g m
  | 0 => rfl
  | m + 1 => by
    unfold sumUp
    rw [sumUp_add f g m]
    omega
theorem sumUp_mul (f : Nat → Nat) (c : Nat) : ∀ m, sumUp (fun i => f i * c) m = sumUp f m * c
  | 0 => by simp [sumUp]
  | m + 1 => by
    unfold sumUp
    rw [sumUp_mul f c m, Nat.add_mul]
theorem sumUp_le {f g : Nat → Nat} : ∀ {m : Nat}, (∀ i, i < m → f i ≤ g i) → sumUp f m ≤ sumUp g m
  | 0, _ => Nat.le_refl _
  | m + 1, h => by
    unfold sumUp
    have h1 := sumUp_le (m := m) (fun i hi => h i (by omega))
    have h2 := h m (by omega)
    omega
theorem sumUp_one (f : Nat → Nat) : ∀ {m i : Nat}, i < m → f i ≤ sumUp f m
  | m + 1, i, h => by
    unfold sumUp
    by_cases e : i = m
    · subst e; omega
    · have := sumUp_one f (m := m) (i := i) (by omega)
      omega
theorem sumUp_mono (f : Nat → Nat) {m : Nat} : ∀ {n : Nat}, m ≤ n → sumUp f m ≤ sumUp f n
  | 0, h => by
    obtain rfl : m = 0 := by omega
    exact Nat.le_refl _
  | n + 1, h => by
    by_cases e : m = n + 1
    · subst e; exact Nat.le_refl _
    · have := sumUp_mono f (m := m) (n := n) (by omega)
      rw [sumUp]
      omega

/-- one flow more: the tables with j seen -/
def rawW (k : Nat) (W : Nat → Nat) (j : Nat) : Nat := W j * j + (if j = 0 then 0 else W (j - 1) * (k - j + 1))
/-- the rule stops with j seen after n flows -/
def stopAt (k : Nat) (st : Nat → Nat) (n j : Nat) : Prop := 1 ≤ j ∧ j < k ∧ st j ≤ n
instance (k : Nat) (st : Nat → Nat) (n j : Nat) : Decidable (stopAt k st n j) := by unfold stopAt; exact inferInstance
/-- the tables of n flows with j seen for which the rule goes on -/
def wayN (k : Nat) (st : Nat → Nat) : Nat → Nat → Nat
  | 0, j => if j = 0 then 1 else 0
  | n + 1, j => if stopAt k st (n + 1) j then 0 else rawW k (wayN k st n) j
/-- those for which it stops at flow n + 1, with less than j seen -/
def outN (k : Nat) (st : Nat → Nat) (n j : Nat) : Nat := sumUp (fun i => if stopAt k st (n + 1) i then rawW k (wayN k st n) i else 0) j
def failN (k : Nat) (st : Nat → Nat) : Nat → Nat
  | 0 => 0
  | n + 1 => failN k st n * k + outN k st n k

theorem raw_sum (k : Nat) (W : Nat → Nat) : ∀ m, m ≤ k → sumUp (rawW k W) (m + 1) = sumUp (fun j => W j * k) m + W m * m
  | 0, _ => by simp [sumUp, rawW]
  | m + 1, h => by
    rw [sumUp, raw_sum k W m (by omega)]
    have e1 : k - (m + 1) + 1 = k - m := by omega
    have e2 : sumUp (fun j => W j * k) (m + 1) = sumUp (fun j => W j * k) m + W m * k := rfl
    have e3 : W m * m + W m * (k - m) = W m * k := by rw [← Nat.mul_add]; congr 1; omega
    rw [e2]
    unfold rawW
    rw [if_neg (by omega), Nat.add_sub_cancel, e1]
    omega
theorem total (k : Nat) (st : Nat → Nat) : ∀ n, sumUp (wayN k st n) (k + 1) + failN k st n = k ^ n
  | 0 => by
    have h : ∀ m, sumUp (wayN k st 0) (m + 1) = 1 := by
      intro m
      induction m with
      | zero => rfl
      | succ m ih => rw [sumUp, ih]; simp [wayN]
    rw [h k]
    rfl
  | n + 1 => by
    have ih := total k st n
    have h1 : sumUp (wayN k st (n + 1)) (k + 1) + outN k st n (k + 1) = sumUp (rawW k (wayN k st n)) (k + 1) := by
      unfold outN
      rw [← sumUp_add]
      refine sumUp_congr fun i hi => ?_
      by_cases h : stopAt k st (n + 1) i
      · rw [wayN, if_pos h, if_pos h, Nat.zero_add]
      · rw [wayN, if_neg h, if_neg h, Nat.add_zero]
    have h2 : outN k st n (k + 1) = outN k st n k := by
      unfold outN
      rw [sumUp, if_neg (fun h => by have := h.2.1; omega), Nat.add_zero]
    have h3 := raw_sum k (wayN k st n) k (Nat.le_refl _)
    have h4 : sumUp (fun j => wayN k st n j * k) k + wayN k st n k * k = sumUp (wayN k st n) (k + 1) * k := by
      rw [sumUp_mul, sumUp, Nat.add_mul]
    rw [failN, Nat.pow_succ, ← ih, Nat.add_mul]
    omega
theorem failN_le (k : Nat) (st : Nat → Nat) (n : Nat) : failN k st n ≤ k ^ n := by have := total k st n; omega
theorem wayN_le (k : Nat) (st : Nat → Nat) (n : Nat) {j : Nat} (hj : j ≤ k) : wayN k st n j ≤ k ^ n := by
  have := total k st n
  have := sumUp_one (wayN k st n) (m := k + 1) (i := j) (by omega)
  omega
theorem outN_le (k : Nat) (st : Nat → Nat) (n : Nat) {j : Nat} (hj : j ≤ k) : failN k st n * k + outN k st n j ≤ k ^ (n + 1) := by
  have h1 := failN_le k st (n + 1)
  have h2 : outN k st n j ≤ outN k st n k := sumUp_mono _ hj
  rw [failN] at h1
  omega
theorem rawW_le (k : Nat) (st : Nat → Nat) (n : Nat) {j : Nat} (hj : j ≤ k) : rawW k (wayN k st n) j ≤ k ^ (n + 1) := by
  have h3 := raw_sum k (wayN k st n) k (Nat.le_refl _)
  have h4 : sumUp (fun j => wayN k st n j * k) k + wayN k st n k * k = sumUp (wayN k st n) (k + 1) * k := by
    rw [sumUp_mul, sumUp, Nat.add_mul]
  have h5 := sumUp_one (rawW k (wayN k st n)) (m := k + 1) (i := j) (by omega)
  have h6 := total k st n
  have h7 : sumUp (wayN k st n) (k + 1) * k ≤ k ^ n * k := Nat.mul_le_mul_right _ (by omega)
  rw [Nat.pow_succ]
  omega

/-- a stricter rule lets more tables go on -/
theorem wayN_mono {k : Nat} {st st' : Nat → Nat} (h : ∀ j, 1 ≤ j → j < k → st j ≤ st' j) : ∀ n j, wayN k st n j ≤ wayN k st' n j
  | 0, j => Nat.le_refl _
  | n + 1, j => by
    have hr : rawW k (wayN k st n) j ≤ rawW k (wayN k st' n) j := by
      unfold rawW
      have h1 := Nat.mul_le_mul_right j (wayN_mono h n j)
      split
      · omega
      · have h2 := Nat.mul_le_mul_right (k - j + 1) (wayN_mono h n (j - 1))
        omega
    rw [wayN, wayN]
    by_cases h1 : stopAt k st (n + 1) j
    · rw [if_pos h1]; exact Nat.zero_le _
    · rw [if_neg h1, if_neg (fun h2 => h1 ⟨h2.1, h2.2.1, by have := h j h2.1 h2.2.1; have := h2.2.2; omega⟩)]
      exact hr
theorem failN_mono {k : Nat} {st st' : Nat → Nat} (h : ∀ j, 1 ≤ j → j < k → st j ≤ st' j) (n : Nat) : failN k st' n ≤ failN k st n := by
  have h1 := total k st n
  have h2 := total k st' n
  have h3 : sumUp (wayN k st n) (k + 1) ≤ sumUp (wayN k st' n) (k + 1) := sumUp_le fun i _ => wayN_mono h n i
  omega
/-- some tables are not stopped too early -/
theorem wayN_pos {k : Nat} {st : Nat → Nat} (h : ∀ j, 1 ≤ j → j < k → j < st j) : ∀ j, j ≤ k → 0 < wayN k st j j
  | 0, _ => by simp [wayN]
  | j + 1, hj => by
    have ih := wayN_pos h j (by omega)
    rw [wayN, if_neg (fun h2 => by have := h (j + 1) h2.1 h2.2.1; have := h2.2.2; omega)]
    unfold rawW
    rw [if_neg (by omega), Nat.add_sub_cancel]
    have : 0 < wayN k st j j * (k - (j + 1) + 1) := Nat.mul_pos ih (by omega)
    omega
theorem wayN_end {k : Nat} {st : Nat → Nat} (hk : 1 ≤ k) (h : ∀ j, 1 ≤ j → j < k → j < st j) : ∀ n, 0 < wayN k st (k + n) k
  | 0 => wayN_pos h k (Nat.le_refl _)
  | n + 1 => by
    have ih := wayN_end hk h n
    rw [← Nat.add_assoc, wayN, if_neg (fun h2 => by have := h2.2.1; omega)]
    unfold rawW
    have : 0 < wayN k st (k + n) k * k := Nat.mul_pos ih hk
    omega
theorem failN_lt {k : Nat} {st : Nat → Nat} (hk : 1 ≤ k) (h : ∀ j, 1 ≤ j → j < k → j < st j) {n : Nat} (hn : k ≤ n) : failN k st n < k ^ n := by
  obtain ⟨d, rfl⟩ := Nat.exists_eq_add_of_le hn
  have h1 := total k st (k + d)
  have h2 := sumUp_one (wayN k st (k + d)) (m := k + 1) (i := k) (by omega)
  have h3 := wayN_end hk h d
  omega

/-- behind the last stop nothing turns -/
theorem wayN_zero {k : Nat} {st : Nat → Nat} {n j : Nat} (hn : 1 ≤ n) (hj : j < k) (h : 1 ≤ j → st j ≤ n) : wayN k st n j = 0 := by
  obtain ⟨m, rfl⟩ : ∃ m, n = m + 1 := ⟨n - 1, by omega⟩
  rw [wayN]
  by_cases h0 : j = 0
  · subst h0
    rw [if_neg (fun h2 => by have := h2.1; omega)]
    simp [rawW]
  · rw [if_pos ⟨by omega, hj, h (by omega)⟩]
theorem failN_late {k : Nat} {st : Nat → Nat} {n : Nat} (hn : 1 ≤ n ∨ k ≤ 1) (h : ∀ j, 1 ≤ j → j < k → st j ≤ n) : failN k st (n + 1) = failN k st n * k := by
  rw [failN]
  have e : outN k st n k = 0 := by
    have h1 : outN k st n k = sumUp (fun _ => 0) k := by
      unfold outN
      refine sumUp_congr fun i hi => ?_
      by_cases h9 : stopAt k st (n + 1) i
      · rw [if_pos h9]
        have h1 := h9.1
        have hn1 : 1 ≤ n := by omega
        unfold rawW
        rw [if_neg (by omega), wayN_zero hn1 hi (fun _ => h i h1 hi), wayN_zero (j := i - 1) hn1 (by omega) (fun h2 => h (i - 1) h2 (by omega))]
        simp
      · rw [if_neg h9]
    have h2 : ∀ m, sumUp (fun _ => 0) m = 0 := by
      intro m
      induction m with
      | zero => rfl
      | succ m ih => rw [sumUp, ih]
    rw [h1, h2]
  omega
theorem failN_end {k : Nat} {st : Nat → Nat} {n : Nat} (hn : 1 ≤ n ∨ k ≤ 1) (h : ∀ j, 1 ≤ j → j < k → st j ≤ n) : ∀ d, failN k st (n + d) = failN k st n * k ^ d
  | 0 => by simp
  | d + 1 => by
    rw [← Nat.add_assoc, failN_late (by omega) (fun j h1 h2 => by have := h j h1 h2; omega), failN_end hn h d, Nat.mul_assoc, ← Nat.pow_succ]

/-! reduced fractions -/
def redP (a b : Nat) : Nat := a / Nat.gcd a b
def redQ (a b : Nat) : Nat := b / Nat.gcd a b
theorem red_mul (a b : Nat) {x : Nat} (hx : 0 < x) : redP (a * x) (b * x) = redP a b ∧ redQ (a * x) (b * x) = redQ a b := by
  unfold redP redQ
  rw [Nat.gcd_mul_right]
  exact ⟨Nat.mul_div_mul_right _ _ hx, Nat.mul_div_mul_right _ _ hx⟩
theorem red_eq {a b c d : Nat} (hb : 0 < b) (hd : 0 < d) (h : a * d = c * b) : redP a b = redP c d ∧ redQ a b = redQ c d := by
  have h1 := red_mul a b hd
  have h2 := red_mul c d hb
  rw [h, Nat.mul_comm b d] at h1
  exact ⟨h1.1.symm.trans h2.1, h1.2.symm.trans h2.2⟩
theorem redP_mul {a b : Nat} (hb : 0 < b) : redP a b * b = a * redQ a b := by
  have hg : 0 < Nat.gcd a b := Nat.gcd_pos_of_pos_right _ hb
  unfold redP redQ
  have e1 : a / Nat.gcd a b * Nat.gcd a b = a := Nat.div_mul_cancel (Nat.gcd_dvd_left a b)
  have e2 : b / Nat.gcd a b * Nat.gcd a b = b := Nat.div_mul_cancel (Nat.gcd_dvd_right a b)
  generalize a / Nat.gcd a b = x at *
  generalize b / Nat.gcd a b = y at *
  generalize Nat.gcd a b = g at *
  subst e1 e2
  rw [Nat.mul_assoc, Nat.mul_comm y g]
theorem redQ_pos {a b : Nat} (hb : 0 < b) : 0 < redQ a b := Nat.div_pos (Nat.le_of_dvd hb (Nat.gcd_dvd_right a b)) (Nat.gcd_pos_of_pos_right _ hb)
theorem redP_le (a b : Nat) : redP a b ≤ a := Nat.div_le_self _ _
theorem redQ_le (a b : Nat) : redQ a b ≤ b := Nat.div_le_self _ _
/-- a reduced sum with a part of the same whole -/
theorem red_sum {a b w : Nat} (hb : 0 < b) : redP (redP a b * b + w * redQ a b) (redQ a b * b) = redP (a + w) b ∧ redQ (redP a b * b + w * redQ a b) (redQ a b * b) = redQ (a + w) b := by
  have hq := redQ_pos (a := a) hb
  refine red_eq (Nat.mul_pos hq hb) hb ?_
  rw [redP_mul hb, ← Nat.add_mul, Nat.mul_assoc]
end Go.Proofs.Ytagmohpafjncfaa.Lmb
