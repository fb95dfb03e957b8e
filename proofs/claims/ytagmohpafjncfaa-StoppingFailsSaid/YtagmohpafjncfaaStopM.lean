/- Tables of flows in which each of some successors has a flow: counts and their laws. No program is in sight. -/
import Derived.Test.YtagmohpafjncfaaNat
set_option linter.unusedSimpArgs false
namespace Go.Proofs.Ytagmohpafjncfaa
open Lmb

/-- the tables of n flows onto k successors in which each of j of them has a flow -/
def cnt (k : Nat) : Nat → Nat → Nat
  | 0, j => if j = 0 then 1 else 0
  | n + 1, j => (k - j) * cnt k n j + j * cnt k n (j - 1)

theorem cnt_mono (k n : Nat) : ∀ j, j + 1 ≤ k → cnt k n (j + 1) ≤ cnt k n j := by
  induction n with
  | zero => intro j _; simp [cnt]
  | succ n ih =>
    intro j hj
    simp only [cnt, Nat.add_sub_cancel]
    have h1 := ih j hj
    have h2 : (k - (j + 1)) * cnt k n (j + 1) ≤ (k - (j + 1)) * cnt k n j := Nat.mul_le_mul_left _ h1
    have h3 : j * cnt k n j ≤ j * cnt k n (j - 1) := by
      cases j with
      | zero => simp
      | succ j => exact Nat.mul_le_mul_left _ (ih j (by omega))
    have e1 : (k - j) * cnt k n j = (k - (j + 1)) * cnt k n j + cnt k n j := by
      have : k - j = (k - (j + 1)) + 1 := by omega
      rw [this, Nat.add_mul, Nat.one_mul]
    have e2 : (j + 1) * cnt k n j = j * cnt k n j + cnt k n j := by rw [Nat.add_mul, Nat.one_mul]
    omega

theorem cnt_le (k n : Nat) : ∀ j, j ≤ k → cnt k n j ≤ k ^ n := by
  have h0 : ∀ n, cnt k n 0 = k ^ n := by
    intro n
    induction n with
    | zero => rfl
    | succ n ih => simp [cnt, ih, Nat.pow_succ, Nat.mul_comm]
  intro j
  induction j with
  | zero => intro _; rw [h0]; exact Nat.le_refl _
  | succ j ih => intro h; exact Nat.le_trans (cnt_mono k n j h) (ih (by omega))

/-- one more successor: the part of the tables is not greater -/
theorem cnt_cross (k n : Nat) : ∀ j, j ≤ k → cnt (k + 1) n j * k ^ n ≤ cnt k n j * (k + 1) ^ n := by
  induction n with
  | zero => intro j _; simp [cnt]
  | succ n ih =>
    intro j hj
    have hA := ih j hj
    have hB := ih (j - 1) (by omega)
    have hm : j * cnt k n j ≤ j * cnt k n (j - 1) := by
      cases j with
      | zero => simp
      | succ j => exact Nat.mul_le_mul_left _ (cnt_mono k n j hj)
    simp only [cnt, Nat.pow_succ]
    generalize cnt (k + 1) n j = A' at *
    generalize cnt (k + 1) n (j - 1) = B' at *
    generalize cnt k n j = A at *
    generalize cnt k n (j - 1) = B at *
    generalize k ^ n = x at *
    generalize (k + 1) ^ n = y at *
    obtain ⟨d, rfl⟩ := Nat.exists_eq_add_of_le hj
    have e1 : j + d + 1 - j = d + 1 := by omega
    have e2 : j + d - j = d := by omega
    rw [e1, e2]
    have s1 : ((d + 1) * A' + j * B') * (x * (j + d)) = (j + d) * ((d + 1) * (A' * x) + j * (B' * x)) := by
      simp only [Nat.add_mul, Nat.mul_add, Nat.mul_assoc, Nat.mul_comm, Nat.mul_left_comm]
    have s2 : (j + d) * ((d + 1) * (A' * x) + j * (B' * x)) ≤ (j + d) * ((d + 1) * (A * y) + j * (B * y)) :=
      Nat.mul_le_mul_left _ (Nat.add_le_add (Nat.mul_le_mul_left _ hA) (Nat.mul_le_mul_left _ hB))
    have s3 : (j + d) * ((d + 1) * (A * y) + j * (B * y)) + j * B * y = (d * A + j * B) * (y * (j + d + 1)) + j * A * y := by
      simp only [Nat.add_mul, Nat.mul_add, Nat.mul_assoc, Nat.mul_comm, Nat.mul_left_comm, Nat.one_mul, Nat.mul_one]
      omega
    have s4 : j * A * y ≤ j * B * y := Nat.mul_le_mul_right _ hm
    omega

/-- what is missed with one more successor is not less -/
theorem miss_more {k n p q : Nat} (hk : 1 ≤ k) (h : p * k ^ n < (k ^ n - cnt k n k) * q) : p * (k + 1) ^ n < ((k + 1) ^ n - cnt (k + 1) n (k + 1)) * q := by
  have h1 := cnt_mono (k + 1) n k (Nat.le_refl _)
  have h2 := cnt_cross k n k (Nat.le_refl _)
  have h3 := cnt_le k n k (Nat.le_refl _)
  have h4 := cnt_le (k + 1) n (k + 1) (Nat.le_refl _)
  have hx : 0 < k ^ n := Nat.pow_pos (by omega)
  have hy : 0 < (k + 1) ^ n := Nat.pow_pos (by omega)
  generalize cnt (k + 1) n (k + 1) = G1 at *
  generalize cnt (k + 1) n k = G2 at *
  generalize cnt k n k = G at *
  generalize k ^ n = x at *
  generalize (k + 1) ^ n = y at *
  have a1 : G1 * x ≤ G * y := Nat.le_trans (Nat.mul_le_mul_right _ h1) h2
  have a2 : (p * x) * y < ((x - G) * q) * y := Nat.mul_lt_mul_of_pos_right h hy
  have a3 : ((x - G) * q) * y ≤ ((y - G1) * q) * x := by
    have e1 : ((x - G) * q) * y = q * ((x - G) * y) := by rw [Nat.mul_comm (x - G), Nat.mul_assoc]
    have e2 : ((y - G1) * q) * x = q * ((y - G1) * x) := by rw [Nat.mul_comm (y - G1), Nat.mul_assoc]
    rw [e1, e2]
    refine Nat.mul_le_mul_left _ ?_
    rw [Nat.sub_mul, Nat.sub_mul, Nat.mul_comm y x]
    omega
  have a4 : (p * x) * y = (p * y) * x := by rw [Nat.mul_assoc, Nat.mul_assoc, Nat.mul_comm x y]
  rw [a4] at a2
  exact Nat.lt_of_mul_lt_mul_right (Nat.lt_of_lt_of_le a2 a3)

/-- more flows never miss more -/
theorem cnt_more {k : Nat} (n : Nat) (hk : 1 ≤ k) : cnt k n k * k ≤ cnt k (n + 1) k := by
  simp only [cnt, Nat.sub_self, Nat.zero_mul, Nat.zero_add]
  obtain ⟨d, rfl⟩ := Nat.exists_eq_add_of_le hk
  rw [Nat.mul_comm]
  refine Nat.mul_le_mul_left _ ?_
  have := cnt_mono (1 + d) n d (by omega)
  rw [Nat.add_comm 1 d] at *
  simpa using this

/-! the sum with alternating signs -/
def altI (f : Nat → Int) : Nat → Int
  | 0 => 0
  | m + 1 => altI f m + if m % 2 = 0 then f m else - f m
def sumE (f : Nat → Nat) : Nat → Nat
  | 0 => 0
  | m + 1 => sumE f m + if m % 2 = 0 then f m else 0
def sumO (f : Nat → Nat) : Nat → Nat
  | 0 => 0
  | m + 1 => sumO f m + if m % 2 = 0 then 0 else f m
theorem sum_alt (f : Nat → Nat) : ∀ m, (sumE f m : Int) - sumO f m = altI (fun i => (f i : Int)) m
  | 0 => rfl
  | m + 1 => by
    have := sum_alt f m
    simp only [sumE, sumO, altI]
    split <;> simp <;> omega
theorem altI_congr {f g : Nat → Int} : ∀ m, (∀ i, i < m → f i = g i) → altI f m = altI g m
  | 0, _ => rfl
  | m + 1, h => by simp only [altI]; rw [altI_congr m fun i hi => h i (by omega), h m (by omega)]
theorem altI_lin (a b : Int) (f g : Nat → Int) : ∀ m, altI (fun i => a * f i + b * g i) m = a * altI f m + b * altI g m
  | 0 => by simp [altI]
  | m + 1 => by
    simp only [altI]
    rw [altI_lin a b f g m]
    split
    · rw [Int.mul_add, Int.mul_add]; omega
    · rw [Int.mul_add, Int.mul_add, Int.mul_neg, Int.mul_neg]; omega
theorem altI_binom (j : Nat) : ∀ m, altI (fun i => (binom (j + 1) i : Int)) (m + 1) = if m % 2 = 0 then (binom j m : Int) else - (binom j m : Int)
  | 0 => by simp [altI, binom_zero]
  | m + 1 => by
    have := altI_binom j m
    rw [altI, this]
    have e : binom (j + 1) (m + 1) = binom j m + binom j (m + 1) := rfl
    rw [e]
    rcases Nat.mod_two_eq_zero_or_one m with h | h
    · have h2 : (m + 1) % 2 = 1 := by omega
      simp [h, h2]; omega
    · have h2 : (m + 1) % 2 = 0 := by omega
      simp [h, h2]
      omega

theorem binom_less (j : Nat) : ∀ i, i ≤ j + 1 → (j + 1 - i) * binom (j + 1) i = (j + 1) * binom j i
  | 0, _ => by simp [binom_zero]
  | i + 1, h => by
    have hs := binom_step j i
    have e : binom (j + 1) (i + 1) = binom j i + binom j (i + 1) := rfl
    obtain ⟨d, rfl⟩ := Nat.exists_eq_add_of_le (show i ≤ j by omega)
    have e1 : i + d + 1 - (i + 1) = d := by omega
    have e2 : i + d - i = d := by omega
    rw [e2] at hs
    rw [e, e1, Nat.mul_add, Nat.mul_comm d (binom (i + d) i), ← hs]
    generalize binom (i + d) (i + 1) = z
    rw [Nat.mul_comm z, ← Nat.add_mul]
    congr 1
    omega

theorem alt_cnt (k n : Nat) : ∀ j, j ≤ k → altI (fun i => ((binom j i * (k - i) ^ n : Nat) : Int)) (j + 1) = cnt k n j := by
  induction n with
  | zero =>
    intro j _
    have e : altI (fun i => ((binom j i * (k - i) ^ 0 : Nat) : Int)) (j + 1) = altI (fun i => (binom j i : Int)) (j + 1) := altI_congr _ fun i _ => by simp
    rw [e]
    cases j with
    | zero => simp [altI, cnt, binom_zero]
    | succ j =>
      rw [altI_binom, binom_gt j (j + 1) (by omega)]
      simp [cnt]
  | succ n ih =>
    intro j hj
    cases j with
    | zero =>
      have := ih 0 (by omega)
      simp only [altI, binom_zero, Nat.one_mul, Nat.sub_zero, Nat.zero_mod, if_true, Int.zero_add] at this ⊢
      simp only [cnt, Nat.sub_zero, Nat.zero_mul, Nat.add_zero, Nat.pow_succ]
      rw [Int.natCast_mul, this, Int.natCast_mul, Int.mul_comm]
    | succ j =>
      have h1 := ih (j + 1) hj
      have h2 := ih j (by omega)
      have e : altI (fun i => ((binom (j + 1) i * (k - i) ^ (n + 1) : Nat) : Int)) (j + 1 + 1) = altI (fun i => ((k - (j + 1) : Nat) : Int) * ((binom (j + 1) i * (k - i) ^ n : Nat) : Int) + ((j + 1 : Nat) : Int) * ((binom j i * (k - i) ^ n : Nat) : Int)) (j + 1 + 1) := by
        refine altI_congr _ fun i hi => ?_
        rw [← Int.natCast_mul, ← Int.natCast_mul, ← Int.natCast_add]
        congr 1
        have hb := binom_less j i (by omega)
        have ek : k - i = (k - (j + 1)) + (j + 1 - i) := by omega
        have e1 : binom (j + 1) i * (k - i) ^ (n + 1) = ((k - i) * binom (j + 1) i) * (k - i) ^ n := by
          rw [Nat.pow_succ, Nat.mul_comm ((k - i) ^ n), ← Nat.mul_assoc, Nat.mul_comm (binom (j + 1) i)]
        have e2 : (k - i) * binom (j + 1) i = (k - (j + 1)) * binom (j + 1) i + (j + 1) * binom j i := by
          rw [← hb, ← Nat.add_mul, ← ek]
        rw [e1, e2, Nat.add_mul, Nat.mul_assoc, Nat.mul_assoc]
      rw [e, altI_lin, h1]
      have e3 : altI (fun i => ((binom j i * (k - i) ^ n : Nat) : Int)) (j + 1 + 1) = cnt k n j := by
        rw [altI, h2, binom_gt j (j + 1) (by omega)]
        simp
      rw [e3]
      simp only [cnt, Nat.add_sub_cancel, Int.natCast_add, Int.natCast_mul]

/-- what the code reckons -/
theorem onto_sum (n k : Nat) : sumO (fun i => binom k i * (k - i) ^ n) (k + 1) ≤ sumE (fun i => binom k i * (k - i) ^ n) (k + 1) ∧
    sumE (fun i => binom k i * (k - i) ^ n) (k + 1) - sumO (fun i => binom k i * (k - i) ^ n) (k + 1) = cnt k n k := by
  have h1 := sum_alt (fun i => binom k i * (k - i) ^ n) (k + 1)
  have h2 := alt_cnt k n k (Nat.le_refl _)
  rw [h2] at h1
  omega
end Go.Proofs.Ytagmohpafjncfaa
