/- Shifts by less than a limb: plain laws. -/
import Derived.Test.YtagmohpafjncfaaDivMath2
namespace Go.Proofs.Ytagmohpafjncfaa.Lmb
theorem two_pow_base {s : Nat} (hs : s ≤ 29) : ∃ c : Int, 2 ≤ c ∧ (2 : Int) ^ s * c = 1073741824 ∧ 1 ≤ (2 : Int) ^ s ∧ (2 : Int) ^ s ≤ 536870912 := by
  refine ⟨2 ^ (30 - s), ?_, ?_, ?_, ?_⟩
  · have h : (2 : Nat) ^ 1 ≤ 2 ^ (30 - s) := Nat.pow_le_pow_right (by decide) (by omega)
    have : ((2 ^ (30 - s) : Nat) : Int) = (2 : Int) ^ (30 - s) := by simp
    omega
  · rw [← Int.pow_add]
    have : s + (30 - s) = 30 := by omega
    rw [this]; decide
  · have h : 1 ≤ (2 : Nat) ^ s := Nat.one_le_two_pow
    have : ((2 ^ s : Nat) : Int) = (2 : Int) ^ s := by simp
    omega
  · have h : (2 : Nat) ^ s ≤ 2 ^ 29 := Nat.pow_le_pow_right (by decide) hs
    have h2 : (2 : Nat) ^ 29 = 536870912 := by decide
    have : ((2 ^ s : Nat) : Int) = (2 : Int) ^ s := by simp
    omega
theorem shl_bound {x : Int} {s : Nat} (hx : 0 ≤ x ∧ x < 1073741824) (hs : s ≤ 29) : 0 ≤ x * 2 ^ s ∧ x * 2 ^ s ≤ 576460752303423488 := by
  obtain ⟨c, _, _, p0, p1⟩ := two_pow_base hs
  refine ⟨Int.mul_nonneg hx.1 (by omega), ?_⟩
  have : x * 2 ^ s ≤ 1073741824 * 2 ^ s := Int.mul_le_mul_of_nonneg_right (by omega) (by omega)
  omega
theorem shl_low {x : Int} {s : Nat} (hs : s ≤ 29) : (x * 2 ^ s) % 1073741824 ≤ 1073741824 - 2 ^ s ∧ ∃ y, (x * 2 ^ s) % 1073741824 = 2 ^ s * y := by
  obtain ⟨c, c2, hc, p0, p1⟩ := two_pow_base hs
  have e : (x * 2 ^ s) % 1073741824 = 2 ^ s * (x % c) := by
    rw [← hc, Int.mul_comm x, Int.mul_emod_mul_of_pos _ _ (by omega)]
  have h1 := Int.emod_lt_of_pos x (show 0 < c by omega)
  have h2 : (2 : Int) ^ s * (x % c) ≤ 2 ^ s * (c - 1) := Int.mul_le_mul_of_nonneg_left (by omega) (by omega)
  rw [Int.mul_sub, hc] at h2
  exact ⟨by rw [e]; omega, _, e⟩
structure ShiftInv (xs os : List Int) (s i : Nat) : Prop where
  len : os.length = xs.length + 1
  limbs : Limbs os
  val : val os = val (xs.take i) * 2 ^ s
  low : os.getD i 0 < 2 ^ s
  zero : ∀ t, i < t → os.getD t 0 = 0
theorem ShiftInv.start (xs : List Int) {s : Nat} (hs : s ≤ 29) : ShiftInv xs (List.replicate (xs.length + 1) 0) s 0 := by
  obtain ⟨c, _, _, p0, p1⟩ := two_pow_base hs
  have hz : ∀ t, (List.replicate (xs.length + 1) (0 : Int)).getD t 0 = 0 := fun t => by
    simp only [List.getD, List.getElem?_replicate]; split <;> rfl
  exact ⟨by simp, limbs_replicate _, by simp [val_replicate, val_nil], by rw [hz]; omega, fun t _ => hz t⟩
theorem ShiftInv.step {xs os : List Int} {s i : Nat} (h : ShiftInv xs os s i) (hx : Limbs xs) (hs : s ≤ 29) (hi : i < xs.length) :
    ShiftInv xs ((os.set i (os.getD i 0 + (xs.getD i 0 * 2 ^ s) % 1073741824)).set (i + 1) ((xs.getD i 0 * 2 ^ s) / 1073741824)) s (i + 1) := by
  have bx := limbs_getD hx i
  have bo := limbs_getD h.limbs i
  have hl := h.len
  have hv := h.val
  have hlow := h.low
  have hb := shl_bound bx hs
  obtain ⟨hr, _⟩ := shl_low (x := xs.getD i 0) hs
  obtain ⟨c, _, _, p0, p1⟩ := two_pow_base hs
  have ht := val_take_succ xs i hi
  have hy : xs.getD i 0 * 2 ^ s / 1073741824 < 2 ^ s := by
    refine Int.ediv_lt_of_lt_mul (by omega) ?_
    rw [Int.mul_comm (2 ^ s)]
    exact Int.mul_lt_mul_of_pos_right bx.2 (by omega)
  have hs1 := val_set os i (by omega) (os.getD i 0 + (xs.getD i 0 * 2 ^ s) % 1073741824)
  have hs2 := val_set (os.set i (os.getD i 0 + (xs.getD i 0 * 2 ^ s) % 1073741824)) (i + 1) (by simp; omega) ((xs.getD i 0 * 2 ^ s) / 1073741824)
  rw [getD_set _ _ _ (by omega), if_neg (by omega), h.zero (i + 1) (by omega), hs1] at hs2
  have e3 : 1073741824 * (xs.getD i 0 * 2 ^ s / 1073741824) + xs.getD i 0 * 2 ^ s % 1073741824 = xs.getD i 0 * 2 ^ s := Int.mul_ediv_add_emod _ _
  have e5 : (Lmb.val (xs.take i) + pw i * xs.getD i 0) * 2 ^ s = Lmb.val (xs.take i) * 2 ^ s + pw i * (xs.getD i 0 * 2 ^ s) := by
    rw [Int.add_mul, Int.mul_assoc]
  generalize xs.getD i 0 * 2 ^ s = y at *
  generalize os.getD i 0 = o at *
  refine ⟨by simpa using hl, limbs_set (limbs_set h.limbs _ _ (by omega)) _ _ (by omega), ?_, ?_, fun t hlt => ?_⟩
  · have e4 : pw i * (1073741824 * (y / 1073741824) + y % 1073741824) = pw i * y := by rw [e3]
    rw [Int.mul_add, Int.mul_left_comm] at e4
    have ec : o + y % 1073741824 - o = y % 1073741824 := by omega
    rw [hs2, ht, e5, pw_succ, Int.sub_zero, ec, Int.mul_assoc]
    omega
  · rw [getD_set _ _ _ (by simp; omega), if_pos rfl]; exact hy
  · rw [getD_set _ _ _ (by simp; omega), if_neg (by omega), getD_set _ _ _ (by omega), if_neg (by omega)]
    exact h.zero t (by omega)
theorem ShiftInv.done {xs os : List Int} {s : Nat} (h : ShiftInv xs os s xs.length) : Lmb.val os = Lmb.val xs * 2 ^ s := by
  have := h.val
  rwa [List.take_of_length_le (Nat.le_refl _)] at this
structure BackInv (rs os : List Int) (s i : Nat) : Prop where
  len : os.length = rs.length
  limbs : Limbs os
  val : val (os.drop i) = val (rs.drop i) / 2 ^ s
theorem BackInv.start (rs : List Int) (s : Nat) : BackInv rs (List.replicate rs.length 0) s rs.length :=
  ⟨by simp, limbs_replicate _, by simp [val_nil]⟩
theorem BackInv.step {rs os : List Int} {s i : Nat} (h : BackInv rs os s (i + 1)) (hr : Limbs rs) (hs : s ≤ 29) (hi : i < rs.length) :
    BackInv rs (os.set i ((rs.getD (i + 1) 0 * 1073741824 + rs.getD i 0) / 2 ^ s % 1073741824)) s i := by
  have b0 := limbs_getD hr i
  have b1 := limbs_getD hr (i + 1)
  have hl := h.len
  have hv := h.val
  obtain ⟨c, c2, hc, p0, p1⟩ := two_pow_base hs
  have e1 := val_drop rs i hi
  have e2 := val_drop (os.set i ((rs.getD (i + 1) 0 * 1073741824 + rs.getD i 0) / 2 ^ s % 1073741824)) i (by simp; omega)
  have e3 : (os.set i ((rs.getD (i + 1) 0 * 1073741824 + rs.getD i 0) / 2 ^ s % 1073741824)).drop (i + 1) = os.drop (i + 1) := by rw [List.drop_set_of_lt (by omega)]
  rw [getD_set _ _ _ (by omega), if_pos rfl, e3, hv] at e2
  refine ⟨by simpa using hl, limbs_set h.limbs _ _ (by omega), ?_⟩
  rw [e2, e1]
  have e4 : ∃ X, Lmb.val (rs.drop (i + 1)) = rs.getD (i + 1) 0 + 1073741824 * X := by
    by_cases h1 : i + 1 < rs.length
    · exact ⟨_, val_drop rs (i + 1) h1⟩
    · refine ⟨0, ?_⟩
      rw [List.drop_of_length_le (by omega)]
      have : rs.getD (i + 1) 0 = 0 := by simp [List.getD, show rs.length ≤ i + 1 by omega]
      rw [this]; rfl
  obtain ⟨X, hX⟩ := e4
  rw [hX]
  generalize rs.getD (i + 1) 0 = a at *
  generalize rs.getD i 0 = b at *
  generalize (2 : Int) ^ s = p at *
  rw [← hc]
  have hp : p ≠ 0 := by omega
  have f1 : (a + p * c * X) / p = a / p + c * X := by
    rw [Int.mul_assoc, Int.add_mul_ediv_left _ _ hp]
  have f2 : (b + p * c * (a + p * c * X)) / p = b / p + c * (a + p * c * X) := by
    rw [Int.mul_assoc p c (a + p * c * X), Int.add_mul_ediv_left _ _ hp]
  have f3 : (a * (p * c) + b) / p = b / p + c * a := by
    rw [Int.add_comm, Int.mul_left_comm, Int.add_mul_ediv_left _ _ hp, Int.mul_comm a c]
  rw [f1, f2, f3]
  have q1 := Int.mul_ediv_add_emod a p
  have z0 := Int.emod_nonneg a hp
  have z1 := Int.emod_lt_of_pos a (show 0 < p by omega)
  have y0 : 0 ≤ b / p := Int.ediv_nonneg b0.1 (by omega)
  have y1 : b / p < c := Int.ediv_lt_of_lt_mul (by omega) (by rw [Int.mul_comm]; omega)
  generalize a / p = q at *
  generalize a % p = z at *
  generalize b / p = y at *
  have g1 : c * z ≤ c * (p - 1) := Int.mul_le_mul_of_nonneg_left (by omega) (by omega)
  have g2 : 0 ≤ c * z := Int.mul_nonneg (by omega) z0
  have g3 : c * (p - 1) = p * c - c := by rw [Int.mul_sub, Int.mul_one, Int.mul_comm]
  have g4 : y + c * a = (y + c * z) + p * c * q := by
    rw [← q1, Int.mul_add]
    have : c * (p * q) = p * c * q := by rw [← Int.mul_assoc, Int.mul_comm c p]
    omega
  have g5 : (y + c * a) % (p * c) = y + c * z := by
    rw [g4, Int.add_mul_emod_self_left]
    exact Int.emod_eq_of_lt (by omega) (by omega)
  rw [g5]
  have g6 : c * (a + p * c * X) = c * z + p * c * q + p * c * (c * X) := by
    rw [Int.mul_add, ← q1, Int.mul_add]
    have t1 : c * (p * q) = p * c * q := by rw [← Int.mul_assoc, Int.mul_comm c p]
    have t2 : c * (p * c * X) = p * c * (c * X) := by simp only [Int.mul_assoc, Int.mul_left_comm]
    omega
  rw [g6, Int.mul_add]
  omega
theorem BackInv.done {rs os : List Int} {s R : Nat} (h : BackInv rs os s 0) (hr : Lmb.val rs = R) : Dig (trim os) (R / 2 ^ s) := by
  have hv := h.val
  rw [List.drop_zero, List.drop_zero, hr] at hv
  have hd := dig_trim h.limbs
  rw [hv] at hd
  have e : ((R : Int) / 2 ^ s).toNat = R / 2 ^ s := by
    have : ((2 ^ s : Nat) : Int) = (2 : Int) ^ s := by simp
    rw [← this, ← Int.natCast_ediv]; rfl
  rwa [e] at hd
end Go.Proofs.Ytagmohpafjncfaa.Lmb
