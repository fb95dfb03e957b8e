/- Division by one limb, and addition, limb by limb: plain laws of one round; bounds by powers of two. -/
import Derived.Test.YtpkmnggfomllhaaDoorMulMath
namespace Go.Proofs.YtpkmnggfomllhaaDoor.Lmb
structure SmallInv (xs : List Int) (b : Int) (j : Nat) (qs : List Int) (rest : Int) : Prop where
  len : qs.length = xs.length
  limbs : Limbs qs
  r0 : 0 ≤ rest
  r1 : rest < b
  val : val (xs.drop j) = val (qs.drop j) * b + rest
theorem SmallInv.start (xs : List Int) (b : Int) (hb : 1 ≤ b) : SmallInv xs b xs.length (List.replicate xs.length 0) 0 :=
  ⟨by simp, limbs_replicate _, by omega, by omega, by simp [val_nil]⟩
theorem val_drop (xs : List Int) (j : Nat) (h : j < xs.length) : val (xs.drop j) = xs.getD j 0 + 1073741824 * val (xs.drop (j + 1)) := by
  rw [List.drop_eq_getElem_cons h, val_cons]; simp [List.getD, h]
theorem SmallInv.step {xs qs : List Int} {b rest : Int} {j : Nat} (h : SmallInv xs b (j + 1) qs rest) (hx : Limbs xs) (hj : j < xs.length) :
    SmallInv xs b j (qs.set j ((rest * 1073741824 + xs.getD j 0) / b)) ((rest * 1073741824 + xs.getD j 0) % b) := by
  have bx := limbs_getD hx j
  have hl := h.len
  have h0 := h.r0
  have h1 := h.r1
  have hv := h.val
  have e1 := val_drop xs j hj
  have e2 := val_drop (qs.set j ((rest * 1073741824 + xs.getD j 0) / b)) j (by simp; omega)
  have e3 : (qs.set j ((rest * 1073741824 + xs.getD j 0) / b)).drop (j + 1) = qs.drop (j + 1) := by
    rw [List.drop_set_of_lt (by omega)]
  rw [e3, getD_set _ _ _ (by omega), if_pos rfl] at e2
  generalize xs.getD j 0 = x at *
  have hv0 : 0 ≤ rest * 1073741824 + x := by omega
  have hq : (rest * 1073741824 + x) / b < 1073741824 := Int.ediv_lt_of_lt_mul (by omega) (by omega)
  have hq0 : 0 ≤ (rest * 1073741824 + x) / b := Int.ediv_nonneg hv0 (by omega)
  have hm0 := Int.emod_nonneg (rest * 1073741824 + x) (show b ≠ 0 by omega)
  have hm1 := Int.emod_lt_of_pos (rest * 1073741824 + x) (show 0 < b by omega)
  have he := Int.mul_ediv_add_emod (rest * 1073741824 + x) b
  refine ⟨by simpa using hl, limbs_set h.limbs _ _ ⟨hq0, hq⟩, hm0, hm1, ?_⟩
  rw [e1, e2, hv]
  generalize (rest * 1073741824 + x) / b = q at *
  generalize (rest * 1073741824 + x) % b = r at *
  generalize Lmb.val (qs.drop (j + 1)) = d at *
  rw [Int.add_mul, Int.mul_add, ← Int.mul_assoc]
  rw [Int.mul_comm b q] at he
  generalize 1073741824 * d * b = t at *
  omega
theorem SmallInv.done {xs qs : List Int} {b rest : Int} {n c : Nat} (h : SmallInv xs b 0 qs rest) (hx : Lmb.val xs = n) (hb : b = c) : Dig (trim qs) (n / c) ∧ rest = ((n % c : Nat) : Int) := by
  have hv := h.val
  have h0 := h.r0
  have h1 := h.r1
  have hq := val_nonneg h.limbs
  have hd := dig_trim h.limbs
  rw [List.drop_zero, List.drop_zero, hx, hb] at hv
  rw [hb] at h1
  obtain ⟨q, hq'⟩ := Int.eq_ofNat_of_zero_le hq
  obtain ⟨r, rfl⟩ := Int.eq_ofNat_of_zero_le h0
  rw [hq'] at hv hd
  have hv' : n = q * c + r := by
    have : ((n : Nat) : Int) = ((q * c + r : Nat) : Int) := by rw [hv]; simp
    omega
  have hr : r < c := by omega
  have e1 : n / c = q := by
    rw [hv', Nat.add_comm, Nat.add_mul_div_right _ _ (by omega), Nat.div_eq_of_lt hr]; omega
  have e2 : n % c = r := by rw [hv', Nat.add_comm, Nat.add_mul_mod_self_right, Nat.mod_eq_of_lt hr]
  rw [e1, e2]
  exact ⟨by simpa using hd, rfl⟩
structure AddInv (xs ys os : List Int) (n i : Nat) (c : Int) : Prop where
  len : os.length = n + 1
  limbs : Limbs os
  c0 : 0 ≤ c
  c1 : c ≤ 1
  val : val os + pw i * c = val (xs.take i) + val (ys.take i)
  zero : ∀ t, i ≤ t → os.getD t 0 = 0
theorem AddInv.start (xs ys : List Int) (n : Nat) : AddInv xs ys (List.replicate (n + 1) 0) n 0 0 :=
  ⟨by simp, limbs_replicate _, by omega, by omega, by simp [val_replicate, val_nil], fun t _ => by
    simp only [List.getD, List.getElem?_replicate]; split <;> rfl⟩
theorem val_take_next (xs : List Int) (k : Nat) : val (xs.take (k + 1)) = val (xs.take k) + pw k * xs.getD k 0 := by
  by_cases h : k < xs.length
  · exact val_take_succ xs k h
  · have e : xs.getD k 0 = 0 := by simp [List.getD, Nat.le_of_not_lt h]
    rw [e, List.take_of_length_le (by omega), List.take_of_length_le (by omega)]; omega
theorem AddInv.step {xs ys os : List Int} {n i : Nat} {c : Int} (h : AddInv xs ys os n i c) (hx : Limbs xs) (hy : Limbs ys) (hi : i < n) :
    AddInv xs ys (os.set i ((xs.getD i 0 + ys.getD i 0 + c) % 1073741824)) n (i + 1) ((xs.getD i 0 + ys.getD i 0 + c) / 1073741824) := by
  have bx := limbs_getD hx i
  have bY := limbs_getD hy i
  have hl := h.len
  have h0 := h.c0
  have h1 := h.c1
  have hv := h.val
  have hs := val_set os i (by omega) ((xs.getD i 0 + ys.getD i 0 + c) % 1073741824)
  rw [h.zero i (Nat.le_refl _), Int.sub_zero] at hs
  have tx := val_take_next xs i
  have ty := val_take_next ys i
  generalize xs.getD i 0 = x at *
  generalize ys.getD i 0 = y at *
  refine ⟨by simpa using hl, limbs_set h.limbs _ _ (by omega), by omega, by omega, ?_, fun t hlt => ?_⟩
  · rw [hs, tx, ty, pw_succ]
    have e3 : 1073741824 * ((x + y + c) / 1073741824) + (x + y + c) % 1073741824 = x + y + c := Int.mul_ediv_add_emod _ _
    have e4 : pw i * (1073741824 * ((x + y + c) / 1073741824) + (x + y + c) % 1073741824) = pw i * (x + y + c) := by rw [e3]
    rw [Int.mul_add, Int.mul_add, Int.mul_add, Int.mul_left_comm] at e4
    rw [Int.mul_assoc]
    omega
  · rw [getD_set _ _ _ (by omega), if_neg (by omega)]
    exact h.zero t (by omega)
theorem AddInv.done {xs ys os : List Int} {n : Nat} {c : Int} {a b : Nat} (h : AddInv xs ys os n n c) (hx : Lmb.val xs = a) (hy : Lmb.val ys = b) (hn : xs.length ≤ n) (hn' : ys.length ≤ n) :
    Dig (trim (os.set n c)) (a + b) := by
  have h0 := h.c0
  have h1 := h.c1
  have hs := val_set os n (by have := h.len; omega) c
  have hl : Limbs (os.set n c) := limbs_set h.limbs _ _ (by omega)
  have hv := h.val
  rw [h.zero n (Nat.le_refl _), Int.sub_zero] at hs
  rw [List.take_of_length_le hn, List.take_of_length_le hn', hx, hy] at hv
  have hd := dig_trim hl
  rw [hs, hv] at hd
  have e : ((a : Int) + (b : Int)).toNat = a + b := by omega
  rwa [e] at hd
/-! bounds by powers of two -/
theorem pw_two (k : Nat) : pw k = ((2 ^ (30 * k) : Nat) : Int) := by
  unfold pw
  rw [Nat.pow_mul]
  have : (2 : Nat) ^ 30 = 1073741824 := by decide
  rw [this]; simp
theorem lt_pw {m a k : Nat} (h : m ≤ 2 ^ a) (hk : a < 30 * k) : (m : Int) < pw k := by
  rw [pw_two]
  have h1 : (2 : Nat) ^ a < 2 ^ (30 * k) := Nat.pow_lt_pow_right (by decide) hk
  omega
theorem mul_two {m n a b : Nat} (h : m ≤ 2 ^ a) (k : n ≤ 2 ^ b) : m * n ≤ 2 ^ (a + b) := by
  rw [Nat.pow_add]; exact Nat.mul_le_mul h k
theorem dig_one {x : Nat} (h0 : 0 < x) (h1 : x < 1073741824) : Dig [(x : Int)] x :=
  ⟨by rw [limbs_cons]; exact ⟨by omega, limbs_nil⟩, by rw [norm_one]; omega, by simp [val_cons, val_nil]⟩
end Go.Proofs.YtpkmnggfomllhaaDoor.Lmb
