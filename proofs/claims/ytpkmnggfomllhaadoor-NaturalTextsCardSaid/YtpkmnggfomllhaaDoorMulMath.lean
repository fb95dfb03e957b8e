/- The product limb by limb: plain laws of one round of the inner and the outer loop. -/
import Derived.Test.YtpkmnggfomllhaaDoorNat
namespace Go.Proofs.YtpkmnggfomllhaaDoor.Lmb
theorem getD_set {xs : List Int} (i j : Nat) (v : Int) (h : i < xs.length) : (xs.set i v).getD j 0 = if i = j then v else xs.getD j 0 := by
  simp only [List.getD, List.getElem?_set]
  split
  · rfl
  · rfl
structure MulOut (xs ys os : List Int) (j : Nat) : Prop where
  len : os.length = xs.length + ys.length
  limbs : Limbs os
  val : val os = val (xs.take j) * val ys
  zero : ∀ t, j + ys.length ≤ t → os.getD t 0 = 0
structure MulIn (xs ys os qs : List Int) (j k : Nat) (c : Int) : Prop where
  len : qs.length = xs.length + ys.length
  limbs : Limbs qs
  c0 : 0 ≤ c
  c1 : c < 1073741824
  val : val qs + pw (j + k) * c = val os + pw j * (xs.getD j 0 * val (ys.take k))
  zero : ∀ t, j + ys.length ≤ t → qs.getD t 0 = 0
theorem MulOut.start (xs ys : List Int) : MulOut xs ys (List.replicate (xs.length + ys.length) 0) 0 :=
  ⟨by simp, limbs_replicate _, by simp [val_replicate, val_nil], fun t _ => by
    simp only [List.getD, List.getElem?_replicate]; split <;> rfl⟩
theorem MulIn.start {xs ys os : List Int} {j : Nat} (h : MulOut xs ys os j) : MulIn xs ys os os j 0 0 :=
  ⟨h.len, h.limbs, by omega, by omega, by simp [val_nil], h.zero⟩
theorem limb_prod {x y : Int} (hx : 0 ≤ x ∧ x < 1073741824) (hy : 0 ≤ y ∧ y < 1073741824) : 0 ≤ x * y ∧ x * y ≤ 1152921502459363329 := by
  refine ⟨Int.mul_nonneg hx.1 hy.1, ?_⟩
  have h1 : x * y ≤ 1073741823 * y := Int.mul_le_mul_of_nonneg_right (by omega) hy.1
  omega
theorem MulIn.step {xs ys os qs : List Int} {j k : Nat} {c : Int} (h : MulIn xs ys os qs j k c) (hx : Limbs xs) (hy : Limbs ys) (hj : j < xs.length) (hk : k < ys.length) :
    MulIn xs ys os (qs.set (j + k) ((qs.getD (j + k) 0 + xs.getD j 0 * ys.getD k 0 + c) % 1073741824)) j (k + 1) ((qs.getD (j + k) 0 + xs.getD j 0 * ys.getD k 0 + c) / 1073741824) := by
  have bx := limbs_getD hx j
  have bY := limbs_getD hy k
  have bo := limbs_getD h.limbs (j + k)
  have hp := limb_prod bx bY
  have hl := h.len
  have hv := h.val
  have h0 := h.c0
  have h1 := h.c1
  have ht := val_take_succ ys k hk
  have hs := val_set qs (j + k) (by omega) ((qs.getD (j + k) 0 + xs.getD j 0 * ys.getD k 0 + c) % 1073741824)
  generalize hX : xs.getD j 0 = x at *
  generalize hY : ys.getD k 0 = y at *
  generalize hO : qs.getD (j + k) 0 = o at *
  generalize hXY : x * y = p at *
  refine ⟨by simpa using hl, limbs_set h.limbs _ _ (by omega), by omega, by omega, ?_, fun t hlt => ?_⟩
  · have e1 : pw (j + (k + 1)) = 1073741824 * pw (j + k) := by rw [← Nat.add_assoc, pw_succ]
    rw [hX, hs, ht, e1, Int.mul_add x, Int.mul_add (pw j), ← Int.add_assoc, ← hv]
    have e2 : pw j * (x * (pw k * y)) = pw (j + k) * p := by rw [pw_add, ← hXY]; simp only [Int.mul_assoc, Int.mul_left_comm]
    rw [e2]
    have e3 : 1073741824 * ((o + p + c) / 1073741824) + (o + p + c) % 1073741824 = o + p + c := Int.mul_ediv_add_emod _ _
    have e4 : pw (j + k) * (1073741824 * ((o + p + c) / 1073741824) + (o + p + c) % 1073741824) = pw (j + k) * (o + p + c) := by rw [e3]
    rw [Int.mul_add] at e4
    rw [Int.mul_sub, Int.mul_assoc, Int.mul_left_comm]
    rw [Int.mul_add, Int.mul_add] at e4
    rw [Int.mul_left_comm (pw (j + k)) 1073741824] at e4
    rw [Int.mul_left_comm (pw (j + k)) 1073741824]
    omega
  · rw [getD_set _ _ _ (by omega), if_neg (by omega)]
    exact h.zero t hlt
theorem MulIn.done {xs ys os qs : List Int} {j : Nat} {c : Int} (h : MulIn xs ys os qs j ys.length c) (ho : MulOut xs ys os j) (hj : j < xs.length) :
    MulOut xs ys (qs.set (j + ys.length) c) (j + 1) := by
  have hl := h.len
  have hs := val_set qs (j + ys.length) (by omega) c
  have hv := h.val
  have hov := ho.val
  have ht := val_take_succ xs j hj
  rw [h.zero (j + ys.length) (Nat.le_refl _), Int.sub_zero] at hs
  rw [List.take_of_length_le (Nat.le_refl _)] at hv
  refine ⟨by simpa using hl, limbs_set h.limbs _ _ ⟨h.c0, h.c1⟩, ?_, fun t hlt => ?_⟩
  · rw [hs, hv, hov, ht, Int.add_mul, Int.mul_assoc]
  · rw [getD_set _ _ _ (by omega), if_neg (by omega)]
    exact h.zero t (by omega)
theorem MulOut.done {xs ys os : List Int} {m n : Nat} (h : MulOut xs ys os xs.length) (hx : Lmb.val xs = m) (hy : Lmb.val ys = n) : Dig (trim os) (m * n) := by
  have hv := h.val
  rw [List.take_of_length_le (Nat.le_refl _), hx, hy] at hv
  have := dig_trim h.limbs
  rw [hv] at this
  have e : ((m : Int) * (n : Int)).toNat = m * n := by rw [← Int.natCast_mul]; rfl
  rwa [e] at this
end Go.Proofs.YtpkmnggfomllhaaDoor.Lmb
