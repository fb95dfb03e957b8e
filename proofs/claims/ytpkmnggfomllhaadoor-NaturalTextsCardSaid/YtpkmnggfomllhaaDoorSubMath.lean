/- Comparison and subtraction, limb by limb: plain laws. -/
import Derived.Test.YtpkmnggfomllhaaDoorSmallMath
namespace Go.Proofs.YtpkmnggfomllhaaDoor.Lmb
def cmpI (x y : Int) : Int := if x < y then -1 else if y < x then 1 else 0
theorem cmpI_lt {x y : Int} (h : x < y) : cmpI x y = -1 := by unfold cmpI; rw [if_pos h]
theorem cmpI_gt {x y : Int} (h : y < x) : cmpI x y = 1 := by unfold cmpI; rw [if_neg (by omega), if_pos h]
theorem cmpI_eq {x y : Int} (h : x = y) : cmpI x y = 0 := by unfold cmpI; rw [if_neg (by omega), if_neg (by omega)]
theorem val_cmp_limb {xs ys : List Int} {m : Nat} (hx : Limbs xs) (hy : Limbs ys) (hmx : m < xs.length) (hmy : m < ys.length) (hd : xs.drop (m + 1) = ys.drop (m + 1)) (h : xs.getD m 0 < ys.getD m 0) : val xs < val ys := by
  rw [val_split xs m (by omega), val_split ys m (by omega), val_drop xs m hmx, val_drop ys m hmy, hd]
  have h1 := val_lt (limbs_take hx m)
  have h2 := val_nonneg (limbs_take hy m)
  rw [List.length_take, Nat.min_eq_left (by omega)] at h1
  have hp := pw_pos m
  generalize val (ys.drop (m + 1)) = t at *
  generalize xs.getD m 0 = x at *
  generalize ys.getD m 0 = y at *
  generalize val (xs.take m) = u at *
  generalize val (ys.take m) = v at *
  generalize pw m = p at *
  have h3 : p * (x + 1) ≤ p * y := Int.mul_le_mul_of_nonneg_left (by omega) (by omega)
  rw [Int.mul_add, Int.mul_add]
  rw [Int.mul_add] at h3
  omega
theorem cmp_limb {xs ys : List Int} {m : Nat} (hx : Limbs xs) (hy : Limbs ys) (hmx : m < xs.length) (hmy : m < ys.length) (hd : xs.drop (m + 1) = ys.drop (m + 1)) (h : xs.getD m 0 ≠ ys.getD m 0) : cmpI (xs.getD m 0) (ys.getD m 0) = cmpI (val xs) (val ys) := by
  rcases Int.lt_or_gt_of_ne h with h | h
  · rw [cmpI_lt h, cmpI_lt (val_cmp_limb hx hy hmx hmy hd h)]
  · rw [cmpI_gt h, cmpI_gt (val_cmp_limb hy hx hmy hmx hd.symm h)]
theorem drop_eq_step {xs ys : List Int} {m : Nat} (hmx : m < xs.length) (hmy : m < ys.length) (hd : xs.drop (m + 1) = ys.drop (m + 1)) (h : xs.getD m 0 = ys.getD m 0) : xs.drop m = ys.drop m := by
  rw [List.drop_eq_getElem_cons hmx, List.drop_eq_getElem_cons hmy, hd]
  simp only [List.getD, List.getElem?_eq_getElem hmx, List.getElem?_eq_getElem hmy, Option.getD_some] at h
  rw [h]
theorem cmp_len {xs ys : List Int} {m n : Nat} (h : Dig xs m) (k : Dig ys n) (hne : xs.length ≠ ys.length) : cmpI xs.length ys.length = cmpI m n := by
  rcases Nat.lt_or_gt_of_ne hne with hl | hl
  · have := h.lt_of_len k hl
    rw [cmpI_lt (by omega), cmpI_lt (by omega)]
  · have := k.lt_of_len h hl
    rw [cmpI_gt (by omega), cmpI_gt (by omega)]
structure SubInv (xs ys os : List Int) (i : Nat) (c : Int) : Prop where
  len : os.length = xs.length
  limbs : Limbs os
  c0 : -1 ≤ c
  c1 : c ≤ 0
  val : val os + pw i * c = val (xs.take i) - val (ys.take i)
  zero : ∀ t, i ≤ t → os.getD t 0 = 0
theorem SubInv.start (xs ys : List Int) : SubInv xs ys (List.replicate xs.length 0) 0 0 :=
  ⟨by simp, limbs_replicate _, by omega, by omega, by simp [val_replicate, val_nil], fun t _ => by
    simp only [List.getD, List.getElem?_replicate]; split <;> rfl⟩
theorem SubInv.step {xs ys os : List Int} {i : Nat} {c : Int} (h : SubInv xs ys os i c) (hx : Limbs xs) (hy : Limbs ys) (hi : i < xs.length) :
    SubInv xs ys (os.set i ((xs.getD i 0 - ys.getD i 0 + c) % 1073741824)) (i + 1) ((xs.getD i 0 - ys.getD i 0 + c) / 1073741824) := by
  have bx := limbs_getD hx i
  have bY := limbs_getD hy i
  have hl := h.len
  have h0 := h.c0
  have h1 := h.c1
  have hv := h.val
  have hs := val_set os i (by omega) ((xs.getD i 0 - ys.getD i 0 + c) % 1073741824)
  rw [h.zero i (Nat.le_refl _), Int.sub_zero] at hs
  have tx := val_take_next xs i
  have ty := val_take_next ys i
  generalize xs.getD i 0 = x at *
  generalize ys.getD i 0 = y at *
  refine ⟨by simpa using hl, limbs_set h.limbs _ _ (by omega), by omega, by omega, ?_, fun t hlt => ?_⟩
  · rw [hs, tx, ty, pw_succ]
    have e3 : 1073741824 * ((x - y + c) / 1073741824) + (x - y + c) % 1073741824 = x - y + c := Int.mul_ediv_add_emod _ _
    have e4 : pw i * (1073741824 * ((x - y + c) / 1073741824) + (x - y + c) % 1073741824) = pw i * (x - y + c) := by rw [e3]
    rw [Int.mul_add, Int.mul_add, Int.mul_sub, Int.mul_left_comm] at e4
    rw [Int.mul_assoc]
    omega
  · rw [getD_set _ _ _ (by omega), if_neg (by omega)]
    exact h.zero t (by omega)
theorem SubInv.done {xs ys os : List Int} {c : Int} {a b : Nat} (h : SubInv xs ys os xs.length c) (hx : Lmb.val xs = a) (hy : Lmb.val ys = b) (hb : b ≤ a) (hl : ys.length ≤ xs.length) : Dig (trim os) (a - b) := by
  have h0 := h.c0
  have h1 := h.c1
  have hv := h.val
  have ho := val_lt h.limbs
  have hp := pw_pos xs.length
  rw [h.len] at ho
  rw [List.take_of_length_le (Nat.le_refl _), List.take_of_length_le hl, hx, hy] at hv
  have hc : c = 0 := by
    rcases (show c = 0 ∨ c = -1 by omega) with hc | hc
    · exact hc
    · rw [hc] at hv
      have := val_nonneg h.limbs
      omega
  rw [hc] at hv
  have hd := dig_trim h.limbs
  have e : (Lmb.val os).toNat = a - b := by omega
  rwa [e] at hd
end Go.Proofs.YtpkmnggfomllhaaDoor.Lmb
