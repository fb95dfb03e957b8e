import Derived.Test.YtabgkfjfmjdfiaaGreatDoorPk1

/- The product limb by limb: plain laws of one round of the inner and the outer loop. -/
namespace Go.Proofs.YtabgkfjfmjdfiaaGreatDoor.Lmb
theorem getD_set {xs : List Int} (i j : Nat) (v : Int) (h : i < xs.length) : (xs.set i v).getD j 0 = if i = j then v else xs.getD j 0 := by
  simp only [List.getD, List.getElem?_set]
  split
  · rfl
  · rfl
structure MulOut (xs ys os : List Int) (j : Nat) : Prop where
  len : os.length = xs.length + ys.length
  limbs : Limbs os
  val : val os = val (xs.take j) * val ys
  zero : ∀ t, j + ys.length ≤ t → os.getD t 0 = 0
structure MulIn (xs ys os qs : List Int) (j k : Nat) (c : Int) : Prop where
  len : qs.length = xs.length + ys.length
  limbs : Limbs qs
  c0 : 0 ≤ c
  c1 : c < 1073741824
  val : val qs + pw (j + k) * c = val os + pw j * (xs.getD j 0 * val (ys.take k))
  zero : ∀ t, j + ys.length ≤ t → qs.getD t 0 = 0
theorem MulOut.start (xs ys : List Int) : MulOut xs ys (List.replicate (xs.length + ys.length) 0) 0 :=
  ⟨by simp, limbs_replicate _, by simp [val_replicate, val_nil], fun t _ => by
    simp only [List.getD, List.getElem?_replicate]; split <;> rfl⟩
theorem MulIn.start {xs ys os : List Int} {j : Nat} (h : MulOut xs ys os j) : MulIn xs ys os os j 0 0 :=
  ⟨h.len, h.limbs, by omega, by omega, by simp [val_nil], h.zero⟩
theorem limb_prod {x y : Int} (hx : 0 ≤ x ∧ x < 1073741824) (hy : 0 ≤ y ∧ y < 1073741824) : 0 ≤ x * y ∧ x * y ≤ 1152921502459363329 := by
  refine ⟨Int.mul_nonneg hx.1 hy.1, ?_⟩
  have h1 : x * y ≤ 1073741823 * y := Int.mul_le_mul_of_nonneg_right (by omega) hy.1
  omega
theorem MulIn.step {xs ys os qs : List Int} {j k : Nat} {c : Int} (h : MulIn xs ys os qs j k c) (hx : Limbs xs) (hy : Limbs ys) (hj : j < xs.length) (hk : k < ys.length) :
    MulIn xs ys os (qs.set (j + k) ((qs.getD (j + k) 0 + xs.getD j 0 * ys.getD k 0 + c) % 1073741824)) j (k + 1) ((qs.getD (j + k) 0 + xs.getD j 0 * ys.getD k 0 + c) / 1073741824) := by
  have bx := limbs_getD hx j
  have bY := limbs_getD hy k
  have bo := limbs_getD h.limbs (j + k)
  have hp := limb_prod bx bY
  have hl := h.len
  have hv := h.val
  have h0 := h.c0
  have h1 := h.c1
  have ht := val_take_succ ys k hk
  have hs := val_set qs (j + k) (by omega) ((qs.getD (j + k) 0 + xs.getD j 0 * ys.getD k 0 + c) % 1073741824)
  generalize hX : xs.getD j 0 = x at *
  generalize hY : ys.getD k 0 = y at *
  generalize hO : qs.getD (j + k) 0 = o at *
  generalize hXY : x * y = p at *
  refine ⟨by simpa using hl, limbs_set h.limbs _ _ (by omega), by omega, by omega, ?_, fun t hlt => ?_⟩
  · have e1 : pw (j + (k + 1)) = 1073741824 * pw (j + k) := by rw [← Nat.add_assoc, pw_succ]
    rw [hX, hs, ht, e1, Int.mul_add x, Int.mul_add (pw j), ← Int.add_assoc, ← hv]
    have e2 : pw j * (x * (pw k * y)) = pw (j + k) * p := by rw [pw_add, ← hXY]; simp only [Int.mul_assoc, Int.mul_left_comm]
    rw [e2]
    have e3 : 1073741824 * ((o + p + c) / 1073741824) + (o + p + c) % 1073741824 = o + p + c := Int.mul_ediv_add_emod _ _
    have e4 : pw (j + k) * (1073741824 * ((o + p + c) / 1073741824) + (o + p + c) % 1073741824) = pw (j + k) * (o + p + c) := by rw [e3]
    rw [Int.mul_add] at e4
    rw [Int.mul_sub, Int.mul_assoc, Int.mul_left_comm]
    rw [Int.mul_add, Int.mul_add] at e4
    rw [Int.mul_left_comm (pw (j + k)) 1073741824] at e4
    rw [Int.mul_left_comm (pw (j + k)) 1073741824]
    omega
  · rw [getD_set _ _ _ (by omega), if_neg (by omega)]
    exact h.zero t hlt
theorem MulIn.done {xs ys os qs : List Int} {j : Nat} {c : Int} (h : MulIn xs ys os qs j ys.length c) (ho : MulOut xs ys os j) (hj : j < xs.length) :
    MulOut xs ys (qs.set (j + ys.length) c) (j + 1) := by
  have hl := h.len
  have hs := val_set qs (j + ys.length) (by omega) c
  have hv := h.val
  have hov := ho.val
  have ht := val_take_succ xs j hj
  rw [h.zero (j + ys.length) (Nat.le_refl _), Int.sub_zero] at hs
  rw [List.take_of_length_le (Nat.le_refl _)] at hv
  refine ⟨by simpa using hl, limbs_set h.limbs _ _ ⟨h.c0, h.c1⟩, ?_, fun t hlt => ?_⟩
  · rw [hs, hv, hov, ht, Int.add_mul, Int.mul_assoc]
  · rw [getD_set _ _ _ (by omega), if_neg (by omega)]
    exact h.zero t (by omega)
theorem MulOut.done {xs ys os : List Int} {m n : Nat} (h : MulOut xs ys os xs.length) (hx : Lmb.val xs = m) (hy : Lmb.val ys = n) : Dig (trim os) (m * n) := by
  have hv := h.val
  rw [List.take_of_length_le (Nat.le_refl _), hx, hy] at hv
  have := dig_trim h.limbs
  rw [hv] at this
  have e : ((m : Int) * (n : Int)).toNat = m * n := by rw [← Int.natCast_mul]; rfl
  rwa [e] at this
end Go.Proofs.YtabgkfjfmjdfiaaGreatDoor.Lmb


/- Division by one limb, and addition, limb by limb: plain laws of one round; bounds by powers of two. -/
namespace Go.Proofs.YtabgkfjfmjdfiaaGreatDoor.Lmb
structure SmallInv (xs : List Int) (b : Int) (j : Nat) (qs : List Int) (rest : Int) : Prop where
  len : qs.length = xs.length
  limbs : Limbs qs
  r0 : 0 ≤ rest
  r1 : rest < b
  val : val (xs.drop j) = val (qs.drop j) * b + rest
theorem SmallInv.start (xs : List Int) (b : Int) (hb : 1 ≤ b) : SmallInv xs b xs.length (List.replicate xs.length 0) 0 :=
  ⟨by simp, limbs_replicate _, by omega, by omega, by simp [val_nil]⟩
theorem val_drop (xs : List Int) (j : Nat) (h : j < xs.length) : val (xs.drop j) = xs.getD j 0 + 1073741824 * val (xs.drop (j + 1)) := by
  rw [List.drop_eq_getElem_cons h, val_cons]; simp [List.getD, h]
theorem SmallInv.step {xs qs : List Int} {b rest : Int} {j : Nat} (h : SmallInv xs b (j + 1) qs rest) (hx : Limbs xs) (hj : j < xs.length) :
    SmallInv xs b j (qs.set j ((rest * 1073741824 + xs.getD j 0) / b)) ((rest * 1073741824 + xs.getD j 0) % b) := by
  have bx := limbs_getD hx j
  have hl := h.len
  have h0 := h.r0
  have h1 := h.r1
  have hv := h.val
  have e1 := val_drop xs j hj
  have e2 := val_drop (qs.set j ((rest * 1073741824 + xs.getD j 0) / b)) j (by simp; omega)
  have e3 : (qs.set j ((rest * 1073741824 + xs.getD j 0) / b)).drop (j + 1) = qs.drop (j + 1) := by
    rw [List.drop_set_of_lt (by omega)]
  rw [e3, getD_set _ _ _ (by omega), if_pos rfl] at e2
  generalize xs.getD j 0 = x at *
  have hv0 : 0 ≤ rest * 1073741824 + x := by omega
  have hq : (rest * 1073741824 + x) / b < 1073741824 := Int.ediv_lt_of_lt_mul (by omega) (by omega)
  have hq0 : 0 ≤ (rest * 1073741824 + x) / b := Int.ediv_nonneg hv0 (by omega)
  have hm0 := Int.emod_nonneg (rest * 1073741824 + x) (show b ≠ 0 by omega)
  have hm1 := Int.emod_lt_of_pos (rest * 1073741824 + x) (show 0 < b by omega)
  have he := Int.mul_ediv_add_emod (rest * 1073741824 + x) b
  refine ⟨by simpa using hl, limbs_set h.limbs _ _ ⟨hq0, hq⟩, hm0, hm1, ?_⟩
  rw [e1, e2, hv]
  generalize (rest * 1073741824 + x) / b = q at *
  generalize (rest * 1073741824 + x) % b = r at *
  generalize Lmb.val (qs.drop (j + 1)) = d at *
  rw [Int.add_mul, Int.mul_add, ← Int.mul_assoc]
  rw [Int.mul_comm b q] at he
  generalize 1073741824 * d * b = t at *
  omega
theorem SmallInv.done {xs qs : List Int} {b rest : Int} {n c : Nat} (h : SmallInv xs b 0 qs rest) (hx : Lmb.val xs = n) (hb : b = c) : Dig (trim qs) (n / c) ∧ rest = ((n % c : Nat) : Int) := by
  have hv := h.val
  have h0 := h.r0
  have h1 := h.r1
  have hq := val_nonneg h.limbs
  have hd := dig_trim h.limbs
  rw [List.drop_zero, List.drop_zero, hx, hb] at hv
  rw [hb] at h1
  obtain ⟨q, hq'⟩ := Int.eq_ofNat_of_zero_le hq
  obtain ⟨r, rfl⟩ := Int.eq_ofNat_of_zero_le h0
  rw [hq'] at hv hd
  have hv' : n = q * c + r := by
    have : ((n : Nat) : Int) = ((q * c + r : Nat) : Int) := by rw [hv]; simp
    omega
  have hr : r < c := by omega
  have e1 : n / c = q := by
    rw [hv', Nat.add_comm, Nat.add_mul_div_right _ _ (by omega), Nat.div_eq_of_lt hr]; omega
  have e2 : n % c = r := by rw [hv', Nat.add_comm, Nat.add_mul_mod_self_right, Nat.mod_eq_of_lt hr]
  rw [e1, e2]
  exact ⟨by simpa using hd, rfl⟩
structure AddInv (xs ys os : List Int) (n i : Nat) (c : Int) : Prop where
  len : os.length = n + 1
  limbs : Limbs os
  c0 : 0 ≤ c
  c1 : c ≤ 1
  val : val os + pw i * c = val (xs.take i) + val (ys.take i)
  zero : ∀ t, i ≤ t → os.getD t 0 = 0
theorem AddInv.start (xs ys : List Int) (n : Nat) : AddInv xs ys (List.replicate (n + 1) 0) n 0 0 :=
  ⟨by simp, limbs_replicate _, by omega, by omega, by simp [val_replicate, val_nil], fun t _ => by
    simp only [List.getD, List.getElem?_replicate]; split <;> rfl⟩
theorem val_take_next (xs : List Int) (k : Nat) : val (xs.take (k + 1)) = val (xs.take k) + pw k * xs.getD k 0 := by
  by_cases h : k < xs.length
  · exact val_take_succ xs k h
  · have e : xs.getD k 0 = 0 := by simp [List.getD, Nat.le_of_not_lt h]
    rw [e, List.take_of_length_le (by omega), List.take_of_length_le (by omega)]; omega
theorem AddInv.step {xs ys os : List Int} {n i : Nat} {c : Int} (h : AddInv xs ys os n i c) (hx : Limbs xs) (hy : Limbs ys) (hi : i < n) :
    AddInv xs ys (os.set i ((xs.getD i 0 + ys.getD i 0 + c) % 1073741824)) n (i + 1) ((xs.getD i 0 + ys.getD i 0 + c) / 1073741824) := by
  have bx := limbs_getD hx i
  have bY := limbs_getD hy i
  have hl := h.len
  have h0 := h.c0
  have h1 := h.c1
  have hv := h.val
  have hs := val_set os i (by omega) ((xs.getD i 0 + ys.getD i 0 + c) % 1073741824)
  rw [h.zero i (Nat.le_refl _), Int.sub_zero] at hs
  have tx := val_take_next xs i
  have ty := val_take_next ys i
  generalize xs.getD i 0 = x at *
  generalize ys.getD i 0 = y at *
  refine ⟨by simpa using hl, limbs_set h.limbs _ _ (by omega), by omega, by omega, ?_, fun t hlt => ?_⟩
  · rw [hs, tx, ty, pw_succ]
    have e3 : 1073741824 * ((x + y + c) / 1073741824) + (x + y + c) % 1073741824 = x + y + c := Int.mul_ediv_add_emod _ _
    have e4 : pw i * (1073741824 * ((x + y + c) / 1073741824) + (x + y + c) % 1073741824) = pw i * (x + y + c) := by rw [e3]
    rw [Int.mul_add, Int.mul_add, Int.mul_add, Int.mul_left_comm] at e4
    rw [Int.mul_assoc]
    omega
  · rw [getD_set _ _ _ (by omega), if_neg (by omega)]
    exact h.zero t (by omega)
theorem AddInv.done {xs ys os : List Int} {n : Nat} {c : Int} {a b : Nat} (h : AddInv xs ys os n n c) (hx : Lmb.val xs = a) (hy : Lmb.val ys = b) (hn : xs.length ≤ n) (hn' : ys.length ≤ n) :
    Dig (trim (os.set n c)) (a + b) := by
  have h0 := h.c0
  have h1 := h.c1
  have hs := val_set os n (by have := h.len; omega) c
  have hl : Limbs (os.set n c) := limbs_set h.limbs _ _ (by omega)
  have hv := h.val
  rw [h.zero n (Nat.le_refl _), Int.sub_zero] at hs
  rw [List.take_of_length_le hn, List.take_of_length_le hn', hx, hy] at hv
  have hd := dig_trim hl
  rw [hs, hv] at hd
  have e : ((a : Int) + (b : Int)).toNat = a + b := by omega
  rwa [e] at hd
/-! bounds by powers of two -/
theorem pw_two (k : Nat) : pw k = ((2 ^ (30 * k) : Nat) : Int) := by
  unfold pw
  rw [Nat.pow_mul]
  have : (2 : Nat) ^ 30 = 1073741824 := by decide
  rw [this]; simp
theorem lt_pw {m a k : Nat} (h : m ≤ 2 ^ a) (hk : a < 30 * k) : (m : Int) < pw k := by
  rw [pw_two]
  have h1 : (2 : Nat) ^ a < 2 ^ (30 * k) := Nat.pow_lt_pow_right (by decide) hk
  omega
theorem mul_two {m n a b : Nat} (h : m ≤ 2 ^ a) (k : n ≤ 2 ^ b) : m * n ≤ 2 ^ (a + b) := by
  rw [Nat.pow_add]; exact Nat.mul_le_mul h k
theorem dig_one {x : Nat} (h0 : 0 < x) (h1 : x < 1073741824) : Dig [(x : Int)] x :=
  ⟨by rw [limbs_cons]; exact ⟨by omega, limbs_nil⟩, by rw [norm_one]; omega, by simp [val_cons, val_nil]⟩
end Go.Proofs.YtabgkfjfmjdfiaaGreatDoor.Lmb


/- Comparison and subtraction, limb by limb: plain laws. -/
namespace Go.Proofs.YtabgkfjfmjdfiaaGreatDoor.Lmb
def cmpI (x y : Int) : Int := if x < y then -1 else if y < x then 1 else 0
theorem cmpI_lt {x y : Int} (h : x < y) : cmpI x y = -1 := by unfold cmpI; rw [if_pos h]
theorem cmpI_gt {x y : Int} (h : y < x) : cmpI x y = 1 := by unfold cmpI; rw [if_neg (by omega), if_pos h]
theorem cmpI_eq {x y : Int} (h : x = y) : cmpI x y = 0 := by unfold cmpI; rw [if_neg (by omega), if_neg (by omega)]
theorem val_cmp_limb {xs ys : List Int} {m : Nat} (hx : Limbs xs) (hy : Limbs ys) (hmx : m < xs.length) (hmy : m < ys.length) (hd : xs.drop (m + 1) = ys.drop (m + 1)) (h : xs.getD m 0 < ys.getD m 0) : val xs < val ys := by
  rw [val_split xs m (by omega), val_split ys m (by omega), val_drop xs m hmx, val_drop ys m hmy, hd]
  have h1 := val_lt (limbs_take hx m)
  have h2 := val_nonneg (limbs_take hy m)
  rw [List.length_take, Nat.min_eq_left (by omega)] at h1
  have hp := pw_pos m
  generalize val (ys.drop (m + 1)) = t at *
  generalize xs.getD m 0 = x at *
  generalize ys.getD m 0 = y at *
  generalize val (xs.take m) = u at *
  generalize val (ys.take m) = v at *
  generalize pw m = p at *
  have h3 : p * (x + 1) ≤ p * y := Int.mul_le_mul_of_nonneg_left (by omega) (by omega)
  rw [Int.mul_add, Int.mul_add]
  rw [Int.mul_add] at h3
  omega
theorem cmp_limb {xs ys : List Int} {m : Nat} (hx : Limbs xs) (hy : Limbs ys) (hmx : m < xs.length) (hmy : m < ys.length) (hd : xs.drop (m + 1) = ys.drop (m + 1)) (h : xs.getD m 0 ≠ ys.getD m 0) : cmpI (xs.getD m 0) (ys.getD m 0) = cmpI (val xs) (val ys) := by
  rcases Int.lt_or_gt_of_ne h with h | h
  · rw [cmpI_lt h, cmpI_lt (val_cmp_limb hx hy hmx hmy hd h)]
  · rw [cmpI_gt h, cmpI_gt (val_cmp_limb hy hx hmy hmx hd.symm h)]
theorem drop_eq_step {xs ys : List Int} {m : Nat} (hmx : m < xs.length) (hmy : m < ys.length) (hd : xs.drop (m + 1) = ys.drop (m + 1)) (h : xs.getD m 0 = ys.getD m 0) : xs.drop m = ys.drop m := by
  rw [List.drop_eq_getElem_cons hmx, List.drop_eq_getElem_cons hmy, hd]
  simp only [List.getD, List.getElem?_eq_getElem hmx, List.getElem?_eq_getElem hmy, Option.getD_some] at h
  rw [h]
theorem cmp_len {xs ys : List Int} {m n : Nat} (h : Dig xs m) (k : Dig ys n) (hne : xs.length ≠ ys.length) : cmpI xs.length ys.length = cmpI m n := by
  rcases Nat.lt_or_gt_of_ne hne with hl | hl
  · have := h.lt_of_len k hl
    rw [cmpI_lt (by omega), cmpI_lt (by omega)]
  · have := k.lt_of_len h hl
    rw [cmpI_gt (by omega), cmpI_gt (by omega)]
structure SubInv (xs ys os : List Int) (i : Nat) (c : Int) : Prop where
  len : os.length = xs.length
  limbs : Limbs os
  c0 : -1 ≤ c
  c1 : c ≤ 0
  val : val os + pw i * c = val (xs.take i) - val (ys.take i)
  zero : ∀ t, i ≤ t → os.getD t 0 = 0
theorem SubInv.start (xs ys : List Int) : SubInv xs ys (List.replicate xs.length 0) 0 0 :=
  ⟨by simp, limbs_replicate _, by omega, by omega, by simp [val_replicate, val_nil], fun t _ => by
    simp only [List.getD, List.getElem?_replicate]; split <;> rfl⟩
theorem SubInv.step {xs ys os : List Int} {i : Nat} {c : Int} (h : SubInv xs ys os i c) (hx : Limbs xs) (hy : Limbs ys) (hi : i < xs.length) :
    SubInv xs ys (os.set i ((xs.getD i 0 - ys.getD i 0 + c) % 1073741824)) (i + 1) ((xs.getD i 0 - ys.getD i 0 + c) / 1073741824) := by
  have bx := limbs_getD hx i
  have bY := limbs_getD hy i
  have hl := h.len
  have h0 := h.c0
  have h1 := h.c1
  have hv := h.val
  have hs := val_set os i (by omega) ((xs.getD i 0 - ys.getD i 0 + c) % 1073741824)
  rw [h.zero i (Nat.le_refl _), Int.sub_zero] at hs
  have tx := val_take_next xs i
  have ty := val_take_next ys i
  generalize xs.getD i 0 = x at *
  generalize ys.getD i 0 = y at *
  refine ⟨by simpa using hl, limbs_set h.limbs _ _ (by omega), by omega, by omega, ?_, fun t hlt => ?_⟩
  · rw [hs, tx, ty, pw_succ]
    have e3 : 1073741824 * ((x - y + c) / 1073741824) + (x - y + c) % 1073741824 = x - y + c := Int.mul_ediv_add_emod _ _
    have e4 : pw i * (1073741824 * ((x - y + c) / 1073741824) + (x - y + c) % 1073741824) = pw i * (x - y + c) := by rw [e3]
    rw [Int.mul_add, Int.mul_add, Int.mul_sub, Int.mul_left_comm] at e4
    rw [Int.mul_assoc]
    omega
  · rw [getD_set _ _ _ (by omega), if_neg (by omega)]
    exact h.zero t (by omega)
theorem SubInv.done {xs ys os : List Int} {c : Int} {a b : Nat} (h : SubInv xs ys os xs.length c) (hx : Lmb.val xs = a) (hy : Lmb.val ys = b) (hb : b ≤ a) (hl : ys.length ≤ xs.length) : Dig (trim os) (a - b) := by
  have h0 := h.c0
  have h1 := h.c1
  have hv := h.val
  have ho := val_lt h.limbs
  have hp := pw_pos xs.length
  rw [h.len] at ho
  rw [List.take_of_length_le (Nat.le_refl _), List.take_of_length_le hl, hx, hy] at hv
  have hc : c = 0 := by
    rcases (show c = 0 ∨ c = -1 by omega) with hc | hc
    · exact hc
    · rw [hc] at hv
      have := val_nonneg h.limbs
      omega
  rw [hc] at hv
  have hd := dig_trim h.limbs
  have e : (Lmb.val os).toNat = a - b := by omega
  rwa [e] at hd
end Go.Proofs.YtabgkfjfmjdfiaaGreatDoor.Lmb


/- Long division, limb by limb: plain laws. -/
namespace Go.Proofs.YtabgkfjfmjdfiaaGreatDoor.Lmb
/-! ### the guess of one limb of the quotient -/
structure GuessOk (high next third lead second g : Int) : Prop where
  g0 : 0 ≤ g
  g1 : g < 1073741824
  le : g * (lead * 1073741824 + second) ≤ (high * 1073741824 + next) * 1073741824 + third
  most : ∀ t, 0 ≤ t → t < 1073741824 → t * (lead * 1073741824 + second) ≤ (high * 1073741824 + next) * 1073741824 + third → t ≤ g
structure GuessInv (high next third lead second q r : Int) : Prop where
  q0 : 0 ≤ q
  r0 : 0 ≤ r
  sum : q * lead + r = high * 1073741824 + next
  most : ∀ t, 0 ≤ t → t < 1073741824 → t * (lead * 1073741824 + second) ≤ (high * 1073741824 + next) * 1073741824 + third → t ≤ q
theorem expand (q lead second : Int) : q * (lead * 1073741824 + second) = (q * lead) * 1073741824 + q * second := by
  rw [Int.mul_add, Int.mul_assoc]
theorem GuessInv.start {high next third lead second : Int} (hh : 0 ≤ high) (hn : 0 ≤ next) (ht : third < 1073741824) (hl : 1 ≤ lead) (hs : 0 ≤ second) :
    GuessInv high next third lead second ((high * 1073741824 + next) / lead) ((high * 1073741824 + next) % lead) := by
  have hv : 0 ≤ high * 1073741824 + next := by omega
  refine ⟨Int.ediv_nonneg hv (by omega), Int.emod_nonneg _ (by omega), ?_, ?_⟩
  · rw [Int.mul_comm]; exact Int.mul_ediv_add_emod _ _
  · intro t t0 _ h
    rw [expand] at h
    have hts : 0 ≤ t * second := Int.mul_nonneg t0 hs
    generalize high * 1073741824 + next = v at *
    have h1 : t * lead ≤ v := by omega
    exact (Int.le_ediv_iff_mul_le (by omega)).2 h1
theorem GuessInv.step {high next third lead second q r : Int} (h : GuessInv high next third lead second q r) (hr : r < 1073741824) (ht : 0 ≤ third) (hc : 1073741824 ≤ q ∨ r * 1073741824 + third < q * second) (hl : 1 ≤ lead) :
    GuessInv high next third lead second (q - 1) (r + lead) := by
  have h0 := h.q0
  have h1 := h.r0
  have hsum := h.sum
  have hq : 1 ≤ q := by
    rcases hc with hc | hc
    · omega
    · rcases (show q = 0 ∨ 1 ≤ q by omega) with rfl | hq
      · rw [Int.zero_mul] at hc; omega
      · exact hq
  refine ⟨by omega, by omega, by rw [Int.sub_mul]; omega, ?_⟩
  intro t t0 t1 hle
  have hle' := h.most t t0 t1 hle
  rcases (show t = q ∨ t ≤ q - 1 by omega) with rfl | ht'
  · exfalso
    rcases hc with hc | hc
    · omega
    · rw [expand] at hle
      generalize t * second = a at *
      generalize t * lead = b at *
      omega
  · exact ht'
theorem GuessInv.done {high next third lead second q r : Int} (h : GuessInv high next third lead second q r) (hh : high ≤ lead) (hn : next < 1073741824) (ht : 0 ≤ third) (hs : 0 ≤ second) (hs1 : second < 1073741824) (hl : 1 ≤ lead)
    (hc : r < 1073741824 → q < 1073741824 ∧ q * second ≤ r * 1073741824 + third) : GuessOk high next third lead second q := by
  have h0 := h.q0
  have h1 := h.r0
  have hsum := h.sum
  have hq : q < 1073741824 := by
    rcases Int.lt_or_le r 1073741824 with hr | hr
    · exact (hc hr).1
    · rcases Int.lt_or_le q 1073741824 with hq | hq
      · exact hq
      · exfalso
        have h2 : 1073741824 * lead ≤ q * lead := Int.mul_le_mul_of_nonneg_right hq (by omega)
        omega
  refine ⟨h0, hq, ?_, h.most⟩
  rw [expand]
  have h3 : q * second ≤ r * 1073741824 + third := by
    rcases Int.lt_or_le r 1073741824 with hr | hr
    · exact (hc hr).2
    · have h4 : q * second ≤ 1073741823 * second := Int.mul_le_mul_of_nonneg_right (by omega) hs
      omega
  generalize q * second = a at *
  generalize q * lead = b at *
  omega
theorem GuessOk.true {high next third lead second g : Int} (h : GuessOk high next third lead second g) {D V d v P : Int} (hP : 0 < P)
    (hD : D = d + P * ((high * 1073741824 + next) * 1073741824 + third)) (hd0 : 0 ≤ d) (hd1 : d < P) (hV : V = v + P * (lead * 1073741824 + second)) (hv0 : 0 ≤ v) (hv1 : v < P) (hl : 1 ≤ lead) (hs : 0 ≤ second)
    (hDV : D < 1073741824 * V) (hD0 : 0 ≤ D) : D < (g + 1) * V ∧ g * V ≤ D + V := by
  have g0 := h.g0
  have g1 := h.g1
  have hle := h.le
  have hmost := h.most
  generalize (high * 1073741824 + next) * 1073741824 + third = U3 at *
  have hV2 : 1073741824 ≤ lead * 1073741824 + second := by omega
  generalize lead * 1073741824 + second = V2 at *
  have hPV : P * 1073741824 ≤ P * V2 := Int.mul_le_mul_of_nonneg_left hV2 (by omega)
  have hVpos : 0 < V := by omega
  constructor
  · -- the true quotient is at most g
    have t0 : 0 ≤ D / V := Int.ediv_nonneg hD0 (by omega)
    have t1 : D / V < 1073741824 := Int.ediv_lt_of_lt_mul hVpos hDV
    have e := Int.mul_ediv_add_emod D V
    have m1 := Int.emod_lt_of_pos D hVpos
    have m0 := Int.emod_nonneg D (show V ≠ 0 by omega)
    generalize D / V = t at *
    generalize D % V = m at *
    have htg : t ≤ g := by
      refine hmost t t0 t1 ?_
      have hv : 0 ≤ t * v := Int.mul_nonneg t0 hv0
      have e2 : V * t = t * v + P * (t * V2) := by rw [hV, Int.add_mul, Int.mul_comm v t, Int.mul_assoc, Int.mul_comm V2 t]
      have h5 : P * (t * V2) < P * (U3 + 1) := by rw [Int.mul_add]; omega
      have := Int.lt_of_mul_lt_mul_left h5 (Int.le_of_lt hP)
      omega
    have h6 : t * V ≤ g * V := Int.mul_le_mul_of_nonneg_right htg (by omega)
    rw [Int.add_mul]
    rw [Int.mul_comm V t] at e
    omega
  · have e2 : g * V = g * v + P * (g * V2) := by rw [hV, Int.mul_add, Int.mul_left_comm]
    have h5 : P * (g * V2) ≤ P * U3 := Int.mul_le_mul_of_nonneg_left hle (by omega)
    have h6 : g * v ≤ 1073741823 * v := Int.mul_le_mul_of_nonneg_right (by omega) hv0
    omega
end Go.Proofs.YtabgkfjfmjdfiaaGreatDoor.Lmb


/- Long division: one round of the outer loop. -/
namespace Go.Proofs.YtabgkfjfmjdfiaaGreatDoor.Lmb
structure SubMul (us u v : List Int) (g : Int) (j i : Nat) (c : Int) : Prop where
  len : us.length = u.length
  limbs : Limbs us
  c0 : -1073741824 < c
  c1 : c ≤ 0
  val : val us + pw (j + i) * c = val u - pw j * (g * val (v.take i))
  rest : ∀ t, j + i ≤ t → us.getD t 0 = u.getD t 0
theorem SubMul.start {u : List Int} (hu : Limbs u) (v : List Int) (g : Int) (j : Nat) : SubMul u u v g j 0 0 :=
  ⟨rfl, hu, by omega, by omega, by simp [val_nil], fun _ _ => rfl⟩
theorem SubMul.step {us u v : List Int} {g c : Int} {j i : Nat} (h : SubMul us u v g j i c) (hv : Limbs v) (g0 : 0 ≤ g) (g1 : g < 1073741824) (hi : i < v.length) (hj : j + i < u.length) :
    SubMul (us.set (j + i) ((us.getD (j + i) 0 - g * v.getD i 0 + c) % 1073741824)) u v g j (i + 1) ((us.getD (j + i) 0 - g * v.getD i 0 + c) / 1073741824) := by
  have bv := limbs_getD hv i
  have bo := limbs_getD h.limbs (j + i)
  have hp := limb_prod ⟨g0, g1⟩ bv
  have hl := h.len
  have h0 := h.c0
  have h1 := h.c1
  have hval := h.val
  have ht := val_take_succ v i hi
  have hs := val_set us (j + i) (by omega) ((us.getD (j + i) 0 - g * v.getD i 0 + c) % 1073741824)
  generalize hY : v.getD i 0 = y at *
  generalize hO : us.getD (j + i) 0 = o at *
  generalize hG : g * y = p at *
  refine ⟨by simpa using hl, limbs_set h.limbs _ _ (by omega), by omega, by omega, ?_, fun t hlt => ?_⟩
  · have e1 : pw (j + (i + 1)) = 1073741824 * pw (j + i) := by rw [← Nat.add_assoc, pw_succ]
    have e2 : pw j * (g * (pw i * y)) = pw (j + i) * p := by rw [pw_add, ← hG]; simp only [Int.mul_assoc, Int.mul_left_comm]
    rw [hs, ht, e1, Int.mul_add g, Int.mul_add (pw j), e2]
    have e3 : 1073741824 * ((o - p + c) / 1073741824) + (o - p + c) % 1073741824 = o - p + c := Int.mul_ediv_add_emod _ _
    have e4 : pw (j + i) * (1073741824 * ((o - p + c) / 1073741824) + (o - p + c) % 1073741824) = pw (j + i) * (o - p + c) := by rw [e3]
    rw [Int.mul_add, Int.mul_add, Int.mul_sub, Int.mul_left_comm] at e4
    rw [Int.mul_sub, Int.mul_assoc]
    omega
  · rw [getD_set _ _ _ (by omega), if_neg (by omega)]
    exact h.rest t (by omega)
structure AddBack (ws us v : List Int) (j i : Nat) (c : Int) : Prop where
  len : ws.length = us.length
  limbs : Limbs ws
  c0 : 0 ≤ c
  c1 : c ≤ 1
  val : val ws + pw (j + i) * c = val us + pw j * val (v.take i)
  rest : ∀ t, j + i ≤ t → ws.getD t 0 = us.getD t 0
theorem AddBack.start {us : List Int} (hu : Limbs us) (v : List Int) (j : Nat) : AddBack us us v j 0 0 :=
  ⟨rfl, hu, by omega, by omega, by simp [val_nil], fun _ _ => rfl⟩
theorem AddBack.step {ws us v : List Int} {c : Int} {j i : Nat} (h : AddBack ws us v j i c) (hv : Limbs v) (hi : i < v.length) (hj : j + i < us.length) :
    AddBack (ws.set (j + i) ((ws.getD (j + i) 0 + v.getD i 0 + c) % 1073741824)) us v j (i + 1) ((ws.getD (j + i) 0 + v.getD i 0 + c) / 1073741824) := by
  have bv := limbs_getD hv i
  have bo := limbs_getD h.limbs (j + i)
  have hl := h.len
  have h0 := h.c0
  have h1 := h.c1
  have hval := h.val
  have ht := val_take_succ v i hi
  have hs := val_set ws (j + i) (by omega) ((ws.getD (j + i) 0 + v.getD i 0 + c) % 1073741824)
  generalize hY : v.getD i 0 = y at *
  generalize hO : ws.getD (j + i) 0 = o at *
  refine ⟨by simpa using hl, limbs_set h.limbs _ _ (by omega), by omega, by omega, ?_, fun t hlt => ?_⟩
  · have e1 : pw (j + (i + 1)) = 1073741824 * pw (j + i) := by rw [← Nat.add_assoc, pw_succ]
    have e2 : pw j * (pw i * y) = pw (j + i) * y := by rw [pw_add, Int.mul_assoc]
    rw [hs, ht, e1, Int.mul_add (pw j), e2]
    have e3 : 1073741824 * ((o + y + c) / 1073741824) + (o + y + c) % 1073741824 = o + y + c := Int.mul_ediv_add_emod _ _
    have e4 : pw (j + i) * (1073741824 * ((o + y + c) / 1073741824) + (o + y + c) % 1073741824) = pw (j + i) * (o + y + c) := by rw [e3]
    rw [Int.mul_add, Int.mul_add, Int.mul_add, Int.mul_left_comm] at e4
    rw [Int.mul_sub, Int.mul_assoc]
    omega
  · rw [getD_set _ _ _ (by omega), if_neg (by omega)]
    exact h.rest t (by omega)
theorem zero_of_val {xs : List Int} (hl : Limbs xs) (h : val xs = 0) : ∀ t, xs.getD t 0 = 0 := by
  induction xs with
  | nil => intro t; simp [List.getD]
  | cons x r ih =>
    rw [limbs_cons] at hl
    have hn := val_nonneg hl.2
    rw [val_cons] at h
    have hx : x = 0 := by omega
    have hr : Lmb.val r = 0 := by omega
    intro t
    cases t with
    | zero => rw [List.getD_cons_zero]; exact hx
    | succ t => rw [List.getD_cons_succ]; exact ih hl.2 hr t
theorem val_drop_congr {xs ys : List Int} {k : Nat} (hl : xs.length = ys.length) (h : ∀ t, k ≤ t → xs.getD t 0 = ys.getD t 0) : val (xs.drop k) = val (ys.drop k) := by
  have e : xs.drop k = ys.drop k := by
    apply List.ext_getElem
    · simp [hl]
    · intro i h1 h2
      have := h (k + i) (by omega)
      simp only [List.length_drop] at h1 h2
      rw [List.getElem_drop, List.getElem_drop]
      simpa [List.getD, show k + i < xs.length by omega, show k + i < ys.length by omega] using this
  rw [e]
structure DivInv (A V : Int) (u q : List Int) (lu lq j : Nat) : Prop where
  ulen : u.length = lu
  qlen : q.length = lq
  ulimbs : Limbs u
  qlimbs : Limbs q
  eq : A = val (q.drop j) * (pw j * V) + val u
  lt : val u < pw j * V
structure Divisor (v : List Int) (V : Int) (n : Nat) : Prop where
  len : v.length = n + 1
  limbs : Limbs v
  val : val v = V
  lt : V < pw n
  two : 2 ≤ n
  lead : 1 ≤ v.getD (n - 1) 0
theorem Divisor.split {v : List Int} {V : Int} {n : Nat} (h : Divisor v V n) : V = Lmb.val (v.take (n - 2)) + pw (n - 2) * (v.getD (n - 1) 0 * 1073741824 + v.getD (n - 2) 0) := by
  have hl := h.len
  have h2 := h.two
  have hn0 := val_nonneg (limbs_drop h.limbs n)
  have ht0 := val_nonneg (limbs_take h.limbs n)
  have htop : Lmb.val (v.drop n) = 0 := by
    have e := val_split v n (by omega)
    rw [h.val] at e
    have hlt := h.lt
    have hp := pw_pos n
    rcases (show Lmb.val (v.drop n) = 0 ∨ 1 ≤ Lmb.val (v.drop n) by omega) with h | h
    · exact h
    · have : pw n * 1 ≤ pw n * Lmb.val (v.drop n) := Int.mul_le_mul_of_nonneg_left h (by omega)
      omega
  have e := val_split v (n - 2) (by omega)
  have e1 := val_drop v (n - 2) (by omega)
  have e2 := val_drop v (n - 1) (by omega)
  have i1 : n - 2 + 1 = n - 1 := by omega
  have i2 : n - 1 + 1 = n := by omega
  rw [i1] at e1
  rw [i2, htop] at e2
  rw [← h.val, e, e1, e2]
  have : v.getD (n - 2) 0 + 1073741824 * (v.getD (n - 1) 0 + 1073741824 * 0) = v.getD (n - 1) 0 * 1073741824 + v.getD (n - 2) 0 := by omega
  rw [this]
structure Window (u : List Int) (V : Int) (n j : Nat) (D d U3 : Int) : Prop where
  isD : D = val (u.drop j)
  lt : D < 1073741824 * V
  nonneg : 0 ≤ D
  eq : D = d + pw (n - 2) * U3
  d0 : 0 ≤ d
  d1 : d < pw (n - 2)
  above : val (u.drop (j + n + 1)) = 0
theorem window {A V : Int} {u q v : List Int} {lu lq j n : Nat} (h : DivInv A V u q lu lq (j + 1)) (hv : Divisor v V n) (hj : j + n < lu) :
    ∃ D d, Window u V n j D d ((u.getD (j + n) 0 * 1073741824 + u.getD (j + n - 1) 0) * 1073741824 + u.getD (j + n - 2) 0) := by
  have hl := h.ulen
  have h2 := hv.two
  have hlt := h.lt
  have e0 := val_split u j (by omega)
  have t0 := val_nonneg (limbs_take h.ulimbs j)
  have D0 := val_nonneg (limbs_drop h.ulimbs j)
  have hpj := pw_pos j
  have hD : Lmb.val (u.drop j) < 1073741824 * V := by
    have hp : pw (j + 1) * V = pw j * (1073741824 * V) := by
      rw [pw_succ]; simp only [Int.mul_assoc, Int.mul_left_comm]
    have : pw j * Lmb.val (u.drop j) < pw j * (1073741824 * V) := by
      rw [hp] at hlt
      generalize pw j * (1073741824 * V) = a at *
      omega
    exact Int.lt_of_mul_lt_mul_left this (Int.le_of_lt hpj)
  have d0 := val_nonneg (limbs_take (limbs_drop h.ulimbs j) (n - 2))
  have d1 := val_lt (limbs_take (limbs_drop h.ulimbs j) (n - 2))
  rw [List.length_take, List.length_drop, Nat.min_eq_left (by omega)] at d1
  have e1 := val_split (u.drop j) (n - 2) (by simp; omega)
  rw [List.drop_drop] at e1
  have f1 := val_drop u (j + (n - 2)) (by omega)
  have f2 := val_drop u (j + n - 1) (by omega)
  have f3 := val_drop u (j + n) (by omega)
  have i0 : j + (n - 2) = j + n - 2 := by omega
  have i1 : j + n - 2 + 1 = j + n - 1 := by omega
  have i2 : j + n - 1 + 1 = j + n := by omega
  rw [i0] at e1 f1
  rw [i1] at f1
  rw [i2] at f2
  have z0 := val_nonneg (limbs_drop h.ulimbs (j + n + 1))
  have b1 := limbs_getD h.ulimbs (j + n)
  have b2 := limbs_getD h.ulimbs (j + n - 1)
  have b3 := limbs_getD h.ulimbs (j + n - 2)
  have hz : Lmb.val (u.drop (j + n + 1)) = 0 := by
    rcases (show Lmb.val (u.drop (j + n + 1)) = 0 ∨ 1 ≤ Lmb.val (u.drop (j + n + 1)) by omega) with h | h
    · exact h
    · exfalso
      have hvl := hv.lt
      have hp : pw n = 1073741824 * (1073741824 * pw (n - 2)) := by rw [← pw_succ, ← pw_succ]; congr 1; omega
      have hpp := pw_pos (n - 2)
      have g1 : 1073741824 * 1073741824 * 1073741824 ≤ Lmb.val (u.drop (j + n - 2)) := by omega
      have g2 : pw (n - 2) * (1073741824 * 1073741824 * 1073741824) ≤ pw (n - 2) * Lmb.val (u.drop (j + n - 2)) := Int.mul_le_mul_of_nonneg_left g1 (by omega)
      omega
  refine ⟨Lmb.val (u.drop j), Lmb.val ((u.drop j).take (n - 2)), rfl, hD, D0, ?_, d0, d1, hz⟩
  rw [e1, f1, f2, f3, hz]
  congr 2
  omega
theorem Window.high {u v : List Int} {V D d next third high : Int} {n j : Nat} (h : Window u V n j D d ((high * 1073741824 + next) * 1073741824 + third)) (hv : Divisor v V n) (n0 : 0 ≤ next) (t0 : 0 ≤ third) : high ≤ v.getD (n - 1) 0 := by
  have hs := hv.split
  have d0 := h.d0
  have hlt := h.lt
  have he := h.eq
  have v0 := val_nonneg (limbs_take hv.limbs (n - 2))
  have v1 := val_lt (limbs_take hv.limbs (n - 2))
  rw [List.length_take, Nat.min_eq_left (by have := hv.len; omega)] at v1
  have bs := limbs_getD hv.limbs (n - 2)
  have hp := pw_pos (n - 2)
  generalize v.getD (n - 1) 0 = lead at *
  generalize v.getD (n - 2) 0 = second at *
  generalize Lmb.val (v.take (n - 2)) = vl at *
  generalize pw (n - 2) = P at *
  rcases Int.lt_or_le lead high with hc | hc
  · exfalso
    have g1 : lead * 1073741824 + second + 1 ≤ high * 1073741824 := by omega
    have g2 : P * (lead * 1073741824 + second + 1) ≤ P * (high * 1073741824) := Int.mul_le_mul_of_nonneg_left g1 (by omega)
    have g3 : P * ((high * 1073741824) * 1073741824) ≤ P * ((high * 1073741824 + next) * 1073741824 + third) := Int.mul_le_mul_of_nonneg_left (by omega) (by omega)
    rw [Int.mul_add P, Int.mul_one] at g2
    rw [← Int.mul_assoc] at g3
    omega
  · exact hc
theorem sub_end {A V : Int} {u q v us : List Int} {lu lq j n : Nat} {D d U3 g c : Int} (h : DivInv A V u q lu lq (j + 1)) (hv : Divisor v V n) (hj : j + n < lu) (hq : j < lq) (hw : Window u V n j D d U3)
    (hg0 : 0 ≤ g) (hg1 : g < 1073741824) (hlo : D < (g + 1) * V) (hs : SubMul us u v g j (n + 1) c) (hc : ¬ c < 0) : DivInv A V us (q.set j g) lu lq j := by
  have hcz : c = 0 := by have := hs.c1; omega
  have hval := hs.val
  rw [hcz, List.take_of_length_le (by have := hv.len; omega), hv.val] at hval
  have hul := h.ulen
  have hql := h.qlen
  have e0 := val_split u j (by omega)
  have t1 := val_lt (limbs_take h.ulimbs j)
  rw [List.length_take, Nat.min_eq_left (by omega)] at t1
  have eD := hw.isD
  rw [← eD] at e0
  have hpj := pw_pos j
  have hA := h.eq
  have e2 := val_drop (q.set j g) j (by simp; omega)
  have e3 : (q.set j g).drop (j + 1) = q.drop (j + 1) := by rw [List.drop_set_of_lt (by omega)]
  rw [getD_set _ _ _ (by omega), if_pos rfl, e3] at e2
  refine ⟨by rw [hs.len]; exact hul, by simpa using hql, hs.limbs, limbs_set h.qlimbs _ _ ⟨hg0, hg1⟩, ?_, ?_⟩
  · rw [e2, hA, pw_succ]
    generalize Lmb.val (q.drop (j + 1)) = Q at *
    have x1 : (g + 1073741824 * Q) * (pw j * V) = pw j * (g * V) + Q * (1073741824 * pw j * V) := by
      rw [Int.add_mul]
      simp only [Int.mul_assoc, Int.mul_left_comm, Int.mul_comm]
    rw [x1]; omega
  · have g1 : pw j * (D + 1) ≤ pw j * ((g + 1) * V) := Int.mul_le_mul_of_nonneg_left (by omega) (by omega)
    rw [Int.add_mul, Int.mul_add, Int.mul_add, Int.one_mul, Int.mul_one] at g1
    omega
theorem back_end {A V : Int} {u q v us ws : List Int} {lu lq j n : Nat} {D d U3 g c c2 : Int} (h : DivInv A V u q lu lq (j + 1)) (hv : Divisor v V n) (hj : j + n < lu) (hq : j < lq) (hw : Window u V n j D d U3)
    (hg1 : g < 1073741824) (hhi : g * V ≤ D + V) (hs : SubMul us u v g j (n + 1) c) (hc : c < 0) (hb : AddBack ws us v j (n + 1) c2) (g0 : 0 ≤ g) : 1 ≤ g ∧ DivInv A V ws (q.set j (g - 1)) lu lq j := by
  have hval := hs.val
  have hbv := hb.val
  rw [List.take_of_length_le (by have := hv.len; omega), hv.val] at hval hbv
  have hul := h.ulen
  have hql := h.qlen
  have e0 := val_split u j (by omega)
  have t0 := val_nonneg (limbs_take h.ulimbs j)
  have t1 := val_lt (limbs_take h.ulimbs j)
  rw [List.length_take, Nat.min_eq_left (by omega)] at t1
  have eD := hw.isD
  rw [← eD] at e0
  have hpj := pw_pos j
  have hA := h.eq
  have hD0 := hw.nonneg
  have za := zero_of_val (limbs_drop h.ulimbs _) hw.above
  have hsl := hs.len
  have hbl := hb.len
  have zs : Lmb.val (us.drop (j + n + 1)) = 0 := by
    rw [val_drop_congr hsl (fun t ht => hs.rest t (by omega))]; exact hw.above
  have zw : Lmb.val (ws.drop (j + n + 1)) = 0 := by
    rw [val_drop_congr hbl (fun t ht => hb.rest t (by omega))]; exact zs
  have es := val_split us (j + n + 1) (by omega)
  have ew := val_split ws (j + n + 1) (by omega)
  rw [zs] at es
  rw [zw] at ew
  have s0 := val_nonneg (limbs_take hs.limbs (j + n + 1))
  have s1 := val_lt (limbs_take hs.limbs (j + n + 1))
  have w0 := val_nonneg (limbs_take hb.limbs (j + n + 1))
  have w1 := val_lt (limbs_take hb.limbs (j + n + 1))
  rw [List.length_take, Nat.min_eq_left (by omega)] at s1 w1
  rw [Int.mul_zero, Int.add_zero] at es ew
  rw [← es] at s0 s1
  rw [← ew] at w0 w1
  have hpn : pw (j + n + 1) = 1073741824 * (pw j * pw n) := by rw [pw_succ, pw_add]
  have i1 : j + (n + 1) = j + n + 1 := by omega
  rw [i1] at hval hbv
  have hpp := pw_pos (j + n + 1)
  have hneg : D < g * V := by
    rcases Int.lt_or_le D (g * V) with hx | hx
    · exact hx
    · exfalso
      have : pw j * (g * V) ≤ pw j * D := Int.mul_le_mul_of_nonneg_left hx (by omega)
      have x2 : pw (j + n + 1) * c ≤ pw (j + n + 1) * (-1) := Int.mul_le_mul_of_nonneg_left (by omega) (by omega)
      omega
  have hg : 1 ≤ g := by
    rcases (show g = 0 ∨ 1 ≤ g by omega) with hx | hx
    · rw [hx, Int.zero_mul] at hneg; omega
    · exact hx
  have hVn := hv.lt
  have y1 : pw j * (g * V) ≤ pw j * (D + V) := Int.mul_le_mul_of_nonneg_left hhi (by omega)
  have y2 : pw j * (D + 1) ≤ pw j * (g * V) := Int.mul_le_mul_of_nonneg_left (by omega) (by omega)
  have y3 : pw j * V ≤ pw j * pw n := Int.mul_le_mul_of_nonneg_left (by omega) (by omega)
  have y4 : 0 < pw j * pw n := Int.mul_pos hpj (pw_pos n)
  rw [Int.mul_add, Int.mul_one] at y2
  rw [Int.mul_add] at y1
  have hcm : c = -1 := by
    rcases (show c = -1 ∨ c ≤ -2 by omega) with hx | hx
    · exact hx
    · exfalso
      have x2 : pw (j + n + 1) * c ≤ pw (j + n + 1) * (-2) := Int.mul_le_mul_of_nonneg_left hx (by omega)
      omega
  rw [hcm] at hval
  have hc2 : c2 = 1 := by
    have := hb.c0
    have := hb.c1
    rcases (show c2 = 0 ∨ c2 = 1 by omega) with hx | hx
    · exfalso; rw [hx] at hbv; omega
    · exact hx
  rw [hc2] at hbv
  have hfin : Lmb.val ws = Lmb.val u - pw j * (g * V) + pw j * V := by omega
  have e2 := val_drop (q.set j (g - 1)) j (by simp; omega)
  have e3 : (q.set j (g - 1)).drop (j + 1) = q.drop (j + 1) := by rw [List.drop_set_of_lt (by omega)]
  rw [getD_set _ _ _ (by omega), if_pos rfl, e3] at e2
  refine ⟨hg, by rw [hbl, hsl]; exact hul, by simpa using hql, hb.limbs, limbs_set h.qlimbs _ _ ⟨by omega, by omega⟩, ?_, ?_⟩
  · rw [e2, hA, pw_succ]
    generalize Lmb.val (q.drop (j + 1)) = Q at *
    have x1 : (g - 1 + 1073741824 * Q) * (pw j * V) = pw j * (g * V) - pw j * V + Q * (1073741824 * pw j * V) := by
      have y1 : g * (pw j * V) = pw j * (g * V) := Int.mul_left_comm _ _ _
      have y2 : 1073741824 * Q * (pw j * V) = Q * (1073741824 * pw j * V) := by simp only [Int.mul_assoc, Int.mul_left_comm]
      rw [Int.add_mul, Int.sub_mul, Int.one_mul, y1, y2]
    rw [x1]; omega
  · omega
end Go.Proofs.YtabgkfjfmjdfiaaGreatDoor.Lmb


/- Shifts by less than a limb: plain laws. -/
namespace Go.Proofs.YtabgkfjfmjdfiaaGreatDoor.Lmb
theorem two_pow_base {s : Nat} (hs : s ≤ 29) : ∃ c : Int, 2 ≤ c ∧ (2 : Int) ^ s * c = 1073741824 ∧ 1 ≤ (2 : Int) ^ s ∧ (2 : Int) ^ s ≤ 536870912 := by
  refine ⟨2 ^ (30 - s), ?_, ?_, ?_, ?_⟩
  · have h : (2 : Nat) ^ 1 ≤ 2 ^ (30 - s) := Nat.pow_le_pow_right (by decide) (by omega)
    have : ((2 ^ (30 - s) : Nat) : Int) = (2 : Int) ^ (30 - s) := by simp
    omega
  · rw [← Int.pow_add]
    have : s + (30 - s) = 30 := by omega
    rw [this]; decide
  · have h : 1 ≤ (2 : Nat) ^ s := Nat.one_le_two_pow
    have : ((2 ^ s : Nat) : Int) = (2 : Int) ^ s := by simp
    omega
  · have h : (2 : Nat) ^ s ≤ 2 ^ 29 := Nat.pow_le_pow_right (by decide) hs
    have h2 : (2 : Nat) ^ 29 = 536870912 := by decide
    have : ((2 ^ s : Nat) : Int) = (2 : Int) ^ s := by simp
    omega
theorem shl_bound {x : Int} {s : Nat} (hx : 0 ≤ x ∧ x < 1073741824) (hs : s ≤ 29) : 0 ≤ x * 2 ^ s ∧ x * 2 ^ s ≤ 576460752303423488 := by
  obtain ⟨c, _, _, p0, p1⟩ := two_pow_base hs
  refine ⟨Int.mul_nonneg hx.1 (by omega), ?_⟩
  have : x * 2 ^ s ≤ 1073741824 * 2 ^ s := Int.mul_le_mul_of_nonneg_right (by omega) (by omega)
  omega
theorem shl_low {x : Int} {s : Nat} (hs : s ≤ 29) : (x * 2 ^ s) % 1073741824 ≤ 1073741824 - 2 ^ s ∧ ∃ y, (x * 2 ^ s) % 1073741824 = 2 ^ s * y := by
  obtain ⟨c, c2, hc, p0, p1⟩ := two_pow_base hs
  have e : (x * 2 ^ s) % 1073741824 = 2 ^ s * (x % c) := by
    rw [← hc, Int.mul_comm x, Int.mul_emod_mul_of_pos _ _ (by omega)]
  have h1 := Int.emod_lt_of_pos x (show 0 < c by omega)
  have h2 : (2 : Int) ^ s * (x % c) ≤ 2 ^ s * (c - 1) := Int.mul_le_mul_of_nonneg_left (by omega) (by omega)
  rw [Int.mul_sub, hc] at h2
  exact ⟨by rw [e]; omega, _, e⟩
structure ShiftInv (xs os : List Int) (s i : Nat) : Prop where
  len : os.length = xs.length + 1
  limbs : Limbs os
  val : val os = val (xs.take i) * 2 ^ s
  low : os.getD i 0 < 2 ^ s
  zero : ∀ t, i < t → os.getD t 0 = 0
theorem ShiftInv.start (xs : List Int) {s : Nat} (hs : s ≤ 29) : ShiftInv xs (List.replicate (xs.length + 1) 0) s 0 := by
  obtain ⟨c, _, _, p0, p1⟩ := two_pow_base hs
  have hz : ∀ t, (List.replicate (xs.length + 1) (0 : Int)).getD t 0 = 0 := fun t => by
    simp only [List.getD, List.getElem?_replicate]; split <;> rfl
  exact ⟨by simp, limbs_replicate _, by simp [val_replicate, val_nil], by rw [hz]; omega, fun t _ => hz t⟩
theorem ShiftInv.step {xs os : List Int} {s i : Nat} (h : ShiftInv xs os s i) (hx : Limbs xs) (hs : s ≤ 29) (hi : i < xs.length) :
    ShiftInv xs ((os.set i (os.getD i 0 + (xs.getD i 0 * 2 ^ s) % 1073741824)).set (i + 1) ((xs.getD i 0 * 2 ^ s) / 1073741824)) s (i + 1) := by
  have bx := limbs_getD hx i
  have bo := limbs_getD h.limbs i
  have hl := h.len
  have hv := h.val
  have hlow := h.low
  have hb := shl_bound bx hs
  obtain ⟨hr, _⟩ := shl_low (x := xs.getD i 0) hs
  obtain ⟨c, _, _, p0, p1⟩ := two_pow_base hs
  have ht := val_take_succ xs i hi
  have hy : xs.getD i 0 * 2 ^ s / 1073741824 < 2 ^ s := by
    refine Int.ediv_lt_of_lt_mul (by omega) ?_
    rw [Int.mul_comm (2 ^ s)]
    exact Int.mul_lt_mul_of_pos_right bx.2 (by omega)
  have hs1 := val_set os i (by omega) (os.getD i 0 + (xs.getD i 0 * 2 ^ s) % 1073741824)
  have hs2 := val_set (os.set i (os.getD i 0 + (xs.getD i 0 * 2 ^ s) % 1073741824)) (i + 1) (by simp; omega) ((xs.getD i 0 * 2 ^ s) / 1073741824)
  rw [getD_set _ _ _ (by omega), if_neg (by omega), h.zero (i + 1) (by omega), hs1] at hs2
  have e3 : 1073741824 * (xs.getD i 0 * 2 ^ s / 1073741824) + xs.getD i 0 * 2 ^ s % 1073741824 = xs.getD i 0 * 2 ^ s := Int.mul_ediv_add_emod _ _
  have e5 : (Lmb.val (xs.take i) + pw i * xs.getD i 0) * 2 ^ s = Lmb.val (xs.take i) * 2 ^ s + pw i * (xs.getD i 0 * 2 ^ s) := by
    rw [Int.add_mul, Int.mul_assoc]
  generalize xs.getD i 0 * 2 ^ s = y at *
  generalize os.getD i 0 = o at *
  refine ⟨by simpa using hl, limbs_set (limbs_set h.limbs _ _ (by omega)) _ _ (by omega), ?_, ?_, fun t hlt => ?_⟩
  · have e4 : pw i * (1073741824 * (y / 1073741824) + y % 1073741824) = pw i * y := by rw [e3]
    rw [Int.mul_add, Int.mul_left_comm] at e4
    have ec : o + y % 1073741824 - o = y % 1073741824 := by omega
    rw [hs2, ht, e5, pw_succ, Int.sub_zero, ec, Int.mul_assoc]
    omega
  · rw [getD_set _ _ _ (by simp; omega), if_pos rfl]; exact hy
  · rw [getD_set _ _ _ (by simp; omega), if_neg (by omega), getD_set _ _ _ (by omega), if_neg (by omega)]
    exact h.zero t (by omega)
theorem ShiftInv.done {xs os : List Int} {s : Nat} (h : ShiftInv xs os s xs.length) : Lmb.val os = Lmb.val xs * 2 ^ s := by
  have := h.val
  rwa [List.take_of_length_le (Nat.le_refl _)] at this
structure BackInv (rs os : List Int) (s i : Nat) : Prop where
  len : os.length = rs.length
  limbs : Limbs os
  val : val (os.drop i) = val (rs.drop i) / 2 ^ s
theorem BackInv.start (rs : List Int) (s : Nat) : BackInv rs (List.replicate rs.length 0) s rs.length :=
  ⟨by simp, limbs_replicate _, by simp [val_nil]⟩
theorem BackInv.step {rs os : List Int} {s i : Nat} (h : BackInv rs os s (i + 1)) (hr : Limbs rs) (hs : s ≤ 29) (hi : i < rs.length) :
    BackInv rs (os.set i ((rs.getD (i + 1) 0 * 1073741824 + rs.getD i 0) / 2 ^ s % 1073741824)) s i := by
  have b0 := limbs_getD hr i
  have b1 := limbs_getD hr (i + 1)
  have hl := h.len
  have hv := h.val
  obtain ⟨c, c2, hc, p0, p1⟩ := two_pow_base hs
  have e1 := val_drop rs i hi
  have e2 := val_drop (os.set i ((rs.getD (i + 1) 0 * 1073741824 + rs.getD i 0) / 2 ^ s % 1073741824)) i (by simp; omega)
  have e3 : (os.set i ((rs.getD (i + 1) 0 * 1073741824 + rs.getD i 0) / 2 ^ s % 1073741824)).drop (i + 1) = os.drop (i + 1) := by rw [List.drop_set_of_lt (by omega)]
  rw [getD_set _ _ _ (by omega), if_pos rfl, e3, hv] at e2
  refine ⟨by simpa using hl, limbs_set h.limbs _ _ (by omega), ?_⟩
  rw [e2, e1]
  have e4 : ∃ X, Lmb.val (rs.drop (i + 1)) = rs.getD (i + 1) 0 + 1073741824 * X := by
    by_cases h1 : i + 1 < rs.length
    · exact ⟨_, val_drop rs (i + 1) h1⟩
    · refine ⟨0, ?_⟩
      rw [List.drop_of_length_le (by omega)]
      have : rs.getD (i + 1) 0 = 0 := by simp [List.getD, show rs.length ≤ i + 1 by omega]
      rw [this]; rfl
  obtain ⟨X, hX⟩ := e4
  rw [hX]
  generalize rs.getD (i + 1) 0 = a at *
  generalize rs.getD i 0 = b at *
  generalize (2 : Int) ^ s = p at *
  rw [← hc]
  have hp : p ≠ 0 := by omega
  have f1 : (a + p * c * X) / p = a / p + c * X := by
    rw [Int.mul_assoc, Int.add_mul_ediv_left _ _ hp]
  have f2 : (b + p * c * (a + p * c * X)) / p = b / p + c * (a + p * c * X) := by
    rw [Int.mul_assoc p c (a + p * c * X), Int.add_mul_ediv_left _ _ hp]
  have f3 : (a * (p * c) + b) / p = b / p + c * a := by
    rw [Int.add_comm, Int.mul_left_comm, Int.add_mul_ediv_left _ _ hp, Int.mul_comm a c]
  rw [f1, f2, f3]
  have q1 := Int.mul_ediv_add_emod a p
  have z0 := Int.emod_nonneg a hp
  have z1 := Int.emod_lt_of_pos a (show 0 < p by omega)
  have y0 : 0 ≤ b / p := Int.ediv_nonneg b0.1 (by omega)
  have y1 : b / p < c := Int.ediv_lt_of_lt_mul (by omega) (by rw [Int.mul_comm]; omega)
  generalize a / p = q at *
  generalize a % p = z at *
  generalize b / p = y at *
  have g1 : c * z ≤ c * (p - 1) := Int.mul_le_mul_of_nonneg_left (by omega) (by omega)
  have g2 : 0 ≤ c * z := Int.mul_nonneg (by omega) z0
  have g3 : c * (p - 1) = p * c - c := by rw [Int.mul_sub, Int.mul_one, Int.mul_comm]
  have g4 : y + c * a = (y + c * z) + p * c * q := by
    rw [← q1, Int.mul_add]
    have : c * (p * q) = p * c * q := by rw [← Int.mul_assoc, Int.mul_comm c p]
    omega
  have g5 : (y + c * a) % (p * c) = y + c * z := by
    rw [g4, Int.add_mul_emod_self_left]
    exact Int.emod_eq_of_lt (by omega) (by omega)
  rw [g5]
  have g6 : c * (a + p * c * X) = c * z + p * c * q + p * c * (c * X) := by
    rw [Int.mul_add, ← q1, Int.mul_add]
    have t1 : c * (p * q) = p * c * q := by rw [← Int.mul_assoc, Int.mul_comm c p]
    have t2 : c * (p * c * X) = p * c * (c * X) := by simp only [Int.mul_assoc, Int.mul_left_comm]
    omega
  rw [g6, Int.mul_add]
  omega
theorem BackInv.done {rs os : List Int} {s R : Nat} (h : BackInv rs os s 0) (hr : Lmb.val rs = R) : Dig (trim os) (R / 2 ^ s) := by
  have hv := h.val
  rw [List.drop_zero, List.drop_zero, hr] at hv
  have hd := dig_trim h.limbs
  rw [hv] at hd
  have e : ((R : Int) / 2 ^ s).toNat = R / 2 ^ s := by
    have : ((2 ^ s : Nat) : Int) = (2 : Int) ^ s := by simp
    rw [← this, ← Int.natCast_ediv]; rfl
  rwa [e] at hd
end Go.Proofs.YtabgkfjfmjdfiaaGreatDoor.Lmb


/- Long division: the beginning and the end. -/
namespace Go.Proofs.YtabgkfjfmjdfiaaGreatDoor.Lmb
theorem lead_room {y : Int} {L : Nat} (hy : y < 2 ^ L) (hL : L ≤ 30) : (y + 1) * 2 ^ (30 - L) ≤ 1073741824 := by
  have e : (2 : Int) ^ L * 2 ^ (30 - L) = 1073741824 := by
    rw [← Int.pow_add]
    have : L + (30 - L) = 30 := by omega
    rw [this]; decide
  have hp : 0 < (2 : Int) ^ (30 - L) := Int.pow_pos (by decide)
  rw [← e]
  exact Int.mul_le_mul_of_nonneg_right (by omega) (by omega)
theorem divisor_of {ys vs : List Int} {s n : Nat} (hn : 2 ≤ n) (hl : ys.length = n) (ly : Limbs ys) (ny : Norm ys) (h : ShiftInv ys vs s ys.length) (hs : s ≤ 29) (hr : (ys.getD (n - 1) 0 + 1) * 2 ^ s ≤ 1073741824) :
    Divisor vs (val ys * 2 ^ s) n := by
  obtain ⟨c, _, _, p0, p1⟩ := two_pow_base hs
  have hv := h.done
  have e0 := val_split ys (n - 1) (by omega)
  have e1 := val_drop ys (n - 1) (by omega)
  have i1 : n - 1 + 1 = n := by omega
  have z1 : ys.drop n = [] := List.drop_of_length_le (by omega)
  rw [i1, z1, val_nil, Int.mul_zero, Int.add_zero] at e1
  have t1 := val_lt (limbs_take ly (n - 1))
  rw [List.length_take, Nat.min_eq_left (by omega)] at t1
  have hpos := val_pos ly ny (fun h0 => by rw [h0, List.length_nil] at hl; omega)
  rw [hl] at hpos
  have hp := pw_pos (n - 1)
  have hpn : pw n = 1073741824 * pw (n - 1) := by rw [← pw_succ, i1]
  have b := limbs_getD ly (n - 1)
  have hlt : val ys * 2 ^ s < pw n := by
    have h1 : val ys < pw (n - 1) * (ys.getD (n - 1) 0 + 1) := by
      rw [e0, e1, Int.mul_add (pw (n - 1)) _ 1]; omega
    have h2 : val ys * 2 ^ s < pw (n - 1) * (ys.getD (n - 1) 0 + 1) * 2 ^ s := Int.mul_lt_mul_of_pos_right h1 (by omega)
    have h3 : pw (n - 1) * (ys.getD (n - 1) 0 + 1) * 2 ^ s = pw (n - 1) * ((ys.getD (n - 1) 0 + 1) * 2 ^ s) := Int.mul_assoc _ _ _
    have h4 : pw (n - 1) * ((ys.getD (n - 1) 0 + 1) * 2 ^ s) ≤ pw (n - 1) * 1073741824 := Int.mul_le_mul_of_nonneg_left hr (by omega)
    rw [hpn]; omega
  refine ⟨by rw [h.len, hl], h.limbs, hv, hlt, hn, ?_⟩
  have bl := limbs_getD h.limbs (n - 1)
  rcases (show vs.getD (n - 1) 0 = 0 ∨ 1 ≤ vs.getD (n - 1) 0 by omega) with hz | hz
  · exfalso
    have hlen := h.len
    have f0 := val_split vs (n - 1) (by omega)
    have f1 := val_drop vs (n - 1) (by omega)
    rw [i1, hz] at f1
    have u1 := val_lt (limbs_take h.limbs (n - 1))
    rw [List.length_take, Nat.min_eq_left (by omega)] at u1
    have u0 := val_nonneg (limbs_drop h.limbs n)
    have ge : pw (n - 1) * 1 ≤ val ys * 2 ^ s := Int.mul_le_mul hpos p0 (by omega) (by omega)
    have u2 := val_nonneg (limbs_take h.limbs (n - 1))
    rw [f1] at f0
    rcases (show val (vs.drop n) = 0 ∨ 1 ≤ val (vs.drop n) by omega) with hd | hd
    · rw [hd] at f0; omega
    · have : pw (n - 1) * (1073741824 * 1) ≤ pw (n - 1) * (0 + 1073741824 * val (vs.drop n)) := Int.mul_le_mul_of_nonneg_left (by omega) (by omega)
      omega
  · exact hz
theorem div_start {xs ys us : List Int} {s n : Nat} (hn : 1 ≤ n) (hl : ys.length = n) (hxl : n ≤ xs.length) (lx : Limbs xs) (ly : Limbs ys) (ny : Norm ys) (h : ShiftInv xs us s xs.length) (hs : s ≤ 29) :
    DivInv (val xs * 2 ^ s) (val ys * 2 ^ s) us (List.replicate (xs.length - n + 1) 0) (xs.length + 1) (xs.length - n + 1) (xs.length - n + 1) := by
  obtain ⟨c, _, _, p0, p1⟩ := two_pow_base hs
  have hv := h.done
  have hpos := val_pos ly ny (fun h0 => by rw [h0, List.length_nil] at hl; omega)
  rw [hl] at hpos
  have hx := val_lt lx
  have e : pw (xs.length - n + 1) * pw (n - 1) = pw xs.length := by rw [← pw_add]; congr 1; omega
  refine ⟨h.len, by simp, h.limbs, limbs_replicate _, ?_, ?_⟩
  · rw [List.drop_of_length_le (by simp), val_nil, Int.zero_mul, Int.zero_add, hv]
  · rw [hv]
    have h1 : val xs * 2 ^ s < pw xs.length * 2 ^ s := Int.mul_lt_mul_of_pos_right hx (by omega)
    have h2 : pw (n - 1) * 2 ^ s ≤ val ys * 2 ^ s := Int.mul_le_mul_of_nonneg_right hpos (by omega)
    have h3 : pw (xs.length - n + 1) * (pw (n - 1) * 2 ^ s) ≤ pw (xs.length - n + 1) * (val ys * 2 ^ s) := Int.mul_le_mul_of_nonneg_left h2 (Int.le_of_lt (pw_pos _))
    rw [← Int.mul_assoc, e] at h3
    omega
theorem div_end {xs ys us qs : List Int} {s m n lu lq : Nat} (hx : val xs = m) (hy : val ys = n) (hn : 0 < n) (hs : s ≤ 29) (h : DivInv (val xs * 2 ^ s) (val ys * 2 ^ s) us qs lu lq 0) :
    Dig (trim qs) (m / n) ∧ val us = ((m % n * 2 ^ s : Nat) : Int) := by
  obtain ⟨c, _, _, p0, p1⟩ := two_pow_base hs
  have he := h.eq
  have hlt := h.lt
  have hu := val_nonneg h.ulimbs
  have hq := val_nonneg h.qlimbs
  have hd := dig_trim h.qlimbs
  rw [List.drop_zero, pw_zero, Int.one_mul, hx, hy] at he
  rw [pw_zero, Int.one_mul, hy] at hlt
  obtain ⟨q, hq'⟩ := Int.eq_ofNat_of_zero_le hq
  rw [hq'] at he hd
  have ep : ((2 ^ s : Nat) : Int) = (2 : Int) ^ s := by simp
  have e1 : val us = ((m : Int) - q * n) * 2 ^ s := by
    rw [Int.sub_mul, Int.mul_assoc]; omega
  have hr0 : 0 ≤ (m : Int) - q * n := by
    rcases Int.lt_or_le ((m : Int) - q * n) 0 with hc | hc
    · have : ((m : Int) - q * n) * 2 ^ s ≤ (-1) * 2 ^ s := Int.mul_le_mul_of_nonneg_right (by omega) (by omega)
      omega
    · exact hc
  have hr1 : (m : Int) - q * n < n := by
    rcases Int.lt_or_le ((m : Int) - q * n) n with hc | hc
    · exact hc
    · have : (n : Int) * 2 ^ s ≤ ((m : Int) - q * n) * 2 ^ s := Int.mul_le_mul_of_nonneg_right hc (by omega)
      omega
  obtain ⟨r, hr⟩ := Int.eq_ofNat_of_zero_le hr0
  rw [hr] at hr1 e1
  have hm : m = q * n + r := by
    have : ((m : Nat) : Int) = ((q * n + r : Nat) : Int) := by rw [Int.natCast_add, Int.natCast_mul]; omega
    omega
  have hrn : r < n := by omega
  have d1 : m / n = q := by rw [hm, Nat.add_comm, Nat.add_mul_div_right _ _ hn, Nat.div_eq_of_lt hrn]; omega
  have d2 : m % n = r := by rw [hm, Nat.add_comm, Nat.add_mul_mod_self_right, Nat.mod_eq_of_lt hrn]
  rw [d1, d2]
  refine ⟨by simpa using hd, ?_⟩
  rw [e1, Int.natCast_mul, ep]
theorem div_low {A V : Int} {us qs : List Int} {n lu lq : Nat} (h : DivInv A V us qs lu lq 0) (hV : V < pw n) (hl : n ≤ lu) : val (us.take n) = val us := by
  have hlt := h.lt
  rw [pw_zero, Int.one_mul] at hlt
  have e := val_split us n (by rw [h.ulen]; exact hl)
  have t0 := val_nonneg (limbs_take h.ulimbs n)
  have d0 := val_nonneg (limbs_drop h.ulimbs n)
  have hp := pw_pos n
  rcases (show val (us.drop n) = 0 ∨ 1 ≤ val (us.drop n) by omega) with hd | hd
  · rw [hd] at e; omega
  · exfalso
    have : pw n * 1 ≤ pw n * val (us.drop n) := Int.mul_le_mul_of_nonneg_left hd (by omega)
    omega
end Go.Proofs.YtabgkfjfmjdfiaaGreatDoor.Lmb
