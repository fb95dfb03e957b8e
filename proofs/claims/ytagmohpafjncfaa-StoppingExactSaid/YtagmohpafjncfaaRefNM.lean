/- Plain laws of the reference's arithmetic with limbs: sum, quotient, greatest common divisor. No program is in sight. -/
import Derived.Test.YtagmohpafjncfaaSubMath
import Derived.Test.YtagmohpafjncfaaMulMath
import Derived.Test.YtagmohpafjncfaaSmallMath
set_option linter.unusedSimpArgs false
namespace Go.Proofs.Ytagmohpafjncfaa.Lmb
theorem norm_of_ge {xs : List Int} (h : Limbs xs) (hv : xs ≠ [] → pw (xs.length - 1) ≤ val xs) : Norm xs := by
  intro x hx hz
  subst hz
  have hne : xs ≠ [] := by rintro rfl; simp at hx
  have hl := hv hne
  have e : xs = xs.dropLast ++ [0] := by
    have h1 := List.dropLast_concat_getLast hne
    rw [List.getLast?_eq_some_getLast hne, Option.some.injEq] at hx
    rw [hx] at h1
    exact h1.symm
  have hd : Limbs xs.dropLast := fun y hy => h y (List.dropLast_subset _ hy)
  have h2 := val_lt hd
  rw [e, val_append] at hl
  simp only [val_cons, val_nil, List.length_append, List.length_dropLast, List.length_cons, List.length_nil] at hl h2
  have h3 : xs.length - 1 + (0 + 1) - 1 = xs.length - 1 := by omega
  rw [h3] at hl
  simp at hl
  omega
structure PlusInv (xs ys os : List Int) (i : Nat) (c : Int) : Prop where
  len : os.length = i
  limbs : Limbs os
  c0 : 0 ≤ c
  c1 : c ≤ 1
  eq : val os + pw i * c = val (xs.take i) + val (ys.take i)
  tight : i ≤ max xs.length ys.length ∨ (i = max xs.length ys.length + 1 ∧ c = 0 ∧ pw (i - 1) ≤ val os)
theorem PlusInv.start (xs ys : List Int) : PlusInv xs ys [] 0 0 := ⟨rfl, limbs_nil, by omega, by omega, by simp [val_nil], .inl (Nat.zero_le _)⟩
theorem PlusInv.step {xs ys os : List Int} {i : Nat} {c : Int} (h : PlusInv xs ys os i c) (hx : Limbs xs) (hy : Limbs ys) (hg : i < xs.length ∨ i < ys.length ∨ 0 < c) :
    PlusInv xs ys (os ++ [(xs.getD i 0 + ys.getD i 0 + c) % 1073741824]) (i + 1) ((xs.getD i 0 + ys.getD i 0 + c) / 1073741824) := by
  have bx := limbs_getD hx i
  have bY := limbs_getD hy i
  have c0 := h.c0
  have c1 := h.c1
  have e1 := val_take_next xs i
  have e2 := val_take_next ys i
  have hl := h.len
  generalize ht : xs.getD i 0 + ys.getD i 0 + c = t
  have hd := Int.emod_add_mul_ediv t 1073741824
  refine ⟨by simp [hl], ?_, by omega, by omega, ?_, ?_⟩
  · rw [limbs_append]
    refine ⟨h.limbs, ?_⟩
    rw [limbs_cons]
    exact ⟨by omega, limbs_nil⟩
  · rw [val_append, e1, e2, hl, pw_succ]
    simp only [val_cons, val_nil, Int.mul_zero, Int.add_zero]
    have heq := h.eq
    have k1 : pw i * (t % 1073741824) + 1073741824 * pw i * (t / 1073741824) = pw i * t := by
      rw [Int.mul_comm 1073741824, Int.mul_assoc, ← Int.mul_add, hd]
    have k2 : pw i * t = pw i * xs.getD i 0 + pw i * ys.getD i 0 + pw i * c := by rw [← ht, Int.mul_add, Int.mul_add]
    omega
  · rcases h.tight with h1 | ⟨h1, h2, _⟩
    · by_cases hm : i < max xs.length ys.length
      · exact .inl (by omega)
      · refine .inr ⟨by omega, ?_, ?_⟩
        · have z1 : xs.getD i 0 = 0 := by simp [List.getD, show xs.length ≤ i by omega]
          have z2 : ys.getD i 0 = 0 := by simp [List.getD, show ys.length ≤ i by omega]
          omega
        · have z1 : xs.getD i 0 = 0 := by simp [List.getD, show xs.length ≤ i by omega]
          have z2 : ys.getD i 0 = 0 := by simp [List.getD, show ys.length ≤ i by omega]
          have hc : c = 1 := by omega
          have htt : t = 1 := by omega
          subst htt
          rw [val_append, hl]
          simp only [val_cons, val_nil, Int.mul_zero, Int.add_zero, Nat.add_sub_cancel]
          have := val_nonneg h.limbs
          have e3 : (1 : Int) % 1073741824 = 1 := by decide
          rw [e3, Int.mul_one]
          omega
    · rcases hg with hg | hg | hg <;> omega
theorem PlusInv.done {xs ys os : List Int} {i m n : Nat} {c : Int} (h : PlusInv xs ys os i c) (hx : Dig xs m) (hy : Dig ys n) (h1 : xs.length ≤ i) (h2 : ys.length ≤ i) (hc : c ≤ 0) : Dig os (m + n) := by
  have c0 := h.c0
  have hc : c = 0 := by omega
  subst hc
  have heq := h.eq
  rw [val_take_all _ _ h1, val_take_all _ _ h2, hx.val, hy.val, Int.mul_zero, Int.add_zero] at heq
  refine ⟨h.limbs, norm_of_ge h.limbs fun hne => ?_, by omega⟩
  have hlen := h.len
  have h0 : 0 < os.length := List.length_pos_iff.2 hne
  rcases h.tight with ht | ⟨_, _, ht⟩
  · have hi : i = max xs.length ys.length := by omega
    rw [heq, hlen]
    rcases Nat.le_total xs.length ys.length with hle | hle
    · have e : i = ys.length := by omega
      have : ¬ (n : Int) < pw (ys.length - 1) := fun hlt => by have := (hy.len_le (ys.length - 1)).2 hlt; omega
      rw [e]; omega
    · have e : i = xs.length := by omega
      have : ¬ (m : Int) < pw (xs.length - 1) := fun hlt => by have := (hx.len_le (xs.length - 1)).2 hlt; omega
      rw [e]; omega
  · rwa [hlen]
structure SplitInv (xs qs : List Int) (j : Nat) (n r : Nat) : Prop where
  len : qs.length = xs.length
  limbs : Limbs qs
  eq : val (xs.drop j) = val (qs.drop j) * n + r
  lt : r < n
theorem SplitInv.start (xs : List Int) {n : Nat} (hn : 0 < n) : SplitInv xs (List.replicate xs.length 0) xs.length n 0 :=
  ⟨by simp, limbs_replicate _, by simp [val_nil], hn⟩
theorem SplitInv.step {xs qs : List Int} {j n r : Nat} (h : SplitInv xs qs (j + 1) n r) (hx : Limbs xs) (hj : j < xs.length) {d r' : Nat} (hd : (xs.getD j 0).toNat + 1073741824 * r = d * n + r') (hr : r' < n) :
    SplitInv xs (qs.set j d) j n r' ∧ d < 1073741824 := by
  have bx := limbs_getD hx j
  have hl := h.len
  have hlt := h.lt
  have hdl : d < 1073741824 := by
    have h1 : d * n < 1073741824 * n := by
      have : 1073741824 * r + 1073741824 ≤ 1073741824 * n := by
        have := Nat.mul_le_mul_left 1073741824 (Nat.succ_le_of_lt hlt)
        omega
      omega
    exact Nat.lt_of_mul_lt_mul_right h1
  refine ⟨⟨by simpa using hl, limbs_set h.limbs _ _ (by omega), ?_, hr⟩, hdl⟩
  have hj2 : j < qs.length := by omega
  rw [val_drop xs j hj, h.eq, val_drop (qs.set j d) j (by simpa using hj2)]
  have e1 : (qs.set j (d : Int)).getD j 0 = d := by simp [List.getD, hj2]
  have e2 : (qs.set j (d : Int)).drop (j + 1) = qs.drop (j + 1) := List.drop_set_of_lt (by omega)
  rw [e1, e2, Int.add_mul]
  have e3 : xs.getD j 0 + 1073741824 * (r : Int) = (d : Int) * n + r' := by
    have := congrArg (Nat.cast (R := Int)) hd
    simp only [Int.natCast_add, Int.natCast_mul] at this
    omega
  rw [Int.mul_add, Int.mul_assoc]
  omega
theorem SplitInv.done {xs qs : List Int} {m n r : Nat} (h : SplitInv xs qs 0 n r) (hx : val xs = m) : Dig (trim qs) (m / n) ∧ r = m % n := by
  have h1 := h.eq
  have hq := val_nonneg h.limbs
  rw [List.drop_zero, List.drop_zero, hx] at h1
  obtain ⟨q, hq'⟩ := Int.eq_ofNat_of_zero_le hq
  rw [hq'] at h1
  have h2 : m = q * n + r := by
    have : (m : Int) = ((q * n + r : Nat) : Int) := by rw [h1]; simp
    omega
  have hn : 0 < n := by have := h.lt; omega
  have e1 : m / n = q := by
    rw [h2, Nat.mul_comm, Nat.mul_add_div hn, Nat.div_eq_of_lt h.lt, Nat.add_zero]
  have e2 : m % n = r := by
    rw [h2, Nat.mul_comm, Nat.mul_add_mod, Nat.mod_eq_of_lt h.lt]
  refine ⟨?_, e2.symm⟩
  have := dig_trim h.limbs
  rw [hq'] at this
  rw [e1]
  simpa using this
/-! halving, for the greatest common divisor -/
theorem gcd_half {a b : Nat} (ho : Nat.gcd a b % 2 = 1) (he : a % 2 = 0) : Nat.gcd (a / 2) b = Nat.gcd a b := by
  obtain ⟨c, rfl⟩ : ∃ c, a = 2 * c := ⟨a / 2, by omega⟩
  have e : 2 * c / 2 = c := by omega
  rw [e]
  refine Nat.dvd_antisymm ?_ ?_
  · exact Nat.dvd_gcd (Nat.dvd_trans (Nat.gcd_dvd_left c b) (Nat.dvd_mul_left c 2)) (Nat.gcd_dvd_right c b)
  · refine Nat.dvd_gcd ?_ (Nat.gcd_dvd_right _ _)
    have h1 : Nat.gcd (2 * c) b ∣ 2 * c := Nat.gcd_dvd_left _ _
    have h2 : Nat.Coprime (Nat.gcd (2 * c) b) 2 := by
      unfold Nat.Coprime
      have h3 : Nat.gcd (Nat.gcd (2 * c) b) 2 ∣ 2 := Nat.gcd_dvd_right _ _
      have h4 : Nat.gcd (Nat.gcd (2 * c) b) 2 ∣ Nat.gcd (2 * c) b := Nat.gcd_dvd_left _ _
      have h5 : Nat.gcd (Nat.gcd (2 * c) b) 2 ≤ 2 := Nat.le_of_dvd (by decide) h3
      generalize Nat.gcd (Nat.gcd (2 * c) b) 2 = x at h3 h4 h5 ⊢
      generalize Nat.gcd (2 * c) b = g at ho h4
      obtain ⟨y, rfl⟩ := h4
      rcases (show x = 0 ∨ x = 1 ∨ x = 2 by omega) with rfl | rfl | rfl
      · simp at ho
      · rfl
      · omega
    exact Nat.Coprime.dvd_of_dvd_mul_left h2 h1
theorem gcd_half' {a b : Nat} (ho : Nat.gcd a b % 2 = 1) (he : b % 2 = 0) : Nat.gcd a (b / 2) = Nat.gcd a b := by
  rw [Nat.gcd_comm a, Nat.gcd_comm a]
  exact gcd_half (by rwa [Nat.gcd_comm]) he
theorem gcd_sub {a b : Nat} (h : b ≤ a) : Nat.gcd (a - b) b = Nat.gcd a b := by
  obtain ⟨c, rfl⟩ := Nat.exists_eq_add_of_le h
  rw [Nat.add_sub_cancel_left, Nat.gcd_comm, Nat.gcd_comm (b + c)]
  simp
theorem gcd_twos {a b : Nat} (ha : a % 2 = 0) (hb : b % 2 = 0) : 2 * Nat.gcd (a / 2) (b / 2) = Nat.gcd a b := by
  obtain ⟨c, rfl⟩ : ∃ c, a = 2 * c := ⟨a / 2, by omega⟩
  obtain ⟨d, rfl⟩ : ∃ d, b = 2 * d := ⟨b / 2, by omega⟩
  rw [show 2 * c / 2 = c by omega, show 2 * d / 2 = d by omega, Nat.gcd_mul_left]
theorem gcd_odd {a b : Nat} (h : ¬ (a % 2 = 0 ∧ b % 2 = 0)) : Nat.gcd a b % 2 = 1 := by
  rcases Nat.mod_two_eq_zero_or_one (Nat.gcd a b) with h0 | h0
  · exfalso
    have h2 : 2 ∣ Nat.gcd a b := Nat.dvd_of_mod_eq_zero h0
    exact h ⟨Nat.mod_eq_zero_of_dvd (Nat.dvd_trans h2 (Nat.gcd_dvd_left a b)), Nat.mod_eq_zero_of_dvd (Nat.dvd_trans h2 (Nat.gcd_dvd_right a b))⟩
  · exact h0
theorem even_limb {xs : List Int} {n : Nat} (h : Dig xs n) : xs.getD 0 0 % 2 = ((n % 2 : Nat) : Int) := by
  have hv := h.val
  cases xs with
  | nil =>
    rw [val_nil] at hv
    obtain rfl : n = 0 := by omega
    rfl
  | cons x r =>
    rw [val_cons] at hv
    simp only [List.getD_cons_zero]
    omega
/-! difference -/
def dI (x : Int) : Int := if x < 0 then x + 1073741824 else x
def cI (x : Int) : Int := if x < 0 then 1 else 0
structure LessInv (xs ys os : List Int) (i : Nat) (c : Int) : Prop where
  len : os.length = i
  limbs : Limbs os
  c0 : 0 ≤ c
  c1 : c ≤ 1
  eq : val os - pw i * c = val (xs.take i) - val (ys.take i)
theorem LessInv.start (xs ys : List Int) : LessInv xs ys [] 0 0 := ⟨rfl, limbs_nil, by omega, by omega, by simp [val_nil]⟩
theorem LessInv.step {xs ys os : List Int} {i : Nat} {c : Int} (h : LessInv xs ys os i c) (hx : Limbs xs) (hy : Limbs ys) :
    LessInv xs ys (os ++ [dI (xs.getD i 0 - ys.getD i 0 - c)]) (i + 1) (cI (xs.getD i 0 - ys.getD i 0 - c)) := by
  have bx := limbs_getD hx i
  have bY := limbs_getD hy i
  have c0 := h.c0
  have c1 := h.c1
  have e1 := val_take_next xs i
  have e2 := val_take_next ys i
  have hl := h.len
  generalize ht : xs.getD i 0 - ys.getD i 0 - c = t
  have hd : dI t - 1073741824 * cI t = t := by unfold dI cI; split <;> omega
  have hd0 : 0 ≤ dI t ∧ dI t < 1073741824 := by unfold dI; split <;> omega
  have hc : 0 ≤ cI t ∧ cI t ≤ 1 := by unfold cI; split <;> omega
  refine ⟨by simp [hl], ?_, hc.1, hc.2, ?_⟩
  · rw [limbs_append]
    refine ⟨h.limbs, ?_⟩
    rw [limbs_cons]
    exact ⟨hd0, limbs_nil⟩
  · rw [val_append, e1, e2, hl, pw_succ]
    simp only [val_cons, val_nil, Int.mul_zero, Int.add_zero]
    have heq := h.eq
    have k1 : pw i * dI t - 1073741824 * pw i * cI t = pw i * t := by
      rw [Int.mul_comm 1073741824, Int.mul_assoc, ← Int.mul_sub, hd]
    have k2 : pw i * t = pw i * xs.getD i 0 - pw i * ys.getD i 0 - pw i * c := by rw [← ht, Int.mul_sub, Int.mul_sub]
    omega
theorem LessInv.done {xs ys os : List Int} {m n : Nat} {c : Int} (h : LessInv xs ys os xs.length c) (hx : Dig xs m) (hy : Dig ys n) (hle : n ≤ m) : (val os).toNat = m - n := by
  have hlen := hy.mono_len hx hle
  have heq := h.eq
  have hlt := val_lt h.limbs
  have c0 := h.c0
  have c1 := h.c1
  rw [h.len] at hlt
  rw [val_take_all _ _ (Nat.le_refl _), val_take_all _ _ hlen, hx.val, hy.val] at heq
  rcases (show c = 0 ∨ c = 1 by omega) with rfl | rfl
  · rw [Int.mul_zero] at heq
    omega
  · rw [Int.mul_one] at heq
    omega
end Go.Proofs.Ytagmohpafjncfaa.Lmb
