/- Plain laws of numbers that are kept as limbs to the base 2^30, the least significant one first. No program is in sight. -/
import Derived.Below
namespace Go.Proofs.YtpkmnggfomllhaaDoor.Lmb
def val : List Int → Int
  | [] => 0
  | x :: r => x + 1073741824 * val r
def Limbs (xs : List Int) : Prop := ∀ x ∈ xs, 0 ≤ x ∧ x < 1073741824
def Norm (xs : List Int) : Prop := ∀ x, xs.getLast? = some x → x ≠ 0
structure Dig (xs : List Int) (n : Nat) : Prop where
  limbs : Limbs xs
  norm : Norm xs
  val : val xs = n
theorem limbs_nil : Limbs [] := by intro x hx; cases hx
theorem limbs_cons {x : Int} {r : List Int} : Limbs (x :: r) ↔ (0 ≤ x ∧ x < 1073741824) ∧ Limbs r := by
  simp [Limbs]
theorem limbs_append {a b : List Int} : Limbs (a ++ b) ↔ Limbs a ∧ Limbs b := by
  simp only [Limbs, List.mem_append]
  constructor
  · intro h; exact ⟨fun x hx => h x (Or.inl hx), fun x hx => h x (Or.inr hx)⟩
  · rintro ⟨h, k⟩ x (hx | hx)
    · exact h x hx
    · exact k x hx
theorem limbs_getD {xs : List Int} (h : Limbs xs) (i : Nat) : 0 ≤ xs.getD i 0 ∧ xs.getD i 0 < 1073741824 := by
  by_cases hi : i < xs.length
  · have : xs.getD i 0 = xs[i] := by simp [List.getD, hi]
    rw [this]; exact h _ (List.getElem_mem hi)
  · have : xs.getD i 0 = 0 := by simp [List.getD, Nat.le_of_not_lt hi]
    rw [this]; omega
theorem limbs_take {xs : List Int} (h : Limbs xs) (k : Nat) : Limbs (xs.take k) := fun x hx => h x (List.mem_of_mem_take hx)
theorem limbs_drop {xs : List Int} (h : Limbs xs) (k : Nat) : Limbs (xs.drop k) := fun x hx => h x (List.mem_of_mem_drop hx)
theorem limbs_set {xs : List Int} (h : Limbs xs) (k : Nat) (v : Int) (hv : 0 ≤ v ∧ v < 1073741824) : Limbs (xs.set k v) := by
  intro x hx
  rcases List.mem_or_eq_of_mem_set hx with hx | rfl
  · exact h x hx
  · exact hv
theorem limbs_replicate (n : Nat) : Limbs (List.replicate n 0) := by
  intro x hx; rw [List.mem_replicate] at hx; omega
def pw (k : Nat) : Int := 1073741824 ^ k
theorem pw_zero : pw 0 = 1 := rfl
theorem pw_succ (k : Nat) : pw (k + 1) = 1073741824 * pw k := by unfold pw; rw [Int.pow_succ, Int.mul_comm]
theorem pw_pos (k : Nat) : 0 < pw k := by
  induction k with
  | zero => decide
  | succ k ih => rw [pw_succ]; omega
theorem pw_add (a b : Nat) : pw (a + b) = pw a * pw b := by unfold pw; rw [Int.pow_add]
theorem pw_mono {a b : Nat} (h : a ≤ b) : pw a ≤ pw b := by
  obtain ⟨c, rfl⟩ := Nat.exists_eq_add_of_le h
  rw [pw_add]
  have h1 := pw_pos a
  have h2 := pw_pos c
  have := Int.mul_le_mul_of_nonneg_left (show (1 : Int) ≤ pw c by omega) (Int.le_of_lt h1)
  omega
attribute [irreducible] pw
theorem val_nil : val [] = 0 := rfl
theorem val_cons (x : Int) (r : List Int) : val (x :: r) = x + 1073741824 * val r := rfl
theorem val_append (a b : List Int) : val (a ++ b) = val a + pw a.length * val b := by
  induction a with
  | nil => simp [val_nil, pw_zero]
  | cons x r ih =>
    rw [List.cons_append, val_cons, val_cons, ih, List.length_cons, pw_succ, Int.mul_add, Int.mul_assoc, Int.add_assoc]
theorem val_nonneg {xs : List Int} (h : Limbs xs) : 0 ≤ val xs := by
  induction xs with
  | nil => simp [val_nil]
  | cons x r ih =>
    rw [limbs_cons] at h
    have := ih h.2
    rw [val_cons]; omega
theorem val_lt {xs : List Int} (h : Limbs xs) : val xs < pw xs.length := by
  induction xs with
  | nil => simp [val_nil, pw_zero]
  | cons x r ih =>
    rw [limbs_cons] at h
    have := ih h.2
    rw [val_cons, List.length_cons, pw_succ]; omega
theorem val_replicate (n : Nat) : val (List.replicate n 0) = 0 := by
  induction n with
  | zero => rfl
  | succ n ih => rw [List.replicate_succ, val_cons, ih]; rfl
theorem norm_nil : Norm [] := by intro x h; simp at h
theorem norm_cons {x y : Int} {r : List Int} : Norm (x :: y :: r) ↔ Norm (y :: r) := by
  simp [Norm, List.getLast?_cons_cons]
theorem norm_one {x : Int} : Norm [x] ↔ x ≠ 0 := by
  simp [Norm]
theorem val_pos {xs : List Int} (h : Limbs xs) (hn : Norm xs) (hne : xs ≠ []) : pw (xs.length - 1) ≤ val xs := by
  induction xs with
  | nil => exact absurd rfl hne
  | cons x r ih =>
    rw [limbs_cons] at h
    cases r with
    | nil =>
      rw [norm_one] at hn
      simp [val_cons, val_nil, pw_zero]; omega
    | cons y s =>
      have := ih h.2 (norm_cons.1 hn) (by simp)
      rw [val_cons]
      simp only [List.length_cons, Nat.add_sub_cancel] at this ⊢
      rw [pw_succ]; omega
theorem val_eq_zero {xs : List Int} (h : Limbs xs) (hn : Norm xs) : val xs = 0 ↔ xs = [] := by
  constructor
  · intro hv
    by_cases hne : xs = []
    · exact hne
    · have h1 := val_pos h hn hne
      have h2 := pw_pos (xs.length - 1)
      omega
  · rintro rfl; rfl
theorem val_inj {xs : List Int} : ∀ {ys : List Int}, Limbs xs → Limbs ys → Norm xs → Norm ys → val xs = val ys → xs = ys := by
  induction xs with
  | nil =>
    intro ys _ hy _ ny hv
    exact ((val_eq_zero hy ny).1 hv.symm).symm
  | cons x r ih =>
    intro ys hx hy nx ny hv
    cases ys with
    | nil => exact (val_eq_zero hx nx).1 hv
    | cons y s =>
      rw [limbs_cons] at hx hy
      rw [val_cons, val_cons] at hv
      have hr := val_nonneg hx.2
      have hs := val_nonneg hy.2
      have e1 : x = y := by omega
      have e2 : val r = val s := by omega
      have nr : Norm r := by cases r with
        | nil => exact norm_nil
        | cons => exact norm_cons.1 nx
      have ns : Norm s := by cases s with
        | nil => exact norm_nil
        | cons => exact norm_cons.1 ny
      rw [e1, ih hx.2 hy.2 nr ns e2]
theorem Dig.inj {xs ys : List Int} {n m : Nat} (h : Dig xs n) (k : Dig ys m) : xs = ys ↔ n = m := by
  constructor
  · rintro rfl
    have := h.val.symm.trans k.val
    omega
  · rintro rfl
    exact val_inj h.limbs k.limbs h.norm k.norm (h.val.trans k.val.symm)
theorem Dig.len_zero {xs : List Int} {n : Nat} (h : Dig xs n) : xs.length = 0 ↔ n = 0 := by
  rw [List.length_eq_zero_iff, ← val_eq_zero h.limbs h.norm, h.val]; omega
theorem Dig.nil : Dig [] 0 := ⟨limbs_nil, norm_nil, rfl⟩
theorem Dig.lt {xs : List Int} {n : Nat} (h : Dig xs n) : (n : Int) < pw xs.length := by
  have := val_lt h.limbs; rw [h.val] at this; exact this
theorem Dig.len_le {xs : List Int} {n : Nat} (h : Dig xs n) (k : Nat) : xs.length ≤ k ↔ (n : Int) < pw k := by
  constructor
  · intro hk
    exact Int.lt_of_lt_of_le h.lt (pw_mono hk)
  · intro hk
    rcases Nat.lt_or_ge k xs.length with hlt | hge
    · have hne : xs ≠ [] := by rintro rfl; simp at hlt
      have h1 := val_pos h.limbs h.norm hne
      have h2 := pw_mono (show k ≤ xs.length - 1 by omega)
      rw [h.val] at h1
      omega
    · exact hge
def trim : List Int → List Int
  | [] => []
  | x :: r => match trim r with
    | [] => if x = 0 then [] else [x]
    | y :: s => x :: y :: s
theorem trim_norm (xs : List Int) : Norm (trim xs) := by
  induction xs with
  | nil => exact norm_nil
  | cons x r ih =>
    unfold trim
    split
    · split
      · exact norm_nil
      · rw [norm_one]; assumption
    · rename_i y s h
      rw [norm_cons, ← h]; exact ih
theorem trim_val (xs : List Int) : val (trim xs) = val xs := by
  induction xs with
  | nil => rfl
  | cons x r ih =>
    unfold trim
    split
    · rename_i h
      rw [h, val_nil] at ih
      split
      · rename_i h0; rw [val_cons, ← ih, h0]; rfl
      · rw [val_cons, val_cons, ← ih]; rfl
    · rename_i y s h
      rw [val_cons, val_cons x r, ← ih, h]
theorem trim_limbs {xs : List Int} (hl : Limbs xs) : Limbs (trim xs) := by
  induction xs with
  | nil => exact limbs_nil
  | cons x r ih =>
    rw [limbs_cons] at hl
    have := ih hl.2
    unfold trim
    split
    · split
      · exact limbs_nil
      · rw [limbs_cons]; exact ⟨hl.1, limbs_nil⟩
    · rename_i y s h
      rw [limbs_cons, ← h]; exact ⟨hl.1, this⟩
theorem trim_prefix (xs : List Int) : ∃ z, xs = trim xs ++ z := by
  induction xs with
  | nil => exact ⟨[], rfl⟩
  | cons x r ih =>
    obtain ⟨z, hz⟩ := ih
    unfold trim
    split
    · rename_i h
      split
      · exact ⟨x :: r, rfl⟩
      · exact ⟨r, rfl⟩
    · rename_i y s h
      exact ⟨z, by rw [List.cons_append, ← h, ← hz]⟩
theorem trim_len (xs : List Int) : (trim xs).length ≤ xs.length := by
  obtain ⟨z, hz⟩ := trim_prefix xs
  have := congrArg List.length hz
  rw [List.length_append] at this; omega
theorem trim_take (xs : List Int) : xs.take (trim xs).length = trim xs := by
  obtain ⟨z, hz⟩ := trim_prefix xs
  have h : (trim xs ++ z).take (trim xs).length = trim xs := by simp
  rwa [← hz] at h
theorem trim_snoc_zero (xs : List Int) : trim (xs ++ [0]) = trim xs := by
  induction xs with
  | nil => rfl
  | cons x r ih => simp only [List.cons_append, trim, ih]
theorem trim_snoc {x : Int} (xs : List Int) (h : x ≠ 0) : trim (xs ++ [x]) = xs ++ [x] := by
  induction xs with
  | nil => simp [trim, h]
  | cons y r ih =>
    simp only [List.cons_append, trim, ih]
    cases r <;> rfl
theorem trim_of_norm {xs : List Int} (h : Norm xs) : trim xs = xs := by
  rcases List.eq_nil_or_concat xs with rfl | ⟨r, x, rfl⟩
  · rfl
  · rw [List.concat_eq_append] at h ⊢
    exact trim_snoc r (h x (by simp))
theorem dig_trim {xs : List Int} (h : Limbs xs) : Dig (trim xs) (val xs).toNat :=
  ⟨trim_limbs h, trim_norm xs, by rw [trim_val]; have := val_nonneg h; omega⟩
theorem val_take_succ (xs : List Int) (k : Nat) (h : k < xs.length) : val (xs.take (k + 1)) = val (xs.take k) + pw k * xs.getD k 0 := by
  rw [List.take_succ_eq_append_getElem h, val_append, List.length_take, Nat.min_eq_left (Nat.le_of_lt h)]
  simp [val_cons, val_nil, List.getD, h]
theorem val_take_all (xs : List Int) (k : Nat) (h : xs.length ≤ k) : val (xs.take k) = val xs := by rw [List.take_of_length_le h]
theorem val_split (xs : List Int) (k : Nat) (hk : k ≤ xs.length) : val xs = val (xs.take k) + pw k * val (xs.drop k) := by
  conv => lhs; rw [← List.take_append_drop k xs]
  rw [val_append, List.length_take, Nat.min_eq_left hk]
theorem dig_exists (n : Nat) : ∃ xs, Dig xs n := by
  induction n using Nat.strongRecOn with
  | _ n ih =>
    by_cases h : n = 0
    · subst h; exact ⟨[], Dig.nil⟩
    · obtain ⟨r, hr⟩ := ih (n / 1073741824) (by omega)
      have hl : Limbs (((n % 1073741824 : Nat) : Int) :: r) := by rw [limbs_cons]; exact ⟨by omega, hr.limbs⟩
      refine ⟨trim (((n % 1073741824 : Nat) : Int) :: r), ?_⟩
      have := dig_trim hl
      rw [val_cons, hr.val] at this
      have e : (((n % 1073741824 : Nat) : Int) + 1073741824 * ((n / 1073741824 : Nat) : Int)).toNat = n := by omega
      rwa [e] at this
theorem Dig.mono_len {xs ys : List Int} {n m : Nat} (h : Dig xs n) (k : Dig ys m) (hle : n ≤ m) : xs.length ≤ ys.length := by
  rw [h.len_le]
  have := k.lt
  omega
theorem Dig.lt_of_len {xs ys : List Int} {n m : Nat} (h : Dig xs n) (k : Dig ys m) (hlt : xs.length < ys.length) : n < m := by
  rcases Nat.lt_or_ge n m with h' | h'
  · exact h'
  · have := k.mono_len h h'
    omega
theorem val_set (xs : List Int) (k : Nat) (h : k < xs.length) (v : Int) : val (xs.set k v) = val xs + pw k * (v - xs.getD k 0) := by
  induction xs generalizing k with
  | nil => simp at h
  | cons x r ih =>
    cases k with
    | zero => simp [val_cons, pw_zero]; omega
    | succ k =>
      simp only [List.set_cons_succ, val_cons, List.getD_cons_succ]
      rw [ih k (by simpa using h), pw_succ, Int.mul_add, Int.mul_assoc]; omega
def binom : Nat → Nat → Nat
  | _, 0 => 1
  | 0, _ + 1 => 0
  | n + 1, k + 1 => binom n k + binom n (k + 1)
def fact : Nat → Nat
  | 0 => 1
  | n + 1 => (n + 1) * fact n
theorem fact_pos (n : Nat) : 0 < fact n := by
  induction n with
  | zero => decide
  | succ n ih => unfold fact; exact Nat.mul_pos (by omega) ih
theorem binom_zero (n : Nat) : binom n 0 = 1 := by cases n <;> rfl
theorem binom_succ (n k : Nat) : binom (n + 1) (k + 1) = binom n k + binom n (k + 1) := rfl
theorem binom_gt (n : Nat) : ∀ k, n < k → binom n k = 0 := by
  induction n with
  | zero => intro k hk; cases k with
    | zero => omega
    | succ k => rfl
  | succ n ih => intro k hk; cases k with
    | zero => omega
    | succ k => rw [binom_succ, ih k (by omega), ih (k + 1) (by omega)]
theorem binom_self (n : Nat) : binom n n = 1 := by
  induction n with
  | zero => rfl
  | succ n ih => rw [binom_succ, ih, binom_gt n (n + 1) (by omega)]
theorem binom_fact (n : Nat) : ∀ k, k ≤ n → binom n k * (fact k * fact (n - k)) = fact n := by
  induction n with
  | zero => intro k hk; cases k with
    | zero => rfl
    | succ k => omega
  | succ n ih =>
    intro k hk
    cases k with
    | zero => rw [binom_zero]; simp [fact]
    | succ k =>
      by_cases e : k = n
      · subst e; rw [binom_self]; simp [fact]
      · have h1 := ih k (by omega)
        have h2 := ih (k + 1) (by omega)
        have e3 : fact (n - k) = (n - k) * fact (n - (k + 1)) := by
          obtain ⟨d, hd⟩ : ∃ d, n - k = d + 1 := ⟨n - k - 1, by omega⟩
          have hd' : n - (k + 1) = d := by omega
          rw [hd, hd']; rfl
        rw [binom_succ, Nat.add_mul]
        have a1 : binom n k * (fact (k + 1) * fact (n + 1 - (k + 1))) = (k + 1) * fact n := by
          have : n + 1 - (k + 1) = n - k := by omega
          rw [this, ← h1, show fact (k + 1) = (k + 1) * fact k from rfl]
          simp only [Nat.mul_assoc, Nat.mul_left_comm]
        have a2 : binom n (k + 1) * (fact (k + 1) * fact (n + 1 - (k + 1))) = (n - k) * fact n := by
          have : n + 1 - (k + 1) = n - k := by omega
          rw [this, e3, ← h2]
          simp only [Nat.mul_left_comm]
        rw [a1, a2, ← Nat.add_mul]
        have : k + 1 + (n - k) = n + 1 := by omega
        rw [this]; rfl
theorem binom_symm {n k : Nat} (h : k ≤ n) : binom n (n - k) = binom n k := by
  have h1 := binom_fact n k h
  have h2 := binom_fact n (n - k) (by omega)
  have e : n - (n - k) = k := by omega
  rw [e, Nat.mul_comm (fact (n - k))] at h2
  exact Nat.eq_of_mul_eq_mul_right (Nat.mul_pos (fact_pos k) (fact_pos (n - k))) (h2.trans h1.symm)
theorem binom_step (n : Nat) : ∀ k, binom n (k + 1) * (k + 1) = binom n k * (n - k) := by
  induction n with
  | zero => intro k; cases k <;> simp [binom]
  | succ n ih =>
    intro k
    cases k with
    | zero =>
      have := ih 0
      simp only [binom_zero, Nat.zero_add, Nat.mul_one, Nat.one_mul, Nat.sub_zero] at this ⊢
      rw [show (1 : Nat) = 0 + 1 from rfl, binom_succ, binom_zero, this]; omega
    | succ k =>
      rcases Nat.lt_or_ge n k with hlt | hge
      · rw [binom_gt (n + 1) (k + 1 + 1) (by omega), binom_gt (n + 1) (k + 1) (by omega)]; simp
      · have h1 := ih k
        have h2 := ih (k + 1)
        rw [binom_succ n (k + 1), binom_succ n k]
        have e : n + 1 - (k + 1) = n - k := by omega
        rw [e, Nat.add_mul, h2, Nat.add_mul, ← h1]
        rcases Nat.eq_or_lt_of_le hge with rfl | hlt
        · simp [binom_gt k (k + 1) (by omega)]
        · have e2 : n - k = (n - (k + 1)) + 1 := by omega
          rw [e2, Nat.mul_add (binom n (k + 1)) k 1, Nat.mul_add (binom n (k + 1)) k 1 |>.symm, Nat.mul_add (binom n (k + 1)) (n - (k + 1)) 1, Nat.mul_add (binom n (k + 1)) (k + 1) 1]
          omega
theorem binom_le (n : Nat) : ∀ k, binom n k ≤ 2 ^ n := by
  induction n with
  | zero => intro k; cases k <;> simp [binom]
  | succ n ih => intro k; cases k with
    | zero => rw [binom_zero]; exact Nat.one_le_two_pow
    | succ k =>
      have h1 := ih k
      have h2 := ih (k + 1)
      rw [binom_succ, Nat.pow_succ]; omega
end Go.Proofs.YtpkmnggfomllhaaDoor.Lmb
