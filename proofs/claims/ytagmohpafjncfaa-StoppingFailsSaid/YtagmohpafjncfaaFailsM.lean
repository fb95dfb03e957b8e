/- Tables for which a rule stops too early, counted one by one: plain laws. -/
import Derived.Test.YtagmohpafjncfaaFailM
namespace Go.Proofs.Ytagmohpafjncfaa.Lmb

def pc (s : Nat) : Nat := s % 2 + s / 2 % 2 + s / 4 % 2
/-- a flow to successor x -/
def stepS (s x : Nat) : Nat := if s / 2 ^ x % 2 = 0 then s ||| 2 ^ x else s
/-- what is seen after i flows, if the rule goes on -/
def aliveS (k : Nat) (st : Nat → Nat) (t : Nat) : Nat → Option Nat
  | 0 => some 0
  | i + 1 => (aliveS k st t i).bind fun s => if pc (stepS s (t / k ^ i % k)) = k then none else if st (pc (stepS s (t / k ^ i % k))) ≤ i + 1 then none else some (stepS s (t / k ^ i % k))
/-- it stops too early at flow i + 1 -/
def stopN (k : Nat) (st : Nat → Nat) (i x : Nat) (o : Option Nat) : Nat :=
  match o with
  | some s => if pc (stepS s x) = k then 0 else if st (pc (stepS s x)) ≤ i + 1 then 1 else 0
  | none => 0
def failT (k : Nat) (st : Nat → Nat) (t : Nat) : Nat → Nat
  | 0 => 0
  | i + 1 => failT k st t i + stopN k st i (t / k ^ i % k) (aliveS k st t i)

theorem sumUp_split (f : Nat → Nat) (m : Nat) : ∀ k, sumUp f (k * m) = sumUp (fun x => sumUp (fun t => f (x * m + t)) m) k
  | 0 => by simp [sumUp]
  | k + 1 => by
    have h : ∀ d, sumUp f (k * m + d) = sumUp f (k * m) + sumUp (fun t => f (k * m + t)) d := by
      intro d
      induction d with
      | zero => rfl
      | succ d ih => rw [← Nat.add_assoc, sumUp, ih, sumUp, Nat.add_assoc]
    rw [Nat.add_mul, Nat.one_mul, h, sumUp_split f m k, sumUp]
theorem sumUp_zero : ∀ m, sumUp (fun _ => 0) m = 0
  | 0 => rfl
  | m + 1 => by rw [sumUp, sumUp_zero m]
theorem sumUp_comm (f : Nat → Nat → Nat) (m : Nat) : ∀ k, sumUp (fun x => sumUp (fun t => f x t) m) k = sumUp (fun t => sumUp (fun x => f x t) k) m
  | 0 => by simp only [sumUp]; rw [sumUp_zero]
  | k + 1 => by
    rw [sumUp, sumUp_comm f m k, ← sumUp_add]
    rfl

/-- the first digits of t -/
theorem digit_low {k n x t i : Nat} (hk : 1 ≤ k) (hi : i < n) : (x * k ^ n + t) / k ^ i % k = t / k ^ i % k := by
  obtain ⟨d, rfl⟩ := Nat.exists_eq_add_of_le (show i + 1 ≤ n by omega)
  have hp : 0 < k ^ i := Nat.pow_pos hk
  have e : x * k ^ (i + 1 + d) + t = t + k ^ i * (k * (x * k ^ d)) := by
    rw [Nat.pow_add, Nat.pow_succ, Nat.add_comm]
    congr 1
    rw [Nat.mul_comm (k ^ i) k, Nat.mul_assoc, Nat.mul_left_comm x, Nat.mul_left_comm x, Nat.mul_left_comm k]
  rw [e, Nat.add_mul_div_left _ _ hp, Nat.add_mul_mod_self_left]
theorem digit_top {k n x t : Nat} (hk : 1 ≤ k) (hx : x < k) (ht : t < k ^ n) : (x * k ^ n + t) / k ^ n % k = x := by
  rw [Nat.mul_comm, Nat.mul_add_div (Nat.pow_pos hk), Nat.div_eq_of_lt ht, Nat.add_zero, Nat.mod_eq_of_lt hx]
theorem alive_low {k : Nat} {st : Nat → Nat} {n x t : Nat} (hk : 1 ≤ k) : ∀ i, i ≤ n → aliveS k st (x * k ^ n + t) i = aliveS k st t i
  | 0, _ => rfl
  | i + 1, h => by rw [aliveS, aliveS, alive_low hk i (by omega), digit_low hk (by omega)]
theorem fail_low {k : Nat} {st : Nat → Nat} {n x t : Nat} (hk : 1 ≤ k) : ∀ i, i ≤ n → failT k st (x * k ^ n + t) i = failT k st t i
  | 0, _ => rfl
  | i + 1, h => by rw [failT, failT, fail_low hk i (by omega), alive_low hk i (by omega), digit_low hk (by omega)]

theorem step_lt : ∀ k, k < 4 → ∀ s, s < 2 ^ k → ∀ x, x < k → stepS s x < 2 ^ k := by decide
theorem pc_step : ∀ s, s < 8 → ∀ x, x < 3 → pc (stepS s x) = if s / 2 ^ x % 2 = 0 then pc s + 1 else pc s := by decide
theorem pc_pos : ∀ s, s < 8 → ∀ x, x < 3 → 1 ≤ pc (stepS s x) := by decide
theorem pc_le : ∀ k, k < 4 → ∀ s, s < 2 ^ k → pc s ≤ k := by decide
def hit (o : Option Nat) (x j : Nat) : Nat := match o with | some s => if pc (stepS s x) = j then 1 else 0 | none => 0
def isJ (o : Option Nat) (j : Nat) : Nat := match o with | some s => if pc s = j then 1 else 0 | none => 0
theorem hits : ∀ k, k < 4 → ∀ s, s < 2 ^ k → ∀ j, j < k → sumUp (fun x => hit (some s) x j) k = isJ (some s) j * j + (if j = 0 then 0 else isJ (some s) (j - 1) * (k - j + 1)) := by decide
theorem alive_lt {k : Nat} {st : Nat → Nat} {t : Nat} (hk1 : 1 ≤ k) (hk : k < 4) : ∀ i s, aliveS k st t i = some s → s < 2 ^ k
  | 0, s, h => by
    simp only [aliveS, Option.some.injEq] at h
    subst h
    exact Nat.pow_pos (by decide)
  | i + 1, s, h => by
    simp only [aliveS, Option.bind_eq_some_iff] at h
    obtain ⟨s', h1, h2⟩ := h
    split at h2
    · cases h2
    · split at h2
      · cases h2
      · simp only [Option.some.injEq] at h2
        subst h2
        exact step_lt k hk s' (alive_lt hk1 hk i s' h1) _ (Nat.mod_lt _ hk1)

/-- one flow more -/
theorem hit_sum {k : Nat} {st : Nat → Nat} {n j : Nat} (hk1 : 1 ≤ k) (hk : k < 4) (hj : j < k) (ih : ∀ j, j < k → sumUp (fun t => isJ (aliveS k st t n) j) (k ^ n) = wayN k st n j) :
    sumUp (fun t => sumUp (fun x => hit (aliveS k st t n) x j) k) (k ^ n) = rawW k (wayN k st n) j := by
  have h : ∀ t, t < k ^ n → sumUp (fun x => hit (aliveS k st t n) x j) k = isJ (aliveS k st t n) j * j + (if j = 0 then 0 else isJ (aliveS k st t n) (j - 1) * (k - j + 1)) := by
    intro t _
    cases ho : aliveS k st t n with
    | none =>
      have : sumUp (fun x => hit none x j) k = 0 := sumUp_zero k
      rw [this]
      simp [isJ]
    | some s => exact hits k hk s (alive_lt hk1 hk n s ho) j hj
  rw [sumUp_congr h, sumUp_add, sumUp_mul, ih j hj]
  unfold rawW
  congr 1
  by_cases h0 : j = 0
  · simp only [h0, if_true]
    exact sumUp_zero _
  · simp only [h0, if_false]
    rw [sumUp_mul, ih (j - 1) (by omega)]
theorem alive_count {k : Nat} {st : Nat → Nat} (hk1 : 1 ≤ k) (hk : k < 4) : ∀ n j, j < k → sumUp (fun t => isJ (aliveS k st t n) j) (k ^ n) = wayN k st n j
  | 0, j, hj => by
    show 0 + isJ (some 0) j = if j = 0 then 1 else 0
    unfold isJ
    show 0 + (if 0 = j then 1 else 0) = _
    by_cases h : j = 0
    · subst h; rfl
    · rw [if_neg (fun h2 => h h2.symm), if_neg h]
  | n + 1, j, hj => by
    have ih := alive_count (st := st) hk1 hk n
    rw [Nat.pow_succ, Nat.mul_comm, sumUp_split, sumUp_comm]
    have h : ∀ t, t < k ^ n → sumUp (fun x => isJ (aliveS k st (x * k ^ n + t) (n + 1)) j) k = if stopAt k st (n + 1) j then 0 else sumUp (fun x => hit (aliveS k st t n) x j) k := by
      intro t ht
      have h2 : ∀ x, x < k → isJ (aliveS k st (x * k ^ n + t) (n + 1)) j = if stopAt k st (n + 1) j then 0 else hit (aliveS k st t n) x j := by
        intro x hx
        rw [aliveS, alive_low hk1 n (Nat.le_refl _), digit_top hk1 hx ht]
        cases ho : aliveS k st t n with
        | none => simp [isJ, hit]
        | some s =>
          have hs := alive_lt hk1 hk n s ho
          have hs8 : s < 8 := Nat.lt_of_lt_of_le hs (Nat.pow_le_pow_right (n := 2) (by decide) (show k ≤ 3 by omega))
          have hp := pc_pos s hs8 x (by omega)
          simp only [Option.bind_some, hit]
          by_cases h1 : pc (stepS s x) = k
          · rw [if_pos h1, if_neg (show ¬ pc (stepS s x) = j by omega)]
            show 0 = _
            split <;> rfl
          · rw [if_neg h1]
            by_cases h2 : st (pc (stepS s x)) ≤ n + 1
            · rw [if_pos h2]
              by_cases h3 : pc (stepS s x) = j
              · subst h3
                rw [if_pos ⟨hp, hj, h2⟩]
                rfl
              · rw [if_neg h3]
                show 0 = _
                split <;> rfl
            · rw [if_neg h2]
              by_cases h3 : pc (stepS s x) = j
              · subst h3
                rw [if_neg (fun h9 => h2 h9.2.2)]
                simp [isJ]
              · rw [if_neg h3]
                show (if _ then _ else _) = _
                rw [if_neg h3]
                split <;> rfl
      rw [sumUp_congr h2]
      by_cases h3 : stopAt k st (n + 1) j
      · simp only [h3, if_true]; exact sumUp_zero _
      · simp only [h3, if_false]
    rw [sumUp_congr h, wayN]
    by_cases h3 : stopAt k st (n + 1) j
    · simp only [h3, if_true]; exact sumUp_zero _
    · simp only [h3, if_false]; exact hit_sum hk1 hk hj ih
theorem fail_count {k : Nat} {st : Nat → Nat} (hk1 : 1 ≤ k) (hk : k < 4) : ∀ n, sumUp (fun t => failT k st t n) (k ^ n) = failN k st n
  | 0 => rfl
  | n + 1 => by
    have ih := fail_count (st := st) hk1 hk n
    rw [Nat.pow_succ, Nat.mul_comm, sumUp_split, sumUp_comm]
    have h : ∀ t, t < k ^ n → sumUp (fun x => failT k st (x * k ^ n + t) (n + 1)) k = failT k st t n * k + sumUp (fun j => if stopAt k st (n + 1) j then sumUp (fun x => hit (aliveS k st t n) x j) k else 0) k := by
      intro t ht
      have h2 : ∀ x, x < k → failT k st (x * k ^ n + t) (n + 1) = failT k st t n + sumUp (fun j => if stopAt k st (n + 1) j then hit (aliveS k st t n) x j else 0) k := by
        intro x hx
        rw [failT, fail_low hk1 n (Nat.le_refl _), alive_low hk1 n (Nat.le_refl _), digit_top hk1 hx ht]
        congr 1
        cases ho : aliveS k st t n with
        | none =>
          have : ∀ j, j < k → (if stopAt k st (n + 1) j then hit none x j else 0) = 0 := fun j _ => by simp [hit]
          rw [sumUp_congr this, sumUp_zero]
          rfl
        | some s =>
          have hs := alive_lt hk1 hk n s ho
          have hs8 : s < 8 := Nat.lt_of_lt_of_le hs (Nat.pow_le_pow_right (n := 2) (by decide) (show k ≤ 3 by omega))
          have hp := pc_pos s hs8 x (by omega)
          have hple := pc_le k hk _ (step_lt k hk s hs x hx)
          simp only [stopN]
          have one : ∀ (f : Nat → Nat) (i m : Nat), i < m → (∀ j, j ≠ i → f j = 0) → sumUp f m = f i := by
            intro f i m him h0
            induction m with
            | zero => omega
            | succ m ihm =>
              rw [sumUp]
              by_cases e : i = m
              · subst e
                have : sumUp f i = 0 := by rw [sumUp_congr (g := fun _ => 0) fun j hj => h0 j (by omega), sumUp_zero]
                omega
              · rw [ihm (by omega), h0 m (fun h => e h.symm), Nat.add_zero]
          by_cases h1 : pc (stepS s x) = k
          · rw [if_pos h1]
            have : ∀ j, j < k → (if stopAt k st (n + 1) j then hit (some s) x j else 0) = 0 := fun j hj => by
              simp only [hit]
              rw [if_neg (show ¬ pc (stepS s x) = j by omega)]
              simp
            rw [sumUp_congr this, sumUp_zero]
          · rw [if_neg h1, one _ (pc (stepS s x)) k (by omega) (fun j hj => by simp [hit, Ne.symm hj])]
            simp only [hit, if_true]
            by_cases h2 : st (pc (stepS s x)) ≤ n + 1
            · rw [if_pos h2, if_pos ⟨hp, by omega, h2⟩]
            · rw [if_neg h2, if_neg (fun h9 => h2 h9.2.2)]
      have hsum : ∀ c, sumUp (fun _ => c) k = c * k := by
        intro c
        have := sumUp_mul (fun _ => 1) c k
        have h1 : ∀ m, sumUp (fun _ => 1) m = m := by
          intro m
          induction m with
          | zero => rfl
          | succ m ih => rw [sumUp, ih]
        simp only [Nat.one_mul] at this
        rw [this, h1, Nat.mul_comm]
      rw [sumUp_congr h2, sumUp_add, hsum, sumUp_comm]
      congr 1
      refine sumUp_congr fun j hj => ?_
      by_cases h3 : stopAt k st (n + 1) j
      · simp only [h3, if_true]
      · simp only [h3, if_false]; exact sumUp_zero _
    rw [sumUp_congr h, sumUp_add, sumUp_mul, ih, failN]
    congr 1
    unfold outN
    rw [sumUp_comm]
    refine sumUp_congr fun j hj => ?_
    by_cases h3 : stopAt k st (n + 1) j
    · simp only [h3, if_true]; exact hit_sum hk1 hk hj (alive_count hk1 hk n)
    · simp only [h3, if_false]; exact sumUp_zero _
end Go.Proofs.Ytagmohpafjncfaa.Lmb
