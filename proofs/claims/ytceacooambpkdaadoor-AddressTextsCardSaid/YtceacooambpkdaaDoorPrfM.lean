/- Prefixes (no program in sight): which are valid, what they contain, which one covers another, halves, the longest common one. -/
import Derived.Test.YtceacooambpkdaaDoorBitM
namespace Go.Proofs.YtceacooambpkdaaDoor

structure Prf where
  addr : Nat
  len : Int
  deriving DecidableEq
instance : Inhabited Prf := ⟨⟨0, 0⟩⟩
/-- how many of its addresses' last bits are free -/
def Prf.k (p : Prf) : Nat := 32 - p.len.toNat
def vld (p : Prf) : Bool := decide (0 ≤ p.len) && (decide (p.len ≤ 32) && decide (p.addr % 2 ^ p.k = 0))
def cont (p : Prf) (a : Nat) : Bool := vld p && decide (a / 2 ^ p.k * 2 ^ p.k = p.addr)
def cov (p q : Prf) : Bool := vld q && (decide (p.len ≤ q.len) && cont p q.addr)
def Prf.high (p : Prf) : Nat := p.addr + (2 ^ p.k - 1)
theorem vld_iff {p : Prf} : vld p = true ↔ 0 ≤ p.len ∧ p.len ≤ 32 ∧ p.addr % 2 ^ p.k = 0 := by simp [vld]
theorem mul_of_mod {a k : Nat} (h : a % 2 ^ k = 0) : a / 2 ^ k * 2 ^ k = a := Nat.div_mul_cancel (Nat.dvd_of_mod_eq_zero h)

theorem in_range {a P k : Nat} (h : P % 2 ^ k = 0) : a / 2 ^ k * 2 ^ k = P ↔ P ≤ a ∧ a ≤ P + (2 ^ k - 1) := by
  have hp := Nat.two_pow_pos k
  have hd := Nat.div_add_mod a (2 ^ k)
  have hm := Nat.mod_lt a hp
  rw [Nat.mul_comm] at hd
  constructor
  · intro e; omega
  · rintro ⟨h1, h2⟩
    have e1 := mul_of_mod h
    have : a / 2 ^ k = P / 2 ^ k := by
      apply Nat.div_eq_of_lt_le
      · rw [e1]; exact h1
      · rw [Nat.succ_mul, e1]; omega
    rw [this, e1]
theorem cont_range {p : Prf} (h : vld p = true) (a : Nat) : cont p a = (decide (p.addr ≤ a) && decide (a ≤ p.high)) := by
  have h3 := (vld_iff.1 h).2.2
  unfold cont Prf.high
  rw [h, Bool.true_and, decide_eq_decide.2 (in_range h3), Bool.decide_and]
theorem pow_mono {i j : Nat} (h : i ≤ j) : 2 ^ i ≤ 2 ^ j := Nat.pow_le_pow_right (by decide) h
theorem pow_split {i j : Nat} (h : i ≤ j) : 2 ^ j = 2 ^ (j - i) * 2 ^ i := by rw [← Nat.pow_add]; congr 1; omega
theorem mod_of_mod {a i j : Nat} (h : i ≤ j) (hm : a % 2 ^ j = 0) : a % 2 ^ i = 0 :=
  Nat.mod_eq_zero_of_dvd (Nat.dvd_trans ⟨2 ^ (j - i), by rw [pow_split h, Nat.mul_comm]⟩ (Nat.dvd_of_mod_eq_zero hm))
/-- two multiples of one number are no nearer than it -/
theorem mult_le {P Q i : Nat} (hP : P % 2 ^ i = 0) (hQ : Q % 2 ^ i = 0) (h : Q ≤ P + (2 ^ i - 1)) : Q ≤ P := by
  have h1 := mul_of_mod hP
  have h2 := mul_of_mod hQ
  have hp := Nat.two_pow_pos i
  have : Q / 2 ^ i ≤ P / 2 ^ i := by
    apply Nat.le_of_lt_succ
    rw [Nat.div_lt_iff_lt_mul hp, Nat.succ_mul, h1]
    omega
  have := Nat.mul_le_mul_right (2 ^ i) this
  omega
theorem nest {P Q i j : Nat} (hij : i ≤ j) (hP : P % 2 ^ i = 0) (hQ : Q % 2 ^ j = 0) : (P ≤ Q + (2 ^ j - 1) ∧ Q ≤ P + (2 ^ i - 1)) ↔ P / 2 ^ j * 2 ^ j = Q := by
  rw [in_range hQ]
  constructor
  · rintro ⟨h1, h2⟩; exact ⟨mult_le hP (mod_of_mod hij hQ) h2, h1⟩
  · rintro ⟨h1, h2⟩; exact ⟨h2, by omega⟩
theorem k_le (p : Prf) : p.k ≤ 32 := by unfold Prf.k; omega
theorem len_k {p q : Prf} (hp : vld p = true) (hq : vld q = true) : p.len ≤ q.len ↔ q.k ≤ p.k := by
  obtain ⟨h1, h2, _⟩ := vld_iff.1 hp
  obtain ⟨g1, g2, _⟩ := vld_iff.1 hq
  unfold Prf.k
  omega
/-- a prefix that contains both ends of another one is no longer -/
theorem cov_ends {p q : Prf} (hq : vld q = true) : (cont p q.addr && cont p q.high) = (decide (p.len ≤ q.len) && cont p q.addr) := by
  by_cases hp : vld p = true
  · obtain ⟨g1, g2, g3⟩ := vld_iff.1 hp
    obtain ⟨h1, h2, h3⟩ := vld_iff.1 hq
    rw [cont_range hp, cont_range hp]
    unfold Prf.high
    have hk := len_k hp hq
    have p1 := Nat.two_pow_pos p.k
    have p2 := Nat.two_pow_pos q.k
    apply Bool.eq_iff_iff.2
    simp only [Bool.and_eq_true, decide_eq_true_eq]
    constructor
    · rintro ⟨⟨a1, a2⟩, b1, b2⟩
      refine ⟨hk.2 ?_, a1, a2⟩
      by_cases hc : q.k ≤ p.k
      · exact hc
      · have h4 : 2 ^ (p.k + 1) ≤ 2 ^ q.k := pow_mono (by omega)
        rw [Nat.pow_succ] at h4
        omega
    · rintro ⟨a0, a1, a2⟩
      have hk2 := hk.1 a0
      have hm := (in_range g3).2 ⟨a1, a2⟩
      have h5 : p.addr + (2 ^ p.k - 1) ≥ q.addr + (2 ^ q.k - 1) := by
        have h6 : q.addr + 2 ^ q.k ≤ p.addr + 2 ^ p.k := by
          have e1 := mul_of_mod h3
          have e2 : (p.addr + 2 ^ p.k) % 2 ^ q.k = 0 := by
            rw [Nat.add_mod, mod_of_mod hk2 g3, mod_of_mod hk2 (Nat.mod_self _)]
            simp
          have e3 := mul_of_mod e2
          have : q.addr / 2 ^ q.k + 1 ≤ (p.addr + 2 ^ p.k) / 2 ^ q.k := by
            rw [Nat.succ_le_iff, Nat.div_lt_iff_lt_mul p2, e3]
            omega
          have := Nat.mul_le_mul_right (2 ^ q.k) this
          rw [Nat.succ_mul] at this
          omega
        omega
      exact ⟨⟨a1, a2⟩, by omega, h5⟩
  · have : ∀ a, cont p a = false := fun a => by unfold cont; rw [Bool.eq_false_iff.2 hp]; rfl
    rw [this, this]; simp
/-- two prefixes are disjoint, or one covers the other -/
theorem cov_meet {p q : Prf} (hp : vld p = true) (hq : vld q = true) : (decide (p.addr ≤ q.high) && decide (q.addr ≤ p.high)) = (cov p q || cov q p) := by
  obtain ⟨g1, g2, g3⟩ := vld_iff.1 hp
  obtain ⟨h1, h2, h3⟩ := vld_iff.1 hq
  unfold cov cont
  rw [hp, hq]
  apply Bool.eq_iff_iff.2
  simp only [Bool.and_eq_true, Bool.or_eq_true, decide_eq_true_eq, true_and, len_k hp hq, len_k hq hp]
  unfold Prf.high
  rcases Nat.le_total p.k q.k with hk | hk
  · rw [nest hk g3 h3]
    constructor
    · intro h; exact .inr ⟨hk, h⟩
    · rintro (⟨h4, h5⟩ | ⟨_, h⟩)
      · have e : p.k = q.k := by omega
        rw [e] at h5 g3
        rw [mul_of_mod h3] at h5
        rw [← h5, mul_of_mod h3]
      · exact h
  · rw [and_comm, nest hk h3 g3]
    constructor
    · intro h; exact .inl ⟨hk, h⟩
    · rintro (⟨_, h⟩ | ⟨h4, h5⟩)
      · exact h
      · have e : p.k = q.k := by omega
        rw [← e] at h5 h3
        rw [mul_of_mod g3] at h5
        rw [← h5, mul_of_mod g3]

/-! ### Halves -/
def half1 (p : Prf) : Prf := ⟨p.addr, p.len + 1⟩
def half2 (p : Prf) : Prf := ⟨p.addr + 2 ^ (p.k - 1), p.len + 1⟩
theorem half_k {p : Prf} (h : vld p = true) (hl : p.len ≠ 32) : (half1 p).k = p.k - 1 ∧ (half2 p).k = p.k - 1 ∧ 1 ≤ p.k := by
  obtain ⟨h1, h2, _⟩ := vld_iff.1 h
  unfold half1 half2 Prf.k
  simp only
  omega
theorem half_vld {p : Prf} (h : vld p = true) (hl : p.len ≠ 32) : vld (half1 p) = true ∧ vld (half2 p) = true := by
  obtain ⟨h1, h2, h3⟩ := vld_iff.1 h
  obtain ⟨k1, k2, k3⟩ := half_k h hl
  have hm : p.addr % 2 ^ (p.k - 1) = 0 := mod_of_mod (by omega) h3
  refine ⟨vld_iff.2 ⟨?_, ?_, ?_⟩, vld_iff.2 ⟨?_, ?_, ?_⟩⟩
  · unfold half1; simp only; omega
  · unfold half1; simp only; omega
  · rw [k1]; exact hm
  · unfold half2; simp only; omega
  · unfold half2; simp only; omega
  · rw [k2]
    show (p.addr + 2 ^ (p.k - 1)) % 2 ^ (p.k - 1) = 0
    rw [Nat.add_mod_right]; exact hm
theorem half_cont {p : Prf} (h : vld p = true) (hl : p.len ≠ 32) (a : Nat) : cont p a = (cont (half1 p) a || cont (half2 p) a) ∧ (cont (half1 p) a && cont (half2 p) a) = false := by
  obtain ⟨v1, v2⟩ := half_vld h hl
  obtain ⟨k1, k2, k3⟩ := half_k h hl
  have hp := Nat.two_pow_pos (p.k - 1)
  have e : 2 ^ p.k = 2 ^ (p.k - 1) + 2 ^ (p.k - 1) := by rw [← Nat.mul_two, ← Nat.pow_succ]; congr 1; omega
  rw [cont_range h, cont_range v1, cont_range v2]
  unfold Prf.high
  rw [k1, k2, e]
  unfold half1 half2
  constructor
  · apply Bool.eq_iff_iff.2
    simp only [Bool.and_eq_true, Bool.or_eq_true, decide_eq_true_eq]
    omega
  · apply Bool.eq_false_iff.2
    simp only [ne_eq, Bool.and_eq_true, decide_eq_true_eq]
    omega

/-! ### The longest common prefix -/
/-- how many bits of two addresses agree, from the first on, given as how many are left -/
def comK (a b : Nat) : Nat → Nat
  | 0 => 0
  | k + 1 => if a / 2 ^ k = b / 2 ^ k then comK a b k else k + 1
theorem comK_spec (a b : Nat) : ∀ k, a / 2 ^ k = b / 2 ^ k → comK a b k ≤ k ∧ a / 2 ^ comK a b k = b / 2 ^ comK a b k ∧ ∀ j, j < comK a b k → ¬ a / 2 ^ j = b / 2 ^ j
  | 0, h => ⟨Nat.le_refl _, h, fun j hj => absurd hj (Nat.not_lt_zero _)⟩
  | k + 1, h => by
    unfold comK
    split
    · rename_i e
      obtain ⟨h1, h2, h3⟩ := comK_spec a b k e
      exact ⟨by omega, h2, h3⟩
    · rename_i e
      refine ⟨Nat.le_refl _, h, fun j hj ej => e ?_⟩
      have : ∀ x, x / 2 ^ k = x / 2 ^ j / 2 ^ (k - j) := fun x => by
        rw [Nat.div_div_eq_div_mul, ← Nat.pow_add]; congr 2; omega
      rw [this a, this b, ej]
theorem comK_unique {a b k m : Nat} (hk : a / 2 ^ k = b / 2 ^ k) (_ : m ≤ k) (h2 : a / 2 ^ m = b / 2 ^ m) (h3 : ∀ j, j < m → ¬ a / 2 ^ j = b / 2 ^ j) : comK a b k = m := by
  obtain ⟨g1, g2, g3⟩ := comK_spec a b k hk
  rcases Nat.lt_trichotomy (comK a b k) m with h | h | h
  · exact absurd g2 (h3 _ h)
  · exact h
  · exact absurd h2 (g3 _ h)
end Go.Proofs.YtceacooambpkdaaDoor
