/- Bits of addresses (no program in sight): masks, what lies below a mask. -/
import Derived.Laws.BitsLemmas
import Derived.Sort.Statements
import Derived.Test.YtepkbbmjbbnhnaaGreatDoorPk3
import Derived.Test.YtepkbbmjbbnhnaaGreatDoorPk1
import Derived.Laws.OwnMore
import Derived.Lib.Overlaps
import Derived.Lib.AppendZerosOnto
import Derived.Lib.IndexLaws
import Derived.Lib.ItoaNum
import Derived.Lib.AtoiAll
namespace Go.Proofs.YtepkbbmjbbnhnaaGreatDoor
theorem w32u (n : Int) (h₀ : 0 ≤ n) (h₁ : n < 2 ^ 32) : IntKind.u32.wrap n = n := by rw [IntKind.wrap_u32]; omega
def maskN (k : Nat) : Nat := 2 ^ 32 - 2 ^ k
theorem pow_le32 {k : Nat} (hk : k ≤ 32) : 2 ^ k ≤ 2 ^ 32 := Nat.pow_le_pow_right (by decide) hk
theorem maskN_lt (k : Nat) : maskN k < 2 ^ 32 := by have := Nat.two_pow_pos k; unfold maskN; omega
theorem maskN_shift {k : Nat} (hk : k ≤ 32) : maskN k = (2 ^ (32 - k) - 1) * 2 ^ k := by
  unfold maskN
  rw [Nat.sub_mul, ← Nat.pow_add, Nat.one_mul, Nat.sub_add_cancel hk]
theorem and_maskN {a k : Nat} (ha : a < 2 ^ 32) (hk : k ≤ 32) : a &&& maskN k = a / 2 ^ k * 2 ^ k := by
  have e : a / 2 ^ k * 2 ^ k = (a >>> k) <<< k := by rw [Nat.shiftLeft_eq, Nat.shiftRight_eq_div_pow]
  have e2 : maskN k = (2 ^ (32 - k) - 1) <<< k := by rw [Nat.shiftLeft_eq, maskN_shift hk]
  rw [e, e2]
  apply Nat.eq_of_testBit_eq
  intro i
  rw [Nat.testBit_and, Nat.testBit_shiftLeft, Nat.testBit_shiftLeft, Nat.testBit_two_pow_sub_one, Nat.testBit_shiftRight]
  by_cases h : k ≤ i
  · have e3 : k + (i - k) = i := by omega
    simp only [ge_iff_le, h, decide_true, Bool.true_and, e3]
    by_cases h2 : i < 32
    · have : i - k < 32 - k := by omega
      simp [this]
    · have : a.testBit i = false := Nat.testBit_lt_two_pow (Nat.lt_of_lt_of_le ha (Nat.pow_le_pow_right (by decide) (by omega)))
      simp [this]
  · simp [h]
theorem and_mask {a k : Nat} (ha : a < 2 ^ 32) (hk : k ≤ 32) : bits .and .u32 (a : Int) (maskN k : Int) = ((a / 2 ^ k * 2 ^ k : Nat) : Int) := by
  rw [(bits_nat .u32 32 (by decide) w32u a (maskN k) ha (maskN_lt k)).1, and_maskN ha hk]
theorem or_low {p y k : Nat} (hk : k ≤ 32) (hp : p % 2 ^ k = 0) (hp1 : p < 2 ^ 32) (hy : y < 2 ^ k) : bits .or .u32 (p : Int) (y : Int) = ((p + y : Nat) : Int) := by
  have h1 : y < 2 ^ 32 := Nat.lt_of_lt_of_le hy (pow_le32 hk)
  rw [bits_join .u32 32 (by decide) w32u k p y (by omega) (by exact_mod_cast hp) (by exact_mod_cast hp1) (by omega) (by exact_mod_cast hy) (by exact_mod_cast h1)]
  rfl
theorem ofInt_u (n : Nat) (h : n < 2 ^ 32) : (BitVec.ofInt 32 (n : Int)).toNat = n := by
  rw [BitVec.toNat_ofInt]
  omega
theorem andNot_mask {a k : Nat} (ha : a < 2 ^ 32) (hk : k ≤ 32) : bits .andNot .u32 (a : Int) (maskN k : Int) = ((a % 2 ^ k : Nat) : Int) := by
  show IntKind.u32.wrap ((BitVec.ofInt 32 (a : Int) &&& ~~~BitVec.ofInt 32 (maskN k : Int)).toNat : Int) = _
  have hm := maskN_lt k
  have hp := pow_le32 hk
  have hpp := Nat.two_pow_pos k
  rw [BitVec.toNat_and, BitVec.toNat_not, ofInt_u a ha, ofInt_u (maskN k) hm]
  have e : 2 ^ 32 - 1 - maskN k = 2 ^ k - 1 := by unfold maskN; omega
  rw [e, Nat.and_two_pow_sub_one_eq_mod, w32u _ (by omega) (by have := Nat.mod_lt a hpp; omega)]
theorem xor_u {a b : Nat} (ha : a < 2 ^ 32) (hb : b < 2 ^ 32) : bits .xor .u32 (a : Int) (b : Int) = ((a ^^^ b : Nat) : Int) := by
  show IntKind.u32.wrap ((BitVec.ofInt 32 (a : Int) ^^^ BitVec.ofInt 32 (b : Int)).toNat : Int) = _
  have h := Nat.xor_lt_two_pow ha hb
  rw [BitVec.toNat_xor, ofInt_u a ha, ofInt_u b hb, w32u _ (by omega) (by omega)]
theorem flip_mask {k : Nat} (hk : k ≤ 32) : bits .xor .u32 4294967295 (maskN k : Int) = ((2 ^ k - 1 : Nat) : Int) := by
  show IntKind.u32.wrap ((BitVec.ofInt 32 4294967295 ^^^ BitVec.ofInt 32 (maskN k : Int)).toNat : Int) = _
  have hm := maskN_lt k
  have hp := pow_le32 hk
  have hpp := Nat.two_pow_pos k
  have e : BitVec.ofInt 32 4294967295 = BitVec.allOnes 32 := by decide
  rw [e, BitVec.allOnes_xor, BitVec.toNat_not, ofInt_u (maskN k) hm]
  have e2 : 2 ^ 32 - 1 - maskN k = 2 ^ k - 1 := by unfold maskN; omega
  rw [e2, w32u _ (by omega) (by omega)]
theorem xor_lt {a b k : Nat} : a ^^^ b < 2 ^ k ↔ a / 2 ^ k = b / 2 ^ k := by
  rw [← Nat.shiftRight_eq_div_pow, ← Nat.shiftRight_eq_div_pow]
  constructor
  · intro h
    have h1 : (a ^^^ b) >>> k = 0 := by rw [Nat.shiftRight_eq_div_pow]; exact Nat.div_eq_of_lt h
    rw [Nat.shiftRight_xor_distrib] at h1
    have h2 : (a >>> k ^^^ b >>> k) ^^^ b >>> k = b >>> k := by rw [h1, Nat.zero_xor]
    rwa [Nat.xor_assoc, Nat.xor_self, Nat.xor_zero] at h2
  · intro h
    have h1 : (a ^^^ b) >>> k = 0 := by rw [Nat.shiftRight_xor_distrib, h, Nat.xor_self]
    rw [Nat.shiftRight_eq_div_pow] at h1
    rcases Nat.div_eq_zero_iff.1 h1 with h2 | h2
    · have := Nat.two_pow_pos k; omega
    · exact h2
end Go.Proofs.YtepkbbmjbbnhnaaGreatDoor

/- Prefixes (no program in sight): which are valid, what they contain, which one covers another, halves, the longest common one. -/
namespace Go.Proofs.YtepkbbmjbbnhnaaGreatDoor
structure Prf where
  addr : Nat
  len : Int
  deriving DecidableEq
instance : Inhabited Prf := ⟨⟨0, 0⟩⟩
def Prf.k (p : Prf) : Nat := 32 - p.len.toNat
def vld (p : Prf) : Bool := decide (0 ≤ p.len) && (decide (p.len ≤ 32) && decide (p.addr % 2 ^ p.k = 0))
def cont (p : Prf) (a : Nat) : Bool := vld p && decide (a / 2 ^ p.k * 2 ^ p.k = p.addr)
def cov (p q : Prf) : Bool := vld q && (decide (p.len ≤ q.len) && cont p q.addr)
def Prf.high (p : Prf) : Nat := p.addr + (2 ^ p.k - 1)
theorem vld_iff {p : Prf} : vld p = true ↔ 0 ≤ p.len ∧ p.len ≤ 32 ∧ p.addr % 2 ^ p.k = 0 := by simp [vld]
theorem mul_of_mod {a k : Nat} (h : a % 2 ^ k = 0) : a / 2 ^ k * 2 ^ k = a := Nat.div_mul_cancel (Nat.dvd_of_mod_eq_zero h)
theorem in_range {a P k : Nat} (h : P % 2 ^ k = 0) : a / 2 ^ k * 2 ^ k = P ↔ P ≤ a ∧ a ≤ P + (2 ^ k - 1) := by
  have hp := Nat.two_pow_pos k
  have hd := Nat.div_add_mod a (2 ^ k)
  have hm := Nat.mod_lt a hp
  rw [Nat.mul_comm] at hd
  constructor
  · intro e; omega
  · rintro ⟨h1, h2⟩
    have e1 := mul_of_mod h
    have : a / 2 ^ k = P / 2 ^ k := by
      apply Nat.div_eq_of_lt_le
      · rw [e1]; exact h1
      · rw [Nat.succ_mul, e1]; omega
    rw [this, e1]
theorem cont_range {p : Prf} (h : vld p = true) (a : Nat) : cont p a = (decide (p.addr ≤ a) && decide (a ≤ p.high)) := by
  have h3 := (vld_iff.1 h).2.2
  unfold cont Prf.high
  rw [h, Bool.true_and, decide_eq_decide.2 (in_range h3), Bool.decide_and]
theorem pow_mono {i j : Nat} (h : i ≤ j) : 2 ^ i ≤ 2 ^ j := Nat.pow_le_pow_right (by decide) h
theorem pow_split {i j : Nat} (h : i ≤ j) : 2 ^ j = 2 ^ (j - i) * 2 ^ i := by rw [← Nat.pow_add]; congr 1; omega
theorem mod_of_mod {a i j : Nat} (h : i ≤ j) (hm : a % 2 ^ j = 0) : a % 2 ^ i = 0 :=
  Nat.mod_eq_zero_of_dvd (Nat.dvd_trans ⟨2 ^ (j - i), by rw [pow_split h, Nat.mul_comm]⟩ (Nat.dvd_of_mod_eq_zero hm))
theorem mult_le {P Q i : Nat} (hP : P % 2 ^ i = 0) (hQ : Q % 2 ^ i = 0) (h : Q ≤ P + (2 ^ i - 1)) : Q ≤ P := by
  have h1 := mul_of_mod hP
  have h2 := mul_of_mod hQ
  have hp := Nat.two_pow_pos i
  have : Q / 2 ^ i ≤ P / 2 ^ i := by
    apply Nat.le_of_lt_succ
    rw [Nat.div_lt_iff_lt_mul hp, Nat.succ_mul, h1]
    omega
  have := Nat.mul_le_mul_right (2 ^ i) this
  omega
theorem nest {P Q i j : Nat} (hij : i ≤ j) (hP : P % 2 ^ i = 0) (hQ : Q % 2 ^ j = 0) : (P ≤ Q + (2 ^ j - 1) ∧ Q ≤ P + (2 ^ i - 1)) ↔ P / 2 ^ j * 2 ^ j = Q := by
  rw [in_range hQ]
  constructor
  · rintro ⟨h1, h2⟩; exact ⟨mult_le hP (mod_of_mod hij hQ) h2, h1⟩
  · rintro ⟨h1, h2⟩; exact ⟨h2, by omega⟩
theorem k_le (p : Prf) : p.k ≤ 32 := by unfold Prf.k; omega
theorem len_k {p q : Prf} (hp : vld p = true) (hq : vld q = true) : p.len ≤ q.len ↔ q.k ≤ p.k := by
  obtain ⟨h1, h2, _⟩ := vld_iff.1 hp
  obtain ⟨g1, g2, _⟩ := vld_iff.1 hq
  unfold Prf.k
  omega
theorem cov_ends {p q : Prf} (hq : vld q = true) : (cont p q.addr && cont p q.high) = (decide (p.len ≤ q.len) && cont p q.addr) := by
  by_cases hp : vld p = true
  · obtain ⟨g1, g2, g3⟩ := vld_iff.1 hp
    obtain ⟨h1, h2, h3⟩ := vld_iff.1 hq
    rw [cont_range hp, cont_range hp]
    unfold Prf.high
    have hk := len_k hp hq
    have p1 := Nat.two_pow_pos p.k
    have p2 := Nat.two_pow_pos q.k
    apply Bool.eq_iff_iff.2
    simp only [Bool.and_eq_true, decide_eq_true_eq]
    constructor
    · rintro ⟨⟨a1, a2⟩, b1, b2⟩
      refine ⟨hk.2 ?_, a1, a2⟩
      by_cases hc : q.k ≤ p.k
      · exact hc
      · have h4 : 2 ^ (p.k + 1) ≤ 2 ^ q.k := pow_mono (by omega)
        rw [Nat.pow_succ] at h4
        omega
    · rintro ⟨a0, a1, a2⟩
      have hk2 := hk.1 a0
      have hm := (in_range g3).2 ⟨a1, a2⟩
      have h5 : p.addr + (2 ^ p.k - 1) ≥ q.addr + (2 ^ q.k - 1) := by
        have h6 : q.addr + 2 ^ q.k ≤ p.addr + 2 ^ p.k := by
          have e1 := mul_of_mod h3
          have e2 : (p.addr + 2 ^ p.k) % 2 ^ q.k = 0 := by
            rw [Nat.add_mod, mod_of_mod hk2 g3, mod_of_mod hk2 (Nat.mod_self _)]
            simp
          have e3 := mul_of_mod e2
          have : q.addr / 2 ^ q.k + 1 ≤ (p.addr + 2 ^ p.k) / 2 ^ q.k := by
            rw [Nat.succ_le_iff, Nat.div_lt_iff_lt_mul p2, e3]
            omega
          have := Nat.mul_le_mul_right (2 ^ q.k) this
          rw [Nat.succ_mul] at this
          omega
        omega
      exact ⟨⟨a1, a2⟩, by omega, h5⟩
  · have : ∀ a, cont p a = false := fun a => by unfold cont; rw [Bool.eq_false_iff.2 hp]; rfl
    rw [this, this]; simp
theorem cov_meet {p q : Prf} (hp : vld p = true) (hq : vld q = true) : (decide (p.addr ≤ q.high) && decide (q.addr ≤ p.high)) = (cov p q || cov q p) := by
  obtain ⟨g1, g2, g3⟩ := vld_iff.1 hp
  obtain ⟨h1, h2, h3⟩ := vld_iff.1 hq
  unfold cov cont
  rw [hp, hq]
  apply Bool.eq_iff_iff.2
  simp only [Bool.and_eq_true, Bool.or_eq_true, decide_eq_true_eq, true_and, len_k hp hq, len_k hq hp]
  unfold Prf.high
  rcases Nat.le_total p.k q.k with hk | hk
  · rw [nest hk g3 h3]
    constructor
    · intro h; exact .inr ⟨hk, h⟩
    · rintro (⟨h4, h5⟩ | ⟨_, h⟩)
      · have e : p.k = q.k := by omega
        rw [e] at h5 g3
        rw [mul_of_mod h3] at h5
        rw [← h5, mul_of_mod h3]
      · exact h
  · rw [and_comm, nest hk h3 g3]
    constructor
    · intro h; exact .inl ⟨hk, h⟩
    · rintro (⟨_, h⟩ | ⟨h4, h5⟩)
      · exact h
      · have e : p.k = q.k := by omega
        rw [← e] at h5 h3
        rw [mul_of_mod g3] at h5
        rw [← h5, mul_of_mod g3]
/-! ### Halves -/
def half1 (p : Prf) : Prf := ⟨p.addr, p.len + 1⟩
def half2 (p : Prf) : Prf := ⟨p.addr + 2 ^ (p.k - 1), p.len + 1⟩
theorem half_k {p : Prf} (h : vld p = true) (hl : p.len ≠ 32) : (half1 p).k = p.k - 1 ∧ (half2 p).k = p.k - 1 ∧ 1 ≤ p.k := by
  obtain ⟨h1, h2, _⟩ := vld_iff.1 h
  unfold half1 half2 Prf.k
  simp only
  omega
theorem half_vld {p : Prf} (h : vld p = true) (hl : p.len ≠ 32) : vld (half1 p) = true ∧ vld (half2 p) = true := by
  obtain ⟨h1, h2, h3⟩ := vld_iff.1 h
  obtain ⟨k1, k2, k3⟩ := half_k h hl
  have hm : p.addr % 2 ^ (p.k - 1) = 0 := mod_of_mod (by omega) h3
  refine ⟨vld_iff.2 ⟨?_, ?_, ?_⟩, vld_iff.2 ⟨?_, ?_, ?_⟩⟩
  · unfold half1; simp only; omega
  · unfold half1; simp only; omega
  · rw [k1]; exact hm
  · unfold half2; simp only; omega
  · unfold half2; simp only; omega
  · rw [k2]
    show (p.addr + 2 ^ (p.k - 1)) % 2 ^ (p.k - 1) = 0
    rw [Nat.add_mod_right]; exact hm
theorem half_cont {p : Prf} (h : vld p = true) (hl : p.len ≠ 32) (a : Nat) : cont p a = (cont (half1 p) a || cont (half2 p) a) ∧ (cont (half1 p) a && cont (half2 p) a) = false := by
  obtain ⟨v1, v2⟩ := half_vld h hl
  obtain ⟨k1, k2, k3⟩ := half_k h hl
  have hp := Nat.two_pow_pos (p.k - 1)
  have e : 2 ^ p.k = 2 ^ (p.k - 1) + 2 ^ (p.k - 1) := by rw [← Nat.mul_two, ← Nat.pow_succ]; congr 1; omega
  rw [cont_range h, cont_range v1, cont_range v2]
  unfold Prf.high
  rw [k1, k2, e]
  unfold half1 half2
  constructor
  · apply Bool.eq_iff_iff.2
    simp only [Bool.and_eq_true, Bool.or_eq_true, decide_eq_true_eq]
    omega
  · apply Bool.eq_false_iff.2
    simp only [ne_eq, Bool.and_eq_true, decide_eq_true_eq]
    omega
/-! ### The longest common prefix -/
def comK (a b : Nat) : Nat → Nat
  | 0 => 0
  | k + 1 => if a / 2 ^ k = b / 2 ^ k then comK a b k else k + 1
theorem comK_spec (a b : Nat) : ∀ k, a / 2 ^ k = b / 2 ^ k → comK a b k ≤ k ∧ a / 2 ^ comK a b k = b / 2 ^ comK a b k ∧ ∀ j, j < comK a b k → ¬ a / 2 ^ j = b / 2 ^ j
  | 0, h => ⟨Nat.le_refl _, h, fun j hj => absurd hj (Nat.not_lt_zero _)⟩
  | k + 1, h => by
    unfold comK
    split
    · rename_i e
      obtain ⟨h1, h2, h3⟩ := comK_spec a b k e
      exact ⟨by omega, h2, h3⟩
    · rename_i e
      refine ⟨Nat.le_refl _, h, fun j hj ej => e ?_⟩
      have : ∀ x, x / 2 ^ k = x / 2 ^ j / 2 ^ (k - j) := fun x => by
        rw [Nat.div_div_eq_div_mul, ← Nat.pow_add]; congr 2; omega
      rw [this a, this b, ej]
theorem comK_unique {a b k m : Nat} (hk : a / 2 ^ k = b / 2 ^ k) (_ : m ≤ k) (h2 : a / 2 ^ m = b / 2 ^ m) (h3 : ∀ j, j < m → ¬ a / 2 ^ j = b / 2 ^ j) : comK a b k = m := by
  obtain ⟨g1, g2, g3⟩ := comK_spec a b k hk
  rcases Nat.lt_trichotomy (comK a b k) m with h | h | h
  · exact absurd g2 (h3 _ h)
  · exact h
  · exact absurd h2 (g3 _ h)
end Go.Proofs.YtepkbbmjbbnhnaaGreatDoor

/- Orders of lists of ints, the first that differs counts (no program in sight). -/
namespace Go.Proofs.YtepkbbmjbbnhnaaGreatDoor
open Go.Sort
def ordI (a b : Int) : Int := if a < b then -1 else if b < a then 1 else 0
def orL : List Int → Int
  | [] => 0
  | x :: l => if x ≠ 0 then x else orL l
def cmpL (a b : List Int) : Int := orL (List.zipWith ordI a b)
theorem ordI_neg (a b : Int) : ordI b a = - ordI a b := by unfold ordI; split <;> split <;> omega
theorem ordI_zero {a b : Int} : ordI a b = 0 ↔ a = b := by unfold ordI; split <;> (try split) <;> omega
theorem ordI_lt {a b : Int} : ordI a b < 0 ↔ a < b := by unfold ordI; split <;> (try split) <;> omega
theorem ordI_vals (a b : Int) : ordI a b = -1 ∨ ordI a b = 0 ∨ ordI a b = 1 := by unfold ordI; split <;> (try split) <;> simp
theorem cmpL_cons (x : Int) (a : List Int) (y : Int) (b : List Int) : cmpL (x :: a) (y :: b) = if x = y then cmpL a b else ordI x y := by
  unfold cmpL
  simp only [List.zipWith_cons_cons, orL, ne_eq, ite_not, ordI_zero]
theorem cmpL_neg : ∀ (a b : List Int), cmpL b a = - cmpL a b
  | [], [] => rfl
  | [], _ :: _ => rfl
  | _ :: _, [] => rfl
  | x :: a, y :: b => by
    rw [cmpL_cons, cmpL_cons, cmpL_neg a b, ordI_neg x y]
    by_cases h : x = y
    · simp [h]
    · simp [h, Ne.symm h]
theorem cmpL_zero : ∀ (a b : List Int), a.length = b.length → (cmpL a b = 0 ↔ a = b)
  | [], [], _ => by simp [cmpL, orL]
  | [], _ :: _, h => by simp at h
  | _ :: _, [], h => by simp at h
  | x :: a, y :: b, h => by
    rw [cmpL_cons]
    by_cases e : x = y
    · simp [e, cmpL_zero a b (by simpa using h)]
    · simp [e, ordI_zero]
theorem cmpL_self (a : List Int) : cmpL a a = 0 := (cmpL_zero a a rfl).2 rfl
theorem cmpL_vals : ∀ (a b : List Int), cmpL a b = -1 ∨ cmpL a b = 0 ∨ cmpL a b = 1
  | [], [] => .inr (.inl rfl)
  | [], _ :: _ => .inr (.inl rfl)
  | _ :: _, [] => .inr (.inl rfl)
  | x :: a, y :: b => by
    rw [cmpL_cons]
    split
    · exact cmpL_vals a b
    · exact ordI_vals x y
theorem cmpL_trans : ∀ (a b c : List Int), a.length = b.length → b.length = c.length → cmpL a b < 0 → cmpL b c < 0 → cmpL a c < 0
  | [], b, c, _, _, h, _ => by
    have : cmpL [] b = 0 := by cases b <;> rfl
    omega
  | x :: a, [], c, h, _, _, _ => by simp at h
  | x :: a, y :: b, [], _, h, _, _ => by simp at h
  | x :: a, y :: b, z :: c, h1, h2, h, k => by
    rw [cmpL_cons] at *
    by_cases e : x = y
    · by_cases e2 : y = z
      · subst e; subst e2
        simp only [if_true] at *
        exact cmpL_trans a b c (by simpa using h1) (by simpa using h2) h k
      · subst e
        simp only [if_neg e2] at *
        exact k
    · by_cases e2 : y = z
      · subst e2
        simp only [if_neg e] at *
        exact h
      · simp only [if_neg e, if_neg e2, ordI_lt] at h k
        rw [if_neg (by omega), ordI_lt]
        omega
theorem cmpL_anti {a b : List Int} (h : a.length = b.length) : cmpL a b < 0 ∨ a = b ∨ cmpL b a < 0 := by
  rw [cmpL_neg a b]
  by_cases e : cmpL a b = 0
  · exact .inr (.inl ((cmpL_zero a b h).1 e))
  · omega
end Go.Proofs.YtepkbbmjbbnhnaaGreatDoor

/- The evaluator, part R: large regions that draw their order: what may come when, reckoned by numbers. -/
set_option linter.unusedSimpArgs false
set_option linter.unusedVariables false
namespace Go.Proofs.YtepkbbmjbbnhnaaGreatDoor
namespace Eng
structure Row where
  need : Nat
  dst : Nat
  looks : Nat
  kind : Nat
  deriving DecidableEq
def maskL : List Nat → Nat
  | [] => 0
  | t :: l => (1 <<< t) ||| maskL l
theorem maskL_bit : ∀ (l : List Nat) (t : Nat), (maskL l).testBit t = l.contains t
  | [], t => by simp [maskL]
  | u :: l, t => by
    rw [maskL, Nat.testBit_or, maskL_bit l t, List.contains_cons]
    congr 1
    rw [Nat.one_shiftLeft, Nat.testBit_two_pow]
    by_cases h : u = t
    · subst h; simp
    · simp [h, Ne.symm h]
def kindB (o : Oper) : Nat := bif wless o.op then 0 else bif loadOp o.op then 1 else 2
def dstOf (o : Oper) : Nat := match o.dst with | some d => d + 1 | none => 0
def rowOf (md : Region.Mode) (ops : Array Oper) (o : Oper) : Row := ⟨maskL ((o.after.toList.filter (Region.binds md)).map (·.on)), dstOf o, maskL (o.looksAt ops), kindB o⟩
def tabOk (md : Region.Mode) (ops : Array Oper) (n : Nat) : List Oper → List Row → Bool
  | [], [] => true
  | o :: l, r :: T => Nat.beq (maskL ((o.after.toList.filter (Region.binds md)).map (·.on))) r.need && Nat.beq (dstOf o) r.dst && Nat.beq (maskL (o.looksAt ops)) r.looks && Nat.beq (kindB o) r.kind && Nat.blt r.need (2 ^ n) && tabOk md ops n l T
  | _, _ => false
theorem tabOk_get {md : Region.Mode} {ops : Array Oper} {n : Nat} : ∀ (l : List Oper) (T : List Row), tabOk md ops n l T = true → T.length = l.length ∧ ∀ (j : Nat) (o : Oper), l[j]? = some o → T[j]? = some (rowOf md ops o) ∧ (rowOf md ops o).need < 2 ^ n
  | [], [], _ => ⟨rfl, fun j o h => by simp at h⟩
  | [], _ :: _, h => by simp [tabOk] at h
  | _ :: _, [], h => by simp [tabOk] at h
  | o :: l, r :: T, h => by
    simp only [tabOk, Bool.and_eq_true, Nat.beq_eq, Nat.blt_eq] at h
    obtain ⟨⟨⟨⟨⟨h1, h2⟩, h3⟩, h4⟩, h5⟩, h6⟩ := h
    obtain ⟨g1, g2⟩ := tabOk_get l T h6
    refine ⟨by simp [g1], fun j o' hj => ?_⟩
    cases j with
    | zero =>
      simp only [List.getElem?_cons_zero, Option.some.injEq] at hj ⊢
      subst hj
      have e : r = rowOf md ops o := by cases r; simp only at *; subst h1; subst h2; subst h3; subst h4; rfl
      rw [← e]
      exact ⟨rfl, h5⟩
    | succ j =>
      simp only [List.getElem?_cons_succ] at hj ⊢
      exact g2 j o' hj
def lst (n mask : Nat) : Array Bool := ((List.range n).map mask.testBit).toArray
theorem lst_getD (n mask j : Nat) (d : Bool) : (lst n mask).getD j d = if j < n then mask.testBit j else d := by
  unfold lst
  by_cases h : j < n
  · simp [Array.getD, h]
  · simp [Array.getD, h]
theorem lst_set {n mask k : Nat} : (lst n mask).setIfInBounds k true = lst n (mask ||| (1 <<< k)) := by
  apply Array.ext'
  unfold lst
  simp only [List.setIfInBounds_toArray]
  apply List.ext_getElem?
  intro j
  rw [List.getElem?_set]
  simp only [List.length_map, List.length_range, List.getElem?_map]
  by_cases hj : j < n
  · rw [List.getElem?_range hj]
    by_cases e : k = j
    · subst e
      rw [if_pos rfl, if_pos hj, Option.map_some, Nat.testBit_or, Nat.one_shiftLeft, Nat.testBit_two_pow]
      simp
    · rw [if_neg e, Option.map_some, Option.map_some, Nat.testBit_or, Nat.one_shiftLeft, Nat.testBit_two_pow]
      simp [e]
  · rw [List.getElem?_eq_none (by simp; omega)]
    split
    · subst_vars; simp [hj]
    · rfl
theorem lst_zero (n : Nat) : lst n 0 = Array.replicate n false := by
  apply Array.ext'
  unfold lst
  apply List.ext_getElem?
  intro j
  simp only [List.getElem?_map, Array.toList_replicate, List.getElem?_replicate]
  by_cases hj : j < n
  · rw [List.getElem?_range hj]; simp [hj]
  · rw [List.getElem?_eq_none (by simp; omega)]; simp [hj]
def allI (f : Nat → Row → Bool) : Nat → List Row → Bool
  | _, [] => true
  | i, r :: T => f i r && allI f (i + 1) T
theorem allI_get {f : Nat → Row → Bool} : ∀ (T : List Row) (i : Nat), allI f i T = true → ∀ (j : Nat) (r : Row), T[j]? = some r → f (i + j) r = true
  | [], i, h, j, r, hj => by simp at hj
  | r :: T, i, h, j, r', hj => by
    simp only [allI, Bool.and_eq_true] at h
    cases j with
    | zero => simp only [List.getElem?_cons_zero, Option.some.injEq] at hj; subst hj; exact h.1
    | succ j =>
      simp only [List.getElem?_cons_succ] at hj
      have := allI_get T (i + 1) h.2 j r' hj
      rwa [Nat.add_right_comm, Nat.add_assoc] at this
def readyR (mask i : Nat) (r : Row) : Bool := !mask.testBit i && Nat.beq (r.need &&& mask) r.need
def apartR (x y : Row) : Bool := (Nat.beq x.dst 0 || (!y.looks.testBit (x.dst - 1) && !Nat.beq y.dst x.dst)) && (Nat.beq y.dst 0 || !x.looks.testBit (y.dst - 1))
def freeR (T : List Row) (mask k : Nat) (rk : Row) : Bool := allI (fun j r => Nat.beq j k || mask.testBit j || r.need.testBit k || apartR rk r) 0 T
def blkR (k : Nat) : Nat → List Row → Nat → Nat
  | _, [], acc => acc
  | j, r :: T, acc => blkR k (j + 1) T (bif Nat.beq j k || !Nat.beq (r.need &&& acc) 0 then acc ||| (1 <<< j) else acc)
def blkC (T : List Row) (k B mask W : Nat) : Bool :=
  allI (fun j r => (!B.testBit j || ((Nat.beq j k || !Nat.beq (r.need &&& B) 0) && !mask.testBit j)) && (Nat.beq j k || mask.testBit j || B.testBit j || W.testBit j)) 0 T && Nat.blt B (2 ^ T.length)
def chkX (T : List Row) (W : Nat) : List Nat → Nat → (Nat → Bool) → Bool
  | [], mask, f => f mask
  | k :: r, mask, f => (match T[k]? with | some rk => readyR mask k rk && freeR T mask k rk && W.testBit k && (Nat.beq rk.kind 0 || (Nat.beq rk.kind 1 && blkC T k (blkR k 0 T 0) mask W)) | none => false) && chkX T W r (mask ||| (1 <<< k)) f
def chkB (T : List Row) : List (Nat × Bool) → Nat → Bool
  | [], mask => allI (fun j r => !readyR mask j r) 0 T
  | (k, false) :: r, mask => (match T[k]? with | some rk => readyR mask k rk | none => false) && allI (fun j r => Nat.beq j k || !readyR mask j r) 0 T && chkB T r (mask ||| (1 <<< k))
  | (k, true) :: r, mask => (match T[k]? with | some rk => readyR mask k rk && Nat.beq rk.kind 0 && freeR T mask k rk | none => false) && chkB T r (mask ||| (1 <<< k))
def chkR (T : List Row) (X : List Nat) (B : List (Nat × Bool)) (ws : List Nat) : Bool := chkX T (maskL X ||| maskL ws) X 0 fun mask => chkB T B mask
def keepC (l : List Oper) (T : List Row) (X : List Nat) (B : List (Nat × Bool)) (ws : List Nat) : Bool := Region.noSelect l.toArray && tabOk .any l.toArray l.length l T && chkR T X B ws && Nat.beq (X.length + B.length) l.length
def BT.seq : List (Nat × Bool) → BT
  | [] => .done
  | (i, false) :: r => .one i (BT.seq r)
  | (i, true) :: r => .free i (BT.seq r)
theorem btseq_nil : BT.seq [] = .done := rfl
theorem btseq_cons (i : Nat) (r : List (Nat × Bool)) : BT.seq ((i, false) :: r) = .one i (BT.seq r) := rfl
theorem btseq_free (i : Nat) (r : List (Nat × Bool)) : BT.seq ((i, true) :: r) = .free i (BT.seq r) := rfl
section
variable {l : List Oper} {T : List Row} {mask : Nat}
theorem ready_iff (ht : tabOk .any l.toArray l.length l T = true) {j : Nat} {r : Row} (hr : T[j]? = some r) : (j ∈ Region.ready .any l.toArray (lst l.length mask)) ↔ readyR mask j r = true := by
  obtain ⟨hlen, hget⟩ := tabOk_get l T ht
  have hj : j < l.length := by rw [← hlen]; exact (List.getElem?_eq_some_iff.1 hr).1
  obtain ⟨h1, h2⟩ := hget j l[j] (by simp [hj])
  rw [hr, Option.some.injEq] at h1
  subst h1
  rw [mem_ready, lst_getD, if_pos hj]
  unfold readyR
  simp only [Bool.and_eq_true, Bool.not_eq_true', Nat.beq_eq]
  refine and_congr Iff.rfl ?_
  have hbit : ∀ t, (rowOf .any l.toArray l[j]).need.testBit t = true ↔ ∃ e ∈ l[j].after, Region.binds .any e = true ∧ e.on = t := by
    intro t
    simp only [rowOf, maskL_bit, List.contains_iff_mem, List.mem_map, List.mem_filter, Array.mem_toList_iff]
    constructor
    · rintro ⟨e, ⟨h1, h2⟩, h3⟩; exact ⟨e, h1, h2, h3⟩
    · rintro ⟨e, h1, h2, h3⟩; exact ⟨e, ⟨h1, h2⟩, h3⟩
  have hlt : ∀ t, (rowOf .any l.toArray l[j]).need.testBit t = true → t < l.length := by
    intro t ht
    rcases Nat.lt_or_ge t l.length with h | h
    · exact h
    · have := Nat.testBit_lt_two_pow (Nat.lt_of_lt_of_le h2 (Nat.pow_le_pow_right (by omega) h))
      rw [this] at ht; cases ht
  constructor
  · rintro ⟨o, ho, hall⟩
    have ho' : o = l[j] := by simpa [hj] using ho.symm
    subst ho'
    apply Nat.eq_of_testBit_eq
    intro t
    rw [Nat.testBit_and]
    cases hb : (rowOf .any l.toArray l[j]).need.testBit t with
    | false => rfl
    | true =>
      obtain ⟨e, he, hbd, hon⟩ := (hbit t).1 hb
      have := hall e he hbd
      rw [lst_getD, hon, if_pos (hlt t hb)] at this
      rw [this]; rfl
  · intro h
    refine ⟨l[j], by simp [hj], fun e he hbd => ?_⟩
    have hb := (hbit e.on).2 ⟨e, he, hbd, rfl⟩
    have h9 : ((rowOf .any l.toArray l[j]).need &&& mask).testBit e.on = true := by rw [h]; exact hb
    rw [Nat.testBit_and, hb, Bool.true_and] at h9
    rw [lst_getD, if_pos (hlt _ hb)]
    exact h9
theorem apart_of {x y : Oper} {ops : Array Oper} (h : apartR (rowOf .any ops x) (rowOf .any ops y) = true) : x.apart ops y = true := by
  unfold apartR rowOf dstOf at h
  unfold Oper.apart
  simp only [maskL_bit, Bool.and_eq_true, Bool.or_eq_true, Nat.beq_eq, Bool.not_eq_true'] at h
  obtain ⟨h1, h2⟩ := h
  simp only [Bool.and_eq_true]
  refine ⟨?_, ?_⟩
  · cases hx : x.dst with
    | none => rfl
    | some d =>
      rw [hx] at h1
      simp only [Nat.add_sub_cancel] at h1
      rcases h1 with h1 | ⟨h1, h3⟩
      · omega
      · simp only [Bool.and_eq_true, Bool.not_eq_true', bne_iff_ne]
        refine ⟨h1, fun e => ?_⟩
        rw [e] at h3
        simp at h3
  · cases hy : y.dst with
    | none => rfl
    | some d =>
      rw [hy] at h2
      simp only [Nat.add_sub_cancel] at h2
      rcases h2 with h2 | h2
      · omega
      · simpa using h2
theorem row_at (ht : tabOk .any l.toArray l.length l T = true) {j : Nat} {o : Oper} (ho : l.toArray[j]? = some o) : T[j]? = some (rowOf .any l.toArray o) := ((tabOk_get l T ht).2 j o (by simpa using ho)).1
theorem need_bit {ops : Array Oper} {o : Oper} {t : Nat} : (rowOf .any ops o).need.testBit t = true ↔ ∃ e ∈ o.after, Region.binds .any e = true ∧ e.on = t := by
  simp only [rowOf, maskL_bit, List.contains_iff_mem, List.mem_map, List.mem_filter, Array.mem_toList_iff]
  constructor
  · rintro ⟨e, ⟨h1, h2⟩, h3⟩; exact ⟨e, h1, h2, h3⟩
  · rintro ⟨e, h1, h2, h3⟩; exact ⟨e, ⟨h1, h2⟩, h3⟩
theorem free_of (ht : tabOk .any l.toArray l.length l T = true) {k : Nat} {o : Oper} (ho : l.toArray[k]? = some o) (h : freeR T mask k (rowOf .any l.toArray o) = true) : Region.free .any l.toArray (lst l.length mask) k = true := by
  unfold Region.free
  rw [ho]
  refine List.all_eq_true.2 fun j hj => ?_
  have hj' : j < l.length := by simpa using hj
  have hoj : l.toArray[j]? = some l[j] := by simp [hj']
  have h1 := allI_get T 0 h j _ (row_at ht hoj)
  rw [Nat.zero_add] at h1
  simp only [Bool.or_eq_true, Nat.beq_eq] at h1
  simp only [hoj, Bool.or_eq_true, beq_iff_eq, lst_getD, if_pos hj']
  rcases h1 with ((h1 | h1) | h1) | h1
  · exact .inl (.inl h1)
  · exact .inl (.inr h1)
  · obtain ⟨e, he, hb, hon⟩ := need_bit.1 h1
    refine .inr (.inl (Array.any_eq_true'.2 ⟨e, he, by simp [hb, hon]⟩))
  · exact .inr (.inr (apart_of h1))
theorem op_at (ht : tabOk .any l.toArray l.length l T = true) {k : Nat} {r : Row} (hr : T[k]? = some r) : ∃ o, l.toArray[k]? = some o ∧ r = rowOf .any l.toArray o := by
  obtain ⟨hlen, hget⟩ := tabOk_get l T ht
  have hj : k < l.length := by rw [← hlen]; exact (List.getElem?_eq_some_iff.1 hr).1
  refine ⟨l[k], by simp [hj], ?_⟩
  have := (hget k l[k] (by simp [hj])).1
  rw [hr, Option.some.injEq] at this
  exact this
theorem filter_one {p : Nat → Bool} {k : Nat} : ∀ n, k < n → (∀ j, j < n → (p j = true ↔ j = k)) → (List.range n).filter p = [k]
  | 0, h, _ => by omega
  | n + 1, h, hp => by
    rw [List.range_succ, List.filter_append]
    by_cases e : k = n
    · subst e
      have : (List.range k).filter p = [] := List.filter_eq_nil_iff.2 fun j hj => fun h9 => by
        have hj' : j < k := by simpa using hj
        have := (hp j (by omega)).1 h9
        omega
      rw [this]
      simp [(hp k (by omega)).2 rfl]
    · rw [filter_one n (by omega) fun j hj => hp j (by omega)]
      have : p n = false := by
        cases h9 : p n with
        | false => rfl
        | true => have := (hp n (by omega)).1 h9; omega
      simp [this]
theorem ready_one (ht : tabOk .any l.toArray l.length l T = true) {k : Nat} {rk : Row} (hk : T[k]? = some rk) (h1 : readyR mask k rk = true) (h2 : allI (fun j r => Nat.beq j k || !readyR mask j r) 0 T = true) : Region.ready .any l.toArray (lst l.length mask) = [k] := by
  obtain ⟨hlen, _⟩ := tabOk_get l T ht
  have hk' : k < l.length := by rw [← hlen]; exact (List.getElem?_eq_some_iff.1 hk).1
  have hm : ∀ j, j < l.length → (j ∈ Region.ready .any l.toArray (lst l.length mask) ↔ j = k) := by
    intro j hj
    have hrj : T[j]? = some T[j] := by simp [hlen, hj]
    rw [ready_iff ht hrj]
    constructor
    · intro h9
      have := allI_get T 0 h2 j _ hrj
      rw [Nat.zero_add] at this
      simp only [Bool.or_eq_true, Nat.beq_eq, Bool.not_eq_true'] at this
      rcases this with this | this
      · exact this
      · rw [this] at h9; cases h9
    · rintro rfl
      rw [hk] at hrj
      simp only [Option.some.injEq] at hrj
      rw [← hrj]
      exact h1
  unfold Region.ready at hm ⊢
  refine filter_one _ (by simpa using hk') fun j hj => ?_
  have := hm j (by simpa using hj)
  rw [List.mem_filter] at this
  simp only [List.mem_range] at this
  constructor
  · intro h9; exact this.1 ⟨hj, h9⟩
  · intro h9; exact (this.2 h9).2
theorem ready_none (ht : tabOk .any l.toArray l.length l T = true) (h2 : allI (fun j r => !readyR mask j r) 0 T = true) : Region.ready .any l.toArray (lst l.length mask) = [] := by
  obtain ⟨hlen, _⟩ := tabOk_get l T ht
  refine List.eq_nil_iff_forall_not_mem.2 fun j hj => ?_
  have hj' : j < l.length := by
    obtain ⟨_, o, ho, _⟩ := mem_ready.1 hj
    simpa using (Array.getElem?_eq_some_iff.1 ho).1
  have hrj : T[j]? = some T[j] := by simp [hlen, hj']
  have := allI_get T 0 h2 j _ hrj
  rw [Nat.zero_add, (ready_iff ht hrj).1 hj] at this
  cases this
theorem kind0 {o : Oper} (h : kindB o = 0) : wless o.op = true := by
  unfold kindB at h
  cases hw : wless o.op with
  | true => rfl
  | false =>
    rw [hw] at h
    cases hl : loadOp o.op <;> rw [hl] at h <;> cases h
theorem chkB_ok (ht : tabOk .any l.toArray l.length l T = true) : ∀ (B : List (Nat × Bool)) (mask : Nat), chkB T B mask = true → btGo .any l.toArray (BT.seq B) true B.length (lst l.length mask) = true
  | [], mask, h => by
    simp only [BT.seq, btGo, List.length_nil, beq_self_eq_true, Bool.true_and]
    rw [ready_none ht h]; rfl
  | (k, true) :: r, mask, h => by
    simp only [chkB, Bool.and_eq_true] at h
    obtain ⟨h1, h3⟩ := h
    cases hk : T[k]? with
    | none => rw [hk] at h1; cases h1
    | some rk =>
      rw [hk] at h1
      obtain ⟨o, ho, rfl⟩ := op_at ht hk
      simp only [Bool.and_eq_true, Nat.beq_eq] at h1
      obtain ⟨⟨h1, h4⟩, h5⟩ := h1
      simp only [BT.seq, btGo, List.length_cons, Bool.and_eq_true]
      refine ⟨⟨⟨by simpa using (ready_iff ht hk).2 h1, by rw [ho]; exact kind0 h4⟩, free_of ht ho h5⟩, ?_⟩
      rw [lst_set]
      exact chkB_ok ht r _ h3
  | (k, false) :: r, mask, h => by
    simp only [chkB, Bool.and_eq_true] at h
    obtain ⟨⟨h1, h2⟩, h3⟩ := h
    cases hk : T[k]? with
    | none => rw [hk] at h1; cases h1
    | some rk =>
      rw [hk] at h1
      obtain ⟨o, ho, rfl⟩ := op_at ht hk
      simp only [BT.seq, btGo, List.length_cons, Bool.and_eq_true, beq_iff_eq]
      refine ⟨⟨ready_one ht hk h1 h2, by rw [ho]; rfl⟩, ?_⟩
      rw [lst_set]
      exact chkB_ok ht r _ h3
theorem kind1 {o : Oper} (h : kindB o = 1) : loadOp o.op = true := by
  unfold kindB at h
  cases hw : wless o.op with
  | true => rw [hw] at h; cases h
  | false =>
    rw [hw] at h
    cases hl : loadOp o.op with
    | false => rw [hl] at h; cases h
    | true => rfl
theorem blkC_ok (ht : tabOk .any l.toArray l.length l T = true) (W : Nat → Bool) (Wm : Nat) (hW : ∀ j, Wm.testBit j = true → W j = true) {k : Nat} (h6 : blkC T k (blkR k 0 T 0) mask Wm = true) :
    ∃ Bl : Nat → Bool, (∀ j oj, l.toArray[j]? = some oj → Bl j = true → j ≠ k → ∃ e ∈ oj.after, Region.binds .any e = true ∧ Bl e.on = true) ∧ (∀ j, Bl j = true → (lst l.length mask).getD j false = false) ∧
      ∀ j, j < l.toArray.size → j = k ∨ (lst l.length mask).getD j true = true ∨ Bl j = true ∨ W j = true := by
  refine ⟨fun j => (blkR k 0 T 0).testBit j, ?_, ?_, ?_⟩
  · intro j oj hoj hb hne
    simp only [blkC, Bool.and_eq_true] at h6
    have h9 := allI_get T 0 h6.1 j _ (row_at ht hoj)
    rw [Nat.zero_add] at h9
    simp only [hb, Bool.and_eq_true, Bool.or_eq_true, Bool.not_true, Bool.false_eq_true, false_or, Nat.beq_eq, hne, Bool.not_eq_true'] at h9
    have hne0 : (rowOf .any l.toArray oj).need &&& blkR k 0 T 0 ≠ 0 := by
      intro h0
      have := h9.1.1
      rw [h0] at this
      simp at this
    obtain ⟨t, ht'⟩ := Nat.exists_testBit_of_ne_zero hne0
    rw [Nat.testBit_and, Bool.and_eq_true] at ht'
    obtain ⟨e, he, hbd, hon⟩ := need_bit.1 ht'.1
    exact ⟨e, he, hbd, by rw [hon]; exact ht'.2⟩
  · intro j hb
    replace hb : (blkR k 0 T 0).testBit j = true := hb
    simp only [blkC, Bool.and_eq_true, Nat.blt_eq] at h6
    obtain ⟨hlen, _⟩ := tabOk_get l T ht
    have hj : j < l.length := by
      rcases Nat.lt_or_ge j l.length with h | h
      · exact h
      · have := Nat.testBit_lt_two_pow (Nat.lt_of_lt_of_le h6.2 (Nat.pow_le_pow_right (by omega) (by omega : T.length ≤ j)))
        rw [this] at hb; cases hb
    have hrj : T[j]? = some T[j] := by simp [hlen, hj]
    have h9 := allI_get T 0 h6.1 j _ hrj
    rw [Nat.zero_add] at h9
    rw [lst_getD, if_pos hj]
    simp only [hb, Bool.and_eq_true, Bool.or_eq_true, Bool.not_true, Bool.false_eq_true, false_or, Bool.not_eq_true'] at h9
    exact h9.1.2
  · intro j hj
    have hj' : j < l.length := by simpa using hj
    simp only [blkC, Bool.and_eq_true] at h6
    obtain ⟨hlen, _⟩ := tabOk_get l T ht
    have hrj : T[j]? = some T[j] := by simp [hlen, hj']
    have h9 := allI_get T 0 h6.1 j _ hrj
    rw [Nat.zero_add] at h9
    simp only [Bool.and_eq_true, Bool.or_eq_true, Nat.beq_eq] at h9
    rw [lst_getD, if_pos hj']
    rcases h9.2 with ((h9 | h9) | h9) | h9
    · exact .inl h9
    · exact .inr (.inl h9)
    · exact .inr (.inr (.inl h9))
    · exact .inr (.inr (.inr (hW j h9)))
theorem chkX_ok (ht : tabOk .any l.toArray l.length l T = true) (W : Nat → Bool) (Wm : Nat) (hW : ∀ j, Wm.testBit j = true → W j = true) (bt : BT) (m : Nat) (f : Nat → Bool) (hf : ∀ mask, f mask = true → btGo .any l.toArray bt true m (lst l.length mask) = true) : ∀ (X : List Nat) (mask : Nat), chkX T Wm X mask f = true → PreP .any l.toArray bt m W X (lst l.length mask)
  | [], mask, h => hf mask h
  | k :: r, mask, h => by
    simp only [chkX, Bool.and_eq_true] at h
    obtain ⟨h1, h3⟩ := h
    cases hk : T[k]? with
    | none => rw [hk] at h1; cases h1
    | some rk =>
      rw [hk] at h1
      obtain ⟨o, ho, rfl⟩ := op_at ht hk
      simp only [Bool.and_eq_true, Bool.or_eq_true, Nat.beq_eq] at h1
      obtain ⟨⟨⟨h1, h5⟩, h4⟩, h6⟩ := h1
      refine ⟨(ready_iff ht hk).2 h1, free_of ht ho h5, hW k h4, ⟨o, ho, h6.imp kind0 fun h9 => ⟨kind1 h9.1, blkC_ok ht W Wm hW h9.2⟩⟩, ?_⟩
      rw [lst_set]
      exact chkX_ok ht W Wm hW bt m f hf r _ h3
end
section
variable {P : Program} {F : Frm} {l : List Oper} {T : List Row} {Q : Exit → Act → World → Prop} {k : St → Prop} {R0 : Nat → Prop} {w0 : Org}
theorem Sat.region_rows {K : Exit → St → Prop} {st : St} {id : Nat} {l : List Oper} (T : List Row) (X : List Nat) (B : List (Nat × Bool)) (ws : List Nat) (hm : P.follows .mixedOrders = true) (hB : keepC l T X B ws = true) (hpan : ∀ c st, ¬ K (.panic c) st)
    (h : ∀ k : St → Prop, (∀ st', K .normal st' → k st') → WO P F (l.map (·.dst)) (X.map fun i => l.getD i default) st fun st2 => WBT P F (l.map (·.dst)) l st.own (keepW X ws) true (BT.seq B) st2 k) : Sat P F (.region id l.toArray true) st K := by
  rintro R0 w0 a w ⟨ob, R, hr⟩
  simp only [keepC, chkR, Bool.and_eq_true, Nat.beq_eq] at hB
  obtain ⟨⟨⟨hsel, ht⟩, hc⟩, hlen⟩ := hB
  have hdrew : Grown w { w with drawn := w.drawn + 1 } := ⟨rfl, rfl, rfl, Nat.le_refl _, fun _ _ _ => rfl⟩
  refine wp_region_any hm ?_
  have hpan' : ∀ c a w, ¬ (fun e a' w' => ∃ st', K e st' ∧ Rel F R0 w0 st' a' w') (.panic c) a w := fun c a w ⟨st', hk, _⟩ => hpan c st' hk
  have := keep_sound (P := P) (F := F) (R0 := R0) (w0 := w0) (Q := fun e a' w' => ∃ st', K e st' ∧ Rel F R0 w0 st' a' w') (k := K .normal) hpan' hsel X ws (BT.seq B) B.length (lst l.length 0) st a { w with drawn := w.drawn + 1 }
    (chkX_ok ht (keepW X ws) _ (fun j hj => by rw [Nat.testBit_or, maskL_bit, maskL_bit] at hj; exact hj) (BT.seq B) B.length _ (fun mask hb => chkB_ok ht B mask hb) X 0 hc)
    (by simpa using h _ fun _ h => h) ⟨ob, R, hr.grown hdrew⟩ (fun st' a' w' hk hr' => ⟨st', hk, hr'⟩)
  rw [hlen, lst_zero] at this
  simpa using this
theorem Sat.know_nil {c : Code} {K : Exit → St → Prop} {n : Nat} {env : List (Nat × SV)} {own : List Own} (t : Nat) {a : Option Addr} {len cap sz : Nat} {rd : Nat → Nat → SV} (hl : look env t = some (.sl a len cap sz rd)) (h : (a = none → len = 0) → Sat P F c ⟨n, env, own⟩ K) : Sat P F c ⟨n, env, own⟩ K := by
  rintro R0 w0 ac w ⟨ob, R, hr⟩
  refine h ?_ R0 w0 ac w ⟨ob, R, hr⟩
  rintro rfl
  rcases (hr.env t _ hl).2.2.2 with h | ⟨blk, off, h, _⟩
  · exact h
  · cases h
theorem Sat.know_row {c : Code} {K : Exit → St → Prop} {n : Nat} {env : List (Nat × SV)} {own : List Own} (id : Nat) {a : Option Addr} {e len cap sz : Nat} {rd : Nat → Nat → SV} (hl : own[id]? = some (.row a e len cap sz rd)) (h : len ≤ cap → Sat P F c ⟨n, env, own⟩ K) : Sat P F c ⟨n, env, own⟩ K := by
  rintro R0 w0 ac w ⟨ob, R, hr⟩
  refine h ?_ R0 w0 ac w ⟨ob, R, hr⟩
  rcases (hr.own _ _ hl).1.2 with ⟨hv, h0⟩ | ⟨g, cap', cur, hv, _, _, hn, _⟩
  · simp only [Value.slice.injEq] at hv; omega
  · simp only [Value.slice.injEq] at hv; omega
theorem Sat.adoptBox {c : Code} {K : Exit → St → Prop} {n : Nat} {env : List (Nat × SV)} {own : List Own} (id j : Nat) (e sz : Nat) (rd : Nat → Nat → SV) {blk ty sz0 : Nat} {cs : List SV} {rd0 : Nat → Nat → SV} (hl : own[id]? = some (.box blk ty cs)) (hj : cs[j]? = some (.sl none 0 0 sz0 rd0))
    (h : Sat P F c ⟨n, env, own.set id (.box blk ty (cs.set j (.os own.length none 0 0))) ++ [.row none e 0 0 sz rd]⟩ K) : Sat P F c ⟨n, env, own⟩ K := by
  rintro R0 w0 a w ⟨ob, R, hr⟩
  refine h R0 w0 a w ⟨ob, R, ?_⟩
  have hbox := hr.own id _ hl
  have hidl : id < own.length := (List.getElem?_eq_some_iff.1 hl).1
  have hjl : j < cs.length := (List.getElem?_eq_some_iff.1 hj).1
  have hden : (cs.set j (.os own.length none 0 0)).map SV.den = cs.map SV.den := by
    apply List.ext_getElem?
    intro q
    rw [List.getElem?_map, List.getElem?_map, List.getElem?_set]
    by_cases e : j = q
    · subst e
      rw [if_pos rfl, if_pos hjl, hj]; rfl
    · rw [if_neg e]
  have hok : (Own.box blk ty (cs.set j (.os own.length none 0 0))).ok R ob w := by
    refine ⟨hbox.1, hbox.2.1, by rw [hden]; exact hbox.2.2.1, fun x hx => ?_⟩
    rcases List.mem_or_eq_of_mem_set hx with hx | rfl
    · exact hbox.2.2.2 x hx
    · exact ⟨rfl, trivial⟩
  have h1 : RelR F R0 w0 ob R ⟨n, env, own.set id (.box blk ty (cs.set j (.os own.length none 0 0)))⟩ a w := by
    refine ⟨hr.defers, hr.env, hr.size, ?_, ?_, hr.evo, hr.inv, hr.obM, ?_, hr.obw, hr.rr, hr.r0⟩
    · intro i x hx
      rw [List.getElem?_set] at hx
      split at hx
      · simp only [hidl, if_true, Option.some.injEq] at hx
        subst hx
        exact hok
      · exact hr.own i x hx
    · intro i k x y hik hx hy b hb1 hb2
      rw [List.getElem?_set] at hx hy
      split at hx <;> split at hy
      · omega
      · rename_i e1 _
        subst e1
        simp only [hidl, if_true, Option.some.injEq] at hx
        subst hx
        exact hr.dist id k _ y hik hl hy b hb1 hb2
      · rename_i _ e1
        subst e1
        simp only [hidl, if_true, Option.some.injEq] at hy
        subst hy
        exact hr.dist i id x _ hik hx hl b hb1 hb2
      · exact hr.dist i k x y hik hx hy b hb1 hb2
    · exact gb_set (m := w0.w.heap.size) (Nat.le_refl _) hr.gb hl fun b hb => .inl hb
  exact h1.newRow (o := .row none e 0 0 sz rd) (w' := w) (grown_refl w none) (fun b hb => by cases hb) ⟨by simpa [cellsOf] using World.ownsRow_nil w _ e sz, (fun g hg => by cases hg), (fun i j hi => absurd hi (Nat.not_lt_zero _))⟩
theorem sim_nil (sz sz' : Nat) (rd rd' : Nat → Nat → SV) : sim (.sl none 0 0 sz rd) (.sl none 0 0 sz' rd') := ⟨rfl, fun R w h => ⟨h.1, h.2.1, .inl rfl⟩⟩
theorem sim_tup2 {s s' t t' : SV} (h0 : sim s s') (h1 : sim t t') : sim (tupL [s, t]) (tupL [s', t']) := by
  refine ⟨?_, fun R w h j hj => ?_⟩
  · simp only [tupL, SV.den, List.length_cons, List.length_nil]
    have : (List.range (0 + 1 + 1)) = [0, 1] := rfl
    rw [this]
    simp only [List.map_cons, List.map_nil, List.getD_cons_zero, List.getD_cons_succ, h0.1, h1.1]
  · have hj' : j < 2 := hj
    rcases (show j = 0 ∨ j = 1 by omega) with rfl | rfl
    · exact h0.2 R w (h 0 (by simp))
    · exact h1.2 R w (h 1 (by simp))
theorem sim_bools (n : Nat) (l l' : List SV) (hl : l.length = n) (h : l.map roB = l') : sim (.agg n fun j => l.getD j default) (.agg n fun j => l'.getD j default) := by
  subst h
  have hg : ∀ j, j < n → (l.map roB).getD j default = roB (l.getD j default) := fun j hj => getD_map_lt (by omega)
  refine ⟨?_, fun R w h j hj => ?_⟩
  · simp only [SV.den]
    congr 2
    apply List.map_congr_left
    intro j hj
    rw [hg j (by simpa using hj), roB_den]
  · have this : (l.getD j default).ok R w := h j hj
    show (((l.map roB)).getD j default).ok R w
    rw [hg j hj]
    generalize l.getD j default = s at this ⊢
    cases s <;> first | exact this | trivial
theorem sim_agg2 {f g : Nat → SV} (h0 : sim (f 0) (g 0)) (h1 : sim (f 1) (g 1)) : sim (.agg 2 f) (.agg 2 g) := by
  refine ⟨?_, fun R w h j hj => ?_⟩
  · simp only [SV.den]
    have : (List.range 2) = [0, 1] := rfl
    rw [this]
    simp only [List.map_cons, List.map_nil, h0.1, h1.1]
  · rcases (show j = 0 ∨ j = 1 by omega) with rfl | rfl
    · exact h0.2 R w (h 0 (by omega))
    · exact h1.2 R w (h 1 (by omega))
theorem ContractN.toC {f : FuncId} {args : List SV} {post : Own → Prop} (h : ContractN F P f args post) : Contract F P f args (fun r => ∃ a ty len cap sz rd, r = .sl a len cap sz rd ∧ post (.row a ty len cap sz rd)) := by
  refine ⟨h.enters, fun R w hinv hargs hR => (h.calls R w hinv hargs hR).mono ?_⟩
  rintro e w' ⟨a, ty, len, cap, sz, rd, R', rfl, hpost, hRR, hR', ho, hevo, hinv'⟩
  refine ⟨.sl a len cap sz rd, rfl, ⟨a, ty, len, cap, sz, rd, rfl, hpost⟩, ?_, hevo, hinv'⟩
  refine SV.ok_mono (R := fun b => R' b ∨ (Own.row a ty len cap sz rd).blk = some b) (fun b hb => ?_) (fun _ _ => rfl) _ (row_sl ho (fun _ h => .inl h) fun b hb => .inr hb)
  rcases hb with hb | hb
  · exact hR' b hb
  · exact .inr ⟨(Own.blk_lt ho hb).1, (Own.blk_lt ho hb).2.1⟩
theorem Contract.same {f : FuncId} {args : List SV} {post post' : SV → Prop} (h : Contract F P f args post) (hp : ∀ r, post r → ∃ r', sim r r' ∧ post' r') : Contract F P f args post' := by
  refine ⟨h.enters, fun R w hinv hargs hR => (h.calls R w hinv hargs hR).mono ?_⟩
  rintro e w' ⟨r, rfl, hpost, hok, hevo, hinv'⟩
  obtain ⟨r', hs, hp'⟩ := hp r hpost
  exact ⟨r', by rw [hs.1], hp', hs.2 _ _ hok, hevo, hinv'⟩
end
end Eng
end Go.Proofs.YtepkbbmjbbnhnaaGreatDoor

/- Registries (no program in sight): entries, what is valid, what is found, putting an entry into its place. -/
set_option linter.unusedSimpArgs false
set_option linter.unusedVariables false
namespace Go.Proofs.YtepkbbmjbbnhnaaGreatDoor
open Eng
structure Ent where
  addr : Nat
  len : Int
  prov : Int
  from_ : Int
  to_ : Int
  deriving DecidableEq
instance : Inhabited Ent := ⟨⟨0, 0, 0, 0, 0⟩⟩
def Ent.cs (e : Ent) : List SV := [.i .u32 e.addr, .i .i64 e.len, .i .i64 e.prov, .i .i64 e.from_, .i .i64 e.to_]
def entRd (es : List Ent) : Nat → Nat → SV := fun i j => (Ent.cs (es.getD i default)).getD j default
def Ent.pr (e : Ent) : Prf := ⟨e.addr, e.len⟩
def Ent.pk (e : Ent) : List Int := [(e.addr : Int), e.len]
def Ent.fk (e : Ent) : List Int := [(e.addr : Int), e.len, e.from_]
def Ent.keys (e : Ent) : List Int := [(e.addr : Int), e.len, e.from_, e.to_, e.prov]
def EntOk (e : Ent) : Prop := vld e.pr = true ∧ 1 ≤ e.prov ∧ e.prov ≤ 2147483647 ∧ 0 ≤ e.from_ ∧ e.from_ < e.to_ ∧ e.to_ ≤ 1125899906842624
instance (e : Ent) : Decidable (EntOk e) := by unfold EntOk; infer_instance
def nb (b e : Ent) : Prop := cmpL b.pk e.pk < 0 ∨ cmpL b.pk e.pk = 0 ∧ b.to_ ≤ e.from_
instance (b e : Ent) : Decidable (nb b e) := by unfold nb; infer_instance
def okAt (es : List Ent) (i : Nat) : Prop := EntOk (es.getD i default) ∧ (i = 0 ∨ nb (es.getD (i - 1) default) (es.getD i default))
instance (es : List Ent) (i : Nat) : Decidable (okAt es i) := by unfold okAt; infer_instance
def RegOk (es : List Ent) : Prop := es.length ≤ 1024 ∧ ∀ i, i < es.length → okAt es i
instance (es : List Ent) : Decidable (RegOk es) := by unfold RegOk; infer_instance
theorem getD_lt {es : List Ent} {i : Nat} (h : i < es.length) : es.getD i default = es[i] := by simp [List.getD, h]
theorem pk_zero {a b : Ent} : cmpL a.pk b.pk = 0 ↔ a.pk = b.pk := cmpL_zero _ _ rfl
theorem pk_iff {a b : Ent} : a.pk = b.pk ↔ a.addr = b.addr ∧ a.len = b.len := by
  unfold Ent.pk
  simp only [List.cons.injEq, and_true]
  omega
theorem fk_cmp (a b : Ent) : cmpL a.fk b.fk = if a.pk = b.pk then ordI a.from_ b.from_ else cmpL a.pk b.pk := by
  unfold Ent.fk Ent.pk
  simp only [cmpL_cons, List.cons.injEq, and_true]
  have h0 : cmpL [] [] = 0 := rfl
  rw [h0]
  by_cases h1 : (a.addr : Int) = b.addr
  · by_cases h2 : a.len = b.len
    · simp only [h1, h2, and_self, if_true]
      split
      · rename_i h3; rw [h3]; unfold ordI; rw [if_neg (by omega), if_neg (by omega)]
      · rfl
    · simp only [h1, h2, and_false, if_false, if_true]
  · simp only [h1, false_and, if_false]
theorem nb_fk {b e : Ent} (h : nb b e) (hb : b.from_ < b.to_) : cmpL b.fk e.fk < 0 := by
  rw [fk_cmp]
  rcases h with h | ⟨h, h'⟩
  · rw [if_neg (fun e9 => by rw [pk_zero.2 e9] at h; omega)]
    exact h
  · rw [if_pos (pk_zero.1 h)]
    unfold ordI
    rw [if_pos (by omega)]
    decide
theorem cmpL_trans' {a b c : List Int} (h1 : a.length = b.length) (h2 : b.length = c.length) (h : cmpL a b ≤ 0) (h' : cmpL b c < 0) : cmpL a c < 0 := by
  rcases cmpL_vals a b with e | e | e
  · exact cmpL_trans a b c h1 h2 (by omega) h'
  · rw [(cmpL_zero a b h1).1 e]; exact h'
  · omega
theorem nb_trans {a b c : Ent} (h : nb a b) (h' : nb b c) (hb : b.from_ < b.to_) : nb a c := by
  rcases h with h | ⟨h, g⟩
  · rcases h' with h' | ⟨h', g'⟩
    · exact .inl (cmpL_trans a.pk b.pk c.pk rfl rfl h h')
    · rw [pk_zero] at h'
      exact .inl (by rw [← h']; exact h)
  · rw [pk_zero] at h
    rcases h' with h' | ⟨h', g'⟩
    · exact .inl (by rw [h]; exact h')
    · exact .inr ⟨by rw [h]; exact h', by omega⟩
def Asc (es : List Ent) : Prop := es.Pairwise nb
theorem RegOk.ent {es : List Ent} (h : RegOk es) : ∀ e ∈ es, EntOk e := fun e he => by
  obtain ⟨i, hi, rfl⟩ := List.getElem_of_mem he
  have := (h.2 i hi).1
  rwa [getD_lt hi] at this
theorem RegOk.lt {es : List Ent} (h : RegOk es) : ∀ (d i : Nat), i + d + 1 < es.length → nb (es.getD i default) (es.getD (i + d + 1) default)
  | 0, i, hi => by
    rcases (h.2 (i + 1) hi).2 with h9 | h9
    · omega
    · exact h9
  | d + 1, i, hi => by
    have h1 := RegOk.lt h d i (by omega)
    have h2 : nb (es.getD (i + d + 1) default) (es.getD (i + (d + 1) + 1) default) := by
      rcases (h.2 (i + (d + 1) + 1) hi).2 with h9 | h9
      · omega
      · exact h9
    exact nb_trans h1 h2 (h.2 (i + d + 1) (by omega)).1.2.2.2.2.1
theorem RegOk.asc {es : List Ent} (h : RegOk es) : Asc es := by
  unfold Asc
  rw [List.pairwise_iff_getElem]
  intro i j hi hj hij
  have := RegOk.lt h (j - i - 1) i (by omega)
  rw [show i + (j - i - 1) + 1 = j by omega, getD_lt hi, getD_lt hj] at this
  exact this
theorem regOk_of {es : List Ent} (hl : es.length ≤ 1024) (he : ∀ e ∈ es, EntOk e) (ha : Asc es) : RegOk es := by
  refine ⟨hl, fun i hi => ⟨by rw [getD_lt hi]; exact he _ (List.getElem_mem hi), ?_⟩⟩
  rcases Nat.eq_zero_or_pos i with h0 | h0
  · exact .inl h0
  · right
    have := List.pairwise_iff_getElem.1 ha (i - 1) i (by omega) hi (by omega)
    rw [getD_lt (by omega), getD_lt hi]
    exact this
/-! ### What is found -/
def applies (a : Nat) (t : Int) (e : Ent) : Bool := decide (e.from_ ≤ t ∧ t < e.to_) && cont e.pr a
def shorter (b : Option Ent) (e : Ent) : Prop := ∀ x, b = some x → x.len < e.len
instance (b : Option Ent) (e : Ent) : Decidable (shorter b e) := match b with
  | none => .isTrue fun x h => by cases h
  | some y => if h : y.len < e.len then .isTrue fun x hx => by cases hx; exact h else .isFalse fun h' => h (h' y rfl)
def lkStep (a : Nat) (t : Int) (b : Option Ent) (e : Ent) : Option Ent := if applies a t e = true ∧ shorter b e then some e else b
def lkp (a : Nat) (t : Int) (es : List Ent) : Option Ent := es.foldl (lkStep a t) none
theorem lkp_app (a : Nat) (t : Int) (es : List Ent) (e : Ent) : lkp a t (es ++ [e]) = lkStep a t (lkp a t es) e := by
  unfold lkp
  rw [List.foldl_append]
  rfl
def Best (a : Nat) (t : Int) (es : List Ent) : Option Ent → Prop
  | none => ∀ e ∈ es, applies a t e = false
  | some x => x ∈ es ∧ applies a t x = true ∧ ∀ e ∈ es, applies a t e = true → e.len ≤ x.len
theorem best_step {a : Nat} {t : Int} {es : List Ent} {b : Option Ent} {e : Ent} (h : Best a t es b) : Best a t (es ++ [e]) (lkStep a t b e) := by
  unfold lkStep
  by_cases c : applies a t e = true ∧ shorter b e
  · rw [if_pos c]
    refine ⟨by simp, c.1, fun x hx hax => ?_⟩
    rcases List.mem_append.1 hx with hx | hx
    · cases b with
      | none => rw [h x hx] at hax; cases hax
      | some y => have := c.2 y rfl; have := h.2.2 x hx hax; omega
    · rw [List.mem_singleton.1 hx]; exact Int.le_refl _
  · rw [if_neg c]
    cases b with
    | none =>
      intro x hx
      rcases List.mem_append.1 hx with hx | hx
      · exact h x hx
      · rw [List.mem_singleton.1 hx]
        cases hae : applies a t e with
        | false => rfl
        | true => exact absurd ⟨hae, fun x hx => by cases hx⟩ c
    | some y =>
      refine ⟨List.mem_append_left _ h.1, h.2.1, fun x hx hax => ?_⟩
      rcases List.mem_append.1 hx with hx | hx
      · exact h.2.2 x hx hax
      · rw [List.mem_singleton.1 hx] at hax ⊢
        have : ¬ shorter (some y) e := fun hs => c ⟨hax, hs⟩
        rcases Int.lt_or_le y.len e.len with h9 | h9
        · exact absurd (fun x hx => by cases hx; exact h9) this
        · exact h9
theorem lkp_best (a : Nat) (t : Int) (es : List Ent) : Best a t es (lkp a t es) := by
  have : ∀ (n : Nat) (l : List Ent), l.length = n → Best a t l (lkp a t l) := by
    intro n
    induction n with
    | zero =>
      intro l hl
      rw [List.length_eq_zero_iff.1 hl]
      exact fun e he => by cases he
    | succ n ih =>
      intro l hl
      have hne : l ≠ [] := fun e => by rw [e] at hl; cases hl
      rw [← List.dropLast_concat_getLast hne, lkp_app]
      exact best_step (ih l.dropLast (by rw [List.length_dropLast]; omega))
  exact this es.length es rfl
/-! ### Its place -/
def insE (es : List Ent) (i : Nat) (e : Ent) : List Ent := es.take i ++ e :: es.drop i
def Place (es : List Ent) (q : List Int) (i : Nat) : Prop := i ≤ es.length ∧ (∀ j, j < i → cmpL (es.getD j default).fk q < 0) ∧ ∀ j, i ≤ j → j < es.length → 0 ≤ cmpL (es.getD j default).fk q
theorem insE_mem {es : List Ent} {i : Nat} {e x : Ent} : x ∈ insE es i e ↔ x ∈ es ∨ x = e := by
  unfold insE
  have h : x ∈ es ↔ x ∈ es.take i ∨ x ∈ es.drop i := by rw [← List.mem_append, List.take_append_drop]
  rw [List.mem_append, List.mem_cons, h]
  constructor
  · rintro (h | h | h)
    · exact .inl (.inl h)
    · exact .inr h
    · exact .inl (.inr h)
  · rintro ((h | h) | h)
    · exact .inl h
    · exact .inr (.inr h)
    · exact .inr (.inl h)
theorem insE_len {es : List Ent} {i : Nat} {e : Ent} (h : i ≤ es.length) : (insE es i e).length = es.length + 1 := by
  unfold insE
  rw [List.length_append, List.length_cons, List.length_take, List.length_drop]; omega
def plcN (es : List Ent) (q : List Int) : Nat := es.countP fun x => decide (cmpL x.fk q < 0)
theorem Place.eq {es : List Ent} {q : List Int} {i : Nat} (h : Place es q i) : i = plcN es q := by
  obtain ⟨h0, h1, h2⟩ := h
  unfold plcN
  have hs : es.countP (fun x => decide (cmpL x.fk q < 0)) = (es.take i).countP (fun x => decide (cmpL x.fk q < 0)) + (es.drop i).countP (fun x => decide (cmpL x.fk q < 0)) := by
    rw [← List.countP_append, List.take_append_drop]
  have ha : (es.take i).countP (fun x => decide (cmpL x.fk q < 0)) = (es.take i).length := by
    rw [List.countP_eq_length]
    intro x hx
    obtain ⟨j, hj, rfl⟩ := List.getElem_of_mem hx
    rw [List.length_take] at hj
    have := h1 j (by omega)
    rw [getD_lt (by omega)] at this
    rw [List.getElem_take, decide_eq_true_eq]
    exact this
  have hb : (es.drop i).countP (fun x => decide (cmpL x.fk q < 0)) = 0 := by
    rw [List.countP_eq_zero]
    intro x hx
    obtain ⟨j, hj, rfl⟩ := List.getElem_of_mem hx
    rw [List.length_drop] at hj
    have := h2 (i + j) (by omega) (by omega)
    rw [getD_lt (by omega)] at this
    rw [List.getElem_drop, decide_eq_true_eq]
    omega
  rw [hs, ha, hb, List.length_take]
  omega
def overlap (x e : Ent) : Prop := x.pk = e.pk ∧ x.from_ < e.to_ ∧ e.from_ < x.to_
def clash (es : List Ent) (e : Ent) (i : Nat) : Prop := (i < es.length ∧ (es.getD i default).pk = e.pk ∧ (es.getD i default).from_ < e.to_) ∨ (0 < i ∧ (es.getD (i - 1) default).pk = e.pk ∧ e.from_ < (es.getD (i - 1) default).to_)
theorem fk_lt {x e : Ent} (h : cmpL x.fk e.fk < 0) : (x.pk = e.pk ∧ x.from_ < e.from_) ∨ cmpL x.pk e.pk < 0 := by
  rw [fk_cmp] at h
  split at h
  · rename_i h1
    rw [ordI_lt] at h
    exact .inl ⟨h1, h⟩
  · exact .inr h
theorem fk_ge {x e : Ent} (h : 0 ≤ cmpL x.fk e.fk) : (x.pk = e.pk ∧ e.from_ ≤ x.from_) ∨ cmpL e.pk x.pk < 0 := by
  rw [fk_cmp] at h
  split at h
  · rename_i h1
    refine .inl ⟨h1, ?_⟩
    unfold ordI at h
    split at h
    · omega
    · omega
  · rename_i h1
    right
    rcases cmpL_anti (a := x.pk) (b := e.pk) rfl with h9 | h9 | h9
    · omega
    · exact absurd h9 h1
    · exact h9
theorem nb_pk {b e : Ent} (h : nb b e) : cmpL b.pk e.pk ≤ 0 := by
  rcases h with h | ⟨h, _⟩ <;> omega
theorem pk_between {a b c : Ent} (h : cmpL a.pk b.pk ≤ 0) (h' : cmpL b.pk c.pk ≤ 0) (e : a.pk = c.pk) : b.pk = a.pk := by
  rcases cmpL_vals a.pk b.pk with h1 | h1 | h1
  · rcases cmpL_vals b.pk c.pk with h2 | h2 | h2
    · have := cmpL_trans a.pk b.pk c.pk rfl rfl (by omega) (by omega)
      rw [e, cmpL_self] at this
      omega
    · rw [pk_zero] at h2; rw [h2, e]
    · omega
  · rw [pk_zero] at h1; exact h1.symm
  · omega
theorem clash_iff {es : List Ent} {e : Ent} {i : Nat} (hr : RegOk es) (he : EntOk e) (hp : Place es e.fk i) : clash es e i ↔ ∃ x ∈ es, overlap x e := by
  obtain ⟨h0, h1, h2⟩ := hp
  have hlt : ∀ a b, a < b → b < es.length → nb (es.getD a default) (es.getD b default) := fun a b hab hb => by
    have := RegOk.lt hr (b - a - 1) a (by omega)
    rwa [show a + (b - a - 1) + 1 = b by omega] at this
  have hok : ∀ a, a < es.length → (es.getD a default).from_ < (es.getD a default).to_ := fun a ha => (hr.2 a ha).1.2.2.2.2.1
  have hmem : ∀ a, a < es.length → es.getD a default ∈ es := fun a ha => by rw [getD_lt ha]; exact List.getElem_mem ha
  constructor
  · rintro (⟨g1, g2, g3⟩ | ⟨g1, g2, g3⟩)
    · refine ⟨_, hmem i g1, g2, g3, ?_⟩
      rcases fk_ge (h2 i (Nat.le_refl _) g1) with ⟨_, h9⟩ | h9
      · have := hok i g1; omega
      · rw [g2, cmpL_self] at h9; omega
    · refine ⟨_, hmem (i - 1) (by omega), g2, ?_, g3⟩
      rcases fk_lt (h1 (i - 1) (by omega)) with ⟨_, h9⟩ | h9
      · have := he.2.2.2.2.1; omega
      · rw [g2, cmpL_self] at h9; omega
  · rintro ⟨x, hx, g1, g2, g3⟩
    obtain ⟨j, hj, rfl⟩ := List.getElem_of_mem hx
    rw [← getD_lt hj] at g1 g2 g3
    rcases Nat.lt_or_ge j i with hji | hji
    · right
      have c2 : cmpL (es.getD (i - 1) default).pk e.pk ≤ 0 := by
        rcases fk_lt (h1 (i - 1) (by omega)) with ⟨h9, _⟩ | h9
        · rw [h9, cmpL_self]; omega
        · omega
      rcases Nat.lt_or_ge j (i - 1) with h9 | h9
      · have hn := hlt j (i - 1) h9 (by omega)
        have e9 := pk_between (nb_pk hn) c2 g1
        refine ⟨by omega, e9.trans g1, ?_⟩
        rcases hn with hn | ⟨_, hn⟩
        · rw [e9, cmpL_self] at hn; omega
        · have := hok (i - 1) (by omega); omega
      · have : j = i - 1 := by omega
        subst this
        exact ⟨by omega, g1, g3⟩
    · left
      have c2 : cmpL e.pk (es.getD i default).pk ≤ 0 := by
        rcases fk_ge (h2 i (Nat.le_refl _) (by omega)) with ⟨h9, _⟩ | h9
        · rw [h9, cmpL_self]; omega
        · omega
      rcases Nat.lt_or_ge i j with h9 | h9
      · have hn := hlt i j h9 hj
        have e9 := pk_between c2 (nb_pk hn) g1.symm
        refine ⟨by omega, e9, ?_⟩
        rcases hn with hn | ⟨_, hn⟩
        · rw [e9, g1, cmpL_self] at hn; omega
        · have := hok i (by omega); omega
      · have : j = i := by omega
        subst this
        exact ⟨hj, g1, g2⟩
theorem insE_ok {es : List Ent} {e : Ent} {i : Nat} (hr : RegOk es) (he : EntOk e) (hp : Place es e.fk i) (hno : ∀ x ∈ es, ¬ overlap x e) (hl : es.length < 1024) : RegOk (insE es i e) := by
  have hasc := hr.asc
  obtain ⟨h0, h1, h2⟩ := hp
  refine regOk_of (by rw [insE_len h0]; omega) (fun x hx => ?_) ?_
  · rcases insE_mem.1 hx with hx | rfl
    · exact hr.ent x hx
    · exact he
  · have hsplit : Asc (es.take i ++ es.drop i) := by rw [List.take_append_drop]; exact hasc
    obtain ⟨k1, k2, k3⟩ := List.pairwise_append.1 hsplit
    unfold Asc insE
    rw [List.pairwise_append, List.pairwise_cons]
    refine ⟨k1, ⟨fun x hx => ?_, k2⟩, fun a ha x hx => ?_⟩
    · obtain ⟨j, hj, rfl⟩ := List.getElem_of_mem hx
      rw [List.length_drop] at hj
      rw [List.getElem_drop]
      have hm : es[i + j] ∈ es := List.getElem_mem _
      have hx2 := h2 (i + j) (by omega) (by omega)
      rw [getD_lt (by omega)] at hx2
      rcases fk_ge hx2 with ⟨e9, h9⟩ | h9
      · right
        refine ⟨pk_zero.2 e9.symm, ?_⟩
        have := hno _ hm
        have := (hr.ent _ hm).2.2.2.2.1
        rcases Int.lt_or_le es[i + j].from_ e.to_ with h8 | h8
        · exact absurd ⟨e9, h8, by omega⟩ (hno _ hm)
        · exact h8
      · exact .inl h9
    · rcases List.mem_cons.1 hx with rfl | hx
      · obtain ⟨j, hj, rfl⟩ := List.getElem_of_mem ha
        rw [List.length_take] at hj
        rw [List.getElem_take]
        have hm : es[j] ∈ es := List.getElem_mem _
        have hx2 := h1 j (by omega)
        rw [getD_lt (by omega)] at hx2
        rcases fk_lt hx2 with ⟨e9, h9⟩ | h9
        · right
          refine ⟨pk_zero.2 e9, ?_⟩
          have := he.2.2.2.2.1
          rcases Int.lt_or_le x.from_ es[j].to_ with h8 | h8
          · exact absurd ⟨e9, by omega, h8⟩ (hno _ hm)
          · exact h8
        · exact .inl h9
      · exact k3 a ha x hx
end Go.Proofs.YtepkbbmjbbnhnaaGreatDoor

/- The evaluator, part V: a struct that holds rows of the call's own is handed to a function that only reads them. -/
set_option linter.unusedSimpArgs false
set_option linter.unusedVariables false
namespace Go.Proofs.YtepkbbmjbbnhnaaGreatDoor
namespace Eng
section
variable {P : Program} {F : Frm}
def noRow (own : List Own) : SV → Bool
  | .os id _ _ _ => match own[id]? with | some (.row _ _ _ _ _ _) => false | _ => true
  | _ => true
def leafOk (own : List Own) : SV → Bool
  | .agg n rd => (List.range n).all fun j => noRow own (rd j)
  | s => noRow own s
def leafS (own : List Own) : SV → SV
  | .agg n rd => .agg n fun j => roSl own (rd j)
  | s => roArgS own s
theorem roSl_frz {R0 R : Nat → Prop} {w0 : Org} {w : World} {ob : Nat} {st : St} {a : Act} (hr : RelR F R0 w0 ob R st a w) {s : SV} (hn : noRow st.own s = true) (hs : s.ok R w) : (roSl st.own s).den = s.den ∧ (roSl st.own s).ok R w := by
  refine ⟨(roSl_ok hr hs).1, ?_⟩
  unfold roSl
  cases hany : asAny st.own s with
  | none => exact hs
  | some p =>
    obtain ⟨a', len, cap, sz, rd⟩ := p
    have rd_ok : ∀ {s : SV}, asRead st.own s = some (a', len, cap, sz, rd) → s.ok R w → (SV.sl a' len cap sz rd).ok R w := fun h1 h2 => (asRead_ok (st := st) h1 hr.own h2).2
    unfold asAny at hany
    split at hany
    · rename_i id a1 len1 cap1
      split at hany
      · rename_i a2 e2 len2 cap2 sz2 rd2 ho2
        simp only [noRow, ho2] at hn
        cases hn
      · exact rd_ok hany hs
    · exact rd_ok hany hs
theorem leafS_ok {R0 R : Nat → Prop} {w0 : Org} {w : World} {ob : Nat} {st : St} {a : Act} (hr : RelR F R0 w0 ob R st a w) {s : SV} (hn : leafOk st.own s = true) (hs : s.ok R w) : (leafS st.own s).den = s.den ∧ (leafS st.own s).ok R w := by
  have top : ∀ s : SV, noRow st.own s = true → s.ok R w → (roArgS st.own s).den = s.den ∧ (roArgS st.own s).ok R w := fun s hn hs => by
    have := roSl_frz hr hn hs
    cases s <;> first | exact ⟨rfl, trivial⟩ | exact this
  cases s with
  | agg n rd =>
    have hn' : ∀ j, j < n → noRow st.own (rd j) = true := fun j hj => List.all_eq_true.1 hn j (List.mem_range.2 hj)
    refine ⟨?_, fun j hj => (roSl_frz hr (hn' j hj) (hs j hj)).2⟩
    simp only [leafS, SV.den]
    congr 2
    apply List.map_congr_left
    intro j hj
    exact (roSl_frz hr (hn' j (List.mem_range.1 hj)) (hs j (List.mem_range.1 hj))).1
  | v x => exact top (.v x) hn hs
  | i k m => exact top (.i k m) hn hs
  | b x => exact top (.b x) hn hs
  | tt => exact top .tt hn hs
  | ff => exact top .ff hn hs
  | sl a l c z rd => exact top (.sl a l c z rd) hn hs
  | el a m rd => exact top (.el a m rd) hn hs
  | os id a l c => exact top (.os id a l c) hn hs
  | mp id b => exact top (.mp id b) hn hs
  | oe id b o x j => exact top (.oe id b o x j) hn hs
  | op id b o => exact top (.op id b o) hn hs
  | tup m rd => exact top (.tup m rd) hn hs
  | ow id a z o l c => exact top (.ow id a z o l c) hn hs
  | wx i g z o l c => exact top (.wx i g z o l c) hn hs
  | fn f m rd => exact top (.fn f m rd) hn hs
theorem callK_leaf {st : St} {dst : Option Tmp} {k : St → Prop} {f : FuncId} {args : List SV} {post : SV → Prop} (ids : List SV) {own' : List Own} (hown : frz st.own ids = own') (hl : args.all (leafOk own') = true) (h : Contract F P f (args.map (leafS own')) post)
    (hk : ∀ r, post r → k (St.put { st with own := own' } dst r)) : CallK P F f args st dst k := by
  subst hown
  intro R0 w0 ob R a w hr hargs
  refine ⟨h.enters, ?_⟩
  obtain ⟨R1, hm1, hr1⟩ := hr.frz ids
  have hargs1 : ∀ s ∈ args, s.ok R1 w := fun s hs => SV.ok_mono hm1 (fun _ _ => rfl) s (hargs s hs)
  have hall : ∀ s ∈ args, leafOk (frz st.own ids) s = true := List.all_eq_true.1 hl
  have hden : (args.map (leafS (Eng.frz st.own ids))).map SV.den = args.map SV.den := by
    rw [List.map_map]
    exact List.map_congr_left fun s hs => (leafS_ok hr1 (hall s hs) (hargs1 s hs)).1
  have hok : ∀ s ∈ args.map (leafS (Eng.frz st.own ids)), s.ok R1 w := by
    intro s' hs'
    obtain ⟨s, hs, rfl⟩ := List.mem_map.1 hs'
    exact (leafS_ok hr1 (hall s hs) (hargs1 s hs)).2
  have hc := h.calls R1 w hr1.inv hok (fun b hb => ⟨(hr1.rr b hb).1, (hr1.rr b hb).2.1⟩)
  rw [hden] at hc
  refine hc.mono ?_
  rintro e w' ⟨r, rfl, hpost, hrok, hevo, hinv⟩
  exact ⟨r, _, _, rfl, hk r hpost, hrok, hr1.called hevo hinv, rfl⟩
theorem wcall_leaf {ds : List (Option Tmp)} {rest : List Oper} {dst : Option Tmp} {n : Nat} {env : List (Nat × SV)} {own own' : List Own} {k : St → Prop} {f : FuncId} {args args' : List SV} {post : SV → Prop} (ids : List SV) (hown : frz own ids = own') (hl : args.all (leafOk own') = true)
    (h : Contract F P f args' post) (ha : args.map (leafS own') = args') (hk : ∀ r, post r → WO P F ds rest (St.put ⟨n, env, own'⟩ dst r) k) : WCall P F ds rest dst ⟨n, env, own⟩ f (some args) k := by
  unfold WCall
  subst ha
  exact .inl <| callK_leaf (st := ⟨n, env, own⟩) (k := fun st' => WO P F ds rest st' k) ids hown hl h hk
end
end Eng
end Go.Proofs.YtepkbbmjbbnhnaaGreatDoor

/- The evaluator, part Z: functions that turn several objects of their caller's, and may give back new ones. -/
set_option linter.unusedSimpArgs false
set_option linter.unusedVariables false
namespace Go.Proofs.YtepkbbmjbbnhnaaGreatDoor
namespace Eng
def blks (os : List Own) (b : Nat) : Prop := ∃ (i : Nat) (o : Own), os[i]? = some o ∧ o.blk = some b
def Dist (os : List Own) : Prop := ∀ (i j : Nat) (o o' : Own), i ≠ j → os[i]? = some o → os[j]? = some o' → ∀ b, o.blk = some b → o'.blk ≠ some b
structure ContractL (F : Frm) (P : Program) (f : FuncId) (args : List SV) (os0 : List Own) (post : SV → List Own → Prop) : Prop where
  enters : ∀ vs w, (callFunc f vs).run P w = .ok (.enter f vs) w
  calls : ∀ (R : Nat → Prop) (w : World) (ob : Nat), F.Inv w → (∀ b, F.L b → b < ob) → ob ≤ w.heap.size → OwnsOk R ob os0 w → Dist os0 → (∀ s ∈ args, s.ok R w) → (∀ b, R b → b < w.heap.size ∧ ¬ F.M b) →
    Calls P f (args.map SV.den).toArray w fun e w' => ∃ (r : SV) (os1 : List Own) (R' : Nat → Prop), e = .returned r.den ∧ post r os1 ∧ os0.length ≤ os1.length ∧ (∀ b, R b → R' b) ∧ (∀ b, R' b → b < w'.heap.size ∧ (R b ∨ w.heap.size ≤ b ∨ blks os0 b)) ∧ r.ok R' w' ∧
      (∀ b, blks os1 b → w.heap.size ≤ b ∨ blks os0 b) ∧ OwnsOk R' ob os1 w' ∧ Dist os1 ∧ Evo (fun b => F.M b ∨ blks os0 b) w w' ∧ F.Inv w'
theorem ContractL.mono {F : Frm} {P : Program} {f : FuncId} {args : List SV} {os0 : List Own} {post post' : SV → List Own → Prop} (h : ContractL F P f args os0 post) (hp : ∀ r os, post r os → post' r os) : ContractL F P f args os0 post' :=
  ⟨h.enters, fun R w ob h1 h2 h3 h4 h5 h6 h7 => (h.calls R w ob h1 h2 h3 h4 h5 h6 h7).mono fun e w' ⟨r, os1, R', a, b, c⟩ => ⟨r, os1, R', a, hp _ _ b, c⟩⟩
def lf (own : List Own) (s : SV) : SV := match s with
  | .os id a len cap => (match own[id]? with | some (.row _ _ _ _ _ _) => .os id a len cap | _ => roSl own (.os id a len cap))
  | .tt => .b true
  | .ff => .b false
  | s => s
def lfA (own : List Own) (s : SV) : SV := match s with
  | .agg n rd => .agg n fun j => lf own (rd j)
  | s => lf own s
def resL (own : List Own) : List SV → SV
  | [s] => lfA own s
  | l => .tup l.length fun j => lfA own (l.getD j default)
section
variable {R : Nat → Prop} {B : Nat} {w : World} {own : List Own}
theorem lf_ok (ho : OwnsOk R B own w) {s : SV} (hs : s.ok R w) : (lf own s).den = s.den ∧ (lf own s).ok R w := by
  cases s with
  | os id a len cap =>
    simp only [lf]
    have read : (∀ a' e len' cap' sz rd, own[id]? ≠ some (.row a' e len' cap' sz rd)) → (roSl own (.os id a len cap)).den = (SV.os id a len cap).den ∧ (roSl own (.os id a len cap)).ok R w := by
      intro hn
      unfold roSl asAny
      try simp only []
      cases h1 : own[id]? with
      | none => try simp only []
                unfold asRead; simp only [h1]; first | exact ⟨rfl, trivial⟩ | exact ⟨trivial, trivial⟩ | trivial
      | some o =>
        cases o with
        | row a' e l' c' z' rd' => exact absurd h1 (hn _ _ _ _ _ _)
        | _ =>
          try simp only []
          cases hr : asRead own (.os id a len cap) with
          | none => exact ⟨rfl, trivial⟩
          | some p =>
            obtain ⟨a2, len2, cap2, sz2, rd2⟩ := p
            have h9 : asAny own (.os id a len cap) = some (a2, len2, cap2, sz2, rd2) := by unfold asAny; simp only [h1]; exact hr
            exact ⟨(asAny_cells (st := ⟨0, [], own⟩) h9 ho hs).1.symm, (asRead_ok (st := ⟨0, [], own⟩) hr ho hs).2⟩
    split
    · exact ⟨rfl, trivial⟩
    · rename_i hn
      exact read fun a' e l' c' z' rd' h => hn a' e l' c' z' rd' h
  | tt => exact ⟨rfl, trivial⟩
  | ff => exact ⟨rfl, trivial⟩
  | _ => exact ⟨rfl, hs⟩
theorem lfA_ok (ho : OwnsOk R B own w) {s : SV} (hs : s.ok R w) : (lfA own s).den = s.den ∧ (lfA own s).ok R w := by
  cases s with
  | agg n rd =>
    refine ⟨?_, fun j hj => (lf_ok ho (hs j hj)).2⟩
    simp only [lfA, SV.den]
    congr 2
    exact List.map_congr_left fun j hj => (lf_ok ho (hs j (List.mem_range.1 hj))).1
  | _ => exact lf_ok ho hs
end
def retLK (n : Nat) (st : St) (post : SV → List Own → Prop) (l : List SV) : Prop := ∃ os1 tl, st.own = os1 ++ tl ∧ n ≤ os1.length ∧ post (resL st.own l) os1
def retL (P : Program) (rs : List ResultVar) (n : Nat) (post : SV → List Own → Prop) : Exit → St → Prop
  | .normal, st => resHolds P st rs (retLK n st post)
  | .ret, st => resHolds P st rs (retLK n st post)
  | _, _ => False
theorem contractL_of {P : Program} {F : Frm} {f : FuncId} {fn : Func} {c : Code} {args : List SV} {os0 : List Own} {post : SV → List Own → Prop} (hf : P.funcs[f]? = some fn) (hb : fn.body = some c) (hname : (fn.name == "runtime.NumGoroutine") = false)
    (h : Sat P F c ⟨fn.ntmps, argEnv 0 args, os0⟩ (retL P fn.results.toList os0.length post)) : ContractL F P f args os0 post := by
  refine ⟨fun vs w => ?_, fun R w ob hinv hobM hobw ho0 hd0 hargs hR => ?_⟩
  · have hn : ¬ fn.name = "runtime.NumGoroutine" := by simpa using hname
    simp [callFunc, hf, hn, hb]
  · refine calls_of_wp hf hb ?_
    have hrel : RelR F R ⟨w, blks os0⟩ ob R ⟨fn.ntmps, argEnv 0 args, os0⟩ { tmps := (args.map SV.den).toArray ++ Array.replicate (fn.ntmps - (args.map SV.den).toArray.size) undef, defers := [] } w := by
      refine ⟨rfl, ?_, ?_, ho0, hd0, Evo.refl _ _, hinv, hobM, fun i o ho b hb => .inr ⟨i, o, ho, hb⟩, hobw, fun b hb => ⟨(hR b hb).1, (hR b hb).2, .inl hb⟩, fun _ h => h⟩
      · intro t s ht
        obtain ⟨j, rfl, hj⟩ := look_argEnv args 0 t s ht
        have hlt := (List.getElem?_eq_some_iff.1 hj).1
        refine ⟨?_, hargs s (List.mem_of_getElem? hj)⟩
        rw [Nat.zero_add, Array.getElem?_append_left (by simpa using hlt)]
        simp [hj]
      · simp; omega
    refine wp_mono (h R ⟨w, blks os0⟩ _ w ⟨_, R, hrel⟩) ?_
    have fin : ∀ a' w' st', resHolds P st' fn.results.toList (retLK os0.length st' post) → Rel F R ⟨w, blks os0⟩ st' a' w' → a'.defers = [] ∧ ∃ v, (results fn a'.tmps).run P w' = .ok v w' ∧
        (fun e w' => ∃ (r : SV) (os1 : List Own) (R' : Nat → Prop), e = Ending.returned r.den ∧ post r os1 ∧ os0.length ≤ os1.length ∧ (∀ b, R b → R' b) ∧ (∀ b, R' b → b < w'.heap.size ∧ (R b ∨ w.heap.size ≤ b ∨ blks os0 b)) ∧ r.ok R' w' ∧
          (∀ b, blks os1 b → w.heap.size ≤ b ∨ blks os0 b) ∧ OwnsOk R' ob os1 w' ∧ Dist os1 ∧ Evo (fun b => F.M b ∨ blks os0 b) w w' ∧ F.Inv w') (.returned v) w' := by
      rintro a' w' st' hres ⟨ob', R', hr'⟩
      obtain ⟨l, ⟨os1, tl, hown', hlen, hpost⟩, hlok, hrun⟩ := resHolds_ok hr' hres
      have hmA : ∀ (g : ResultVar → Sem Value), (fn.results.toList.mapM g).run P w' = .ok (l.map SV.den) w' → (fn.results.mapM g).run P w' = .ok (l.map SV.den).toArray w' := by
        intro g hg
        rw [Array.mapM_eq_mapM_toList]
        simp only [Sem.run_map, hg, Result.andThen_ok]
      have hpre : ∀ (i : Nat) (o : Own), os1[i]? = some o → st'.own[i]? = some o := fun i o ho => by
        rw [hown', List.getElem?_append_left (List.getElem?_eq_some_iff.1 ho).1]
        exact ho
      have hbl : ∀ b, blks os1 b → w.heap.size ≤ b ∨ blks os0 b := fun b ⟨i, o, ho, hb⟩ => hr'.gb i o (hpre i o ho) b hb
      have hge : ∀ b, w.heap.size ≤ b ∨ blks os0 b → ob ≤ b := fun b hb => by
        rcases hb with hb | ⟨i, o, ho, hb⟩
        · omega
        · exact (Own.blk_lt (ho0 i o ho) hb).1
      refine ⟨hr'.defers, (resL st'.own l).den, ?_, resL st'.own l, os1, R', rfl, hpost, hlen, hr'.r0, fun b hb => ⟨(hr'.rr b hb).1, (hr'.rr b hb).2.2⟩, ?_, hbl, fun i o ho => Own.rebase (hr'.own i o (hpre i o ho)) (fun b hb => hge b (hbl b ⟨i, o, ho, hb⟩)), fun i j o o' hij ho ho' => hr'.dist i j o o' hij (hpre i o ho) (hpre j o' ho'), hr'.evo, hr'.inv⟩
      · unfold results
        rw [Sem.run_bind]
        show ((fn.results.mapM (resRun a'.tmps)).run P w').andThen _ = _
        rw [hmA _ hrun]
        simp only [Result.andThen_ok, Sem.run_pure, Result.ok.injEq, and_true]
        match l, hlok with
        | [s], hlok => simp [resL, (lfA_ok hr'.own (hlok s List.mem_cons_self)).1]
        | [], _ => simp [resL, SV.den]
        | s :: t :: rest, hlok =>
          simp only [resL, SV.den, List.map_cons, List.size_toArray, List.length_cons, List.length_map]
          rw [dif_neg (by omega)]
          congr 1
          apply Array.ext'
          apply List.ext_getElem?
          intro j
          simp only [List.getElem?_map]
          by_cases hj : j < rest.length + 1 + 1
          · rw [List.getElem?_range hj]
            have hj' : j < (s :: t :: rest).length := by simpa using hj
            have e1 : (s.den :: t.den :: rest.map SV.den) = (s :: t :: rest).map SV.den := rfl
            rw [e1, List.getElem?_map, getD_get hj' (d := default), Option.map_some, Option.map_some]
            congr 1
            exact (lfA_ok hr'.own (hlok _ (getD_mem hj'))).1.symm
          · rw [List.getElem?_eq_none (by simp; omega), List.getElem?_eq_none (by simp; omega)]; rfl
      · match l, hlok with
        | [s], hlok => exact (lfA_ok hr'.own (hlok s List.mem_cons_self)).2
        | [], _ => intro j hj; simp at hj
        | s :: t :: rest, hlok =>
          intro j hj
          have hj' : j < (s :: t :: rest).length := by simpa using hj
          exact (lfA_ok hr'.own (hlok _ (getD_mem hj'))).2
    rintro e a' w' ⟨st', hk, hr⟩
    cases e with
    | normal => exact fin a' w' st' hk hr
    | ret => exact fin a' w' st' hk hr
    | _ => exact hk.elim
/-! ### At the caller -/
def idx : List Nat → Nat → Option Nat
  | [], _ => none
  | x :: xs, i => if x = i then some 0 else (idx xs i).map (· + 1)
theorem idx_some : ∀ {ids : List Nat} {i k : Nat}, idx ids i = some k → ids[k]? = some i
  | [], i, k, h => by cases h
  | x :: xs, i, k, h => by
    simp only [idx] at h
    split at h
    · rename_i e; simp only [Option.some.injEq] at h; subst h; simp [e]
    · cases h2 : idx xs i with
      | none => rw [h2] at h; cases h
      | some k2 =>
        rw [h2] at h
        simp only [Option.map_some, Option.some.injEq] at h
        subst h
        simpa using idx_some h2
theorem idx_none : ∀ {ids : List Nat} {i : Nat}, idx ids i = none → ∀ k : Nat, ids[k]? ≠ some i
  | [], i, _, k => by simp
  | x :: xs, i, h, k => by
    simp only [idx] at h
    split at h
    · cases h
    · rename_i hne
      cases k with
      | zero => simpa using hne
      | succ k =>
        simp only [List.getElem?_cons_succ]
        exact idx_none (by simpa using h) k
def toC (ids : List Nat) (m i : Nat) : Nat := if i < ids.length then ids.getD i 0 else m + (i - ids.length)
def renI (f : Nat → Nat) : SV → SV
  | .os id a len cap => .os (f id) a len cap
  | .oe id blk off ix j => .oe (f id) blk off ix j
  | .op id blk off => .op (f id) blk off
  | .ow id a sz off len cap => .ow (f id) a sz off len cap
  | .mp id blk => .mp (f id) blk
  | .wx id g sz off len cap => .wx (f id) g sz off len cap
  | .agg n rd => .agg n fun j => renI f (rd j)
  | .tup n rd => .tup n fun j => renI f (rd j)
  | s => s
theorem renI_den (f : Nat → Nat) (s : SV) : (renI f s).den = s.den := by
  induction s with
  | agg n rd ih => simp only [renI, SV.den, ih]
  | tup n rd ih => simp only [renI, SV.den, ih]
  | _ => rfl
theorem renI_ok {f : Nat → Nat} {R : Nat → Prop} {w : World} (s : SV) : s.ok R w → (renI f s).ok R w := by
  induction s with
  | agg n rd ih => exact fun h j hj => ih j (h j hj)
  | tup n rd ih => exact fun h j hj => ih j (h j hj)
  | os => exact fun _ => trivial
  | oe => exact fun _ => trivial
  | op => exact fun _ => trivial
  | ow => exact fun _ => trivial
  | mp => exact fun _ => trivial
  | wx => exact fun _ => trivial
  | _ => exact fun h => h
def renO (f : Nat → Nat) : Own → Own
  | .box blk ty cs => .box blk ty (cs.map (renI f))
  | o => o
theorem renO_blk (f : Nat → Nat) (o : Own) : (renO f o).blk = o.blk := by cases o <;> rfl
theorem renO_ok {f : Nat → Nat} {R : Nat → Prop} {B : Nat} {w : World} {o : Own} (h : o.ok R B w) : (renO f o).ok R B w := by
  cases o with
  | box blk ty cs =>
    obtain ⟨h1, h2, h3, h4⟩ := h
    refine ⟨h1, h2, ?_, fun c hc => ?_⟩
    · rw [h3, List.map_map]
      congr 3
      exact List.map_congr_left fun c _ => (renI_den f c).symm
    · obtain ⟨c0, hc0, rfl⟩ := List.mem_map.1 hc
      exact ⟨by rw [renI_den]; exact (h4 c0 hc0).1, renI_ok c0 (h4 c0 hc0).2⟩
  | _ => exact h
def toF (ids : List Nat) (i : Nat) : Nat := (idx ids i).getD i
def setA (ids : List Nat) (os : List Own) : Nat → List Own → List Own
  | _, [] => os.drop ids.length
  | i, o :: l => (match idx ids i with | some k => os.getD k o | none => o) :: setA ids os (i + 1) l
theorem setA_get (ids : List Nat) (os : List Own) (hl : ids.length ≤ os.length) : ∀ (own : List Own) (i j : Nat) (x : Own), (setA ids os i own)[j]? = some x →
    (∃ k, idx ids (i + j) = some k ∧ os[k]? = some x ∧ k < ids.length) ∨ (idx ids (i + j) = none ∧ own[j]? = some x) ∨ (own.length ≤ j ∧ os[ids.length + (j - own.length)]? = some x)
  | [], i, j, x, h => by
    right; right
    simp only [setA, List.getElem?_drop] at h
    exact ⟨Nat.zero_le _, by simpa using h⟩
  | o :: l, i, 0, x, h => by
    simp only [setA, List.getElem?_cons_zero, Option.some.injEq] at h
    rw [Nat.add_zero]
    split at h
    · rename_i k hk
      have hlt : k < ids.length := (List.getElem?_eq_some_iff.1 (idx_some hk)).1
      refine .inl ⟨k, hk, ?_, hlt⟩
      rw [← h]
      simp [List.getD, List.getElem?_eq_getElem (show k < os.length by omega)]
    · rename_i hk
      exact .inr (.inl ⟨hk, by simp [h]⟩)
  | o :: l, i, j + 1, x, h => by
    simp only [setA, List.getElem?_cons_succ] at h
    have := setA_get ids os hl l (i + 1) j x h
    rw [show i + 1 + j = i + (j + 1) by omega] at this
    rcases this with h9 | h9 | ⟨h8, h9⟩
    · exact .inl h9
    · exact .inr (.inl (by simpa using h9))
    · exact .inr (.inr ⟨by simp; omega, by simpa using h9⟩)
def argL1 (own : List Own) (ids : List Nat) (s : SV) : SV := match s with
  | .os id a len cap => (match idx ids id with | some k => .os k a len cap | none => lf own (.os id a len cap))
  | .op id blk off => (match idx ids id with | some k => .op k blk off | none => .op id blk off)
  | .mp id blk => (match idx ids id with | some k => .mp k blk | none => .mp id blk)
  | .ow id a sz off len cap => (match idx ids id with | some k => .ow k a sz off len cap | none => .ow id a sz off len cap)
  | s => lf own s
def argL (own : List Own) (ids : List Nat) (s : SV) : SV := match s with
  | .agg n rd => .agg n fun j => argL1 own ids (rd j)
  | .fn f n rd => .fn f n fun j => argL1 own ids (rd j)
  | s => argL1 own ids s
theorem argL1_ok {R : Nat → Prop} {B : Nat} {w : World} {own : List Own} (ids : List Nat) (ho : OwnsOk R B own w) {s : SV} (hs : s.ok R w) : (argL1 own ids s).den = s.den ∧ (argL1 own ids s).ok R w := by
  cases s with
  | os id a len cap =>
    simp only [argL1]
    split
    · exact ⟨rfl, trivial⟩
    · exact lf_ok ho hs
  | op id blk off => simp only [argL1]; split <;> exact ⟨rfl, trivial⟩
  | mp id blk => simp only [argL1]; split <;> exact ⟨rfl, trivial⟩
  | ow id a sz off len cap => simp only [argL1]; split <;> exact ⟨rfl, trivial⟩
  | _ => exact lf_ok ho hs
theorem argL_ok {R : Nat → Prop} {B : Nat} {w : World} {own : List Own} (ids : List Nat) (ho : OwnsOk R B own w) {s : SV} (hs : s.ok R w) : (argL own ids s).den = s.den ∧ (argL own ids s).ok R w := by
  cases s with
  | agg n rd =>
    refine ⟨?_, fun j hj => (argL1_ok ids ho (hs j hj)).2⟩
    simp only [argL, SV.den]
    congr 2
    exact List.map_congr_left fun j hj => (argL1_ok ids ho (hs j (List.mem_range.1 hj))).1
  | fn f n rd =>
    refine ⟨?_, fun j hj => (argL1_ok ids ho (hs j hj)).2⟩
    simp only [argL, SV.den]
    congr 2
    exact List.map_congr_left fun j hj => (argL1_ok ids ho (hs j (List.mem_range.1 hj))).1
  | _ => exact argL1_ok ids ho hs
section
variable {P : Program} {F : Frm}
theorem callK_multi {st : St} {dst : Option Tmp} {k : St → Prop} {f : FuncId} {args : List SV} {post : SV → List Own → Prop} (fids : List SV) (ids : List Nat) {os0 own' : List Own} (hown : frz st.own fids = own') (hnd : ids.Nodup) (hget : ids.map (fun i => (own'[i]?).map (renO (toF ids))) = os0.map some)
    (h : ContractL F P f (args.map (argL own' ids)) os0 post)
    (hk : ∀ r os1, post r os1 → k (St.put { st with own := setA ids (os1.map (renO (toC ids own'.length))) 0 own' } dst (renI (toC ids own'.length) r))) : CallK P F f args st dst k := by
  subst hown
  intro R0 w0 ob R a w hr0 hargs0
  refine ⟨h.enters, ?_⟩
  obtain ⟨R1, hm1, hr⟩ := hr0.frz fids
  have hargs : ∀ s ∈ args, s.ok R1 w := fun s hs => SV.ok_mono hm1 (fun _ _ => rfl) s (hargs0 s hs)
  clear hr0 hargs0
  generalize hst1 : ({ st with own := Eng.frz st.own fids } : St) = st1 at hr
  have eown : Eng.frz st.own fids = st1.own := by rw [← hst1]
  have en : st1.n = st.n := by rw [← hst1]
  have hputs : ∀ (o : List Own) (s : SV), St.put { st with own := o } dst s = St.put { st1 with own := o } dst s := fun o s => by rw [← hst1]
  rw [eown] at hget h hk
  clear eown hst1
  have hlen : ids.length = os0.length := by simpa using congrArg List.length hget
  have hat : ∀ (k i : Nat), ids[k]? = some i → ∃ o, st1.own[i]? = some o ∧ os0[k]? = some (renO (toF ids) o) := fun k i hki => by
    have := congrArg (fun l : List (Option Own) => l[k]?) hget
    simp only [List.getElem?_map, hki, Option.map_some] at this
    cases ho : os0[k]? with
    | none => rw [ho] at this; cases this
    | some o =>
      rw [ho] at this
      simp only [Option.map_some, Option.some.injEq] at this
      obtain ⟨o', h1, h2⟩ := Option.map_eq_some_iff.1 this
      exact ⟨o', h1, by rw [h2]⟩
  have hat' : ∀ (k : Nat) (o : Own), os0[k]? = some o → ∃ i o2, ids[k]? = some i ∧ st1.own[i]? = some o2 ∧ o = renO (toF ids) o2 := fun k o hko => by
    have hlt := (List.getElem?_eq_some_iff.1 hko).1
    have h1 : ids[k]? = some ids[k] := List.getElem?_eq_getElem (by omega)
    obtain ⟨o', h2, h3⟩ := hat k _ h1
    rw [hko] at h3
    cases h3
    exact ⟨_, o', h1, h2, rfl⟩
  have hos0 : OwnsOk R1 ob os0 w := fun k o hko => by
    obtain ⟨i, o2, _, h2, rfl⟩ := hat' k o hko
    exact renO_ok (hr.own i o2 h2)
  have hd0 : Dist os0 := fun p q o o' hpq hp hq b hb => by
    obtain ⟨i, o2, h1, h2, rfl⟩ := hat' p o hp
    obtain ⟨j, o2', h3, h4, rfl⟩ := hat' q o' hq
    rw [renO_blk] at hb ⊢
    refine hr.dist i j o2 o2' (fun e => hpq ?_) h2 h4 b hb
    subst e
    have hlt := (List.getElem?_eq_some_iff.1 h1).1
    exact (List.getElem?_inj hlt hnd).1 (h1.trans h3.symm)
  have hdenA : (args.map (argL st1.own ids)).map SV.den = args.map SV.den := by
    rw [List.map_map]
    exact List.map_congr_left fun s hs => (argL_ok ids hr.own (hargs s hs)).1
  have hc := h.calls R1 w ob hr.inv hr.obM hr.obw hos0 hd0 (fun s' hs' => by
    obtain ⟨s, hs, rfl⟩ := List.mem_map.1 hs'
    exact (argL_ok ids hr.own (hargs s hs)).2) (fun b hb => ⟨(hr.rr b hb).1, (hr.rr b hb).2.1⟩)
  rw [hdenA] at hc
  refine hc.mono ?_
  rintro e w' ⟨r, os1, R', rfl, hpost, hl1, hRR, hR', hrok, hbl, ho1, hd1, hevo, hinv⟩
  refine ⟨renI (toC ids st1.own.length) r, { st1 with own := setA ids (os1.map (renO (toC ids st1.own.length))) 0 st1.own }, R', by rw [renI_den], by rw [← hputs]; exact hk r os1 hpost, renI_ok r hrok, ?_, en⟩
  have hb0 : ∀ b, blks os0 b → ∃ (i : Nat) (o : Own), st1.own[i]? = some o ∧ o.blk = some b ∧ ∃ k, ids[k]? = some i := fun b ⟨k, o, hko, hb⟩ => by
    obtain ⟨i, o2, h1, h2, rfl⟩ := hat' k o hko
    exact ⟨i, o2, h2, by rwa [renO_blk] at hb, k, h1⟩
  have hb0lt : ∀ b, blks os0 b → ob ≤ b ∧ b < w.heap.size ∧ ¬ R1 b := fun b hb => by
    obtain ⟨i, o, h1, h2, _⟩ := hb0 b hb
    exact Own.blk_lt (hr.own i o h1) h2
  have hRb : ∀ b, R1 b → w'.heap[b]? = w.heap[b]? := fun b hb => hevo.block b (hr.rr b hb).1 (fun hm => by
    rcases hm with hm | hm
    · exact (hr.rr b hb).2.1 hm
    · exact (hb0lt b hm).2.2 hb)
  have hout : ∀ (i : Nat) (o : Own), idx ids i = none → st1.own[i]? = some o → ∀ b, o.blk = some b → ¬ blks os0 b := fun i o hi ho b hb h9 => by
    obtain ⟨j, o', h1, h2, k, h3⟩ := hb0 b h9
    have hne : i ≠ j := fun e => idx_none hi k (e ▸ h3)
    exact hr.dist i j o o' hne ho h1 b hb h2
  have hother : ∀ (i : Nat) (o : Own), idx ids i = none → st1.own[i]? = some o → ∀ b, o.blk = some b → w'.heap[b]? = w.heap[b]? := fun i o hi ho b hb => by
    obtain ⟨h1, h2, _⟩ := Own.blk_lt (hr.own i o ho) hb
    exact hevo.block b h2 (fun hm => by
      rcases hm with hm | hm
      · have := hr.ltM hm; omega
      · exact hout i o hi ho b hb hm)
  have hsz := hevo.size
  have hobw := hr.obw
  have hw0 := hr.evo.size
  have hone : ∀ (j : Nat) (x : Own), (setA ids (os1.map (renO (toC ids st1.own.length))) 0 st1.own)[j]? = some x →
      (∃ q y, os1[q]? = some y ∧ x = renO (toC ids st1.own.length) y ∧ ((idx ids j = some q ∧ q < ids.length) ∨ (st1.own.length ≤ j ∧ q = ids.length + (j - st1.own.length)))) ∨ (idx ids j = none ∧ st1.own[j]? = some x) := fun j x hx => by
    have := setA_get ids (os1.map (renO (toC ids st1.own.length))) (by simp; omega) st1.own 0 j x hx
    rw [Nat.zero_add] at this
    rcases this with ⟨q, h1, h2, h3⟩ | h9 | ⟨h1, h2⟩
    · rw [List.getElem?_map] at h2
      obtain ⟨y, hy, rfl⟩ := Option.map_eq_some_iff.1 h2
      exact .inl ⟨q, y, hy, rfl, .inl ⟨h1, h3⟩⟩
    · exact .inr h9
    · rw [List.getElem?_map] at h2
      obtain ⟨y, hy, rfl⟩ := Option.map_eq_some_iff.1 h2
      exact .inl ⟨_, y, hy, rfl, .inr ⟨h1, rfl⟩⟩
  have hsep : ∀ (j : Nat) (x : Own), idx ids j = none → st1.own[j]? = some x → ∀ b, x.blk = some b → ¬ blks os1 b := fun j x hj hx b hb h9 => by
    rcases hbl b h9 with h8 | h8
    · have := (Own.blk_lt (hr.own j x hx) hb).2.1; omega
    · exact hout j x hj hx b hb h8
  refine ⟨hr.defers, fun t s ht => ⟨(hr.env t s ht).1, SV.ok_mono hRR hRb s (hr.env t s ht).2⟩, hr.size, ?_, ?_, ?_, hinv, hr.obM, ?_, Nat.le_trans hr.obw hevo.size, ?_, fun b hb => hRR b (hr.r0 b hb)⟩
  · intro j x hx
    rcases hone j x hx with ⟨q, y, hy, rfl, _⟩ | ⟨hj, hx⟩
    · exact renO_ok (ho1 q y hy)
    · refine Own.ok_keep (hr.own j x hx) hRR (fun b hb hb' => ?_) hRb (hother j x hj hx)
      rcases (hR' b hb').2 with h9 | h9 | h9
      · exact h9
      · have := (Own.blk_lt (hr.own j x hx) hb).2.1; omega
      · exact absurd h9 (hout j x hj hx b hb)
  · intro i j x y hij hx hy b hb1 hb2
    rcases hone i x hx with ⟨q, x', hx', rfl, hq⟩ | ⟨hi, hx⟩ <;> rcases hone j y hy with ⟨p, y', hy', rfl, hp⟩ | ⟨hj, hy⟩
    · rw [renO_blk] at hb1 hb2
      refine hd1 q p x' y' (fun e => hij ?_) hx' hy' b hb1 hb2
      subst e
      rcases hq with ⟨h1, h2⟩ | ⟨h1, h2⟩ <;> rcases hp with ⟨h3, h4⟩ | ⟨h3, h4⟩
      · have := (idx_some h1).symm.trans (idx_some h3)
        simpa using this
      · omega
      · omega
      · omega
    · rw [renO_blk] at hb1
      exact hsep j y hj hy b hb2 ⟨q, x', hx', hb1⟩
    · rw [renO_blk] at hb2
      exact hsep i x hi hx b hb1 ⟨p, y', hy', hb2⟩
    · exact hr.dist i j x y hij hx hy b hb1 hb2
  · exact ⟨hevo.os.trans hr.evo.os, hevo.tape.trans hr.evo.tape, hevo.output.trans hr.evo.output, Nat.le_trans hr.evo.size hevo.size, fun b hb hm => (hevo.block b (Nat.lt_of_lt_of_le hb hr.evo.size) (fun h9 => by
      rcases h9 with h9 | h9
      · exact hm (.inl h9)
      · obtain ⟨i, o, h1, h2, _⟩ := hb0 b h9
        rcases hr.gb i o h1 b h2 with h8 | h8
        · omega
        · exact hm (.inr h8))).trans (hr.evo.block b hb hm)⟩
  · intro j x hx b hb
    rcases hone j x hx with ⟨q, y, hy, rfl, _⟩ | ⟨hj, hx⟩
    · rw [renO_blk] at hb
      rcases hbl b ⟨q, y, hy, hb⟩ with h9 | h9
      · exact .inl (by omega)
      · obtain ⟨i, o, h1, h2, _⟩ := hb0 b h9
        exact hr.gb i o h1 b h2
    · exact hr.gb j x hx b hb
  · intro b hb
    obtain ⟨h1, h2⟩ := hR' b hb
    rcases h2 with h9 | h9 | h9
    · obtain ⟨g1, g2, g3⟩ := hr.rr b h9
      exact ⟨h1, g2, g3⟩
    · exact ⟨h1, fun hm => by have := hr.ltM hm; omega, .inr (.inl (by omega))⟩
    · have h8 := hb0lt b h9
      obtain ⟨i, o, g1, g2, _⟩ := hb0 b h9
      exact ⟨h1, fun hm => by have := hr.ltM hm; omega, .inr (hr.gb i o g1 b g2)⟩
theorem wcall_multi {ds : List (Option Tmp)} {rest : List Oper} {dst : Option Tmp} {n : Nat} {env : List (Nat × SV)} {own own' : List Own} {k : St → Prop} {f : FuncId} {args args' : List SV} {post : SV → List Own → Prop} (fids : List SV) (ids : List Nat) {os0 : List Own} (h : ContractL F P f args' os0 post) (hown : frz own fids = own') (hnd : ids.Nodup) (hget : ids.map (fun i => (own'[i]?).map (renO (toF ids))) = os0.map some)
    (ha : args.map (argL own' ids) = args') (hk : ∀ r os1, post r os1 → WO P F ds rest (St.put ⟨n, env, setA ids (os1.map (renO (toC ids own'.length))) 0 own'⟩ dst (renI (toC ids own'.length) r)) k) : WCall P F ds rest dst ⟨n, env, own⟩ f (some args) k := by
  unfold WCall
  subst ha
  exact .inl <| callK_multi (st := ⟨n, env, own⟩) (k := fun st' => WO P F ds rest st' k) fids ids hown hnd hget h hk
end
end Eng
end Go.Proofs.YtepkbbmjbbnhnaaGreatDoor

/- The evaluator: windows of a row that are used by hand (x[:k] beyond its length, copies into it, append within its room). -/
set_option linter.unusedSimpArgs false
set_option linter.unusedVariables false
namespace Go.Proofs.YtepkbbmjbbnhnaaGreatDoor
namespace Eng
section
variable {P : Program} {F : Frm} {st : St} {k : St → Prop} {dst : Option Tmp} {ds : List (Option Tmp)} {rest : List Oper}
theorem run_sliceBounds_cap {w : World} {len cap : Nat} {lo hi : Option Value} {l h : Int} (hl : (lo = none ∧ l = 0) ∨ ∃ k, lo = some (.int k l)) (hh : (hi = none ∧ h = (len : Int)) ∨ ∃ k, hi = some (.int k h))
    (h0 : 0 ≤ l) (h1 : l ≤ h) (h2 : h ≤ (cap : Int)) (hc : len ≤ cap) : (Instr.sliceBounds true len cap lo hi none).run P w = .ok (l.toNat, h.toNat, cap) w := by
  rcases hl with ⟨rfl, rfl⟩ | ⟨k, rfl⟩ <;> rcases hh with ⟨rfl, rfl⟩ | ⟨k', rfl⟩
  · simp [Instr.sliceBounds]
  · simp [Instr.sliceBounds, Instr.sliceBound, asIntOf, h2, show 0 ≤ h by omega]
  · simp [Instr.sliceBounds, Instr.sliceBound, asIntOf, h0, h1]
  · simp [Instr.sliceBounds, Instr.sliceBound, asIntOf, h0, h1, h2, show 0 ≤ h by omega]
    try omega
theorem wx_slice {t e : TypeId} {x : Operand} {lo hi : Option Operand} {id g sz off len cap : Nat} {l h : Int} (hd : dstOk st dst) (ht : tk P t = .slice e) (hx : ev st.env x = some (.wx id g sz off len cap)) (hl : bound st.env lo 0 = some l) (hh : bound st.env hi len = some h)
    (hz : tsz P e = sz) (hz0 : 0 < sz) (h0 : 0 ≤ l) (h1 : l ≤ h) (h2 : h ≤ (cap : Int)) (hc : len ≤ cap) (h3 : l < (cap : Int))
    (hk : k (st.put dst (.wx id g sz (off + l.toNat) (h.toNat - l.toNat) (cap - l.toNat)))) : Good P F (.slice t x lo hi none) dst st k := by
  subst hz
  rintro R0 w0 a w o next Q ho rfl ⟨ob, R, hr⟩ hn
  have hb := run_sliceBounds_cap (P := P) (w := w) (eval_bound hr.env hl) (eval_bound hr.env hh) h0 h1 h2 hc
  have hs := run_sizeOf hz0 w
  have hx' := (ev_ok hr.env hx).1
  simp only [SV.den] at hx'
  have hne : ¬ (cap - l.toNat = 0) := by omega
  have hadd : (⟨g, off * tsz P e, none⟩ : Addr).add (l.toNat * tsz P e) = ⟨g, (off + l.toNat) * tsz P e, none⟩ := by rw [Addr.add_lit, Nat.add_mul]
  have hrun : (execOp a.eval o).run P w = .ok (.value (SV.wx id g (tsz P e) (off + l.toNat) (h.toNat - l.toNat) (cap - l.toNat)).den) w := by
    have e1 : ¬ (cap = l.toNat) := by omega
    have e2 : l.toNat ≠ cap := by omega
    have e3 : l.toNat < cap := by omega
    simp [execOp, ho, hx', Instr.sliceAt, Instr.slice, run_underlying (tk_slice ht), hb, hs, SV.den, hne, e1, e2, e3, hadd]
  unfold Oper.wp
  rw [hrun]
  exact hn _ _ _ hk ⟨ob, R, hr.put (s := .wx id g (tsz P e) (off + l.toNat) (h.toNat - l.toNat) (cap - l.toNat)) (dstOk_of hd) trivial⟩
theorem wx_sl (l h off' len' cap' : Nat) {t e : TypeId} {x : Operand} {lo hi : Option Operand} {id g sz off len cap : Nat} (hd : dstOk st dst) (ht : tk P t = .slice e) (hx : ev st.env x = some (.wx id g sz off len cap)) (hl : bound st.env lo 0 = some (l : Int)) (hh : bound st.env hi len = some (h : Int))
    (hz : tsz P e = sz) (hz0 : 0 < sz) (hb : (l ≤ h ∧ h ≤ cap ∧ len ≤ cap ∧ l < cap) ∧ off' = off + l ∧ len' = h - l ∧ cap' = cap - l)
    (hk : k (st.put dst (.wx id g sz off' len' cap'))) : Good P F (.slice t x lo hi none) dst st k := by
  obtain ⟨⟨h1, h2, hc, h3⟩, rfl, rfl, rfl⟩ := hb
  exact wx_slice hd ht hx hl hh hz hz0 (by omega) (by omega) (by omega) hc (by omega) (by simpa using hk)
theorem wx_sl3 (l h m : Nat) {t e : TypeId} {x lo hi mx : Operand} {k1 k2 k3 : IntKind} {id g sz off len cap : Nat} (hd : dstOk st dst) (ht : tk P t = .slice e) (hx : ev st.env x = some (.wx id g sz off len cap)) (hl : ev st.env lo = some (.i k1 (l : Int))) (hh : ev st.env hi = some (.i k2 (h : Int))) (hm : ev st.env mx = some (.i k3 (m : Int)))
    (hz : tsz P e = sz) (hz0 : 0 < sz) (hb : l ≤ h ∧ h ≤ m ∧ m ≤ cap ∧ l < m)
    (hk : k (st.put dst (.wx id g sz (off + l) (h - l) (m - l)))) : Good P F (.slice t x (some lo) (some hi) (some mx)) dst st k := by
  subst hz
  obtain ⟨h1, h2, h3, h4⟩ := hb
  rintro R0 w0 a w o next Q ho rfl ⟨ob, R, hr⟩ hn
  have hs := run_sizeOf hz0 w
  have hx' := (ev_ok hr.env hx).1
  have hl' := (ev_ok hr.env hl).1
  have hh' := (ev_ok hr.env hh).1
  have hm' := (ev_ok hr.env hm).1
  simp only [SV.den] at hx' hl' hh' hm'
  have hadd : (⟨g, off * tsz P e, none⟩ : Addr).add (l * tsz P e) = ⟨g, (off + l) * tsz P e, none⟩ := by rw [Addr.add_lit, Nat.add_mul]
  have e1 : ¬ (m = l) := by omega
  have e2 : ¬ (m - l = 0) := by omega
  have hb : (Instr.sliceBounds true len cap (some (.int k1 l)) (some (.int k2 h)) (some (.int k3 m))).run P w = .ok (l, h, m) w := by
    simp [Instr.sliceBounds, Instr.sliceBound, asIntOf, h1, h2, h3]
  have hrun : (execOp a.eval o).run P w = .ok (.value (SV.wx id g (tsz P e) (off + l) (h - l) (m - l)).den) w := by
    simp [execOp, ho, hx', hl', hh', hm', Instr.sliceAt, Instr.slice, run_underlying (tk_slice ht), hb, hs, SV.den, e1, e2, hadd]
  unfold Oper.wp
  rw [hrun]
  exact hn _ _ _ hk ⟨ob, R, hr.put (s := .wx id g (tsz P e) (off + l) (h - l) (m - l)) (dstOk_of hd) trivial⟩
theorem wx_slice_end {t e : TypeId} {x : Operand} {lo : Option Operand} {id g sz off len cap : Nat} {l : Int} (hd : dstOk st dst) (ht : tk P t = .slice e) (hx : ev st.env x = some (.wx id g sz off len cap)) (hl : bound st.env lo 0 = some l)
    (hz : tsz P e = sz) (hz0 : 0 < sz) (hlc : l = (cap : Int)) (hc : len = cap)
    (hk : k (st.put dst (.sl (some ⟨g, off * sz, none⟩) 0 0 sz (fun _ _ => default)))) : Good P F (.slice t x lo none none) dst st k := by
  subst hz
  rintro R0 w0 a w o next Q ho rfl ⟨ob, R, hr⟩ hn
  have hb := run_sliceBounds_cap (P := P) (w := w) (len := len) (cap := cap) (h := (len : Int)) (eval_bound hr.env hl) (.inl ⟨rfl, rfl⟩) (by omega) (by omega) (by omega) (by omega)
  have hs := run_sizeOf hz0 w
  have hx' := (ev_ok hr.env hx).1
  simp only [SV.den] at hx'
  have hrun : (execOp a.eval o).run P w = .ok (.value (SV.sl (some ⟨g, off * tsz P e, none⟩) 0 0 (tsz P e) (fun _ _ => default)).den) w := by
    have e1 : l.toNat = cap := by omega
    have e2 : len - cap = 0 := by omega
    subst hc
    simp [execOp, ho, hx', Instr.sliceAt, Instr.slice, run_underlying (tk_slice ht), hb, hs, SV.den, e1, e2]
  unfold Oper.wp
  rw [hrun]
  exact hn _ _ _ hk ⟨ob, R, hr.put (s := .sl (some ⟨g, off * tsz P e, none⟩) 0 0 (tsz P e) (fun _ _ => default)) (dstOk_of hd) ⟨Nat.le_refl _, Nat.zero_le _, .inl rfl⟩⟩
def rdPut (off m : Nat) (rd rd2 : Nat → Nat → SV) : Nat → Nat → SV := rdCat off rd (rdCat m rd2 (rdOff (off + m) rd))
theorem rdPut_eq (off m : Nat) (rd rd2 : Nat → Nat → SV) (p q : Nat) : rdPut off m rd rd2 p q = if p < off then rd p q else if p < off + m then rd2 (p - off) q else rd p q := by
  unfold rdPut rdCat rdOff
  split
  · rfl
  · by_cases h : p < off + m
    · rw [if_pos (by omega), if_pos h]
    · rw [if_neg (by omega), if_neg h]
      congr 1
      omega
theorem row_write {R : Nat → Prop} {B : Nat} {w : World} {g e n off m cap sz : Nat} {rd rd2 : Nat → Nat → SV} (h : (Own.row (some ⟨g, 0, none⟩) e n cap sz rd).ok R B w) (hoff : off ≤ n) (hcap : off + m ≤ cap)
    (hone : ∀ i j, i < m → j < sz → (rd2 i j).den.oneCell' = true ∧ (rd2 i j).ok R w) :
    ∃ cur : Array Value, w.heap[g]? = some (.cells cur e (0, 0)) ∧ off * sz + (cellsOf m sz rd2).length ≤ cur.size ∧
      (Own.row (some ⟨g, 0, none⟩) e (max n (off + m)) cap sz (rdPut off m rd rd2)).ok R B (w.setRow g (cur.toList.take (off * sz) ++ cellsOf m sz rd2 ++ cur.toList.drop (off * sz + (cellsOf m sz rd2).length)).toArray) := by
  obtain ⟨ho, hR, hc⟩ := h
  have hgR : ¬ R g := hR _ rfl
  rcases ho.2 with ⟨hv, _⟩ | ⟨g', cap', cur, hv, hbg, hg, hn, hcm, hcs, ht⟩
  · cases hv
  simp only [Value.slice.injEq, Option.some.injEq, Addr.mk.injEq, and_true, true_and] at hv
  obtain ⟨rfl, rfl⟩ := hv
  have hlen := len_cellsOf m sz rd2
  have hle2 : (off + m) * sz ≤ cap * sz := Nat.mul_le_mul_right sz hcap
  rw [Nat.add_mul] at hle2
  have hmono : ∀ s : SV, s.ok R w → s.ok R (w.setRow g (cur.toList.take (off * sz) ++ cellsOf m sz rd2 ++ cur.toList.drop (off * sz + (cellsOf m sz rd2).length)).toArray) := SV.ok_mono (fun _ h => h) (fun b hb => setRow_other w g b _ (fun e => by subst e; exact hgR hb))
  refine ⟨cur, hg, by omega, ⟨⟨by simp [cellsOf], .inr ⟨g, cap, _, rfl, hbg, setRow_heap w g cur _ e _ hg, by omega, hcm, ?_, ?_⟩⟩, hR, ?_⟩⟩
  · simp [hlen]; omega
  · have h1 : cur.toList.take (off * sz) = cellsOf off sz rd := by
      rw [cellsOf_take (sz := sz) (rd := rd) hoff, ← ht, List.take_take, Nat.min_eq_left (Nat.mul_le_mul_right _ hoff)]
    rw [h1]
    obtain ⟨q, hq⟩ : ∃ q, max n (off + m) = off + (m + q) := ⟨max n (off + m) - off - m, by omega⟩
    rw [hq]
    unfold rdPut
    rw [cellsOf_cat, cellsOf_cat]
    have h2 : cellsOf q sz (rdOff (off + m) rd) = (cur.toList.drop (off * sz + (cellsOf m sz rd2).length)).take (q * sz) := by
      rcases Nat.eq_zero_or_pos q with h0 | h0
      · subst h0; simp [cellsOf]
      · have hnq : n = off + (m + q) := by omega
        have e3 : cellsOf n sz rd = cellsOf off sz rd ++ (cellsOf m sz (rdOff off rd) ++ cellsOf q sz (rdOff (off + m) rd)) := by rw [hnq]; exact cellsOf_split
        rw [← ht] at e3
        have e4 := congrArg (List.drop (off * sz + m * sz)) e3
        have e5 : off * sz + m * sz = (cellsOf off sz rd ++ cellsOf m sz (rdOff off rd)).length := by rw [List.length_append, len_cellsOf, len_cellsOf]
        rw [← List.append_assoc] at e4
        conv at e4 => rhs; rw [e5, List.drop_left]
        rw [← e4, hlen, List.drop_take]
        congr 1
        rw [hnq, Nat.add_mul, Nat.add_mul]
        omega
    rw [h2]
    simp only
    have e6 : (off + (m + q)) * sz = (cellsOf off sz rd ++ cellsOf m sz rd2).length + q * sz := by rw [List.length_append, len_cellsOf, len_cellsOf, Nat.add_mul, Nat.add_mul]; omega
    rw [e6, List.take_length_add_append, List.append_assoc]
  · intro p q hp hq
    unfold rdPut rdCat rdOff
    split
    · exact ⟨(hc p q (by omega) hq).1, hmono _ (hc p q (by omega) hq).2⟩
    · split
      · exact ⟨(hone _ q (by omega) hq).1, hmono _ (hone _ q (by omega) hq).2⟩
      · exact ⟨(hc _ q (by omega) hq).1, hmono _ (hc _ q (by omega) hq).2⟩
def SrcOk (st : St) (y : Operand) (len m sz : Nat) (rd : Nat → Nat → SV) : Prop := ∀ (R : Nat → Prop) (B : Nat) (a : Act) (w : World), EnvOk R st.env a w → OwnsOk R B st.own w →
  ∃ blk off cap, a.eval y = .slice (some ⟨blk, off, none⟩) len cap ∧ (∀ j u, (cellsOf m sz rd)[j]? = some u → w.cell? ((⟨blk, off, none⟩ : Addr).add j) = some u) ∧ ∀ i j, i < m → j < sz → (rd i j).den.oneCell' = true ∧ (rd i j).ok R w
theorem src_wx {y : Operand} {id g sz off len cap n c m e : Nat} {rd : Nat → Nat → SV} (hy : ev st.env y = some (.wx id g sz off len cap)) (hid : st.own[id]? = some (.row (some ⟨g, 0, none⟩) e n c sz rd)) (hz : 0 < sz) (hm : off + m ≤ n) : SrcOk st y len m sz (rdOff off rd) := by
  intro R B a w he ho
  have hrow := ho _ _ hid
  refine ⟨g, off * sz, cap, (ev_ok he hy).1, fun j u hj => ?_, fun i j hi hj => hrow.2.2 (off + i) j (by omega) hj⟩
  have hjl : j < m * sz := by
    have := (List.getElem?_eq_some_iff.1 hj).1
    rwa [len_cellsOf] at this
  have hd1 : j / sz < m := (Nat.div_lt_iff_lt_mul hz).2 hjl
  obtain ⟨g', hg', hc⟩ := row_cell hrow (i := off + j / sz) (j := j % sz) (by omega) (Nat.mod_lt _ hz)
  simp only [Option.some.injEq, Addr.mk.injEq, and_true, true_and] at hg'
  subst hg'
  have e1 : (off + j / sz) * sz + j % sz = off * sz + j := by
    rw [Nat.add_mul, Nat.add_assoc]
    congr 1
    rw [Nat.mul_comm]
    exact Nat.div_add_mod j sz
  rw [Addr.add_lit]
  rw [e1] at hc
  rw [hc]
  unfold cellsOf at hj
  rw [List.getElem?_map, List.getElem?_range hjl] at hj
  simpa [rdOff] using hj
theorem src_any {y : Operand} {s : SV} {ad : Option Addr} {len cap m sz : Nat} {rd : Nat → Nat → SV} (hy : ev st.env y = some s) (ha : asAny st.own s = some (ad, len, cap, sz, rd)) (hm : m ≤ len) (hl : 0 < len) : SrcOk st y len m sz rd := by
  intro R B a w he ho
  obtain ⟨hden, hcells, hone⟩ := asAny_cells (st := st) ha ho (ev_ok he hy).2
  rcases hcells with h0 | ⟨blk, off, rfl, hc⟩
  · omega
  · refine ⟨blk, off, cap, (ev_ok he hy).1.trans hden, fun j u hj => hc j u ?_, fun i j hi hj => hone i j (by omega) hj⟩
    have hjl := (List.getElem?_eq_some_iff.1 hj).1
    rw [cellsOf_take (sz := sz) (rd := rd) hm] at hj
    rw [List.getElem?_take] at hj
    split at hj
    · exact hj
    · cases hj
theorem src_row {y : Operand} {id e : Nat} {ad : Option Addr} {len cap m sz : Nat} {rd : Nat → Nat → SV} (hy : ev st.env y = some (.os id ad len cap)) (hid : st.own[id]? = some (.row ad e len cap sz rd)) (hm : m ≤ len) (hl : 0 < len) : SrcOk st y len m sz rd :=
  src_any (ad := ad) (cap := cap) hy (by unfold asAny; simp [hid]) hm hl
theorem run_copy {t t' ty e : TypeId} {w : World} (ht : tk P t = .slice e) (hz : 0 < tsz P e) {da sa : Addr} {len cap len2 cap2 m : Nat} (hm : m = min len2 len) {vs : List Value} (hl : vs.length = m * tsz P e)
    (hload : (loadCells sa (m * tsz P e)).run P w = .ok vs.toArray w) {w' : World} (hst : (storeCells da vs).run P w = .ok () w') :
    (Builtin.copy_ #[t, t'] ty #[.slice (some da) len cap, .slice (some sa) len2 cap2]).run P w = .ok (goInt m) w' := by
  have hs := run_sizeOf (P := P) hz w
  have hmin : Nat.min len2 len = m := hm.symm
  simp only [Builtin.copy_, List.getElem?_toArray, List.getElem?_cons_zero, List.getElem?_cons_succ, Sem.run_bind, run_underlying (tk_slice ht), Result.andThen_ok, Builtin.lenOf, Builtin.firstCells, hs, hmin, Sem.run_pure, hload, hst]
theorem wx_copy {t t' e : TypeId} {x y : Operand} {id g sz off len cap n c e1 len2 m : Nat} {rd rd2 : Nat → Nat → SV} (hd : dstOk st dst) (ht : tk P t = .slice e) (hz : tsz P e = sz) (hz0 : 0 < sz)
    (hx : ev st.env x = some (.wx id g sz off len cap)) (hid : st.own[id]? = some (.row (some ⟨g, 0, none⟩) e1 n c sz rd)) (hsrc : SrcOk st y len2 m sz rd2) (hm : m = min len2 len) (hoff : off ≤ n) (hcap : off + m ≤ c)
    (hk : k (St.put { st with own := st.own.set id (.row (some ⟨g, 0, none⟩) e1 (max n (off + m)) c sz (rdPut off m rd rd2)) } dst (.i .i64 (m : Nat)))) : Good P F (.call { callee := .builtin .copy, args := #[x, y], argTypes := #[t, t'] }) dst st k := by
  subst hz
  rintro R0 w0 a w o next Q ho rfl ⟨ob, R, hr⟩ hn
  obtain ⟨blk, off2, cap2, hy', hcell, hone⟩ := hsrc R ob a w hr.env hr.own
  have hrow := hr.own _ _ hid
  obtain ⟨cur, hg, hcur, hrow'⟩ := row_write hrow hoff hcap hone
  have hx' := (ev_ok hr.env hx).1
  simp only [SV.den] at hx'
  have hlen := len_cellsOf m (tsz P e) rd2
  have hload := run_loadCells_list (P := P) w ⟨blk, off2, none⟩ _ hcell
  rw [hlen] at hload
  have hst := run_storeCells_at P g (off * tsz P e) e1 (cellsOf m (tsz P e) rd2) 0 cur w hg (by omega) (cellsOf_one fun i j hi hj => (hone i j hi hj).1)
  simp only [Nat.add_zero] at hst
  have hrun := run_copy (P := P) (t' := t') (ty := o.type) (cap := cap) (cap2 := cap2) ht hz0 hm hlen hload hst
  have hex : (execOp a.eval o).run P w = .ok (.value (goInt m)) (w.setRow g (cur.toList.take (off * tsz P e) ++ cellsOf m (tsz P e) rd2 ++ cur.toList.drop (off * tsz P e + (cellsOf m (tsz P e) rd2).length)).toArray) := by
    unfold execOp
    rw [ho]
    simp only [resolve, invoke, builtin, Sem.run_bind, Sem.run_pure, Result.andThen_ok, List.map_toArray, List.map_cons, List.map_nil, hx', hy', hrun]
  unfold Oper.wp
  rw [hex]
  have hnew := hr.setOwn (o' := .row (some ⟨g, 0, none⟩) e1 (max n (off + m)) c (tsz P e) (rdPut off m rd rd2)) (g := g) hid rfl (fun b hb => by simpa [Own.blk] using hb.symm)
    (w' := w.setRow g (cur.toList.take (off * tsz P e) ++ cellsOf m (tsz P e) rd2 ++ cur.toList.drop (off * tsz P e + (cellsOf m (tsz P e) rd2).length)).toArray) rfl rfl rfl (by simp [World.setRow]) (fun b _ hne => setRow_other w g b _ hne) hrow'
  exact hn _ _ _ hk ⟨ob, R, hnew.put (s := .i .i64 (m : Nat)) (dstOk_of hd) trivial⟩
theorem wx_append {t e : TypeId} {x y : Operand} {id g sz len cap n e1 m : Nat} {rd rd2 : Nat → Nat → SV} (hd : dstOk st dst) (ht : tk P t = .slice e) (htz : (tz P e).length = tsz P e) (hz : tsz P e = sz) (hz0 : 0 < sz) (he : e1 = e)
    (hx : ev st.env x = some (.wx id g sz 0 len cap)) (hid : st.own[id]? = some (.row (some ⟨g, 0, none⟩) e1 n cap sz rd)) (hsrc : SrcOk st y m m sz rd2) (hlen : len ≤ n) (hcap : len + m ≤ cap)
    (hk : k (St.put { st with own := st.own.set id (.row (some ⟨g, 0, none⟩) e1 (len + m) cap sz (rdCat len rd rd2)) } dst (.wx id g sz 0 (len + m) cap))) : Good P F (.call { callee := .builtin .append, args := #[x, y], argTypes := #[t, t] }) dst st k := by
  subst hz
  subst he
  rintro R0 w0 a w o next Q ho rfl ⟨ob, R, hr⟩ hn
  obtain ⟨blk, off2, cap2, hy', hcell, hone⟩ := hsrc R ob a w hr.env hr.own
  have hrow := row_cut (hr.own _ _ hid) hlen
  have hx' := (ev_ok hr.env hx).1
  simp only [SV.den, Nat.zero_mul] at hx'
  have hne : tz P e1 ≠ [] := fun h => by rw [h] at htz; simp at htz; omega
  obtain ⟨i, z, hi, hiz, hzc⟩ := tz_info hne
  have hsi : i.size = tsz P e1 := by unfold tsz; simp [hi]
  obtain ⟨w', hrun, hown, hgr⟩ := run_append_fits (P := P) w ob t o.type e1 i (tsz P e1) (tk_slice ht) hi hsi g len cap _ hrow.1 ⟨blk, off2, none⟩ m cap2 _ (len_cellsOf m _ rd2) hcell (cellsOf_one fun i j hi hj => (hone i j hi hj).1) hcap
  have hex : (execOp a.eval o).run P w = .ok (.value (.slice (some ⟨g, 0, none⟩) (len + m) cap)) w' := by
    unfold execOp
    rw [ho]
    simp only [resolve, invoke, builtin, Sem.run_bind, Sem.run_pure, Result.andThen_ok, List.map_toArray, List.map_cons, List.map_nil, hx', hy', hrun]
  unfold Oper.wp
  rw [hex]
  have hgR : ¬ R g := hrow.2.1 _ rfl
  have hmono : ∀ s : SV, s.ok R w → s.ok R w' := SV.ok_mono (fun _ h => h) (fun b hb => hgr.block b (hr.rr b hb).1 (fun h => by simp only [Option.some.injEq] at h; subst h; exact hgR hb))
  rw [← cellsOf_cat] at hown
  have hnew := hr.reRow (o' := .row (some ⟨g, 0, none⟩) e1 (len + m) cap (tsz P e1) (rdCat len rd rd2)) hid hgr (fun b hb => hb) (fun b hb => .inl hb)
    ⟨hown, hrow.2.1, fun p q hp hq => by
      unfold rdCat
      split
      · exact ⟨(hrow.2.2 p q (by omega) hq).1, hmono _ (hrow.2.2 p q (by omega) hq).2⟩
      · exact ⟨(hone (p - len) q (by omega) hq).1, hmono _ (hone (p - len) q (by omega) hq).2⟩⟩
  have := hnew.put (d := o.dst) (s := .wx id g (tsz P e1) 0 (len + m) cap) (dstOk_of hd) trivial
  simp only [SV.den, Nat.zero_mul] at this
  exact hn _ _ _ hk ⟨ob, R, this⟩
theorem wx_append_none {t e : TypeId} {x y : Operand} {id g sz len cap n e1 : Nat} {rd : Nat → Nat → SV} {ad : Option Addr} {c z2 : Nat} {rd2 : Nat → Nat → SV} (hd : dstOk st dst) (ht : tk P t = .slice e) (hz : tsz P e = sz) (hz0 : 0 < sz) (he : e1 = e)
    (hx : ev st.env x = some (.wx id g sz 0 len cap)) (hid : st.own[id]? = some (.row (some ⟨g, 0, none⟩) e1 n cap sz rd)) (hy : ev st.env y = some (.sl ad 0 c z2 rd2)) (hlen : len ≤ n)
    (hk : k (St.put { st with own := st.own.set id (.row (some ⟨g, 0, none⟩) e1 len cap sz rd) } dst (.wx id g sz 0 len cap))) : Good P F (.call { callee := .builtin .append, args := #[x, y], argTypes := #[t, t] }) dst st k := by
  subst hz
  subst he
  rintro R0 w0 a w o next Q ho rfl ⟨ob, R, hr⟩ hn
  have hrow := row_cut (hr.own _ _ hid) hlen
  have hx' := (ev_ok hr.env hx).1
  have hy' := (ev_ok hr.env hy).1
  simp only [SV.den, Nat.zero_mul] at hx' hy'
  have hex := run_app_zero (P := P) ht hz0 w hrow.1 o ho hx' hy'
  unfold Oper.wp
  rw [hex]
  have hnew := hr.reRow (o' := .row (some ⟨g, 0, none⟩) e1 len cap (tsz P e1) rd) hid (grown_refl w none) (fun b hb => by cases hb) (fun b hb => .inl hb) hrow
  have := hnew.put (d := o.dst) (s := .wx id g (tsz P e1) 0 len cap) (dstOk_of hd) trivial
  simp only [SV.den, Nat.zero_mul] at this
  exact hn _ _ _ hk ⟨ob, R, this⟩
theorem wx_clear {t e : TypeId} {x : Operand} {id g sz off len cap n c e1 : Nat} {rd : Nat → Nat → SV} (hd : dstOk st dst) (ht : tk P t = .slice e) (htz : (tz P e).length = tsz P e) (hon : (tz P e).all oneS = true) (hz : tsz P e = sz) (hz0 : 0 < sz)
    (hx : ev st.env x = some (.wx id g sz off len cap)) (hid : st.own[id]? = some (.row (some ⟨g, 0, none⟩) e1 n c sz rd)) (hoff : off = n) (hcap : off + len ≤ c) (hl0 : 0 < len)
    (hk : k (St.put st dst (.tup 0 fun _ => default))) : Good P F (.call { callee := .builtin .clear, args := #[x], argTypes := #[t] }) dst st k := by
  subst hz
  rintro R0 w0 a w o next Q ho rfl ⟨ob, R, hr⟩ hn
  have hrow := hr.own _ _ hid
  have hne : tz P e ≠ [] := fun h => by rw [h] at htz; simp at htz; omega
  obtain ⟨i, z, hi, hiz, hzc⟩ := tz_info hne
  have hsi : i.size = tsz P e := by unfold tsz; simp [hi]
  have hzs : z.cells.size = tsz P e := by rw [← Array.length_toList, hzc, List.length_map, htz]
  have hzok : ∀ p q, p < len → q < tsz P e → ((tz P e).getD q default).den.oneCell' = true ∧ ((tz P e).getD q default).ok R w := fun p q hp hq => by
    have hm : (tz P e).getD q default ∈ tz P e := getD_mem (by omega)
    exact ⟨one_den (List.all_eq_true.1 hon _ hm), tz_ok _ _ _ hm⟩
  obtain ⟨cur, hg, hcur, hrow'⟩ := row_write (m := len) (rd2 := fun _ j => (tz P e).getD j default) hrow (Nat.le_of_eq hoff) hcap hzok
  have hx' := (ev_ok hr.env hx).1
  simp only [SV.den] at hx'
  have hs := run_sizeOf (P := P) hz0 w
  have hst := run_storeCells_at P g (off * tsz P e) e1 (cellsOf len (tsz P e) fun _ j => (tz P e).getD j default) 0 cur w hg (by omega) (cellsOf_one fun i j hi hj => (hzok i j hi hj).1)
  simp only [Nat.add_zero] at hst
  have hzz := zero_cells htz hz0 hzc len
  have hex : (execOp a.eval o).run P w = .ok (.value (.tuple #[])) (w.setRow g (cur.toList.take (off * tsz P e) ++ (cellsOf len (tsz P e) fun _ j => (tz P e).getD j default) ++ cur.toList.drop (off * tsz P e + (cellsOf len (tsz P e) fun _ j => (tz P e).getD j default).length)).toArray) := by
    unfold execOp
    rw [ho]
    simp only [resolve, invoke, builtin, Sem.run_bind, Sem.run_pure, Result.andThen_ok, List.map_toArray, List.map_cons, List.map_nil, hx']
    have hzr : ∀ w : World, (zeroValue e).run P w = .ok z w := fun w => by simp [zeroValue, typeInfo, hi, hiz]
    have hcl : (Builtin.clear_ #[t] o.type #[.slice (some ⟨g, off * tsz P e, none⟩) len cap]).run P w = .ok (.tuple #[]) (w.setRow g (cur.toList.take (off * tsz P e) ++ (cellsOf len (tsz P e) fun _ j => (tz P e).getD j default) ++ cur.toList.drop (off * tsz P e + (cellsOf len (tsz P e) fun _ j => (tz P e).getD j default).length)).toArray) := by
      obtain ⟨len', rfl⟩ : ∃ len', len = len' + 1 := ⟨len - 1, by omega⟩
      simp only [Builtin.clear_, Sem.run_bind, run_underlying (tk_slice ht), Result.andThen_ok, List.getElem?_toArray, List.getElem?_cons_zero]
      simp only [Sem.run_bind, run_underlying (tk_slice ht), Result.andThen_ok, hzr, hzz, hst, Sem.run_pure]
    simp only [hcl, Result.andThen_ok, Sem.run_pure]
  unfold Oper.wp
  rw [hex]
  have hcut := row_cut hrow' (h := n) (by omega)
  have hrd : rdEq' n (tsz P e) (rdPut off len rd fun _ j => (tz P e).getD j default) rd := fun i j hi hj => by unfold rdPut rdCat; rw [if_pos (by omega)]
  have hnew := hr.setOwn (o' := .row (some ⟨g, 0, none⟩) e1 n c (tsz P e) rd) (g := g) hid rfl (fun b hb => by simpa [Own.blk] using hb.symm)
    (w' := w.setRow g (cur.toList.take (off * tsz P e) ++ (cellsOf len (tsz P e) fun _ j => (tz P e).getD j default) ++ cur.toList.drop (off * tsz P e + (cellsOf len (tsz P e) fun _ j => (tz P e).getD j default).length)).toArray) rfl rfl rfl (by simp [World.setRow]) (fun b _ hne => setRow_other w g b _ hne)
    ⟨by rw [← cellsOf_eq' hrd]; exact hcut.1, hcut.2.1, fun i j hi hj => by rw [← hrd i j hi hj]; exact hcut.2.2 i j hi hj⟩
  have hself : st.own.set id (.row (some ⟨g, 0, none⟩) e1 n c (tsz P e) rd) = st.own := by
    apply List.ext_getElem?
    intro p
    rw [List.getElem?_set]
    split
    · rename_i e9
      subst e9
      rw [if_pos (List.getElem?_eq_some_iff.1 hid).1, hid]
    · rfl
  rw [hself] at hnew
  exact hn _ _ _ hk ⟨ob, R, hnew.put (s := .tup 0 fun _ => default) (dstOk_of hd) (fun j hj => absurd hj (Nat.not_lt_zero _))⟩
theorem wx_zeros {t t' e : TypeId} {x y : Operand} {kn kk : IntKind} {id g sz len cap n m e1 : Nat} {rd : Nat → Nat → SV} (hd : dstOk st dst) (ht : tk P t = .slice e) (ht' : tk P t' = .int kn) (htz : (tz P e).length = tsz P e) (hon : (tz P e).all oneS = true) (hz : tsz P e = sz) (hz0 : 0 < sz)
    (hx : ev st.env x = some (.wx id g sz 0 len cap)) (hy : ev st.env y = some (.i kk (m : Int))) (hid : st.own[id]? = some (.row (some ⟨g, 0, none⟩) e1 n cap sz rd)) (hlen : len ≤ n) (h0 : 0 < m) (hroom : cap < len + m) (hmx : len + m ≤ maxLen) (hby : (len + m) * tby P e ≤ 140737488355328)
    (hk : ∀ g2 cap2 : Nat, len + m ≤ cap2 → k (St.put { st with own := st.own ++ [.row (some ⟨g2, 0, none⟩) e (len + m) cap2 sz (rdCat len rd fun _ j => (tz P e).getD j default)] } dst (.os st.own.length (some ⟨g2, 0, none⟩) (len + m) cap2))) : Good P F (.call { callee := .builtin .append, args := #[x, y], argTypes := #[t, t'] }) dst st k := by
  subst hz
  rintro R0 w0 a w o next Q ho rfl ⟨ob, R, hr⟩ hn
  have hrow := row_cut (hr.own _ _ hid) hlen
  have hx' := (ev_ok hr.env hx).1
  have hy' := (ev_ok hr.env hy).1
  simp only [SV.den, Nat.zero_mul] at hx' hy'
  have hne : tz P e ≠ [] := fun h => by rw [h] at htz; simp at htz; omega
  obtain ⟨i, z, hi, hiz, hzc⟩ := tz_info hne
  have hsi : i.size = tsz P e := by unfold tsz; simp [hi]
  have hbi : i.bytes = tby P e := by unfold tby; simp [hi]
  have hzs : z.cells.size = tsz P e := by rw [← Array.length_toList, hzc, List.length_map, htz]
  have hti : P.underlying t' = some (.int kn) := by unfold tk at ht'; split at ht' <;> simp_all
  have hcells : ∀ j u, (cellsOf len (tsz P e) rd)[j]? = some u → w.drew.cell? ((⟨g, 0, none⟩ : Addr).add j) = some u := fun j u hj => by
    have := hrow.1.cells (g := g) rfl j u hj
    exact this
  have hold := run_firstCells_some (P := P) (w := w.drew) (tsz P e) len ⟨g, 0, none⟩ len cap _ (len_cellsOf len (tsz P e) rd) hcells
  have hfit := growslice_fits (bytes := i.bytes) hroom (by rw [hbi]; exact hby)
  have hm48 : m * i.bytes ≤ 281474976710656 := by
    have := Nat.mul_le_mul_right i.bytes (show m ≤ len + m by omega)
    rw [hbi] at this ⊢
    omega
  have hrun := Lib.run_append_grow_zeros (P := P) w t t' o.type e i z kk kn (tk_slice ht) hti hi hiz (some ⟨g, 0, none⟩) len cap (cellsOf len (tsz P e) rd) (by rw [hsi]; exact hold) m h0 (by omega) hroom (by unfold maxLen at hmx; omega) hm48 hfit
  have hex : (execOp a.eval o).run P w = .ok (.value (.slice (some ⟨w.heap.size, 0, none⟩) (len + m) (grownCap w (len + m) cap e))) (w.drew.alloc (.cells ((cellsOf len (tsz P e) rd).toArray ++ Builtin.zeroCells z.cells m ++ Builtin.zeroCells z.cells (grownCap w (len + m) cap e - (len + m))) e)) := by
    unfold execOp
    rw [ho]
    simp only [resolve, invoke, builtin, Sem.run_bind, Sem.run_pure, Result.andThen_ok, List.map_toArray, List.map_cons, List.map_nil, hx', hy', hrun]
  unfold Oper.wp
  rw [hex]
  have hge := grownCap_ge w (len + m) cap e
  have hcm : grownCap w (len + m) cap e ≤ maxLen := grownCap_le_maxLen w (len + m) cap e (by unfold maxLen at hmx ⊢; omega)
  have holdb : ∀ b, b < w.heap.size → (w.drew.alloc (.cells ((cellsOf len (tsz P e) rd).toArray ++ Builtin.zeroCells z.cells m ++ Builtin.zeroCells z.cells (grownCap w (len + m) cap e - (len + m))) e)).heap[b]? = w.heap[b]? := fun b hb => heap_alloc_old w.drew _ hb
  have hmono : ∀ s : SV, s.ok R w → s.ok R (w.drew.alloc (.cells ((cellsOf len (tsz P e) rd).toArray ++ Builtin.zeroCells z.cells m ++ Builtin.zeroCells z.cells (grownCap w (len + m) cap e - (len + m))) e)) := SV.ok_mono (fun _ h => h) (fun b hb => holdb b (hr.rr b hb).1)
  have hnew := hr.newRow (o := .row (some ⟨w.heap.size, 0, none⟩) e (len + m) (grownCap w (len + m) cap e) (tsz P e) (rdCat len rd fun _ j => (tz P e).getD j default)) (w' := w.drew.alloc (.cells ((cellsOf len (tsz P e) rd).toArray ++ Builtin.zeroCells z.cells m ++ Builtin.zeroCells z.cells (grownCap w (len + m) cap e - (len + m))) e))
    ⟨rfl, rfl, rfl, by simp, fun b hb _ => holdb b hb⟩ (fun b hb => by simpa [Own.blk] using hb.symm)
    ⟨⟨by simp [cellsOf], .inr ⟨w.heap.size, grownCap w (len + m) cap e, _, rfl, hr.obw, heap_alloc_new w.drew _, hge, hcm, by
        rw [Array.size_append, Array.size_append, size_zeroCells, size_zeroCells, hzs, List.size_toArray, len_cellsOf, ← Nat.add_mul, ← Nat.add_mul]; congr 1; omega, by
        rw [Array.toList_append, Array.toList_append, zero_cells htz hz0 hzc m, cellsOf_cat]
        have hl : (cellsOf len (tsz P e) rd ++ cellsOf m (tsz P e) fun _ j => (tz P e).getD j default).length = (len + m) * tsz P e := by rw [List.length_append, len_cellsOf, len_cellsOf, Nat.add_mul]
        rw [← hl]
        exact List.take_left⟩⟩,
      fun g hg => by simp only [Option.some.injEq] at hg; subst hg; exact fun hc => by have := (hr.rr _ hc).1; simp at this,
      fun p q hp hq => by
        unfold rdCat
        split
        · exact ⟨(hrow.2.2 p q (by omega) hq).1, hmono _ (hrow.2.2 p q (by omega) hq).2⟩
        · have hm : (tz P e).getD q default ∈ tz P e := getD_mem (by omega)
          exact ⟨one_den (List.all_eq_true.1 hon _ hm), tz_ok _ _ _ hm⟩⟩
  exact hn _ _ _ (hk w.heap.size (grownCap w (len + m) cap e) hge) ⟨ob, R, hnew.put (s := .os st.own.length (some ⟨w.heap.size, 0, none⟩) (len + m) (grownCap w (len + m) cap e)) (dstOk_of hd) trivial⟩
theorem Sat.toWx {c : Code} {K : Exit → St → Prop} (t : Tmp) {id len cap n c' e sz : Nat} {a : Option Addr} {rd : Nat → Nat → SV} (hl : look st.env t = some (.os id a len cap)) (hid : st.own[id]? = some (.row a e n c' sz rd)) (hn : 0 < n)
    (h : ∀ g, a = some ⟨g, 0, none⟩ → n ≤ c' → c' ≤ maxLen → Sat P F c (st.put (some t) (.wx id g sz 0 len cap)) K) : Sat P F c st K := by
  rintro R0 w0 ac w ⟨ob, R, hr⟩
  have hrow := hr.own _ _ hid
  rcases hrow.1.2 with ⟨hv, h0⟩ | ⟨g, cap', cur, hv, _, _, hn', hcm, _⟩
  · omega
  · simp only [Value.slice.injEq] at hv
    obtain ⟨rfl, _, rfl⟩ := hv
    exact h g rfl hn' hcm R0 w0 ac w ⟨ob, R, hr.know hl (by simp [SV.den]) (fun _ => trivial)⟩
theorem Sat.rowAt {c : Code} {K : Exit → St → Prop} (id : Nat) {n c' e sz : Nat} {a : Option Addr} {rd : Nat → Nat → SV} (hid : st.own[id]? = some (.row a e n c' sz rd)) (hn : 0 < n)
    (h : ∀ g, a = some ⟨g, 0, none⟩ → n ≤ c' → c' ≤ maxLen → Sat P F c st K) : Sat P F c st K := by
  rintro R0 w0 ac w ⟨ob, R, hr⟩
  have hrow := hr.own _ _ hid
  rcases hrow.1.2 with ⟨hv, h0⟩ | ⟨g, cap', cur, hv, _, _, hn', hcm, _⟩
  · omega
  · simp only [Value.slice.injEq] at hv
    obtain ⟨rfl, _, rfl⟩ := hv
    exact h g rfl hn' hcm R0 w0 ac w ⟨ob, R, hr⟩
theorem Sat.ofWx {c : Code} {K : Exit → St → Prop} (t : Tmp) {id g sz len cap : Nat} (hl : look st.env t = some (.wx id g sz 0 len cap)) (h : Sat P F c (st.put (some t) (.os id (some ⟨g, 0, none⟩) len cap)) K) : Sat P F c st K := by
  rintro R0 w0 ac w ⟨ob, R, hr⟩
  exact h R0 w0 ac w ⟨ob, R, hr.know hl (by simp [SV.den]) (fun _ => trivial)⟩
theorem Sat.toWxAt {c : Code} {K : Exit → St → Prop} (t : Tmp) {id g len cap sz : Nat} (hl : look st.env t = some (.os id (some ⟨g, 0, none⟩) len cap)) (h : Sat P F c (st.put (some t) (.wx id g sz 0 len cap)) K) : Sat P F c st K := by
  rintro R0 w0 ac w ⟨ob, R, hr⟩
  exact h R0 w0 ac w ⟨ob, R, hr.know hl (by simp [SV.den]) (fun _ => trivial)⟩
theorem wcall_overlaps {n : Nat} {env : List (Nat × SV)} {own : List Own} {f : FuncId} {fn : Func} {tS tR e : TypeId} (hf : P.funcs[f]? = some fn) (hname : (fn.name == "runtime.NumGoroutine") = false) (hb : fn.body.isNone = true) (hfn : Extern.findNext fn = none)
    (he : Extern.find fn = some (Extern.SlicesOverlaps.overlaps #[tS, tS] #[tR])) (ht : tk P tS = .slice e) (hz : 0 < tsz P e) {idv gv m cv ev1 nv cv1 szv : Nat} {rdv : Nat → Nat → SV} {id g sz off len cap e1 n1 c1 sz1 : Nat} {rd : Nat → Nat → SV}
    (hv : own[idv]? = some (.row (some ⟨gv, 0, none⟩) ev1 nv cv1 szv rdv)) (hs : own[id]? = some (.row (some ⟨g, 0, none⟩) e1 n1 c1 sz1 rd)) (hne : idv ≠ id) (hn : 0 < n1) (hsz : 0 < sz1)
    (hk : WO P F ds rest (St.put ⟨n, env, own⟩ dst .ff) k) : WCall P F ds rest dst ⟨n, env, own⟩ f (some [.os idv (some ⟨gv, 0, none⟩) m cv, .wx id g sz off len cap]) k := by
  unfold WCall
  refine .inr ?_
  intro R0 w0 ob R a w hr hargs
  refine ⟨.ff, ⟨n, env, own⟩, R, w, ?_, hk, trivial, hr, rfl⟩
  have hgne : gv ≠ g := fun e9 => hr.dist idv id _ _ hne hv hs gv rfl (by rw [e9]; rfl)
  have cells : ∀ {id g e1 n1 c1 sz1 : Nat} {rd : Nat → Nat → SV}, own[id]? = some (.row (some ⟨g, 0, none⟩) e1 n1 c1 sz1 rd) → ∃ cur : Array Value, w.heap[g]? = some (.cells cur e1 (0, 0)) ∧ cur.size = c1 * sz1 ∧ n1 ≤ c1 := fun h => by
    have hrow := hr.own _ _ h
    rcases hrow.1.2 with ⟨hv, _⟩ | ⟨g', cap', cur, hv, _, hg, hn', _, hcs, _⟩
    · cases hv
    · simp only [Value.slice.injEq, Option.some.injEq, Addr.mk.injEq, and_true, true_and] at hv
      obtain ⟨rfl, rfl⟩ := hv
      exact ⟨cur, hg, hcs, hn'⟩
  obtain ⟨cv', hgv, _, _⟩ := cells hv
  obtain ⟨cs', hgs, hcs, hnc⟩ := cells hs
  have hpos : cs'.size ≠ 0 := by
    rw [hcs]
    exact Nat.mul_ne_zero (by omega) (by omega)
  rw [run_callFunc_extern hf hname hb hfn he]
  show ((Extern.SlicesOverlaps.overlaps #[tS, tS] #[tR] #[.slice (some ⟨gv, 0, none⟩) m cv, .slice (some ⟨g, off * sz, none⟩) len cap]).run P w).andThen _ = _
  rw [Lib.run_overlaps_apart w tS tR e (tk_slice ht) (tsz P e) (fun w => run_sizeOf hz w) ⟨gv, 0, none⟩ ⟨g, off * sz, none⟩ m cv len cap hgne ev1 e1 cv'.size cs'.size (by simp [World.shape?, hgv]) (by simp [World.shape?, hgs]) hpos (by simp [World.frozen?, hgv]) (by simp [World.frozen?, hgv])]
  rfl
end
end Eng
end Go.Proofs.YtepkbbmjbbnhnaaGreatDoor

/- Texts of addresses and prefixes, plain: pieces at a byte, small decimal numbers, addresses. -/
namespace Go.Proofs.YtepkbbmjbbnhnaaGreatDoor
def splitB (c : UInt8) : List UInt8 → List (List UInt8)
  | [] => [[]]
  | x :: l => if x = c then [] :: splitB c l else match splitB c l with
    | p :: r => (x :: p) :: r
    | [] => [[x]]
theorem splitB_ne (c : UInt8) : ∀ l, splitB c l ≠ []
  | [] => by simp [splitB]
  | x :: l => by
    unfold splitB
    split
    · simp
    · split <;> simp
theorem splitB_none (c : UInt8) : ∀ l, (∀ x ∈ l, x ≠ c) → splitB c l = [l]
  | [], _ => rfl
  | x :: l, h => by
    have h1 := splitB_none c l (fun y hy => h y (List.mem_cons_of_mem _ hy))
    unfold splitB
    rw [if_neg (h x List.mem_cons_self), h1]
theorem splitB_app (c : UInt8) : ∀ (l r : List UInt8), (∀ x ∈ l, x ≠ c) → splitB c (l ++ c :: r) = l :: splitB c r
  | [], r, _ => by simp [splitB]
  | x :: l, r, h => by
    have h1 := splitB_app c l r (fun y hy => h y (List.mem_cons_of_mem _ hy))
    rw [List.cons_append]
    conv => lhs; unfold splitB
    rw [if_neg (h x List.mem_cons_self), h1]
theorem index_none {c : UInt8} {l : List UInt8} (h : Lib.indexByte l c = -1) : ∀ x ∈ l, x ≠ c := by
  intro x hx he
  obtain ⟨k, hk⟩ := List.getElem?_of_mem hx
  exact Lib.indexByte_none h k (by rw [hk, he])
theorem index_some {c : UInt8} {l : List UInt8} {n : Nat} (h : Lib.indexByte l c = n) : n < l.length ∧ l = l.take n ++ c :: l.drop (n + 1) ∧ ∀ x ∈ l.take n, x ≠ c := by
  obtain ⟨h1, h2⟩ := Lib.indexByte_some h
  have hlt : n < l.length := (List.getElem?_eq_some_iff.1 h1).1
  refine ⟨hlt, ?_, fun x hx he => ?_⟩
  · have h3 := List.drop_eq_getElem_cons hlt
    have h4 : l[n] = c := (List.getElem?_eq_some_iff.1 h1).2
    rw [h4] at h3
    rw [← h3, List.take_append_drop]
  · obtain ⟨k, hk⟩ := List.getElem?_of_mem hx
    rw [List.getElem?_take] at hk
    split at hk
    · rename_i hkn
      exact h2 k hkn (by rw [hk, he])
    · cases hk
theorem split_index_none {c : UInt8} {l : List UInt8} (h : Lib.indexByte l c = -1) : splitB c l = [l] := splitB_none c l (index_none h)
theorem split_index_some {c : UInt8} {l : List UInt8} {n : Nat} (h : Lib.indexByte l c = n) : splitB c l = l.take n :: splitB c (l.drop (n + 1)) := by
  obtain ⟨_, h2, h3⟩ := index_some h
  conv => lhs; rw [h2]
  exact splitB_app c _ _ h3
def numB (s : List UInt8) (m : Nat) : Option Nat := (List.range (m + 1)).find? fun n => Lib.decDigits n == s
theorem numB_some {s : List UInt8} {m n : Nat} (h : numB s m = some n) : n ≤ m ∧ Lib.decDigits n = s := by
  unfold numB at h
  have h1 := List.find?_some h
  have h2 := List.mem_of_find?_eq_some h
  rw [List.mem_range] at h2
  exact ⟨by omega, by simpa using h1⟩
theorem numB_none {s : List UInt8} {m : Nat} (h : numB s m = none) : ∀ n, n ≤ m → Lib.decDigits n ≠ s := by
  intro n hn he
  unfold numB at h
  rw [List.find?_eq_none] at h
  have := h n (List.mem_range.2 (by omega))
  simp [he] at this
theorem dig_small : ∀ n : Fin 1000, Lib.decDigits n.val = if n.val < 10 then [UInt8.ofNat (48 + n.val)] else if n.val < 100 then [UInt8.ofNat (48 + n.val / 10), UInt8.ofNat (48 + n.val % 10)] else [UInt8.ofNat (48 + n.val / 100), UInt8.ofNat (48 + n.val / 10 % 10), UInt8.ofNat (48 + n.val % 10)] := by decide +kernel
def atoiOk (n : Nat) : Bool := match Lib.atoiAll (Lib.decDigits n) with
  | .ok v => v == (n : Int)
  | _ => false
theorem atoi_small : ∀ n : Fin 1000, atoiOk n.val = true := by decide +kernel
def digV (l : List UInt8) : Nat := l.foldl (fun n c => 10 * n + (c.toNat - 48)) 0
theorem digV_small : ∀ n : Fin 1000, digV (Lib.decDigits n.val) = n.val := by decide +kernel
theorem dig_chars : ∀ n : Fin 1000, (Lib.decDigits n.val).all (fun c => decide (48 ≤ c.toNat) && decide (c.toNat ≤ 57)) = true := by decide +kernel
theorem dig_inj {a b : Nat} (ha : a < 1000) (hb : b < 1000) (h : Lib.decDigits a = Lib.decDigits b) : a = b := by
  have h1 := digV_small ⟨a, ha⟩
  have h2 := digV_small ⟨b, hb⟩
  simp only at h1 h2
  rw [← h1, ← h2, h]
theorem numB_dig {m n : Nat} (hm : m < 1000) (hn : n ≤ m) : numB (Lib.decDigits n) m = some n := by
  cases h : numB (Lib.decDigits n) m with
  | none => exact absurd rfl (numB_none h n hn)
  | some k =>
    obtain ⟨h1, h2⟩ := numB_some h
    rw [dig_inj (by omega) (by omega) h2]
theorem dig_ne {n : Nat} (hn : n < 1000) {c : UInt8} (hc : c.toNat < 48) : ∀ x ∈ Lib.decDigits n, x ≠ c := by
  intro x hx he
  have h := List.all_eq_true.1 (dig_chars ⟨n, hn⟩) x hx
  simp only [Bool.and_eq_true, decide_eq_true_eq] at h
  subst he
  omega
/-! ### Addresses -/
def adVal (l : List Nat) : Nat := l.foldl (fun a n => a * 256 + n) 0
def parB (s : List UInt8) : Option Nat :=
  match splitB 46 s with
  | [p, q, r, t] => match numB p 255, numB q 255, numB r 255, numB t 255 with
    | some a, some b, some c, some d => some (adVal [a, b, c, d])
    | _, _, _, _ => none
  | _ => none
def octet (a i : Nat) : Nat := a / 2 ^ (24 - 8 * i) % 256
def fmtB (a : Nat) : List UInt8 := Lib.decDigits (octet a 0) ++ 46 :: (Lib.decDigits (octet a 1) ++ 46 :: (Lib.decDigits (octet a 2) ++ 46 :: Lib.decDigits (octet a 3)))
theorem octet_lt (a i : Nat) : octet a i < 256 := Nat.mod_lt _ (by decide)
theorem adVal_octets {a : Nat} (ha : a < 2 ^ 32) : adVal [octet a 0, octet a 1, octet a 2, octet a 3] = a := by
  unfold adVal octet
  simp only [List.foldl_cons, List.foldl_nil, Nat.mul_zero, Nat.mul_one, Nat.sub_zero, Nat.reduceMul, Nat.reduceSub, Nat.zero_mul, Nat.zero_add, Nat.reducePow, Nat.div_one]
  omega
theorem par_fmt {a : Nat} (ha : a < 2 ^ 32) : parB (fmtB a) = some a := by
  have hne := fun i => dig_ne (n := octet a i) (by have := octet_lt a i; omega) (c := 46) (by decide)
  unfold parB fmtB
  rw [splitB_app 46 _ _ (hne 0), splitB_app 46 _ _ (hne 1), splitB_app 46 _ _ (hne 2), splitB_none 46 _ (hne 3)]
  have hd := fun i => numB_dig (m := 255) (n := octet a i) (by decide) (by have := octet_lt a i; omega)
  simp only [hd, adVal_octets ha]
theorem fmt_noslash {a : Nat} : ∀ x ∈ fmtB a, x ≠ 47 := by
  have hne := fun i => dig_ne (n := octet a i) (by have := octet_lt a i; omega) (c := 47) (by decide)
  intro x hx
  unfold fmtB at hx
  simp only [List.mem_append, List.mem_cons] at hx
  rcases hx with h | h | h | h | h | h | h
  · exact hne 0 x h
  · subst h; decide
  · exact hne 1 x h
  · subst h; decide
  · exact hne 2 x h
  · subst h; decide
  · exact hne 3 x h
def parP (s : List UInt8) : Option Prf :=
  match splitB 47 s with
  | [p, q] => match parB p, numB q 32 with
    | some a, some n => if vld ⟨a, n⟩ = true then some ⟨a, n⟩ else none
    | _, _ => none
  | _ => none
def fmtP (p : Prf) : List UInt8 := if vld p = true then fmtB p.addr ++ 47 :: Lib.decDigits p.len.toNat else []
theorem parP_fmtP {p : Prf} (hp : p.addr < 2 ^ 32) (hv : vld p = true) : parP (fmtP p) = some p := by
  obtain ⟨h1, h2, h3⟩ := vld_iff.1 hv
  have hne := dig_ne (n := p.len.toNat) (by omega) (c := 47) (by decide)
  unfold parP fmtP
  rw [if_pos hv, splitB_app 47 _ _ fmt_noslash, splitB_none 47 _ hne]
  simp only [par_fmt hp, numB_dig (m := 32) (n := p.len.toNat) (by decide) (by omega)]
  have e : (⟨p.addr, (p.len.toNat : Int)⟩ : Prf) = p := by
    cases p with
    | mk a l =>
      simp only [Prf.mk.injEq, true_and]
      exact Int.toNat_of_nonneg h1
  rw [e, if_pos hv]
theorem parB_lt {s : List UInt8} {a : Nat} (h : parB s = some a) : a < 2 ^ 32 := by
  unfold parB at h
  split at h
  · split at h
    · rename_i a1 b1 c1 d1 e1 e2 e3 e4
      simp only [Option.some.injEq] at h
      have := (numB_some e1).1
      have := (numB_some e2).1
      have := (numB_some e3).1
      have := (numB_some e4).1
      subst h
      unfold adVal
      simp only [List.foldl_cons, List.foldl_nil]
      omega
    · cases h
  · cases h
end Go.Proofs.YtepkbbmjbbnhnaaGreatDoor
