/- Bits of addresses (no program in sight): masks, what lies below a mask. -/
import Derived.Laws.BitsLemmas
namespace Go.Proofs.YtceacooambpkdaaDoor

theorem w32u (n : Int) (h₀ : 0 ≤ n) (h₁ : n < 2 ^ 32) : IntKind.u32.wrap n = n := by rw [IntKind.wrap_u32]; omega
/-- an address whose first n of 32 bits are 1: k = 32 - n are 0 -/
def maskN (k : Nat) : Nat := 2 ^ 32 - 2 ^ k
theorem pow_le32 {k : Nat} (hk : k ≤ 32) : 2 ^ k ≤ 2 ^ 32 := Nat.pow_le_pow_right (by decide) hk
theorem maskN_lt (k : Nat) : maskN k < 2 ^ 32 := by have := Nat.two_pow_pos k; unfold maskN; omega
theorem maskN_shift {k : Nat} (hk : k ≤ 32) : maskN k = (2 ^ (32 - k) - 1) * 2 ^ k := by
  unfold maskN
  rw [Nat.sub_mul, ← Nat.pow_add, Nat.one_mul, Nat.sub_add_cancel hk]
theorem and_maskN {a k : Nat} (ha : a < 2 ^ 32) (hk : k ≤ 32) : a &&& maskN k = a / 2 ^ k * 2 ^ k := by
  have e : a / 2 ^ k * 2 ^ k = (a >>> k) <<< k := by rw [Nat.shiftLeft_eq, Nat.shiftRight_eq_div_pow]
  have e2 : maskN k = (2 ^ (32 - k) - 1) <<< k := by rw [Nat.shiftLeft_eq, maskN_shift hk]
  rw [e, e2]
  apply Nat.eq_of_testBit_eq
  intro i
  rw [Nat.testBit_and, Nat.testBit_shiftLeft, Nat.testBit_shiftLeft, Nat.testBit_two_pow_sub_one, Nat.testBit_shiftRight]
  by_cases h : k ≤ i
  · have e3 : k + (i - k) = i := by omega
    simp only [ge_iff_le, h, decide_true, Bool.true_and, e3]
    by_cases h2 : i < 32
    · have : i - k < 32 - k := by omega
      simp [this]
    · have : a.testBit i = false := Nat.testBit_lt_two_pow (Nat.lt_of_lt_of_le ha (Nat.pow_le_pow_right (by decide) (by omega)))
      simp [this]
  · simp [h]
theorem and_mask {a k : Nat} (ha : a < 2 ^ 32) (hk : k ≤ 32) : bits .and .u32 (a : Int) (maskN k : Int) = ((a / 2 ^ k * 2 ^ k : Nat) : Int) := by
  rw [(bits_nat .u32 32 (by decide) w32u a (maskN k) ha (maskN_lt k)).1, and_maskN ha hk]
theorem or_low {p y k : Nat} (hk : k ≤ 32) (hp : p % 2 ^ k = 0) (hp1 : p < 2 ^ 32) (hy : y < 2 ^ k) : bits .or .u32 (p : Int) (y : Int) = ((p + y : Nat) : Int) := by
  have h1 : y < 2 ^ 32 := Nat.lt_of_lt_of_le hy (pow_le32 hk)
  rw [bits_join .u32 32 (by decide) w32u k p y (by omega) (by exact_mod_cast hp) (by exact_mod_cast hp1) (by omega) (by exact_mod_cast hy) (by exact_mod_cast h1)]
  rfl
theorem ofInt_u (n : Nat) (h : n < 2 ^ 32) : (BitVec.ofInt 32 (n : Int)).toNat = n := by
  rw [BitVec.toNat_ofInt]
  omega
theorem andNot_mask {a k : Nat} (ha : a < 2 ^ 32) (hk : k ≤ 32) : bits .andNot .u32 (a : Int) (maskN k : Int) = ((a % 2 ^ k : Nat) : Int) := by
  show IntKind.u32.wrap ((BitVec.ofInt 32 (a : Int) &&& ~~~BitVec.ofInt 32 (maskN k : Int)).toNat : Int) = _
  have hm := maskN_lt k
  have hp := pow_le32 hk
  have hpp := Nat.two_pow_pos k
  rw [BitVec.toNat_and, BitVec.toNat_not, ofInt_u a ha, ofInt_u (maskN k) hm]
  have e : 2 ^ 32 - 1 - maskN k = 2 ^ k - 1 := by unfold maskN; omega
  rw [e, Nat.and_two_pow_sub_one_eq_mod, w32u _ (by omega) (by have := Nat.mod_lt a hpp; omega)]
theorem xor_u {a b : Nat} (ha : a < 2 ^ 32) (hb : b < 2 ^ 32) : bits .xor .u32 (a : Int) (b : Int) = ((a ^^^ b : Nat) : Int) := by
  show IntKind.u32.wrap ((BitVec.ofInt 32 (a : Int) ^^^ BitVec.ofInt 32 (b : Int)).toNat : Int) = _
  have h := Nat.xor_lt_two_pow ha hb
  rw [BitVec.toNat_xor, ofInt_u a ha, ofInt_u b hb, w32u _ (by omega) (by omega)]
theorem flip_mask {k : Nat} (hk : k ≤ 32) : bits .xor .u32 4294967295 (maskN k : Int) = ((2 ^ k - 1 : Nat) : Int) := by
  show IntKind.u32.wrap ((BitVec.ofInt 32 4294967295 ^^^ BitVec.ofInt 32 (maskN k : Int)).toNat : Int) = _
  have hm := maskN_lt k
  have hp := pow_le32 hk
  have hpp := Nat.two_pow_pos k
  have e : BitVec.ofInt 32 4294967295 = BitVec.allOnes 32 := by decide
  rw [e, BitVec.allOnes_xor, BitVec.toNat_not, ofInt_u (maskN k) hm]
  have e2 : 2 ^ 32 - 1 - maskN k = 2 ^ k - 1 := by unfold maskN; omega
  rw [e2, w32u _ (by omega) (by omega)]
/-- two addresses agree ahead of their last k bits -/
theorem xor_lt {a b k : Nat} : a ^^^ b < 2 ^ k ↔ a / 2 ^ k = b / 2 ^ k := by
  rw [← Nat.shiftRight_eq_div_pow, ← Nat.shiftRight_eq_div_pow]
  constructor
  · intro h
    have h1 : (a ^^^ b) >>> k = 0 := by rw [Nat.shiftRight_eq_div_pow]; exact Nat.div_eq_of_lt h
    rw [Nat.shiftRight_xor_distrib] at h1
    have h2 : (a >>> k ^^^ b >>> k) ^^^ b >>> k = b >>> k := by rw [h1, Nat.zero_xor]
    rwa [Nat.xor_assoc, Nat.xor_self, Nat.xor_zero] at h2
  · intro h
    have h1 : (a ^^^ b) >>> k = 0 := by rw [Nat.shiftRight_xor_distrib, h, Nat.xor_self]
    rw [Nat.shiftRight_eq_div_pow] at h1
    rcases Nat.div_eq_zero_iff.1 h1 with h2 | h2
    · have := Nat.two_pow_pos k; omega
    · exact h2
end Go.Proofs.YtceacooambpkdaaDoor
