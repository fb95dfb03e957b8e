/- The longest common prefix by xor and bit lengths (no program in sight). -/
import Derived.Test.YtceacooambpkdaaDoorPrfM
import Derived.Sort.AssemblyPlain
namespace Go.Proofs.YtceacooambpkdaaDoor
open Go.Sort

theorem xor_div (a b m : Nat) : (a ^^^ b) / 2 ^ m = a / 2 ^ m ^^^ b / 2 ^ m := by
  rw [← Nat.shiftRight_eq_div_pow, ← Nat.shiftRight_eq_div_pow, ← Nat.shiftRight_eq_div_pow, Nat.shiftRight_xor_distrib]
theorem xor_zero_iff (x y : Nat) : x ^^^ y = 0 ↔ x = y := by
  constructor
  · intro h
    apply Nat.eq_of_testBit_eq
    intro i
    have h2 := congrArg (fun z => z.testBit i) h
    simp only [Nat.testBit_xor, Nat.zero_testBit] at h2
    revert h2
    cases x.testBit i <;> cases y.testBit i <;> simp
  · rintro rfl
    exact Nat.xor_self x
theorem xor_lt_iff (a b m : Nat) : a ^^^ b < 2 ^ m ↔ a / 2 ^ m = b / 2 ^ m := by
  rw [← xor_zero_iff, ← xor_div, Nat.div_eq_zero_iff]
  have := Nat.two_pow_pos m
  omega
theorem xor_lt32 {a b : Nat} (ha : a < 2 ^ 32) (hb : b < 2 ^ 32) : a ^^^ b < 2 ^ 32 := Nat.xor_lt_two_pow ha hb
theorem len_xor {a b : Nat} (ha : a < 2 ^ 32) (hb : b < 2 ^ 32) : bitsLen (a ^^^ b) = comK a b 32 ∧ comK a b 32 ≤ 32 := by
  have hk : a / 2 ^ 32 = b / 2 ^ 32 := by omega
  have h1 := (comK_spec a b 32 hk).1
  refine ⟨(comK_unique hk ((bitsLen_le_iff _ 32).2 (xor_lt32 ha hb)) ?_ fun j hj e => ?_).symm, h1⟩
  · exact (xor_lt_iff a b _).1 ((bitsLen_le_iff _ _).1 (Nat.le_refl _))
  · have := (bitsLen_le_iff (a ^^^ b) j).2 ((xor_lt_iff a b j).2 e)
    omega
theorem xor_u32 {a b : Nat} (ha : a < 2 ^ 32) (hb : b < 2 ^ 32) : bits .xor .u32 (a : Int) (b : Int) = ((a ^^^ b : Nat) : Int) := by
  show IntKind.u32.wrap ((BitVec.ofInt 32 (a : Int) ^^^ BitVec.ofInt 32 (b : Int)).toNat : Int) = _
  rw [BitVec.toNat_xor, ofInt_u a ha, ofInt_u b hb]
  exact w32u _ (by omega) (by exact_mod_cast xor_lt32 ha hb)
/-- the longest common prefix -/
def comP (a b : Nat) : Prf := ⟨a / 2 ^ comK a b 32 * 2 ^ comK a b 32, 32 - (comK a b 32 : Int)⟩
theorem comP_k {a b : Nat} (ha : a < 2 ^ 32) (hb : b < 2 ^ 32) : (comP a b).k = comK a b 32 := by
  have := (len_xor ha hb).2
  unfold comP Prf.k
  simp only
  omega
theorem comP_vld {a b : Nat} (ha : a < 2 ^ 32) (hb : b < 2 ^ 32) : vld (comP a b) = true := by
  have h := (len_xor ha hb).2
  refine vld_iff.2 ⟨?_, ?_, ?_⟩
  · show (0 : Int) ≤ 32 - (comK a b 32 : Int); omega
  · show 32 - (comK a b 32 : Int) ≤ 32; omega
  · rw [comP_k ha hb]
    exact Nat.mul_mod_left _ _
theorem comP_cont {a b : Nat} (ha : a < 2 ^ 32) (hb : b < 2 ^ 32) : cont (comP a b) a = true ∧ cont (comP a b) b = true := by
  have hk : a / 2 ^ 32 = b / 2 ^ 32 := by omega
  have h2 := (comK_spec a b 32 hk).2.1
  have hv := comP_vld ha hb
  have e : (comP a b).addr = a / 2 ^ comK a b 32 * 2 ^ comK a b 32 := rfl
  unfold cont
  rw [hv, comP_k ha hb, e, ← h2]
  simp
/-- the whole address is common exactly if they are one -/
theorem comP_eq {a b : Nat} (ha : a < 2 ^ 32) (hb : b < 2 ^ 32) : ((comP a b).len = 32) ↔ a = b := by
  have h := (len_xor ha hb).2
  have hk : a / 2 ^ 32 = b / 2 ^ 32 := by omega
  have hs := comK_spec a b 32 hk
  constructor
  · intro h9
    have h8 : comK a b 32 = 0 := by
      have : (comP a b).len = 32 - (comK a b 32 : Int) := rfl
      omega
    have := hs.2.1
    rw [h8] at this
    simpa using this
  · rintro rfl
    have : comK a a 32 = 0 := comK_unique rfl (by decide) rfl (fun j hj => absurd hj (Nat.not_lt_zero _))
    show 32 - (comK a a 32 : Int) = 32
    rw [this]; rfl
end Go.Proofs.YtceacooambpkdaaDoor
