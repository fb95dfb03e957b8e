import Derived.Test.YtabgkfjfmjdfiaaGreatDoorZAdd

/- numbers: Mul, Add, small, Same. -/
set_option linter.unusedSectionVars false
set_option linter.unusedSimpArgs false
set_option linter.unusedVariables false
namespace Go.Proofs.YtabgkfjfmjdfiaaGreatDoor.Zn
open Go.RowKit Lmb
variable [Zone]
omit [Zone] in
theorem Dig.short {xs : List Int} {n : Nat} (h : Dig xs n) (hn : (n : Int) < pw 256) : xs.length ≤ 256 := (h.len_le 256).2 hn
theorem mul_nat {a b : Value} {m n : Nat} {w : World} (ha : NatAt w a m) (hb : NatAt w b n) (hm : (m : Int) < pw 256) (hn : (n : Int) < pw 256) (hmn : ((m * n : Nat) : Int) < pw 256) :
    Calls Tryz.prog 13 #[a, b] w (RetNat (m * n) w) := by
  obtain ⟨xs, r1, d1⟩ := ha
  obtain ⟨ys, r2, d2⟩ := hb
  have s1 := Dig.short d1 hm
  have s2 := Dig.short d2 hn
  exact mul_lists a b xs ys w m n r1 r2 d1.limbs d2.limbs (by omega) (by omega) d1.val d2.val fun os h => Dig.short (h.done d1.val d2.val) hmn
theorem add_nat {a b : Value} {m n : Nat} {w : World} (ha : NatAt w a m) (hb : NatAt w b n) (hmn : ((m + n : Nat) : Int) < pw 256) :
    Calls Tryz.prog 8 #[a, b] w (RetNat (m + n) w) := by
  obtain ⟨xs, r1, d1⟩ := ha
  obtain ⟨ys, r2, d2⟩ := hb
  have s1 := Dig.short d1 (by omega)
  have s2 := Dig.short d2 (by omega)
  exact add_lists a b xs ys w m n r1 r2 d1.limbs d2.limbs (by omega) (by omega) d1.val d2.val fun zs h => Dig.short h hmn
theorem small_nat {a : Value} {n c : Nat} {b : Int} {w : World} (ha : NatAt w a n) (hn : (n : Int) < pw 256) (hb : b = c) (hb0 : 1 ≤ b) (hb1 : b ≤ 1073741824) :
    Calls Tryz.prog 75 #[a, .int .i64 b] w (RetSmall n c w) := by
  obtain ⟨xs, r1, d1⟩ := ha
  have s1 := Dig.short d1 hn
  exact small_lists a b xs w n c r1 d1.limbs (by omega) hb0 hb1 d1.val hb
theorem same_nat {a b : Value} {m n : Nat} {w : World} (ha : NatAt w a m) (hb : NatAt w b n) :
    Calls Tryz.prog 17 #[a, b] w (RetBool (decide (m = n)) w) := by
  obtain ⟨xs, r1, d1⟩ := ha
  obtain ⟨ys, r2, d2⟩ := hb
  have := same_calls a b xs ys w r1 r2
  rwa [sameB_dig d1 d2] at this
theorem lit_nat {e : TypeId} (w : World) (hN : Zone.N ≤ w.heap.size) (x : Int) (n : Nat) (hx : x = n) (h0 : 1 ≤ x) (h1 : x < 1073741824) : NatAt (w.alloc (.cells #[.int .i64 x] e)) (.slice (some ⟨w.heap.size, 0, none⟩) 1 1) n := by
  subst hx
  refine ⟨[(n : Int)], ⟨_, 1, rfl, by simp, ⟨by simp [maxLen], by simp; omega, .inr fun y hy => by cases hy; exact Zone.up _ hN⟩, .inr ⟨w.heap.size, 0, rfl, by simp, fun i hi => ?_⟩⟩, dig_one (by omega) (by omega)⟩
  obtain rfl : i = 0 := by simpa using hi
  simp [World.cell?_alloc_at]
omit [Zone] in
theorem binom_pw {n : Nat} (h : n ≤ 1024) (k : Nat) : (binom n k : Int) < pw 256 := lt_pw (Nat.le_trans (binom_le n k) (Nat.pow_le_pow_right (by decide) h)) (by decide)
omit [Zone] in
theorem binom_mul_pw {n : Nat} (h : n ≤ 1024) (k d : Nat) (hd : d ≤ 1024) : ((binom n k * d : Nat) : Int) < pw 256 :=
  lt_pw (mul_two (Nat.le_trans (binom_le n k) (Nat.pow_le_pow_right (by decide) h)) (show d ≤ 2 ^ 10 from hd)) (by decide)
omit [Zone] in
theorem binom_div (n j : Nat) : binom n j * (n - j) / (j + 1) = binom n (j + 1) := by
  rw [← binom_step]; exact Nat.mul_div_cancel _ (by omega)
theorem Below.next {a b c : World} (h : Below a.heap.size a b) (k : Below b.heap.size b c) : Below a.heap.size a c := h.trans (k.mono h.size)
end Go.Proofs.YtabgkfjfmjdfiaaGreatDoor.Zn
