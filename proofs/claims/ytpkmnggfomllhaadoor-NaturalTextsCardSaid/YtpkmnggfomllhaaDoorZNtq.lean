/- numbers: Mul, Add, small, Same. -/
import Derived.Test.YtpkmnggfomllhaaDoorZAdq
set_option linter.unusedSectionVars false
set_option linter.unusedSimpArgs false
set_option linter.unusedVariables false
namespace Go.Proofs.YtpkmnggfomllhaaDoor.Zn
open Go.RowKit Lmb
variable [Zone]
omit [Zone] in
theorem Dig.short {xs : List Int} {n : Nat} (h : Dig xs n) (hn : (n : Int) < pw 256) : xs.length ≤ 256 := (h.len_le 256).2 hn
theorem add_nat {a b : Value} {m n : Nat} {w : World} (ha : NatAt w a m) (hb : NatAt w b n) (hmn : ((m + n : Nat) : Int) < pw 256) :
    Calls Tryd.prog 11 #[a, b] w (RetNat (m + n) w) := by
  obtain ⟨xs, r1, d1⟩ := ha
  obtain ⟨ys, r2, d2⟩ := hb
  have s1 := Dig.short d1 (by omega)
  have s2 := Dig.short d2 (by omega)
  exact add_lists a b xs ys w m n r1 r2 d1.limbs d2.limbs (by omega) (by omega) d1.val d2.val fun zs h => Dig.short h hmn
theorem small_nat {a : Value} {n c : Nat} {b : Int} {w : World} (ha : NatAt w a n) (hn : (n : Int) < pw 256) (hb : b = c) (hb0 : 1 ≤ b) (hb1 : b ≤ 1073741824) :
    Calls Tryd.prog 14 #[a, .int .i64 b] w (RetSmall n c w) := by
  obtain ⟨xs, r1, d1⟩ := ha
  have s1 := Dig.short d1 hn
  exact small_lists a b xs w n c r1 d1.limbs (by omega) hb0 hb1 d1.val hb
theorem same_nat {a b : Value} {m n : Nat} {w : World} (ha : NatAt w a m) (hb : NatAt w b n) :
    Calls Tryd.prog 9 #[a, b] w (RetBool (decide (m = n)) w) := by
  obtain ⟨xs, r1, d1⟩ := ha
  obtain ⟨ys, r2, d2⟩ := hb
  have := same_calls a b xs ys w r1 r2
  rwa [sameB_dig d1 d2] at this
theorem lit_nat {e : TypeId} (w : World) (hN : Zone.N ≤ w.heap.size) (x : Int) (n : Nat) (hx : x = n) (h0 : 1 ≤ x) (h1 : x < 1073741824) : NatAt (w.alloc (.cells #[.int .i64 x] e)) (.slice (some ⟨w.heap.size, 0, none⟩) 1 1) n := by
  subst hx
  refine ⟨[(n : Int)], ⟨_, 1, rfl, by simp, ⟨by simp [maxLen], by simp; omega, .inr fun y hy => by cases hy; exact Zone.up _ hN⟩, .inr ⟨w.heap.size, 0, rfl, by simp, fun i hi => ?_⟩⟩, dig_one (by omega) (by omega)⟩
  obtain rfl : i = 0 := by simpa using hi
  simp [World.cell?_alloc_at]
theorem Below.next {a b c : World} (h : Below a.heap.size a b) (k : Below b.heap.size b c) : Below a.heap.size a c := h.trans (k.mono h.size)
end Go.Proofs.YtpkmnggfomllhaaDoor.Zn
