/- routescopelaw02.awake: it returns true. -/
import Derived.Test.YtjkeobdpjcdlnaaChoose
namespace Go.Proofs.Ytjkeobdpjcdlnaa
open Go.RowKit Lmb

theorem dig_two : Dig [0, 1] 1073741824 := ⟨by simp [Limbs], by simp [Norm], by simp [val_cons, val_nil]⟩

set_option maxHeartbeats 1000000 in
theorem awake_calls (w : World) :
    Calls Try.prog 8 #[] w fun e w' => e = .returned (.bool true) ∧ Below w.heap.size w w' := by
  go_enter Try.func8, Try.ntmps8
  go_wp2_with fail
  have h1 := lit_nat (e := 3) w 1073741823 1073741823 rfl (by omega) (by omega)
  have b1 : Below w.heap.size w (w.alloc (.cells #[.int .i64 1073741823] 3)) := (Below.refl _ _).alloc (Nat.le_refl _) _
  have h2 := lit_nat (e := 3) (w.alloc (.cells #[.int .i64 1073741823] 3)) 1 1 rfl (by omega) (by omega)
  have b2 : Below (w.alloc (.cells #[.int .i64 1073741823] 3)).heap.size (w.alloc (.cells #[.int .i64 1073741823] 3)) ((w.alloc (.cells #[.int .i64 1073741823] 3)).alloc (.cells #[.int .i64 1] 3)) := (Below.refl _ _).alloc (Nat.le_refl _) _
  have hs : (w.alloc (.cells #[.int .i64 1073741823] 3)).heap.size = w.heap.size + 1 := by simp
  rw [hs] at h2
  refine (add_nat (h1.below b2) h2 (lt_pw (a := 30) (by decide) (by decide))).mono ?_
  rintro e w1 ⟨v, rfl, ⟨zs, rz, dz⟩, hb⟩
  have hz : zs = [0, 1] := (dz.inj dig_two).2 rfl
  subst hz
  obtain ⟨ad, cap, rfl, _, _, h3⟩ := rz
  rcases h3 with h3 | ⟨b, off, rfl, hlt, hc⟩
  · simp at h3
  · have hc1 : w1.cell? ⟨b, off + 1, none⟩ = some (.int .i64 1) := hc 1 (by simp)
    have HB := Lib.hid (Below.next (Below.next b1 b2) hb)
    clear hb b1 b2 h1 h2 hs hc dz
    go_wp2
    go_ret
    exact ⟨rfl, HB.out⟩
end Go.Proofs.Ytjkeobdpjcdlnaa
