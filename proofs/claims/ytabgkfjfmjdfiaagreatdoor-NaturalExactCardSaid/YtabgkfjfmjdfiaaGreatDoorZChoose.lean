import Derived.Test.YtabgkfjfmjdfiaaGreatDoorZNat

/- natural.Choose: it returns the binomial coefficient. -/
set_option linter.unusedSectionVars false
set_option linter.unusedSimpArgs false
set_option linter.unusedVariables false
namespace Go.Proofs.YtabgkfjfmjdfiaaGreatDoor.Zn
open Go.RowKit Lmb
variable [Zone]
set_option maxHeartbeats 1000000 in
theorem choose_calls (n k : Nat) (w : World) (hN : Zone.N ≤ w.heap.size) (hn : n ≤ 1024) (hk : k ≤ 1024) :
    Calls Tryz.prog 27 #[.int .i64 (n : Int), .int .i64 (k : Int)] w (RetNat (binom n k) w) := by
  by_cases hlt : n < k
  · have hc := binom_gt n k hlt
    have HC := Lib.hid hc
    clear hc
    go_enter Tryz.func27, Tryz.ntmps27
    go_wp2
    go_ret2
    rw [HC.out]
    exact ⟨_, rfl, ⟨[], Rd.nil _ _ hN, Dig.nil⟩, Below.refl _ _⟩
  · go_enter Tryz.func27, Tryz.ntmps27
    go_wp2
    have hlit : NatAt (w.alloc (.cells #[.int .i64 1] 3)) (.slice (some ⟨w.heap.size, 0, none⟩) 1 1) (binom n 0) := by
      rw [binom_zero]; exact lit_nat w hN 1 1 rfl (by omega) (by omega)
    have hbel0 : Below w.heap.size w (w.alloc (.cells #[.int .i64 1] 3)) := (Below.refl _ _).alloc (Nat.le_refl _) _
    have HLIT := Lib.hid hlit
    clear hlit
    go_loopg [29, 6] k (fun m i v wr => ∃ j : Nat, i = .int .i64 j ∧ j + m = k ∧ NatAt wr v (binom n j) ∧ Below w.heap.size w wr)
    case atStart => exact ⟨0, rfl, by omega, HLIT.out, hbel0⟩
    case round =>
      obtain ⟨j, rfl, hj, hv, hbel⟩ := hrel
      have HV := Lib.hid hv
      clear hv hbel0
      cases gk with
      | zero =>
        obtain rfl : j = k := by omega
        go_wp2
        go_ret2
        exact ⟨_, rfl, HV.out, hbel⟩
      | succ m =>
        go_wp2_with fail
        have hl := lit_nat (e := 3) wr HV.out.zone ((n : Int) - (j : Int)) (n - j) (by omega) (by omega) (by omega)
        have hb1 : Below wr.heap.size wr (wr.alloc (.cells #[.int .i64 ((n : Int) - (j : Int))] 3)) := (Below.refl _ _).alloc (Nat.le_refl _) _
        refine (mul_nat (HV.out.below hb1) hl (binom_pw hn j) (lt_pw (a := 10) (by omega) (by decide)) (binom_mul_pw hn j (n - j) (by omega))).mono ?_
        rintro e w2 ⟨v2, rfl, hv2, hb2⟩
        go_wp2_with fail
        refine (small_nat (c := j + 1) hv2 (binom_mul_pw hn j (n - j) (by omega)) (by omega) (by omega) (by omega)).mono ?_
        rintro e w3 ⟨v3, rfl, hv3, hb3⟩
        rw [binom_div] at hv3
        have HV3 := Lib.hid hv3
        have HB := Lib.hid (Below.next (Below.next (Below.next hbel hb1) hb2) hb3)
        clear hv3
        go_wp2
        go_roundg m
        case measure => omega
        case rel => exact ⟨j + 1, by go_num, by omega, HV3.out, HB.out⟩
end Go.Proofs.YtabgkfjfmjdfiaaGreatDoor.Zn
