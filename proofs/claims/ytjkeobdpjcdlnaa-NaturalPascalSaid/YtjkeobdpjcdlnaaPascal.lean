/- NaturalPascal: the recurrence of binomial coefficients, and their symmetry. The law holds of every input. -/
import Derived.Test.YtjkeobdpjcdlnaaAwake
import Derived.Test.YtjkeobdpjcdlnaaShNaturalPascal
namespace Go.Proofs.Ytjkeobdpjcdlnaa
open Go.RowKit Lmb

set_option maxHeartbeats 2000000 in
theorem pascal_walk : naturalPascal.Walk := by
  intro a0 a1 w f0 f1
  have g0 := bounds_u16 f0
  have g1 := bounds_u16 f1
  go_enter Try.func3, Try.ntmps3
  go_wp2_with fail
  refine (awake_calls w).mono ?_
  rintro e w1 ⟨rfl, hb1⟩
  obtain ⟨i, hi⟩ : ∃ i : Nat, 1 + a0 % 300 = (i : Int) := ⟨(1 + a0 % 300).toNat, by omega⟩
  obtain ⟨j, hj⟩ : ∃ j : Nat, a1 % 301 = (j : Int) := ⟨(a1 % 301).toNat, by omega⟩
  have hi1 : 1 ≤ i := by omega
  have hi2 : i ≤ 300 := by omega
  have hj2 : j ≤ 300 := by omega
  have HI := Lib.hid hi
  have HJ := Lib.hid hj
  clear hi hj
  go_wp2_with fail
  rw [HI.out, HJ.out]
  clear HI HJ g0 g1 f0 f1
  refine (choose_calls i j _ (by omega) (by omega)).mono ?_
  rintro e w2 ⟨x, rfl, hx, hb2⟩
  have hbx := Below.next hb1 hb2
  clear hb1 hb2
  have hx := Lib.hid hx
  go_wp2_with fail
  have e1 : (i : Int) - 1 = ((i - 1 : Nat) : Int) := by omega
  rw [e1]
  refine (choose_calls (i - 1) j _ (by omega) (by omega)).mono ?_
  rintro e w3 ⟨y, rfl, hy, hb3⟩
  have hby := Below.next hbx hb3
  have HX := Lib.hid (hx.out.below hb3)
  have HY := Lib.hid hy
  clear hbx hb3 hx hy e1
  cases j with
  | zero =>
    go_wp2_with fail
    have hp : binom (i - 1) 0 + 0 = binom i 0 := by rw [binom_zero, binom_zero]
    have hs := add_nat HY.out ⟨[], Rd.nil _ _, Dig.nil⟩ (by rw [hp]; exact binom_pw (by omega) 0)
    rw [hp] at hs
    have HS := Lib.hid hs
    clear hp hs
    refine HS.out.mono ?_
    rintro e w4 ⟨z, rfl, hz, hb4⟩
    have hbz := Below.next hby hb4
    have hsame := same_nat hz (HX.out.below hb4)
    rw [decide_eq_true rfl] at hsame
    have HSM := Lib.hid hsame
    have HX2 := Lib.hid (HX.out.below hb4)
    clear HX HY HS hz hb4 hby hsame
    go_wp2_with fail
    refine HSM.out.mono ?_
    rintro e w5 ⟨rfl, d, rfl⟩
    go_wp2_with fail
    refine (choose_calls i i _ (by omega) (by omega)).mono ?_
    rintro e w6 ⟨m, rfl, hm, hb6⟩
    have hb5 : Below w4.heap.size w4 (w4.drewN d) := Below.drewN (Below.refl _ _) d
    have hsame := same_nat hm ((HX2.out.below hb5).below hb6)
    have hbm := Below.next (Below.next hbz hb5) hb6
    rw [binom_self, binom_zero, decide_eq_true rfl] at hsame
    have HSM2 := Lib.hid hsame
    clear HSM hsame hb6 hb5 hbz HX2 hm
    go_wp2_with fail
    refine HSM2.out.mono ?_
    rintro e w7 ⟨rfl, d2, rfl⟩
    go_wp2
    go_ret
    exact ⟨rfl, Below.drewN hbm d2⟩
  | succ k =>
    go_wp2_with fail
    have e1 : (i : Int) - 1 = ((i - 1 : Nat) : Int) := by omega
    rw [e1]
    refine (choose_calls (i - 1) k _ (by omega) (by omega)).mono ?_
    rintro e w3 ⟨u, rfl, hu, hb3⟩
    have hbu := Below.next hby hb3
    have HX1 := Lib.hid (HX.out.below hb3)
    have hp : binom (i - 1) (k + 1) + binom (i - 1) k = binom i (k + 1) := by
      obtain ⟨t, rfl⟩ : ∃ t, i = t + 1 := ⟨i - 1, by omega⟩
      rw [Nat.add_sub_cancel, binom_succ, Nat.add_comm]
    have hs := add_nat (HY.out.below hb3) hu (by rw [hp]; exact binom_pw (by omega) _)
    rw [hp] at hs
    have HS := Lib.hid hs
    clear hp hs HX HY e1 hb3 hby hu
    go_wp2_with fail
    refine HS.out.mono ?_
    rintro e w4 ⟨z, rfl, hz, hb4⟩
    have hbz := Below.next hbu hb4
    have hsame := same_nat hz (HX1.out.below hb4)
    rw [decide_eq_true rfl] at hsame
    have HSM := Lib.hid hsame
    have HX2 := Lib.hid (HX1.out.below hb4)
    clear HX1 HS hz hb4 hbu hsame
    go_wp2_with fail
    refine HSM.out.mono ?_
    rintro e w5 ⟨rfl, d, rfl⟩
    have hb5 : Below w4.heap.size w4 (w4.drewN d) := Below.drewN (Below.refl _ _) d
    have hbd := Below.next hbz hb5
    have HX3 := Lib.hid (HX2.out.below hb5)
    clear HSM HX2 hb5 hbz
    by_cases hgt : i < k + 1
    · obtain ⟨xs, hr, hd⟩ := HX3.out
      have h0 := hd.len_zero
      rw [binom_gt i (k + 1) hgt] at h0
      have hl : xs.length = 0 := h0.2 rfl
      obtain ⟨ad, cap, rfl, _, _, _⟩ := hr
      obtain rfl := List.length_eq_zero_iff.1 hl
      clear hl h0 hd HX3
      go_wp2
      go_ret
      exact ⟨rfl, hbd⟩
    · go_wp2_with fail
      have e2 : (i : Int) - ((k : Int) + 1) = ((i - (k + 1) : Nat) : Int) := by omega
      rw [e2]
      refine (choose_calls i (i - (k + 1)) _ (by omega) (by omega)).mono ?_
      rintro e w6 ⟨m, rfl, hm, hb6⟩
      have hsame := same_nat hm (HX3.out.below hb6)
      have hbm := Below.next hbd hb6
      rw [binom_symm (by omega), decide_eq_true rfl] at hsame
      have HSM2 := Lib.hid hsame
      clear hsame hb6 hbd HX3 hm e2
      go_wp2_with fail
      refine HSM2.out.mono ?_
      rintro e w7 ⟨rfl, d2, rfl⟩
      go_wp2
      go_ret
      exact ⟨rfl, Below.drewN hbm d2⟩

theorem pascal_holds : Rows.NaturalPascalSaid := naturalPascal.of_walk pascal_walk
#print axioms pascal_holds
end Go.Proofs.Ytjkeobdpjcdlnaa
