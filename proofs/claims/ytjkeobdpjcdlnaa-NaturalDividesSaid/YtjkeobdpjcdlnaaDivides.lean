/- NaturalDivides: the quotient times the divisor plus the remainder is the dividend, with a remainder less than the divisor. The law holds of every input. -/
import Derived.Test.YtjkeobdpjcdlnaaAwake
import Derived.Test.YtjkeobdpjcdlnaaDiv
import Derived.Test.YtjkeobdpjcdlnaaShNaturalDivides
namespace Go.Proofs.Ytjkeobdpjcdlnaa
open Go.RowKit Lmb

set_option maxRecDepth 100000 in
set_option maxHeartbeats 4000000 in
theorem divides_walk : naturalDivides.Walk := by
  intro c0 z0 w ⟨f0, f1⟩
  go_enter Try.func6, Try.ntmps6
  go_wp2_with fail
  refine (awake_calls w).mono ?_
  rintro e w1 ⟨rfl, hb1⟩
  go_wp2_with fail
  refine (new_calls c0 z0 w1 200 (f0.below hb1) f1 (by omega)).mono ?_
  rintro e w2 ⟨rfl, hc2, hb2⟩
  have hB := Below.next hb1 hb2
  have hlt := hb1.size
  generalize w1.heap.size = cb at *
  clear hb1 hb2 f0 f1
  go_wp2_with fail
  refine (natural_calls cb 12 w2 hc2 (by omega)).mono ?_
  rintro e w3 ⟨x, nx, rfl, hx, bx, ax, hc3, hg3⟩
  replace hB := hB.grown hg3 (by have := hc2.lt; omega) (fun k hk => by injection hk; omega)
  clear hg3 hc2
  go_wp2_with fail
  refine (natural_calls cb 7 w3 hc3 (by omega)).mono ?_
  rintro e w4 ⟨y, ny, rfl, hy, bY, ay, hc4, hg4⟩
  replace hB := hB.grown hg4 (by have := hc3.lt; omega) (fun k hk => by injection hk; omega)
  replace hx := hx.kept ax hg4
  clear hg4 hc3 hc4 ax ay hlt
  by_cases h0 : ny = 0
  · subst h0
    go_wp2_with fail
    refine (divmod_zero x y w4 hy).mono ?_
    rintro e w' ⟨rfl, rfl⟩
    obtain ⟨ad, k, c, rfl, hk⟩ := hy.len
    have hk0 : k = 0 := hk.2 rfl
    subst hk0
    clear hk hx hy
    go_wp2
    go_ret
    exact ⟨rfl, hB⟩
  · go_wp2_with fail
    refine (divmod_nat hx hy (pw_up bx (by omega)) (by omega)).mono ?_
    rintro e w5 ⟨q, r, rfl, hq, hr, hb⟩
    have H : All w5 [(x, nx), (y, ny), (q, nx / ny), (r, nx % ny)] := by
      intro p hp
      simp only [List.mem_cons, List.not_mem_nil, or_false] at hp
      rcases hp with rfl | rfl | rfl | rfl
      · exact hx.below hb
      · exact hy.below hb
      · exact hq
      · exact hr
    replace hB := Below.next hB hb
    obtain ⟨ad, k, c, rfl, hk⟩ := hy.len
    have hk0 : ((k : Int) == 0) = false := by rw [beq_eq_false_iff_ne]; omega
    have hdm : nx / ny * ny + nx % ny = nx := by rw [Nat.mul_comm]; exact Nat.div_add_mod nx ny
    have hmod : nx % ny < ny := Nat.mod_lt _ (by omega)
    have hmul : nx / ny * ny ≤ nx := by omega
    have HDM := Lib.hid hdm
    have hqle : nx / ny ≤ nx := Nat.div_le_self _ _
    clear hk hx hy hq hr hb hdm
    go_wp2_with fail
    have hb1 := pw_up bx (show 12 ≤ 256 by omega)
    have hb2 := pw_up bY (show 7 ≤ 256 by omega)
    refine (mul_nat (H.nat q (nx / ny) (by simp)) (H.nat (.slice ad k c) ny (by simp)) (by omega) hb2 (by omega)).mono ?_
    rintro e w6 ⟨p, rfl, hv, hb⟩
    replace H := H.more hv hb
    replace hB := Below.next hB hb
    clear hv hb
    go_wp2_with fail
    refine (add_nat (H.nat p (nx / ny * ny) (by simp)) (H.nat r (nx % ny) (by simp)) (by rw [HDM.out]; exact hb1)).mono ?_
    rintro e w7 ⟨s, rfl, hv, hb⟩
    rw [HDM.out] at hv
    replace H := H.more hv hb
    replace hB := Below.next hB hb
    clear hv hb
    go_wp2_with fail
    refine (same_yes (H.nat s nx (by simp)) (H.nat x nx (by simp))).mono ?_
    rintro e w' ⟨rfl, d0, rfl⟩
    replace H := H.drewN d0
    replace hB := Below.drewN hB d0
    have hc := compare_nat (H.nat r (nx % ny) (by simp)) (H.nat (.slice ad k c) ny (by simp))
    rw [cmpI_lt (by omega)] at hc
    have HC := Lib.hid hc
    clear hc hb1 hb2
    go_wp2_with fail
    refine HC.out.mono ?_
    rintro e w' ⟨rfl, d1, rfl⟩
    replace hB := Below.drewN hB d1
    rw [World.drewN_drewN] at hB
    go_wp2
    go_ret
    exact ⟨rfl, hB⟩

theorem divides_holds : Rows.NaturalDividesSaid := naturalDivides.of_walk divides_walk
#print axioms divides_holds
end Go.Proofs.Ytjkeobdpjcdlnaa
