/- NaturalGcd: the greatest common divisor divides both numbers, and grows with a common factor. The law holds of every input. -/
import Derived.Test.YtjkeobdpjcdlnaaAwake
import Derived.Test.YtjkeobdpjcdlnaaGcd
import Derived.Test.YtjkeobdpjcdlnaaShNaturalGcd
namespace Go.Proofs.Ytjkeobdpjcdlnaa
open Go.RowKit Lmb

set_option maxHeartbeats 1000000 in
theorem word_small (n : Nat) (w : World) (h0 : 1 ≤ n) (h1 : n < 1073741824) :
    Calls Try.prog 20 #[.int .u64 (n : Int)] w (RetNum n w) := by
  obtain ⟨i0, hi, hz0, hz1, hz2⟩ := info_parts Try.infoInt
  have hnil : w.ownsRow w.heap.size 3 1 (.slice none 0 0) 0 [] := World.ownsRow_nil _ _ _ _
  have hdiv : (n : Int) / 1073741824 = 0 := by omega
  have hmod : (n : Int) % 1073741824 = (n : Int) := by omega
  have hpos : (0 : Int) < (n : Int) := by omega
  have HD := Lib.hid hdiv
  have HM := Lib.hid hmod
  clear hdiv hmod
  go_enter Try.func20, Try.ntmps20
  go_wp2
  refine wp_loop_rounds 2 ?_
  rw [rounds_succ]
  go_wp2_with (at_builtin; go_must (refine wpList_append_own _ rfl (.tmp 8) (.tmp 12) 25 rfl w.heap.size 3 i0 (.int .i64 0) 1 8 Try.underlying25 hi hz0 hz1 hz2 rfl (by decide) _ _ _ rfl (hnil.alloc _) ⟨w.heap.size, 0, none⟩ 1 1 [.int .i64 ((n : Int) % 1073741824)] rfl rfl ?c1 ?c2 ?c3 ?c4 ?c5 ?_))
  case c1 =>
    intro j u hj
    match j, hj with
    | 0, hj => simp at hj; subst hj; simp [Addr.add]
  case c2 => intro u hu; simp at hu; subst hu; rfl
  case c3 => unfold maxLen; omega
  case c4 => omega
  case c5 => simp
  intro v' w1 hown' hgrow _
  rw [HM.out] at hown'
  have hb : Below w.heap.size w w1 := ((Below.refl _ _).alloc (Nat.le_refl _) _).grown hgrow (by simp) (fun k hk => by simp [Value.ownBlock] at hk)
  have hr : Rd .i64 w1 v' [(n : Int)] := rd_of_owns (by simpa using hown')
  clear hown' hgrow
  have hd0 : decide ((0 : Int) < (0 : Int)) = false := by decide
  go_wp2
  rw [HD.out, rounds_succ]
  go_wp2
  go_ret
  exact ⟨v', rfl, ⟨_, hr, dig_one (by omega) h1⟩, hb⟩

set_option maxRecDepth 100000 in
set_option maxHeartbeats 4000000 in
theorem gcd_walk : naturalGcd.Walk := by
  intro c0 z0 a1 w ⟨f0, f1⟩ fk
  have bk := bounds_u8 fk
  obtain ⟨km, hkm⟩ : ∃ k : Nat, a1 + 1 = (k : Int) := ⟨(a1 + 1).toNat, by omega⟩
  have hk1 : 1 ≤ km := by omega
  have hk2 : km ≤ 256 := by omega
  have HKM := Lib.hid hkm
  clear hkm
  go_enter Try.func7, Try.ntmps7
  go_wp2_with fail
  refine (awake_calls w).mono ?_
  rintro e w1 ⟨rfl, hb1⟩
  go_wp2_with fail
  refine (new_calls c0 z0 w1 200 (f0.below hb1) f1 (by omega)).mono ?_
  rintro e w2 ⟨rfl, hc2, hb2⟩
  have hB := Below.next hb1 hb2
  have hlt := hb1.size
  generalize w1.heap.size = cb at *
  clear hb1 hb2 f0 f1
  go_wp2_with fail
  refine (natural_calls cb 5 w2 hc2 (by omega)).mono ?_
  rintro e w3 ⟨x, nx, rfl, hx, bx, ax, hc3, hg3⟩
  replace hB := hB.grown hg3 (by have := hc2.lt; omega) (fun k hk => by injection hk; omega)
  clear hg3 hc2
  go_wp2_with fail
  refine (natural_calls cb 5 w3 hc3 (by omega)).mono ?_
  rintro e w4 ⟨y, ny, rfl, hy, bY, ay, hc4, hg4⟩
  replace hB := hB.grown hg4 (by have := hc3.lt; omega) (fun k hk => by injection hk; omega)
  replace hx := hx.kept ax hg4
  clear hg4 hc3 hc4 ax ay hlt
  go_wp2_with fail
  refine (gcd_calls x y nx ny w4 hx hy (pw_up bx (by omega)) (pw_up bY (by omega))).mono ?_
  rintro e w5 ⟨g, rfl, hg, hb⟩
  obtain ⟨adx, kx, cx, hxe, hkx⟩ := hx.len
  obtain ⟨ady, ky, cy, hye, hky⟩ := hy.len
  obtain ⟨adg, kg, cg, hge, hkg⟩ := hg.len
  have H : All w5 [(x, nx), (y, ny), (g, Nat.gcd nx ny)] := by
    intro p hp
    simp only [List.mem_cons, List.not_mem_nil, or_false] at hp
    rcases hp with rfl | rfl | rfl
    · exact hx.below hb
    · exact hy.below hb
    · exact hg
  replace hB := Below.next hB hb
  subst hxe hye hge
  clear hx hy hg hb
  by_cases h0 : nx = 0 ∧ ny = 0
  · obtain ⟨rfl, rfl⟩ := h0
    have hkx0 : kx = 0 := hkx.2 rfl
    have hky0 : ky = 0 := hky.2 rfl
    have hkg0 : kg = 0 := hkg.2 rfl
    subst hkx0 hky0 hkg0
    clear hkx hky hkg bx bY
    go_wp2
    go_ret
    exact ⟨rfl, hB⟩
  · have hgp : 0 < Nat.gcd nx ny := by
      rcases Nat.eq_zero_or_pos (Nat.gcd nx ny) with h | h
      · exact absurd ⟨Nat.eq_zero_of_gcd_eq_zero_left h, Nat.eq_zero_of_gcd_eq_zero_right h⟩ h0
      · exact h
    have hgx : (Nat.gcd nx ny : Int) < pw 5 := by
      rcases Nat.eq_zero_or_pos nx with h | h
      · subst h; rw [Nat.gcd_zero_left]; exact bY
      · have := Nat.le_of_dvd h (Nat.gcd_dvd_left nx ny); omega
    have hrx : nx % Nat.gcd nx ny = 0 := Nat.mod_eq_zero_of_dvd (Nat.gcd_dvd_left nx ny)
    have hry : ny % Nat.gcd nx ny = 0 := Nat.mod_eq_zero_of_dvd (Nat.gcd_dvd_right nx ny)
    have e1 : Nat.gcd (nx * km) (ny * km) = Nat.gcd nx ny * km := Nat.gcd_mul_right _ _ _
    have e2 : Nat.gcd ny nx = Nat.gcd nx ny := Nat.gcd_comm _ _
    have hkx1 : (((kx : Int) == 0) = true ∧ ((ky : Int) == 0) = false) ∨ ((kx : Int) == 0) = false := by
      by_cases h : kx = 0
      · have : ky ≠ 0 := fun h' => h0 ⟨hkx.1 h, hky.1 h'⟩
        exact .inl ⟨by rw [beq_iff_eq]; omega, by rw [beq_eq_false_iff_ne]; omega⟩
      · exact .inr (by rw [beq_eq_false_iff_ne]; omega)
    have E1 := Lib.hid e1
    have E2 := Lib.hid e2
    have RX := Lib.hid hrx
    have RY := Lib.hid hry
    have hkmb : (km : Int) < pw 1 := by rw [pw_succ, pw_zero]; omega
    generalize Nat.gcd nx ny = gn at *
    clear hkx hky hkg h0 e1 e2 hrx hry
    rcases hkx1 with ⟨hk1', hk2'⟩ | hk1'
    all_goals
      go_wp2_with fail
      refine (divmod_nat (H.nat (.slice adx kx cx) nx (by simp)) (H.nat (.slice adg kg cg) gn (by simp)) (pw_up bx (by omega)) hgp).mono ?_
      rintro e w6 ⟨q1, r1, rfl, _, hr1, hb⟩
      rw [RX.out] at hr1
      replace H := H.more hr1 hb
      replace hB := Below.next hB hb
      clear hr1 hb
      go_wp2_with fail
      refine (divmod_nat (H.nat (.slice ady ky cy) ny (by simp)) (H.nat (.slice adg kg cg) gn (by simp)) (pw_up bY (by omega)) hgp).mono ?_
      rintro e w7 ⟨q2, r2, rfl, _, hr2, hb⟩
      rw [RY.out] at hr2
      replace H := H.more hr2 hb
      replace hB := Below.next hB hb
      clear hr2 hb
      go_wp2_with fail
      rw [HKM.out]
      refine (word_small km w7 hk1 (by omega)).mono ?_
      rintro e w8 ⟨mv, rfl, hm, hb⟩
      replace H := H.more hm hb
      replace hB := Below.next hB hb
      clear hm hb
      go_wp2_with fail
      have hbx := mul_pw bx hkmb
      have hby := mul_pw bY hkmb
      have hbg := mul_pw hgx hkmb
      refine (mul_nat (H.nat (.slice adx kx cx) nx (by simp)) (H.nat mv km (by simp)) (pw_up bx (by omega)) (pw_up hkmb (by omega)) (pw_up hbx (by omega))).mono ?_
      rintro e w9 ⟨x2, rfl, hv, hb⟩
      replace H := H.more hv hb
      replace hB := Below.next hB hb
      clear hv hb
      go_wp2_with fail
      refine (mul_nat (H.nat (.slice ady ky cy) ny (by simp)) (H.nat mv km (by simp)) (pw_up bY (by omega)) (pw_up hkmb (by omega)) (pw_up hby (by omega))).mono ?_
      rintro e w10 ⟨y2, rfl, hv, hb⟩
      replace H := H.more hv hb
      replace hB := Below.next hB hb
      clear hv hb
      go_wp2_with fail
      refine (mul_nat (H.nat (.slice adg kg cg) gn (by simp)) (H.nat mv km (by simp)) (pw_up hgx (by omega)) (pw_up hkmb (by omega)) (pw_up hbg (by omega))).mono ?_
      rintro e w11 ⟨z2, rfl, hv, hb⟩
      replace H := H.more hv hb
      replace hB := Below.next hB hb
      clear hv hb
      obtain ⟨ad1, k1, c1, hr1e, hk1z⟩ := (H.nat r1 0 (by simp)).len
      obtain ⟨ad2, k2, c2, hr2e, hk2z⟩ := (H.nat r2 0 (by simp)).len
      have hk10 : k1 = 0 := hk1z.2 rfl
      have hk20 : k2 = 0 := hk2z.2 rfl
      subst hr1e hr2e hk10 hk20
      clear hk1z hk2z
      have hgc := gcd_calls x2 y2 (nx * km) (ny * km) w11 (H.nat x2 (nx * km) (by simp)) (H.nat y2 (ny * km) (by simp)) (pw_up hbx (by omega)) (pw_up hby (by omega))
      rw [E1.out] at hgc
      have HGC := Lib.hid hgc
      clear hgc hbx hby hbg
      go_wp2_with fail
      refine HGC.out.mono ?_
      rintro e w12 ⟨g2, rfl, hv, hb⟩
      replace H := H.more hv hb
      replace hB := Below.next hB hb
      clear hv hb
      go_wp2_with fail
      refine (same_yes (H.nat g2 (gn * km) (by simp)) (H.nat z2 (gn * km) (by simp))).mono ?_
      rintro e w' ⟨rfl, d0, rfl⟩
      replace H := H.drewN d0
      replace hB := Below.drewN hB d0
      have hgc2 := gcd_calls (.slice ady ky cy) (.slice adx kx cx) ny nx _ (H.nat (.slice ady ky cy) ny (by simp)) (H.nat (.slice adx kx cx) nx (by simp)) (pw_up bY (by omega)) (pw_up bx (by omega))
      rw [E2.out] at hgc2
      have HGC2 := Lib.hid hgc2
      clear hgc2
      go_wp2_with fail
      refine HGC2.out.mono ?_
      rintro e w13 ⟨g3, rfl, hv, hb⟩
      replace H := H.more hv hb
      replace hB := Below.next hB hb
      clear hv hb
      go_wp2_with fail
      refine (same_yes (H.nat g3 gn (by simp)) (H.nat (.slice adg kg cg) gn (by simp))).mono ?_
      rintro e w' ⟨rfl, d1, rfl⟩
      replace hB := Below.drewN hB d1
      go_wp2
      go_ret
      exact ⟨rfl, hB⟩

theorem gcd_holds : Rows.NaturalGcdSaid := naturalGcd.of_walk gcd_walk
#print axioms gcd_holds
end Go.Proofs.Ytjkeobdpjcdlnaa
