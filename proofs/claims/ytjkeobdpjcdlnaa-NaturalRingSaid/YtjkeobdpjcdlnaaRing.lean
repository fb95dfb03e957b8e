/- NaturalRing: addition and multiplication are commutative and associative, distribute, and are undone by subtraction. The law holds of every input. -/
import Derived.Test.YtjkeobdpjcdlnaaAwake
import Derived.Test.YtjkeobdpjcdlnaaBounds
import Derived.Test.YtjkeobdpjcdlnaaShNaturalRing
namespace Go.Proofs.Ytjkeobdpjcdlnaa
open Go.RowKit Lmb

set_option maxHeartbeats 4000000 in
theorem ring_walk : naturalRing.Walk := by
  intro c0 z0 w ⟨f0, f1⟩
  go_enter Try.func4, Try.ntmps4
  go_wp2_with fail
  refine (awake_calls w).mono ?_
  rintro e w1 ⟨rfl, hb1⟩
  go_wp2_with fail
  refine (new_calls c0 z0 w1 200 (f0.below hb1) f1 (by omega)).mono ?_
  rintro e w2 ⟨rfl, hc2, hb2⟩
  have hB := Below.next hb1 hb2
  have hlt := hb1.size
  generalize w1.heap.size = cb at *
  clear hb1 hb2 f0 f1
  go_wp2_with fail
  refine (natural_calls cb 8 w2 hc2 (by omega)).mono ?_
  rintro e w3 ⟨x, nx, rfl, hx, bx, ax, hc3, hg3⟩
  replace hB := hB.grown hg3 (by have := hc2.lt; omega) (fun k hk => by injection hk; omega)
  clear hg3 hc2
  go_wp2_with fail
  refine (natural_calls cb 8 w3 hc3 (by omega)).mono ?_
  rintro e w4 ⟨y, ny, rfl, hy, bY, ay, hc4, hg4⟩
  replace hB := hB.grown hg4 (by have := hc3.lt; omega) (fun k hk => by injection hk; omega)
  replace hx := hx.kept ax hg4
  clear hg4 hc3
  go_wp2_with fail
  refine (natural_calls cb 8 w4 hc4 (by omega)).mono ?_
  rintro e w5 ⟨z, nz, rfl, hz, bz, az, hc5, hg5⟩
  replace hB := hB.grown hg5 (by have := hc4.lt; omega) (fun k hk => by injection hk; omega)
  replace hx := hx.kept ax hg5
  replace hy := hy.kept ay hg5
  have H : All w5 [(x, nx), (y, ny), (z, nz)] := by
    intro p hp
    simp only [List.mem_cons, List.not_mem_nil, or_false] at hp
    rcases hp with rfl | rfl | rfl
    · exact hx
    · exact hy
    · exact hz
  clear hg5 hc4 hc5 hx hy hz ax ay az hlt
  go_wp2_with fail
  have ba := add_pw (pw_up bx (show 8 ≤ 8 by omega)) (pw_up bY (show 8 ≤ 8 by omega))
  refine (add_nat (H.nat x (nx) (by simp)) (H.nat y (ny) (by simp)) (pw_up ba (by omega))).mono ?_
  rintro e w6 ⟨a, rfl, hv, hb⟩
  replace H := H.more hv hb
  replace hB := Below.next hB hb
  clear hv hb
  go_wp2_with fail
  have bb := add_pw (pw_up bY (show 8 ≤ 8 by omega)) (pw_up bx (show 8 ≤ 8 by omega))
  refine (add_nat (H.nat y (ny) (by simp)) (H.nat x (nx) (by simp)) (pw_up bb (by omega))).mono ?_
  rintro e w7 ⟨b, rfl, hv, hb⟩
  rw [show ny + nx = nx + ny from Nat.add_comm _ _] at hv
  replace H := H.more hv hb
  replace hB := Below.next hB hb
  clear hv hb
  go_wp2_with fail
  have bl := add_pw (pw_up ba (show 9 ≤ 9 by omega)) (pw_up bz (show 8 ≤ 9 by omega))
  refine (add_nat (H.nat a (nx + ny) (by simp)) (H.nat z (nz) (by simp)) (pw_up bl (by omega))).mono ?_
  rintro e w8 ⟨l, rfl, hv, hb⟩
  replace H := H.more hv hb
  replace hB := Below.next hB hb
  clear hv hb
  go_wp2_with fail
  have byz := add_pw (pw_up bY (show 8 ≤ 8 by omega)) (pw_up bz (show 8 ≤ 8 by omega))
  refine (add_nat (H.nat y (ny) (by simp)) (H.nat z (nz) (by simp)) (pw_up byz (by omega))).mono ?_
  rintro e w9 ⟨yz, rfl, hv, hb⟩
  replace H := H.more hv hb
  replace hB := Below.next hB hb
  clear hv hb
  go_wp2_with fail
  have br := add_pw (pw_up bx (show 8 ≤ 9 by omega)) (pw_up byz (show 9 ≤ 9 by omega))
  refine (add_nat (H.nat x (nx) (by simp)) (H.nat yz (ny + nz) (by simp)) (pw_up br (by omega))).mono ?_
  rintro e w10 ⟨r, rfl, hv, hb⟩
  rw [show nx + (ny + nz) = (nx + ny) + nz from (Nat.add_assoc _ _ _).symm] at hv
  replace H := H.more hv hb
  replace hB := Below.next hB hb
  clear hv hb
  go_wp2_with fail
  have bm := mul_pw bx byz
  refine (mul_nat (H.nat x (nx) (by simp)) (H.nat yz (ny + nz) (by simp)) (pw_up bx (by omega)) (pw_up byz (by omega)) (pw_up bm (by omega))).mono ?_
  rintro e w11 ⟨m, rfl, hv, hb⟩
  replace H := H.more hv hb
  replace hB := Below.next hB hb
  clear hv hb
  go_wp2_with fail
  have bp := mul_pw bx bY
  refine (mul_nat (H.nat x (nx) (by simp)) (H.nat y (ny) (by simp)) (pw_up bx (by omega)) (pw_up bY (by omega)) (pw_up bp (by omega))).mono ?_
  rintro e w12 ⟨p, rfl, hv, hb⟩
  replace H := H.more hv hb
  replace hB := Below.next hB hb
  clear hv hb
  go_wp2_with fail
  have bq := mul_pw bx bz
  refine (mul_nat (H.nat x (nx) (by simp)) (H.nat z (nz) (by simp)) (pw_up bx (by omega)) (pw_up bz (by omega)) (pw_up bq (by omega))).mono ?_
  rintro e w13 ⟨q, rfl, hv, hb⟩
  replace H := H.more hv hb
  replace hB := Below.next hB hb
  clear hv hb
  go_wp2_with fail
  have bs := add_pw (pw_up bp (show 16 ≤ 16 by omega)) (pw_up bq (show 16 ≤ 16 by omega))
  refine (add_nat (H.nat p (nx * ny) (by simp)) (H.nat q (nx * nz) (by simp)) (pw_up bs (by omega))).mono ?_
  rintro e w14 ⟨s, rfl, hv, hb⟩
  rw [show (nx * ny) + (nx * nz) = nx * (ny + nz) from (Nat.mul_add _ _ _).symm] at hv
  replace H := H.more hv hb
  replace hB := Below.next hB hb
  clear hv hb
  go_wp2_with fail
  have bt := mul_pw bY bx
  refine (mul_nat (H.nat y (ny) (by simp)) (H.nat x (nx) (by simp)) (pw_up bY (by omega)) (pw_up bx (by omega)) (pw_up bt (by omega))).mono ?_
  rintro e w15 ⟨t, rfl, hv, hb⟩
  rw [show ny * nx = nx * ny from Nat.mul_comm _ _] at hv
  replace H := H.more hv hb
  replace hB := Below.next hB hb
  clear hv hb
  go_wp2_with fail
  refine (sub_nat (H.nat a (nx + ny) (by simp)) (H.nat y (ny) (by simp)) (pw_up ba (by omega)) (by omega)).mono ?_
  rintro e w16 ⟨d, rfl, hv, hb⟩
  rw [show (nx + ny) - ny = nx from Nat.add_sub_cancel _ _] at hv
  replace H := H.more hv hb
  replace hB := Below.next hB hb
  clear hv hb
  go_wp2_with fail
  refine (same_yes (H.nat a (nx + ny) (by simp)) (H.nat b (nx + ny) (by simp))).mono ?_
  rintro e w' ⟨rfl, d0, rfl⟩
  replace H := H.drewN d0
  replace hB := Below.drewN hB d0
  go_wp2_with fail
  refine (same_yes (H.nat l ((nx + ny) + nz) (by simp)) (H.nat r ((nx + ny) + nz) (by simp))).mono ?_
  rintro e w' ⟨rfl, d1, rfl⟩
  replace H := H.drewN d1
  replace hB := Below.drewN hB d1
  rw [World.drewN_drewN] at H hB
  go_wp2_with fail
  refine (same_yes (H.nat m (nx * (ny + nz)) (by simp)) (H.nat s (nx * (ny + nz)) (by simp))).mono ?_
  rintro e w' ⟨rfl, d2, rfl⟩
  replace H := H.drewN d2
  replace hB := Below.drewN hB d2
  rw [World.drewN_drewN] at H hB
  go_wp2_with fail
  refine (same_yes (H.nat p (nx * ny) (by simp)) (H.nat t (nx * ny) (by simp))).mono ?_
  rintro e w' ⟨rfl, d3, rfl⟩
  replace H := H.drewN d3
  replace hB := Below.drewN hB d3
  rw [World.drewN_drewN] at H hB
  go_wp2_with fail
  refine (same_yes (H.nat d (nx) (by simp)) (H.nat x (nx) (by simp))).mono ?_
  rintro e w' ⟨rfl, d4, rfl⟩
  replace H := H.drewN d4
  replace hB := Below.drewN hB d4
  rw [World.drewN_drewN] at H hB
  go_wp2
  go_ret
  exact ⟨rfl, hB⟩

theorem ring_holds : Rows.NaturalRingSaid := naturalRing.of_walk ring_walk
#print axioms ring_holds
end Go.Proofs.Ytjkeobdpjcdlnaa
