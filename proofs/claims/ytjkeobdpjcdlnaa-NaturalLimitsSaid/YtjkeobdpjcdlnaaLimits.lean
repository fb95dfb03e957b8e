/- NaturalLimits: numbers of the greatest length are numbers, and one limb more is refused. The law holds of every input. -/
import Derived.Test.YtjkeobdpjcdlnaaAwake
import Derived.Test.YtjkeobdpjcdlnaaBounds
import Derived.Test.YtjkeobdpjcdlnaaPow
import Derived.Test.YtjkeobdpjcdlnaaShNaturalLimits
namespace Go.Proofs.Ytjkeobdpjcdlnaa
open Go.RowKit Lmb

/-- what the loop that fills the slice has after i rounds -/
structure FullInv (os : List Int) (i : Nat) : Prop where
  len : os.length = 256
  limbs : Limbs os
  val : val os = pw i - 1
  zero : ∀ t, i ≤ t → os.getD t 0 = 0

theorem FullInv.start : FullInv (List.replicate 256 0) 0 :=
  ⟨List.length_replicate, limbs_replicate _, by rw [val_replicate, pw_zero]; rfl, fun t _ => by
    simp only [List.getD, List.getElem?_replicate]; split <;> rfl⟩

theorem FullInv.step {os : List Int} {i : Nat} (h : FullInv os i) (hi : i < 256) : FullInv (os.set i 1073741823) (i + 1) := by
  have hl := h.len
  have hv := h.val
  have hs := val_set os i (by omega) 1073741823
  rw [h.zero i (Nat.le_refl _), Int.sub_zero] at hs
  refine ⟨by simpa using hl, limbs_set h.limbs _ _ (by omega), by rw [hs, hv, pw_succ]; omega, fun t hlt => ?_⟩
  rw [getD_set _ _ _ (by omega), if_neg (by omega)]
  exact h.zero t (by omega)

theorem FullInv.dig {os : List Int} (h : FullInv os 256) : ∃ n : Nat, Dig os n ∧ (n : Int) = pw 256 - 1 := by
  have hp := pw_pos 256
  have hv := h.val
  refine ⟨(pw 256 - 1).toNat, ⟨h.limbs, ?_, by rw [hv]; omega⟩, by omega⟩
  -- the last limb is not 0: else the value were less than the base to the 255
  intro x hx h0
  have hl := h.len
  rw [List.getLast?_eq_getElem?, hl] at hx
  have hx' : os.getD 255 0 = 0 := by
    have : os[255]? = some x := hx
    rw [List.getD, this, h0]; rfl
  have e := val_split os 255 (by omega)
  have e1 := val_drop os 255 (by omega)
  have z : os.drop (255 + 1) = [] := List.drop_of_length_le (by omega)
  rw [z, hx', val_nil] at e1
  have t1 := val_lt (limbs_take h.limbs 255)
  rw [List.length_take, Nat.min_eq_left (by omega)] at t1
  have hp2 : pw 256 = 1073741824 * pw 255 := pw_succ 255
  have hp3 := pw_pos 255
  rw [e1] at e
  omega

theorem len_of {w : World} {v : Value} {n : Nat} (h : NatAt w v n) (h1 : pw 255 ≤ (n : Int)) (h2 : (n : Int) < pw 256) : ∃ ad c, v = .slice ad 256 c := by
  obtain ⟨xs, ⟨ad, cap, rfl, _⟩, hd⟩ := h
  have hl : xs.length = 256 := by
    have a := (hd.len_le 256).2 h2
    rcases Nat.lt_or_ge xs.length 256 with hh | hh
    · have := (hd.len_le 255).1 (by omega); omega
    · omega
  rw [hl]
  exact ⟨ad, cap, rfl⟩

theorem own_base {k : IntKind} {e : TypeId} {B B' : Nat} {w : World} {g n : Nat} {xs : List Int} (h : Own k e B w g n xs) (hb : B' ≤ B) : Own k e B' w g n xs := by
  obtain ⟨h1, h2⟩ := h
  refine ⟨h1, ?_⟩
  rcases h2 with h2 | ⟨g', cap, cur, r1, r2, r3⟩
  · exact .inl h2
  · exact .inr ⟨g', cap, cur, r1, Nat.le_trans hb r2, r3⟩

theorem own_made' {e : TypeId} {B : Nat} {w : World} {g n : Nat} (h : w.ownsRow B e 1 (.slice (some ⟨g, 0, none⟩) n n) n (madeCells (Value.int .i64 0).cells (n * 1)).toList) :
    Own .i64 e B w g n (List.replicate n 0) := by
  have e1 : (madeCells (Value.int .i64 0).cells (n * 1)).toList = (List.replicate n 0).map (Value.int .i64) := by
    rw [Nat.mul_one]
    show (madeCells #[Value.int .i64 0] n).toList = _
    rw [toList_madeCells_one]; simp
  rwa [e1] at h

theorem pow_between {j k : Nat} (h1 : 30 * k ≤ j) (h2 : j < 30 * (k + 1)) : pw k ≤ ((2 ^ j : Nat) : Int) ∧ ((2 ^ j : Nat) : Int) < pw (k + 1) := by
  rw [pw_two, pw_two]
  have g1 : (2 : Nat) ^ (30 * k) ≤ 2 ^ j := Nat.pow_le_pow_right (by decide) h1
  have g2 : (2 : Nat) ^ j < 2 ^ (30 * (k + 1)) := Nat.pow_lt_pow_right (by decide) h2
  exact ⟨Int.ofNat_le.2 g1, Int.ofNat_lt.2 g2⟩
theorem pow_at {j k : Nat} (h : j = 30 * k) : pw k ≤ ((2 ^ j : Nat) : Int) := by
  rw [pw_two, h]; exact Int.le_refl _

/-- a slice literal of one number beside the others -/
theorem All.lit {e : TypeId} {w : World} {L : List (Value × Nat)} (h : All w L) {x : Int} {n : Nat} (hx : x = n) (h0 : 1 ≤ x) (h1 : x < 1073741824) :
    All (w.alloc (.cells #[.int .i64 x] e)) ((.slice (some ⟨w.heap.size, 0, none⟩) 1 1, n) :: L) :=
  h.more (lit_nat w x n hx h0 h1) ((Below.refl _ _).alloc (Nat.le_refl _) _)
theorem lit_below {w w' : World} {o : Obj} (h : Below (w.alloc o).heap.size (w.alloc o) w') : Below w.heap.size w w' := Below.next ((Below.refl _ _).alloc (Nat.le_refl _) _) h
theorem All.lit_below {w w' : World} {L : List (Value × Nat)} {o : Obj} (h : All w L) (hb : Below (w.alloc o).heap.size (w.alloc o) w') : All w' L := h.below (Go.Proofs.Ytjkeobdpjcdlnaa.lit_below hb)

set_option maxRecDepth 100000 in
set_option maxHeartbeats 4000000 in
theorem limits_walk : naturalLimits.Walk := by
  intro a0 a1 w f0 f1
  have b0 := bounds_u32 f0
  have b1 := bounds_u8 f1
  obtain ⟨more, hmore⟩ : ∃ k : Nat, 1 + a1 = (k : Int) := ⟨(1 + a1).toNat, by omega⟩
  obtain ⟨lim, hlim⟩ : ∃ k : Nat, 1 + a0 % 1073741823 = (k : Int) := ⟨(1 + a0 % 1073741823).toNat, by omega⟩
  have hmo1 : 1 ≤ more := by omega
  have hmo2 : more ≤ 256 := by omega
  have hli1 : 1 ≤ lim := by omega
  have hli2 : lim ≤ 1073741823 := by omega
  have HMO := Lib.hid hmore
  have HLI := Lib.hid hlim
  obtain ⟨i0, hi, hz0, hz1, hz2⟩ := info_parts Try.infoInt
  clear hmore hlim f0 f1
  go_enter Try.func5, Try.ntmps5
  go_wp2_with fail
  refine (awake_calls w).mono ?_
  rintro e w1 ⟨rfl, hb1⟩
  go_wp2_with (at_make; go_must (refine wpList_make_full _ rfl (.const (.int .i64 256)) (.const (.int .i64 256)) 25 rfl w1.heap.size 3 i0 (.int .i64 0) 1 Try.underlying25 hi hz0 hz1 .i64 .i64 _ _ 256 rfl rfl rfl rfl (by rw [hz2]; decide) (by decide) (Nat.le_refl _) ?_; intro w2 hown hgrow; have own1 := Lib.hid (own_made' hown); have bel2 := Lib.hid hgrow; clear hown hgrow))
  have hbel2 : Below w1.heap.size w1 w2 := (Below.refl _ _).grown bel2.out (Nat.le_refl _) (by simp)
  have hB := Below.next hb1 hbel2
  have hg : w1.heap.size < w2.heap.size := own1.out.lt.2
  obtain ⟨g, hgd⟩ : ∃ g, g = w1.heap.size := ⟨_, rfl⟩
  rw [← hgd] at own1 hg ⊢
  have hgw : w.heap.size ≤ g := by rw [hgd]; exact hb1.size
  clear hgd hbel2 bel2 hb1
  go_loopg [6] 256 (fun m i wr => ∃ j : Nat, i = .int .i64 j ∧ j + m = 256 ∧ ∃ os, FullInv os j ∧ Own .i64 3 w.heap.size wr g 256 os ∧ Below w.heap.size w wr)
  case atStart => exact ⟨0, rfl, by omega, _, FullInv.start, own_base own1.out hgw, hB⟩
  case round =>
    obtain ⟨j, rfl, hj, os, hfi, hown, hbel⟩ := hrel
    have HFI := Lib.hid hfi
    clear hfi own1 hB
    cases gk with
    | zero =>
      obtain rfl : j = 256 := by omega
      go_wp2_with fail
      obtain ⟨nf, hdf, hnf⟩ := HFI.out.dig
      have H : All wr [(.slice (some ⟨g, 0, none⟩) 256 256, nf)] := by
        intro p hp
        simp only [List.mem_cons, List.not_mem_nil, or_false] at hp
        subst hp
        exact ⟨os, hown.rd, hdf⟩
      have hp1 := pw_pos 255
      have hp2 : pw 256 = 1073741824 * pw 255 := pw_succ 255
      have h2p : ((2 : Nat) : Int) < pw 256 := by omega
      have hfb : (nf : Int) < pw 256 := by omega
      have h255 : 1073741824 ≤ pw 255 := by
        have := pw_mono (show 1 ≤ 255 by omega)
        rwa [pw_succ, pw_zero, Int.mul_one] at this
      have e79 := pow_between (j := 7679) (k := 255) (by decide) (by decide)
      rw [show 255 + 1 = 256 from rfl] at e79
      have e80 := pow_at (j := 7680) (k := 256) (by decide)
      obtain ⟨p79, hp79⟩ : ∃ p, p = 2 ^ 7679 := ⟨_, rfl⟩
      obtain ⟨p80, hp80⟩ : ∃ p, p = 2 ^ 7680 := ⟨_, rfl⟩
      rw [← hp79] at e79
      rw [← hp80] at e80
      have HP79 := Lib.hid hp79
      have HP80 := Lib.hid hp80
      clear hown hdf HFI hp79 hp80
      have H1 := H.lit (e := 3) HMO.out (by omega) (by omega)
      refine (add_long (H1.nat (.slice (some ⟨g, 0, none⟩) 256 256) nf (by simp)) (H1.nat (.slice (some ⟨wr.heap.size, 0, none⟩) 1 1) more (by simp)) hfb (by omega) (by omega)).mono ?_
      rintro e w3 ⟨rfl, hb⟩
      replace H := H.lit_below hb
      replace hbel := Below.next hbel (lit_below hb)
      clear hb H1
      go_wp2_with fail
      refine (add_nat (H.nat (.slice (some ⟨g, 0, none⟩) 256 256) nf (by simp)) ⟨[], Rd.nil _ _, Dig.nil⟩ hfb).mono ?_
      rintro e w4 ⟨x, rfl, hv, hb⟩
      rw [Nat.add_zero] at hv
      replace H := H.more hv hb
      replace hbel := Below.next hbel hb
      clear hv hb
      go_wp2_with fail
      have H1 := H.lit (e := 3) (show (2 : Int) = ((2 : Nat) : Int) from rfl) (by omega) (by omega)
      refine (mul_long (H1.nat (.slice (some ⟨g, 0, none⟩) 256 256) nf (by simp)) (H1.nat (.slice (some ⟨w4.heap.size, 0, none⟩) 1 1) 2 (by simp)) hfb h2p (by omega)).mono ?_
      rintro e w5 ⟨rfl, hb⟩
      replace H := H.lit_below hb
      replace hbel := Below.next hbel (lit_below hb)
      clear hb H1
      go_wp2_with fail
      have H1 := H.lit (e := 3) HLI.out (by omega) (by omega)
      refine (sub_nat (H1.nat (.slice (some ⟨g, 0, none⟩) 256 256) nf (by simp)) (H1.nat (.slice (some ⟨w5.heap.size, 0, none⟩) 1 1) lim (by simp)) hfb (by omega)).mono ?_
      rintro e w6 ⟨s, rfl, hv, hb⟩
      replace H := (H.lit_below (Below.refl _ _)).more hv hb
      replace hbel := Below.next hbel (lit_below hb)
      clear hv hb H1
      go_wp2_with fail
      have H1 := H.lit (e := 3) (show (2 : Int) = ((2 : Nat) : Int) from rfl) (by omega) (by omega)
      have hpw := pow_calls _ 2 7679 7679 _ (H1.nat (.slice (some ⟨w6.heap.size, 0, none⟩) 1 1) 2 (by simp)) (by decide) h2p rfl (by decide)
      rw [← HP79.out] at hpw
      refine hpw.mono ?_
      clear hpw
      rintro e w7 (⟨_, p, rfl, hv, hb⟩ | ⟨hc, _⟩)
      · replace H := (H.lit_below (Below.refl _ _)).more hv hb
        replace hbel := Below.next hbel (lit_below hb)
        clear hv hb H1
        go_wp2_with fail
        have H1 := H.lit (e := 3) (show (2 : Int) = ((2 : Nat) : Int) from rfl) (by omega) (by omega)
        have hpw := pow_calls _ 2 7680 7680 _ (H1.nat (.slice (some ⟨w7.heap.size, 0, none⟩) 1 1) 2 (by simp)) (by decide) h2p rfl (by decide)
        rw [← HP80.out] at hpw
        refine hpw.mono ?_
        clear hpw
        rintro e w8 (⟨hc, _⟩ | ⟨_, rfl, hb⟩)
        · exfalso; omega
        · replace H := H.lit_below hb
          replace hbel := Below.next hbel (lit_below hb)
          clear hb H1
          obtain ⟨ads, cs, hse⟩ := len_of (H.nat s (nf - lim) (by simp)) (by omega) (by omega)
          obtain ⟨adp, cp, hpe⟩ := len_of (H.nat p p79 (by simp)) e79.1 e79.2
          subst hse hpe
          have hs := same_yes (H.nat x nf (by simp)) (H.nat (.slice (some ⟨g, 0, none⟩) 256 256) nf (by simp))
          have HS := Lib.hid hs
          clear hs e79 e80 hfb h2p hnf hp1 hp2 h255
          go_wp2_with fail
          refine HS.out.mono ?_
          rintro e w' ⟨rfl, d0, rfl⟩
          go_wp2
          go_ret
          exact ⟨rfl, Below.drewN hbel d0⟩
      · exfalso; omega
    | succ m =>
      have hlt : j < 256 := by omega
      have hst := Lib.hid (HFI.out.step hlt)
      have hcell := hown.cell j hlt
      have hfr := hown.frozen j
      go_wp2
      go_roundg m
      case measure => omega
      case rel => exact ⟨j + 1, by go_num, by omega, _, hst.out, hown.store _ _, hbel.setCell hown.lt.1 _⟩

theorem limits_holds : Rows.NaturalLimitsSaid := naturalLimits.of_walk limits_walk
#print axioms limits_holds
end Go.Proofs.Ytjkeobdpjcdlnaa
