import Derived.Test.YtabgkfjfmjdfiaaGreatDoorZLong
import Derived.Test.YtabgkfjfmjdfiaaGreatDoorZClone

/- natural.Pow: the power, or the error that it is too long. -/
set_option linter.unusedSectionVars false
set_option linter.unusedSimpArgs false
set_option linter.unusedVariables false
namespace Go.Proofs.YtabgkfjfmjdfiaaGreatDoor.Zn
open Go.RowKit Lmb
variable [Zone]
omit [Zone] in
theorem and_one (n : Int) : bits .and .i64 n 1 = n % 2 := by
  show IntKind.i64.wrap ((BitVec.ofInt 64 n &&& BitVec.ofInt 64 1).toNat : Int) = _
  have e : (BitVec.ofInt 64 n &&& BitVec.ofInt 64 1).toNat = (n % 18446744073709551616).toNat % 2 := by
    rw [BitVec.toNat_and, BitVec.toNat_ofInt]
    exact Nat.and_two_pow_sub_one_eq_mod _ 1
  rw [e, IntKind.wrap_i64]
  omega
attribute [local go_sem] and_one
def RetLim (n : Nat) (w : World) (e : Ending) (w' : World) : Prop := ((n : Int) < pw 256 ∧ RetNat n w e w') ∨ (pw 256 ≤ (n : Int) ∧ RetLong w e w')
theorem pow_ge_self {o s r : Nat} (hs : 1 ≤ s) (hr : 1 ≤ r) : o * s ≤ o * s ^ r := by
  refine Nat.mul_le_mul_left o ?_
  have : s ^ 1 ≤ s ^ r := Nat.pow_le_pow_right hs hr
  rwa [Nat.pow_one] at this
theorem pow_ge_square {o s r : Nat} (ho : 1 ≤ o) (hs : 1 ≤ s) (hr : 2 ≤ r) : s * s ≤ o * s ^ r := by
  have h1 : s ^ 2 ≤ s ^ r := Nat.pow_le_pow_right hs hr
  have h2 : 1 * s ^ r ≤ o * s ^ r := Nat.mul_le_mul_right _ ho
  rw [Nat.pow_two] at h1
  omega
theorem pow_half {s r : Nat} : (s * s) ^ (r / 2) = s ^ (2 * (r / 2)) := by
  rw [Nat.pow_mul, Nat.pow_two]
theorem pow_odd {o s q : Nat} (h : (q + 1) % 2 = 1) : o * s * s ^ (2 * ((q + 1) / 2)) = o * s ^ (q + 1) := by
  have e : q + 1 = 2 * ((q + 1) / 2) + 1 := by omega
  conv => rhs; rw [e]
  rw [Nat.pow_succ, Nat.mul_assoc, Nat.mul_comm s]
theorem pow_even {o s q : Nat} (h : ¬ (q + 1) % 2 = 1) : o * s ^ (2 * ((q + 1) / 2)) = o * s ^ (q + 1) := by
  have e : 2 * ((q + 1) / 2) = q + 1 := by omega
  rw [e]
set_option maxHeartbeats 2000000 in
theorem pow_calls (a : Value) (m k : Nat) (kz : Int) (w : World) (ha : NatAt w a m) (hm1 : 1 ≤ m) (hm : (m : Int) < pw 256) (hkz : kz = (k : Int)) (hk : k ≤ 65536) :
    Calls Tryz.prog 25 #[a, .int .i64 kz] w (RetLim (m ^ k) w) := by
  subst hkz
  go_enter Tryz.func25, Tryz.ntmps25
  go_wp2_with fail
  have hb1 : Below w.heap.size w (w.alloc (.cells #[.int .i64 1] 3)) := (Below.refl _ _).alloc (Nat.le_refl _) _
  have hlit := lit_nat (e := 3) w ha.zone 1 1 rfl (by omega) (by omega)
  refine (clone_nat (ha.below hb1) hm).mono ?_
  rintro e w1 ⟨sv, rfl, hsv, hb2⟩
  have HL := Lib.hid (hlit.below hb2)
  have hB := Below.next hb1 hb2
  have h1p : ((1 : Nat) : Int) < pw 256 := by
    have := pw_mono (show 1 ≤ 256 by omega)
    rw [pw_succ, pw_zero] at this
    omega
  clear hlit hb1 hb2 ha
  go_wp2
  go_loopg [1, 6, 7] k (fun r kv ov sv wr => kv = .int .i64 (r : Int) ∧ r ≤ 65536 ∧ ∃ o s : Nat, NatAt wr ov o ∧ NatAt wr sv s ∧ 1 ≤ o ∧ 1 ≤ s ∧ (o : Int) < pw 256 ∧ (s : Int) < pw 256 ∧ o * s ^ r = m ^ k ∧ Below w.heap.size w wr)
  case atStart => exact ⟨rfl, hk, 1, m, HL.out, hsv, by omega, hm1, h1p, hm, by rw [Nat.one_mul], hB⟩
  case round =>
    obtain ⟨rfl, hr, o, s, hov, hsv', ho, hs, hop, hsp, hpow, hbel⟩ := hrel
    have HP := Lib.hid hpow
    have HOV := Lib.hid hov
    have HSV := Lib.hid hsv'
    clear hpow hov hsv' hsv HL hB h1p
    cases gk with
    | zero =>
      have hd : decide ((0 : Nat) < 0) = false := rfl
      go_wp2
      go_ret2
      have he : o = m ^ k := by have := HP.out; rwa [Nat.pow_zero, Nat.mul_one] at this
      rw [← he]
      exact .inl ⟨hop, _, rfl, HOV.out, hbel⟩
    | succ q =>
      by_cases hodd : (q + 1) % 2 = 1
      · have hbt : (((q : Int) + 1) % 2 == 1) = true := by rw [beq_iff_eq]; omega
        by_cases hfit : ((o * s : Nat) : Int) < pw 256
        · go_wp2_with fail
          refine (mul_nat HOV.out HSV.out hop hsp hfit).mono ?_
          rintro e w2 ⟨ov2, rfl, hov2, hb2⟩
          have HOV2 := Lib.hid hov2
          have HSV2 := Lib.hid (HSV.out.below hb2)
          have hbel2 := Below.next hbel hb2
          clear hov2 hb2 hbel
          by_cases hq : q = 0
          · subst hq
            go_wp2
            go_roundg 0
            case measure => omega
            case rel => exact ⟨rfl, by omega, o * s, s, HOV2.out, HSV2.out, Nat.mul_pos ho hs, hs, hfit, hsp, by rw [← HP.out, Nat.pow_zero, Nat.mul_one, Nat.zero_add, Nat.pow_one], hbel2⟩
          · have hq1 : 0 < q := by omega
            by_cases hsq : ((s * s : Nat) : Int) < pw 256
            · go_wp2_with fail
              refine (mul_nat HSV2.out HSV2.out hsp hsp hsq).mono ?_
              rintro e w3 ⟨sv3, rfl, hsv3, hb3⟩
              have HSV3 := Lib.hid hsv3
              have HOV3 := Lib.hid (HOV2.out.below hb3)
              have hbel3 := Below.next hbel2 hb3
              clear hsv3 hb3
              go_wp2
              go_roundg ((q + 1) / 2)
              case measure => omega
              case rel => exact ⟨by go_num, by omega, o * s, s * s, HOV3.out, HSV3.out, Nat.mul_pos ho hs, Nat.mul_pos hs hs, hfit, hsq, by rw [← HP.out, pow_half]; exact pow_odd hodd, hbel3⟩
            · go_wp2_with fail
              refine (mul_long HSV2.out HSV2.out hsp hsp (by omega)).mono ?_
              rintro e w3 ⟨rfl, hb3⟩
              have hbel3 := Below.next hbel2 hb3
              clear hb3
              go_wp2
              go_ret2
              refine .inr ⟨?_, rfl, hbel3⟩
              rw [← HP.out]
              have hge : s * s ≤ o * s ^ (q + 1) := pow_ge_square ho hs (by omega)
              omega
        · go_wp2_with fail
          refine (mul_long HOV.out HSV.out hop hsp (by omega)).mono ?_
          rintro e w2 ⟨rfl, hb2⟩
          have hbel2 := Below.next hbel hb2
          clear hb2
          go_wp2
          go_ret2
          refine .inr ⟨?_, rfl, hbel2⟩
          rw [← HP.out]
          have hge : o * s ≤ o * s ^ (q + 1) := pow_ge_self hs (by omega)
          omega
      · have hbt : (((q : Int) + 1) % 2 == 1) = false := by rw [beq_eq_false_iff_ne]; omega
        have hq1 : 0 < q := by omega
        by_cases hsq : ((s * s : Nat) : Int) < pw 256
        · go_wp2_with fail
          refine (mul_nat HSV.out HSV.out hsp hsp hsq).mono ?_
          rintro e w3 ⟨sv3, rfl, hsv3, hb3⟩
          have HSV3 := Lib.hid hsv3
          have HOV3 := Lib.hid (HOV.out.below hb3)
          have hbel3 := Below.next hbel hb3
          clear hsv3 hb3
          go_wp2
          go_roundg ((q + 1) / 2)
          case measure => omega
          case rel => exact ⟨by go_num, by omega, o, s * s, HOV3.out, HSV3.out, ho, Nat.mul_pos hs hs, hop, hsq, by rw [← HP.out, pow_half]; exact pow_even hodd, hbel3⟩
        · go_wp2_with fail
          refine (mul_long HSV.out HSV.out hsp hsp (by omega)).mono ?_
          rintro e w3 ⟨rfl, hb3⟩
          have hbel3 := Below.next hbel hb3
          clear hb3
          go_wp2
          go_ret2
          refine .inr ⟨?_, rfl, hbel3⟩
          rw [← HP.out]
          have hge : s * s ≤ o * s ^ (q + 1) := pow_ge_square ho hs (by omega)
          omega
end Go.Proofs.YtabgkfjfmjdfiaaGreatDoor.Zn
