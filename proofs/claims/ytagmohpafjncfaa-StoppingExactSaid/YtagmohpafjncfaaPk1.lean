/- natural.Pow: the power, or the error that it is too long. -/
import Derived.Test.YtagmohpafjncfaaZLong
import Derived.Test.YtagmohpafjncfaaZClone
import Derived.Test.YtagmohpafjncfaaNat
import Derived.WalkKit
import Derived.Carry
import Derived.Deep.Draws
import Derived.Test.YtagmohpafjncfaaProg
import Derived.Lib.Hide
import Derived.Deep.LoopGhost
import Derived.Deep.QuietTactic
import Derived.BigQuiet
import Derived.Outline
import Derived.OpenShut
import Derived.Test.YtagmohpafjncfaaEngL
import Derived.Test.YtagmohpafjncfaaEngCut
import Derived.Test.YtagmohpafjncfaaEngV
import Derived.Test.YtagmohpafjncfaaRows
import Derived.ProofKit
import Derived.ShutString
import Derived.ChangeOld
import Derived.Below
import Derived.Test.YtagmohpafjncfaaTy
import Derived.Test.YtagmohpafjncfaaZGcd
import Derived.Test.YtagmohpafjncfaaRefNM
import Derived.Test.YtagmohpafjncfaaZTrimRef
import Derived.Test.YtagmohpafjncfaaEngS
set_option linter.unusedSectionVars false
set_option linter.unusedSimpArgs false
set_option linter.unusedVariables false
namespace Go.Proofs.Ytagmohpafjncfaa.Zn
open Go.RowKit Lmb
variable [Zone]
omit [Zone] in
theorem and_one (n : Int) : bits .and .i64 n 1 = n % 2 := by
  show IntKind.i64.wrap ((BitVec.ofInt 64 n &&& BitVec.ofInt 64 1).toNat : Int) = _
  have e : (BitVec.ofInt 64 n &&& BitVec.ofInt 64 1).toNat = (n % 18446744073709551616).toNat % 2 := by
    rw [BitVec.toNat_and, BitVec.toNat_ofInt]
    exact Nat.and_two_pow_sub_one_eq_mod _ 1
  rw [e, IntKind.wrap_i64]
  omega
attribute [local go_sem] and_one
def RetLim (n : Nat) (w : World) (e : Ending) (w' : World) : Prop := ((n : Int) < pw 256 ∧ RetNat n w e w') ∨ (pw 256 ≤ (n : Int) ∧ RetLong w e w')
theorem pow_ge_self {o s r : Nat} (hs : 1 ≤ s) (hr : 1 ≤ r) : o * s ≤ o * s ^ r := by
  refine Nat.mul_le_mul_left o ?_
  have : s ^ 1 ≤ s ^ r := Nat.pow_le_pow_right hs hr
  rwa [Nat.pow_one] at this
theorem pow_ge_square {o s r : Nat} (ho : 1 ≤ o) (hs : 1 ≤ s) (hr : 2 ≤ r) : s * s ≤ o * s ^ r := by
  have h1 : s ^ 2 ≤ s ^ r := Nat.pow_le_pow_right hs hr
  have h2 : 1 * s ^ r ≤ o * s ^ r := Nat.mul_le_mul_right _ ho
  rw [Nat.pow_two] at h1
  omega
theorem pow_half {s r : Nat} : (s * s) ^ (r / 2) = s ^ (2 * (r / 2)) := by
  rw [Nat.pow_mul, Nat.pow_two]
theorem pow_odd {o s q : Nat} (h : (q + 1) % 2 = 1) : o * s * s ^ (2 * ((q + 1) / 2)) = o * s ^ (q + 1) := by
  have e : q + 1 = 2 * ((q + 1) / 2) + 1 := by omega
  conv => rhs; rw [e]
  rw [Nat.pow_succ, Nat.mul_assoc, Nat.mul_comm s]
theorem pow_even {o s q : Nat} (h : ¬ (q + 1) % 2 = 1) : o * s ^ (2 * ((q + 1) / 2)) = o * s ^ (q + 1) := by
  have e : 2 * ((q + 1) / 2) = q + 1 := by omega
  rw [e]
set_option maxHeartbeats 2000000 in
theorem pow_calls (a : Value) (m k : Nat) (kz : Int) (w : World) (ha : NatAt w a m) (hm1 : 1 ≤ m) (hm : (m : Int) < pw 256) (hkz : kz = (k : Int)) (hk : k ≤ 65536) :
    Calls Try.prog 56 #[a, .int .i64 kz] w (RetLim (m ^ k) w) := by
  subst hkz
  go_enter Try.func56, Try.ntmps56
  go_wp2_with fail
  have hb1 : Below w.heap.size w (w.alloc (.cells #[.int .i64 1] 3)) := (Below.refl _ _).alloc (Nat.le_refl _) _
  have hlit := lit_nat (e := 3) w ha.zone 1 1 rfl (by omega) (by omega)
  refine (clone_nat (ha.below hb1) hm).mono ?_
  rintro e w1 ⟨sv, rfl, hsv, hb2⟩
  have HL := Lib.hid (hlit.below hb2)
  have hB := Below.next hb1 hb2
  have h1p : ((1 : Nat) : Int) < pw 256 := by
    have := pw_mono (show 1 ≤ 256 by omega)
    rw [pw_succ, pw_zero] at this
    omega
  clear hlit hb1 hb2 ha
  go_wp2
  go_loopg [1, 6, 7] k (fun r kv ov sv wr => kv = .int .i64 (r : Int) ∧ r ≤ 65536 ∧ ∃ o s : Nat, NatAt wr ov o ∧ NatAt wr sv s ∧ 1 ≤ o ∧ 1 ≤ s ∧ (o : Int) < pw 256 ∧ (s : Int) < pw 256 ∧ o * s ^ r = m ^ k ∧ Below w.heap.size w wr)
  case atStart => exact ⟨rfl, hk, 1, m, HL.out, hsv, by omega, hm1, h1p, hm, by rw [Nat.one_mul], hB⟩
  case round =>
    obtain ⟨rfl, hr, o, s, hov, hsv', ho, hs, hop, hsp, hpow, hbel⟩ := hrel
    have HP := Lib.hid hpow
    have HOV := Lib.hid hov
    have HSV := Lib.hid hsv'
    clear hpow hov hsv' hsv HL hB h1p
    cases gk with
    | zero =>
      have hd : decide ((0 : Nat) < 0) = false := rfl
      go_wp2
      go_ret2
      have he : o = m ^ k := by have := HP.out; rwa [Nat.pow_zero, Nat.mul_one] at this
      rw [← he]
      exact .inl ⟨hop, _, rfl, HOV.out, hbel⟩
    | succ q =>
      by_cases hodd : (q + 1) % 2 = 1
      · have hbt : (((q : Int) + 1) % 2 == 1) = true := by rw [beq_iff_eq]; omega
        by_cases hfit : ((o * s : Nat) : Int) < pw 256
        · go_wp2_with fail
          refine (mul_nat HOV.out HSV.out hop hsp hfit).mono ?_
          rintro e w2 ⟨ov2, rfl, hov2, hb2⟩
          have HOV2 := Lib.hid hov2
          have HSV2 := Lib.hid (HSV.out.below hb2)
          have hbel2 := Below.next hbel hb2
          clear hov2 hb2 hbel
          by_cases hq : q = 0
          · subst hq
            go_wp2
            go_roundg 0
            case measure => omega
            case rel => exact ⟨rfl, by omega, o * s, s, HOV2.out, HSV2.out, Nat.mul_pos ho hs, hs, hfit, hsp, by rw [← HP.out, Nat.pow_zero, Nat.mul_one, Nat.zero_add, Nat.pow_one], hbel2⟩
          · have hq1 : 0 < q := by omega
            by_cases hsq : ((s * s : Nat) : Int) < pw 256
            · go_wp2_with fail
              refine (mul_nat HSV2.out HSV2.out hsp hsp hsq).mono ?_
              rintro e w3 ⟨sv3, rfl, hsv3, hb3⟩
              have HSV3 := Lib.hid hsv3
              have HOV3 := Lib.hid (HOV2.out.below hb3)
              have hbel3 := Below.next hbel2 hb3
              clear hsv3 hb3
              go_wp2
              go_roundg ((q + 1) / 2)
              case measure => omega
              case rel => exact ⟨by go_num, by omega, o * s, s * s, HOV3.out, HSV3.out, Nat.mul_pos ho hs, Nat.mul_pos hs hs, hfit, hsq, by rw [← HP.out, pow_half]; exact pow_odd hodd, hbel3⟩
            · go_wp2_with fail
              refine (mul_long HSV2.out HSV2.out hsp hsp (by omega)).mono ?_
              rintro e w3 ⟨rfl, hb3⟩
              have hbel3 := Below.next hbel2 hb3
              clear hb3
              go_wp2
              go_ret2
              refine .inr ⟨?_, rfl, hbel3⟩
              rw [← HP.out]
              have hge : s * s ≤ o * s ^ (q + 1) := pow_ge_square ho hs (by omega)
              omega
        · go_wp2_with fail
          refine (mul_long HOV.out HSV.out hop hsp (by omega)).mono ?_
          rintro e w2 ⟨rfl, hb2⟩
          have hbel2 := Below.next hbel hb2
          clear hb2
          go_wp2
          go_ret2
          refine .inr ⟨?_, rfl, hbel2⟩
          rw [← HP.out]
          have hge : o * s ≤ o * s ^ (q + 1) := pow_ge_self hs (by omega)
          omega
      · have hbt : (((q : Int) + 1) % 2 == 1) = false := by rw [beq_eq_false_iff_ne]; omega
        have hq1 : 0 < q := by omega
        by_cases hsq : ((s * s : Nat) : Int) < pw 256
        · go_wp2_with fail
          refine (mul_nat HSV.out HSV.out hsp hsp hsq).mono ?_
          rintro e w3 ⟨sv3, rfl, hsv3, hb3⟩
          have HSV3 := Lib.hid hsv3
          have HOV3 := Lib.hid (HOV.out.below hb3)
          have hbel3 := Below.next hbel hb3
          clear hsv3 hb3
          go_wp2
          go_roundg ((q + 1) / 2)
          case measure => omega
          case rel => exact ⟨by go_num, by omega, o, s * s, HOV3.out, HSV3.out, ho, Nat.mul_pos hs hs, hop, hsq, by rw [← HP.out, pow_half]; exact pow_even hodd, hbel3⟩
        · go_wp2_with fail
          refine (mul_long HSV.out HSV.out hsp hsp (by omega)).mono ?_
          rintro e w3 ⟨rfl, hb3⟩
          have hbel3 := Below.next hbel hb3
          clear hb3
          go_wp2
          go_ret2
          refine .inr ⟨?_, rfl, hbel3⟩
          rw [← HP.out]
          have hge : s * s ≤ o * s ^ (q + 1) := pow_ge_square ho hs (by omega)
          omega
end Go.Proofs.Ytagmohpafjncfaa.Zn

/- Tables of flows in which each of some successors has a flow: counts and their laws. No program is in sight. -/
set_option linter.unusedSimpArgs false
namespace Go.Proofs.Ytagmohpafjncfaa
open Lmb
def cnt (k : Nat) : Nat → Nat → Nat
  | 0, j => if j = 0 then 1 else 0
  | n + 1, j => (k - j) * cnt k n j + j * cnt k n (j - 1)
theorem cnt_mono (k n : Nat) : ∀ j, j + 1 ≤ k → cnt k n (j + 1) ≤ cnt k n j := by
  induction n with
  | zero => intro j _; simp [cnt]
  | succ n ih =>
    intro j hj
    simp only [cnt, Nat.add_sub_cancel]
    have h1 := ih j hj
    have h2 : (k - (j + 1)) * cnt k n (j + 1) ≤ (k - (j + 1)) * cnt k n j := Nat.mul_le_mul_left _ h1
    have h3 : j * cnt k n j ≤ j * cnt k n (j - 1) := by
      cases j with
      | zero => simp
      | succ j => exact Nat.mul_le_mul_left _ (ih j (by omega))
    have e1 : (k - j) * cnt k n j = (k - (j + 1)) * cnt k n j + cnt k n j := by
      have : k - j = (k - (j + 1)) + 1 := by omega
      rw [this, Nat.add_mul, Nat.one_mul]
    have e2 : (j + 1) * cnt k n j = j * cnt k n j + cnt k n j := by rw [Nat.add_mul, Nat.one_mul]
    omega
theorem cnt_le (k n : Nat) : ∀ j, j ≤ k → cnt k n j ≤ k ^ n := by
  have h0 : ∀ n, cnt k n 0 = k ^ n := by
    intro n
    induction n with
    | zero => rfl
    | succ n ih => simp [cnt, ih, Nat.pow_succ, Nat.mul_comm]
  intro j
  induction j with
  | zero => intro _; rw [h0]; exact Nat.le_refl _
  | succ j ih => intro h; exact Nat.le_trans (cnt_mono k n j h) (ih (by omega))
theorem cnt_cross (k n : Nat) : ∀ j, j ≤ k → cnt (k + 1) n j * k ^ n ≤ cnt k n j * (k + 1) ^ n := by
  induction n with
  | zero => intro j _; simp [cnt]
  | succ n ih =>
    intro j hj
    have hA := ih j hj
    have hB := ih (j - 1) (by omega)
    have hm : j * cnt k n j ≤ j * cnt k n (j - 1) := by
      cases j with
      | zero => simp
      | succ j => exact Nat.mul_le_mul_left _ (cnt_mono k n j hj)
    simp only [cnt, Nat.pow_succ]
    generalize cnt (k + 1) n j = A' at *
    generalize cnt (k + 1) n (j - 1) = B' at *
    generalize cnt k n j = A at *
    generalize cnt k n (j - 1) = B at *
    generalize k ^ n = x at *
    generalize (k + 1) ^ n = y at *
    obtain ⟨d, rfl⟩ := Nat.exists_eq_add_of_le hj
    have e1 : j + d + 1 - j = d + 1 := by omega
    have e2 : j + d - j = d := by omega
    rw [e1, e2]
    have s1 : ((d + 1) * A' + j * B') * (x * (j + d)) = (j + d) * ((d + 1) * (A' * x) + j * (B' * x)) := by
      simp only [Nat.add_mul, Nat.mul_add, Nat.mul_assoc, Nat.mul_comm, Nat.mul_left_comm]
    have s2 : (j + d) * ((d + 1) * (A' * x) + j * (B' * x)) ≤ (j + d) * ((d + 1) * (A * y) + j * (B * y)) :=
      Nat.mul_le_mul_left _ (Nat.add_le_add (Nat.mul_le_mul_left _ hA) (Nat.mul_le_mul_left _ hB))
    have s3 : (j + d) * ((d + 1) * (A * y) + j * (B * y)) + j * B * y = (d * A + j * B) * (y * (j + d + 1)) + j * A * y := by
      simp only [Nat.add_mul, Nat.mul_add, Nat.mul_assoc, Nat.mul_comm, Nat.mul_left_comm, Nat.one_mul, Nat.mul_one]
      omega
    have s4 : j * A * y ≤ j * B * y := Nat.mul_le_mul_right _ hm
    omega
theorem miss_more {k n p q : Nat} (hk : 1 ≤ k) (h : p * k ^ n < (k ^ n - cnt k n k) * q) : p * (k + 1) ^ n < ((k + 1) ^ n - cnt (k + 1) n (k + 1)) * q := by
  have h1 := cnt_mono (k + 1) n k (Nat.le_refl _)
  have h2 := cnt_cross k n k (Nat.le_refl _)
  have h3 := cnt_le k n k (Nat.le_refl _)
  have h4 := cnt_le (k + 1) n (k + 1) (Nat.le_refl _)
  have hx : 0 < k ^ n := Nat.pow_pos (by omega)
  have hy : 0 < (k + 1) ^ n := Nat.pow_pos (by omega)
  generalize cnt (k + 1) n (k + 1) = G1 at *
  generalize cnt (k + 1) n k = G2 at *
  generalize cnt k n k = G at *
  generalize k ^ n = x at *
  generalize (k + 1) ^ n = y at *
  have a1 : G1 * x ≤ G * y := Nat.le_trans (Nat.mul_le_mul_right _ h1) h2
  have a2 : (p * x) * y < ((x - G) * q) * y := Nat.mul_lt_mul_of_pos_right h hy
  have a3 : ((x - G) * q) * y ≤ ((y - G1) * q) * x := by
    have e1 : ((x - G) * q) * y = q * ((x - G) * y) := by rw [Nat.mul_comm (x - G), Nat.mul_assoc]
    have e2 : ((y - G1) * q) * x = q * ((y - G1) * x) := by rw [Nat.mul_comm (y - G1), Nat.mul_assoc]
    rw [e1, e2]
    refine Nat.mul_le_mul_left _ ?_
    rw [Nat.sub_mul, Nat.sub_mul, Nat.mul_comm y x]
    omega
  have a4 : (p * x) * y = (p * y) * x := by rw [Nat.mul_assoc, Nat.mul_assoc, Nat.mul_comm x y]
  rw [a4] at a2
  exact Nat.lt_of_mul_lt_mul_right (Nat.lt_of_lt_of_le a2 a3)
theorem cnt_more {k : Nat} (n : Nat) (hk : 1 ≤ k) : cnt k n k * k ≤ cnt k (n + 1) k := by
  simp only [cnt, Nat.sub_self, Nat.zero_mul, Nat.zero_add]
  obtain ⟨d, rfl⟩ := Nat.exists_eq_add_of_le hk
  rw [Nat.mul_comm]
  refine Nat.mul_le_mul_left _ ?_
  have := cnt_mono (1 + d) n d (by omega)
  rw [Nat.add_comm 1 d] at *
  simpa using this
/-! the sum with alternating signs -/
def altI (f : Nat → Int) : Nat → Int
  | 0 => 0
  | m + 1 => altI f m + if m % 2 = 0 then f m else - f m
def sumE (f : Nat → Nat) : Nat → Nat
  | 0 => 0
  | m + 1 => sumE f m + if m % 2 = 0 then f m else 0
def sumO (f : Nat → Nat) : Nat → Nat
  | 0 => 0
  | m + 1 => sumO f m + if m % 2 = 0 then 0 else f m
theorem sum_alt (f : Nat → Nat) : ∀ m, (sumE f m : Int) - sumO f m = altI (fun i => (f i : Int)) m
  | 0 => rfl
  | m + 1 => by
    have := sum_alt f m
    simp only [sumE, sumO, altI]
    split <;> simp <;> omega
theorem altI_congr {f g : Nat → Int} : ∀ m, (∀ i, i < m → f i = g i) → altI f m = altI g m
  | 0, _ => rfl
  | m + 1, h => by simp only [altI]; rw [altI_congr m fun i hi => h i (by omega), h m (by omega)]
theorem altI_lin (a b : Int) (f g : Nat → Int) : ∀ m, altI (fun i => a * f i + b * g i) m = a * altI f m + b * altI g m
  | 0 => by simp [altI]
  | m + 1 => by
    simp only [altI]
    rw [altI_lin a b f g m]
    split
    · rw [Int.mul_add, Int.mul_add]; omega
    · rw [Int.mul_add, Int.mul_add, Int.mul_neg, Int.mul_neg]; omega
theorem altI_binom (j : Nat) : ∀ m, altI (fun i => (binom (j + 1) i : Int)) (m + 1) = if m % 2 = 0 then (binom j m : Int) else - (binom j m : Int)
  | 0 => by simp [altI, binom_zero]
  | m + 1 => by
    have := altI_binom j m
    rw [altI, this]
    have e : binom (j + 1) (m + 1) = binom j m + binom j (m + 1) := rfl
    rw [e]
    rcases Nat.mod_two_eq_zero_or_one m with h | h
    · have h2 : (m + 1) % 2 = 1 := by omega
      simp [h, h2]; omega
    · have h2 : (m + 1) % 2 = 0 := by omega
      simp [h, h2]
      omega
theorem binom_less (j : Nat) : ∀ i, i ≤ j + 1 → (j + 1 - i) * binom (j + 1) i = (j + 1) * binom j i
  | 0, _ => by simp [binom_zero]
  | i + 1, h => by
    have hs := binom_step j i
    have e : binom (j + 1) (i + 1) = binom j i + binom j (i + 1) := rfl
    obtain ⟨d, rfl⟩ := Nat.exists_eq_add_of_le (show i ≤ j by omega)
    have e1 : i + d + 1 - (i + 1) = d := by omega
    have e2 : i + d - i = d := by omega
    rw [e2] at hs
    rw [e, e1, Nat.mul_add, Nat.mul_comm d (binom (i + d) i), ← hs]
    generalize binom (i + d) (i + 1) = z
    rw [Nat.mul_comm z, ← Nat.add_mul]
    congr 1
    omega
theorem alt_cnt (k n : Nat) : ∀ j, j ≤ k → altI (fun i => ((binom j i * (k - i) ^ n : Nat) : Int)) (j + 1) = cnt k n j := by
  induction n with
  | zero =>
    intro j _
    have e : altI (fun i => ((binom j i * (k - i) ^ 0 : Nat) : Int)) (j + 1) = altI (fun i => (binom j i : Int)) (j + 1) := altI_congr _ fun i _ => by simp
    rw [e]
    cases j with
    | zero => simp [altI, cnt, binom_zero]
    | succ j =>
      rw [altI_binom, binom_gt j (j + 1) (by omega)]
      simp [cnt]
  | succ n ih =>
    intro j hj
    cases j with
    | zero =>
      have := ih 0 (by omega)
      simp only [altI, binom_zero, Nat.one_mul, Nat.sub_zero, Nat.zero_mod, if_true, Int.zero_add] at this ⊢
      simp only [cnt, Nat.sub_zero, Nat.zero_mul, Nat.add_zero, Nat.pow_succ]
      rw [Int.natCast_mul, this, Int.natCast_mul, Int.mul_comm]
    | succ j =>
      have h1 := ih (j + 1) hj
      have h2 := ih j (by omega)
      have e : altI (fun i => ((binom (j + 1) i * (k - i) ^ (n + 1) : Nat) : Int)) (j + 1 + 1) = altI (fun i => ((k - (j + 1) : Nat) : Int) * ((binom (j + 1) i * (k - i) ^ n : Nat) : Int) + ((j + 1 : Nat) : Int) * ((binom j i * (k - i) ^ n : Nat) : Int)) (j + 1 + 1) := by
        refine altI_congr _ fun i hi => ?_
        rw [← Int.natCast_mul, ← Int.natCast_mul, ← Int.natCast_add]
        congr 1
        have hb := binom_less j i (by omega)
        have ek : k - i = (k - (j + 1)) + (j + 1 - i) := by omega
        have e1 : binom (j + 1) i * (k - i) ^ (n + 1) = ((k - i) * binom (j + 1) i) * (k - i) ^ n := by
          rw [Nat.pow_succ, Nat.mul_comm ((k - i) ^ n), ← Nat.mul_assoc, Nat.mul_comm (binom (j + 1) i)]
        have e2 : (k - i) * binom (j + 1) i = (k - (j + 1)) * binom (j + 1) i + (j + 1) * binom j i := by
          rw [← hb, ← Nat.add_mul, ← ek]
        rw [e1, e2, Nat.add_mul, Nat.mul_assoc, Nat.mul_assoc]
      rw [e, altI_lin, h1]
      have e3 : altI (fun i => ((binom j i * (k - i) ^ n : Nat) : Int)) (j + 1 + 1) = cnt k n j := by
        rw [altI, h2, binom_gt j (j + 1) (by omega)]
        simp
      rw [e3]
      simp only [cnt, Nat.add_sub_cancel, Int.natCast_add, Int.natCast_mul]
theorem onto_sum (n k : Nat) : sumO (fun i => binom k i * (k - i) ^ n) (k + 1) ≤ sumE (fun i => binom k i * (k - i) ^ n) (k + 1) ∧
    sumE (fun i => binom k i * (k - i) ^ n) (k + 1) - sumO (fun i => binom k i * (k - i) ^ n) (k + 1) = cnt k n k := by
  have h1 := sum_alt (fun i => binom k i * (k - i) ^ n) (k + 1)
  have h2 := alt_cnt k n k (Nat.le_refl _)
  rw [h2] at h1
  omega
end Go.Proofs.Ytagmohpafjncfaa

/- How a slice of integers reads in memory: 'Rd', and a row of integers of the call's own: 'Own'. -/
namespace Go.Proofs.Ytagmohpafjncfaa
open Go.RowKit
def Rd (k : IntKind) (w : World) (v : Value) (xs : List Int) : Prop :=
  ∃ ad cap, v = .slice ad xs.length cap ∧ xs.length ≤ cap ∧ cap ≤ maxLen ∧
    (xs.length = 0 ∨ ∃ b off, ad = some ⟨b, off, none⟩ ∧ b < w.heap.size ∧ ∀ i, i < xs.length → w.cell? ⟨b, off + i, none⟩ = some (.int k (xs.getD i 0)))
theorem Rd.nil (k : IntKind) (w : World) : Rd k w (.slice none 0 0) [] := ⟨none, 0, rfl, by simp, by simp [maxLen], .inl rfl⟩
theorem Rd.below {k : IntKind} {w w' : World} {v : Value} {xs : List Int} (h : Rd k w v xs) (hb : Below w.heap.size w w') : Rd k w' v xs := by
  obtain ⟨ad, cap, rfl, h1, h2, h3⟩ := h
  refine ⟨ad, cap, rfl, h1, h2, ?_⟩
  rcases h3 with h3 | ⟨b, off, rfl, hlt, hc⟩
  · exact .inl h3
  · exact .inr ⟨b, off, rfl, Nat.lt_of_lt_of_le hlt hb.size, fun i hi => (hb.cell (p := ⟨b, off + i, none⟩) hlt).trans (hc i hi)⟩
theorem Rd.take {k : IntKind} {w : World} {ad : Option Addr} {cap : Nat} {xs : List Int} (h : Rd k w (.slice ad xs.length cap) xs) (n : Nat) (hn : n ≤ xs.length) : Rd k w (.slice ad n cap) (xs.take n) := by
  obtain ⟨ad', cap', e, h1, h2, h3⟩ := h
  simp only [Value.slice.injEq] at e
  obtain ⟨rfl, _, rfl⟩ := e
  have hl : (xs.take n).length = n := by simp; omega
  refine ⟨ad, cap, by rw [hl], by omega, h2, ?_⟩
  rw [hl]
  rcases h3 with h3 | ⟨b, off, rfl, hlt, hc⟩
  · exact .inl (by omega)
  · refine .inr ⟨b, off, rfl, hlt, fun i hi => ?_⟩
    rw [hc i (by omega)]
    simp [List.getD, hi]
theorem rd_of_ints {k : IntKind} {w : World} {x : Addr} {l c : Nat} {zs : List Int} (hl : l ≤ c) (hm : c ≤ maxLen) (hz : zs.length = c) (hcell : ∀ i, i < zs.length → w.cell? (x.add i) = some (.int k (zs.getD i 0))) : Rd k w (.slice (some x) l c) (zs.take l) := by
  have hlen : (zs.take l).length = l := by simp; omega
  refine ⟨some x, c, by rw [hlen], by omega, hm, ?_⟩
  by_cases h0 : l = 0
  · exact .inl (by omega)
  · obtain ⟨b, off, spot⟩ := x
    have hc := hcell 0 (by omega)
    have hspot : spot = none := by simpa [Addr.add] using World.cell?_spot hc
    subst hspot
    refine .inr ⟨b, off, rfl, World.block_lt_of_cell? w _ hc, fun i hi => ?_⟩
    rw [hlen] at hi
    have := hcell i (by omega)
    rw [Addr.add_lit] at this
    rw [this]
    simp [List.getD, hi]
def Own (k : IntKind) (e : TypeId) (B : Nat) (w : World) (g n : Nat) (xs : List Int) : Prop :=
  w.ownsRow B e 1 (.slice (some ⟨g, 0, none⟩) n n) n (xs.map (Value.int k))
section
variable {k : IntKind} {e : TypeId} {B : Nat} {w : World} {g n : Nat} {xs : List Int}
theorem Own.len (h : Own k e B w g n xs) : xs.length = n := by have := h.1; simpa using this
theorem Own.lt (h : Own k e B w g n xs) : B ≤ g ∧ g < w.heap.size := World.ownsRow.lt h g rfl
theorem Own.cell (h : Own k e B w g n xs) (i : Nat) (hi : i < n) : w.cell? ⟨g, i, none⟩ = some (.int k (xs.getD i 0)) := by
  have hl := h.len
  rw [World.ownsRow.cellAt h i (by omega)]
  simp [List.getD, show i < xs.length by omega]
theorem Own.frozen (h : Own k e B w g n xs) (i : Nat) : w.frozen? ⟨g, i, none⟩ = false := World.ownsRow.frozenAt h i
theorem Own.store (h : Own k e B w g n xs) (i : Nat) (v : Int) : Own k e B (w.setCell ⟨g, i, none⟩ (.int k v)) g n (xs.set i v) := by
  have := (World.ownsRow.stored h i (.int k v)).1
  unfold Own
  rwa [List.map_set]
theorem Own.below {w' : World} (h : Own k e B w g n xs) (hb : Below w.heap.size w w') : Own k e B w' g n xs :=
  World.ownsRow.kept h ⟨hb.os, hb.tape, hb.output, hb.size, fun i hi _ => hb.block i hi⟩ (row := none) (.inr (by simp [Value.ownBlock]))
theorem Own.cap (h : Own k e B w g n xs) : n ≤ maxLen := by
  rcases h.2 with ⟨h, _⟩ | ⟨_, cap, _, h, _, _, hn, hc, _⟩
  · cases h
  · simp only [Value.slice.injEq] at h; omega
theorem Own.rd (h : Own k e B w g n xs) : Rd k w (.slice (some ⟨g, 0, none⟩) n n) xs := by
  have hl := h.len
  refine ⟨some ⟨g, 0, none⟩, n, by rw [hl], by omega, h.cap, ?_⟩
  by_cases h0 : n = 0
  · exact .inl (by omega)
  · exact .inr ⟨g, 0, rfl, h.lt.2, fun i hi => by rw [Nat.zero_add]; exact h.cell i (by omega)⟩
end
theorem bcell {W w1 : World} (hb : Below W.heap.size W w1) : (∀ b o, b < W.heap.size → w1.cell? ⟨b, o, none⟩ = W.cell? ⟨b, o, none⟩) ∧ (∀ b o, b < W.heap.size → w1.frozen? ⟨b, o, none⟩ = W.frozen? ⟨b, o, none⟩) :=
  ⟨fun b o h => hb.cell (p := ⟨b, o, none⟩) h, fun b o h => hb.frozen (p := ⟨b, o, none⟩) h⟩
theorem Below.drewN' (w : World) (n : Nat) : Below w.heap.size w (w.drewN n) := ⟨rfl, rfl, rfl, Nat.le_refl _, fun _ _ => rfl⟩
theorem ret_int {k : IntKind} {a b : Int} (h : a = b) : Ending.returned (.int k a) = .returned (.int k b) := by rw [h]
/-! bits at int -/
theorem ofInt_i64 (a : Nat) (ha : a < 9223372036854775808) : (BitVec.ofInt 64 (a : Int)).toNat = a := by
  rw [BitVec.ofInt_natCast, BitVec.toNat_ofNat]; exact Nat.mod_eq_of_lt (by omega)
theorem and_limb (n : Int) : bits .and .i64 n 1073741823 = n % 1073741824 := by
  show IntKind.i64.wrap ((BitVec.ofInt 64 n &&& BitVec.ofInt 64 1073741823).toNat : Int) = _
  have e : (BitVec.ofInt 64 n &&& BitVec.ofInt 64 1073741823).toNat = (n % 18446744073709551616).toNat % 1073741824 := by
    rw [BitVec.toNat_and, BitVec.toNat_ofInt]
    exact Nat.and_two_pow_sub_one_eq_mod _ 30
  rw [e, IntKind.wrap_i64]
  omega
theorem or_limb (a b : Int) (ha : 0 ≤ a) (ha' : a < 8589934592) (hb : 0 ≤ b) (hb' : b < 1073741824) : bits .or .i64 (a * 1073741824) b = a * 1073741824 + b := by
  obtain ⟨x, rfl⟩ := Int.eq_ofNat_of_zero_le ha
  obtain ⟨y, rfl⟩ := Int.eq_ofNat_of_zero_le hb
  show IntKind.i64.wrap ((BitVec.ofInt 64 ((x : Int) * 1073741824) ||| BitVec.ofInt 64 (y : Int)).toNat : Int) = _
  have e1 : ((x : Int) * 1073741824) = ((x * 1073741824 : Nat) : Int) := by simp
  rw [e1, BitVec.toNat_or, ofInt_i64 _ (by omega), ofInt_i64 _ (by omega)]
  have e2 : x * 1073741824 ||| y = x * 1073741824 + y := nat_join 30 _ _ (by omega) (by omega)
  rw [e2, IntKind.wrap_i64]
  omega
end Go.Proofs.Ytagmohpafjncfaa

/- routescopedraw.Codes: New makes choices; Next gives a number in its range, whatever the codes are. -/
namespace Go.Proofs.Ytagmohpafjncfaa
open Go.RowKit
def Codes (cb : Nat) (w : World) : Prop :=
  ∃ (ad : Option Addr) (n cap p : Nat), w.heap[cb]? = some (.cells #[.slice ad n cap, .int .i64 (p : Int)] 54 (0, 0)) ∧ n ≤ maxLen ∧ p ≤ n ∧
    (n = 0 ∨ ∃ b off, ad = some ⟨b, off, none⟩ ∧ b < cb ∧ ∀ i, i < n → ∃ x : Int, 0 ≤ x ∧ x < 256 ∧ w.cell? ⟨b, off + i, none⟩ = some (.int .u8 x))
theorem Codes.lt {cb : Nat} {w : World} (h : Codes cb w) : cb < w.heap.size := by
  obtain ⟨_, _, _, _, h, _⟩ := h
  exact (Array.getElem?_eq_some_iff.1 h).1
theorem Codes.kept {cb : Nat} {w w' : World} (h : Codes cb w) (hb : ∀ k, k ≤ cb → w'.heap[k]? = w.heap[k]?) : Codes cb w' := by
  obtain ⟨ad, n, cap, p, h1, h2, h3, h4⟩ := h
  refine ⟨ad, n, cap, p, (hb cb (Nat.le_refl _)).trans h1, h2, h3, ?_⟩
  rcases h4 with h4 | ⟨b, off, h5, h6, h8⟩
  · exact .inl h4
  · exact .inr ⟨b, off, h5, h6, fun i hi => let ⟨x, x0, x1, hx⟩ := h8 i hi; ⟨x, x0, x1, (World.cell?_of_block (w := w) (a := ⟨b, off + i, none⟩) (hb b (Nat.le_of_lt h6))).trans hx⟩⟩
theorem Codes.below {cb : Nat} {w w' : World} (h : Codes cb w) (hb : Below w.heap.size w w') : Codes cb w' :=
  h.kept fun k hk => hb.block k (Nat.lt_of_le_of_lt hk h.lt)
theorem Codes.grown {cb : Nat} {w w' : World} {row : Option Nat} (h : Codes cb w) (hg : w.grownBy w' row) (hr : ∀ k, row = some k → cb < k) : Codes cb w' :=
  h.kept fun k hk => hg.block k (Nat.lt_of_le_of_lt hk h.lt) fun e => by have := hr k e.symm; omega
theorem grown_trans {a b c : World} {row : Option Nat} (h : a.grownBy b row) (k : b.grownBy c row) : a.grownBy c row :=
  ⟨k.os.trans h.os, k.tape.trans h.tape, k.output.trans h.output, Nat.le_trans h.size k.size, fun i hi hne => (k.block i (Nat.lt_of_lt_of_le hi h.size) hne).trans (h.block i hi hne)⟩
theorem grown_of_below {a b : World} (h : Below a.heap.size a b) (row : Option Nat) : a.grownBy b row := ⟨h.os, h.tape, h.output, h.size, fun i hi _ => h.block i hi⟩
theorem grown_own {a b c : World} {row row' : Option Nat} (h : a.grownBy b row) (k : b.grownBy c row') (hr : ∀ i, row' = some i → a.heap.size ≤ i) : a.grownBy c row :=
  ⟨k.os.trans h.os, k.tape.trans h.tape, k.output.trans h.output, Nat.le_trans h.size k.size, fun i hi hne => (k.block i (Nat.lt_of_lt_of_le hi h.size) (fun e => by have := hr i e.symm; omega)).trans (h.block i hi hne)⟩
theorem grown_alloc {a b : World} {row : Option Nat} (h : a.grownBy b row) (o : Obj) : a.grownBy (b.alloc o) row := grown_trans h (World.grownBy_alloc b o row)
theorem own_kept {w w' : World} {B cb : Nat} {e : TypeId} {size : Nat} {v : Value} {n : Nat} {xs : List Value} (h : w.ownsRow B e size v n xs) (hg : w.grownBy w' (some cb)) (hcb : cb < B) : w'.ownsRow B e size v n xs := by
  refine h.kept hg ?_
  cases hv : v.ownBlock with
  | none => exact .inl rfl
  | some k => have := (h.lt k hv).1; exact .inr (fun e => by injection e; omega)
theorem grown_drewN {a b : World} {row : Option Nat} (h : a.grownBy b row) (n : Nat) : a.grownBy (b.drewN n) row := ⟨h.os, h.tape, h.output, h.size, h.block⟩
theorem grown_setCell (w : World) (cb o : Nat) (u : Value) : w.grownBy (w.setCell ⟨cb, o, none⟩ u) (some cb) :=
  ⟨rfl, rfl, rfl, by simp [World.setCell], fun i _ hne => Below.heap_setCell w ⟨cb, o, none⟩ u i (fun e => hne (by rw [e]))⟩
theorem Codes.advance {cb : Nat} {w : World} {ad : Option Addr} {n cap p : Nat} (h1 : w.heap[cb]? = some (.cells #[.slice ad n cap, .int .i64 (p : Int)] 54 (0, 0))) (h2 : n ≤ maxLen) (hp : p < n)
    (h4 : n = 0 ∨ ∃ b off, ad = some ⟨b, off, none⟩ ∧ b < cb ∧ ∀ i, i < n → ∃ x : Int, 0 ≤ x ∧ x < 256 ∧ w.cell? ⟨b, off + i, none⟩ = some (.int .u8 x)) :
    Codes cb (w.setCell ⟨cb, 1, none⟩ (.int .i64 ((p : Int) + 1))) := by
  refine ⟨ad, n, cap, p + 1, ?_, h2, hp, ?_⟩
  · rw [heap_setCell_same w cb 1 _ _ _ h1]; simp
  · rcases h4 with h4 | ⟨b, off, h5, h6, h8⟩
    · exact .inl h4
    · refine .inr ⟨b, off, h5, h6, fun i hi => ?_⟩
      obtain ⟨x, x0, x1, hx⟩ := h8 i hi
      refine ⟨x, x0, x1, ?_⟩
      rw [← hx]
      exact World.cell?_of_block (w := w) (Below.heap_setCell w ⟨cb, 1, none⟩ _ b (Nat.ne_of_lt h6))
def RetNext (cb : Nat) (n : Int) (w : World) (e : Ending) (w' : World) : Prop :=
  ∃ r : Int, e = .returned (.int .i64 r) ∧ 0 ≤ r ∧ (r < n ∨ r = 0) ∧ Codes cb w' ∧ w.grownBy w' (some cb)
set_option maxHeartbeats 1000000 in
theorem next_small (cb : Nat) (n : Int) (w : World) (h : Codes cb w) (hn : n ≤ 256) (hn0 : -9223372036854775808 ≤ n) :
    Calls Try.prog 10 #[.pointer (some ⟨cb, 0, none⟩), .int .i64 n] w (RetNext cb n w) := by
  have hcodes := Lib.hid h
  obtain ⟨ad, l, cap, p, h1, h2, h3, h4⟩ := h
  have h4 := Lib.hid h4
  have c0 : w.cell? ⟨cb, 0, none⟩ = some (.slice ad l cap) := by rw [cell_of_row w cb 0 _ _ _ h1]; rfl
  have c1 : w.cell? ⟨cb, 1, none⟩ = some (.int .i64 (p : Int)) := by rw [cell_of_row w cb 1 _ _ _ h1]; rfl
  have f1 : w.frozen? ⟨cb, 1, none⟩ = false := frozen_of_row w cb 1 _ _ h1
  have H1 := Lib.hid h1
  clear h1
  unfold maxLen at h2
  by_cases hp : l ≤ p
  · have hd : decide (l ≤ p) = true := by simpa using hp
    go_enter Try.func10, Try.ntmps10
    go_wp2
    go_quiet (fail)
    go_wp2
    go_ret
    exact ⟨0, rfl, by omega, .inr rfl, hcodes.out.below (Below.drewN' _ _), grown_of_below (Below.drewN' _ _) _⟩
  · have hd : decide (l ≤ p) = false := by simpa using hp
    by_cases hn1 : n < 1
    · go_enter Try.func10, Try.ntmps10
      go_wp2
      go_quiet (fail)
      go_wp2
      go_ret
      exact ⟨0, rfl, by omega, .inr rfl, hcodes.out.below (Below.drewN' _ _), grown_of_below (Below.drewN' _ _) _⟩
    · have hd1 : decide (n < 1) = false := by simpa using hn1
      obtain ⟨b, off, rfl, hlt, hc⟩ : ∃ b off, ad = some ⟨b, off, none⟩ ∧ b < cb ∧ ∀ i, i < l → ∃ x : Int, 0 ≤ x ∧ x < 256 ∧ w.cell? ⟨b, off + i, none⟩ = some (.int .u8 x) := by
        rcases h4.out with h | h
        · omega
        · exact h
      obtain ⟨x, x0, x1, hx⟩ := hc p (by omega)
      clear hc
      go_enter Try.func10, Try.ntmps10
      go_wp2
      go_quiet (fail)
      go_wp2
      go_quiet (fail)
      go_wp2
      go_ret
      exact ⟨_, rfl, Int.emod_nonneg _ (by omega), .inl (Int.emod_lt_of_pos _ (by omega)), (Codes.advance H1.out (by unfold maxLen; exact h2) (by omega) h4.out).below (Below.drewN' _ _), grown_drewN (grown_setCell _ _ _ _) _⟩
set_option maxHeartbeats 1000000 in
theorem next_calls (cb : Nat) (n : Int) (w : World) (h : Codes cb w) (hn0 : -9223372036854775808 ≤ n) (hn2 : n ≤ 9223372036854775807) :
    Calls Try.prog 10 #[.pointer (some ⟨cb, 0, none⟩), .int .i64 n] w (RetNext cb n w) := by
  by_cases hn : n ≤ 256
  · exact next_small cb n w h hn hn0
  have hcodes := Lib.hid h
  obtain ⟨ad, l, cap, p, h1, h2, h3, h4⟩ := h
  have h4 := Lib.hid h4
  have c0 : w.cell? ⟨cb, 0, none⟩ = some (.slice ad l cap) := by rw [cell_of_row w cb 0 _ _ _ h1]; rfl
  have c1 : w.cell? ⟨cb, 1, none⟩ = some (.int .i64 (p : Int)) := by rw [cell_of_row w cb 1 _ _ _ h1]; rfl
  have f1 : w.frozen? ⟨cb, 1, none⟩ = false := frozen_of_row w cb 1 _ _ h1
  have H1 := Lib.hid h1
  clear h1
  unfold maxLen at h2
  by_cases hp : l ≤ p
  · have hd : decide (l ≤ p) = true := by simpa using hp
    go_enter Try.func10, Try.ntmps10
    go_wp2
    go_quiet (fail)
    go_wp2
    go_ret
    exact ⟨0, rfl, by omega, .inr rfl, hcodes.out.below (Below.drewN' _ _), grown_of_below (Below.drewN' _ _) _⟩
  · have hd : decide (l ≤ p) = false := by simpa using hp
    have hd1 : decide (n < 1) = false := by simp; omega
    obtain ⟨b, off, rfl, hlt, hc⟩ : ∃ b off, ad = some ⟨b, off, none⟩ ∧ b < cb ∧ ∀ i, i < l → ∃ x : Int, 0 ≤ x ∧ x < 256 ∧ w.cell? ⟨b, off + i, none⟩ = some (.int .u8 x) := by
      rcases h4.out with h | h
      · omega
      · exact h
    obtain ⟨x, x0, x1, hx⟩ := hc p (by omega)
    clear hc
    go_enter Try.func10, Try.ntmps10
    go_wp2
    go_quiet (fail)
    go_wp2
    go_quiet (fail)
    go_wp2_with fail
    refine (next_small cb 256 _ ((Codes.advance H1.out (by unfold maxLen; exact h2) (by omega) h4.out).below (Below.drewN' _ _)) (by omega) (by omega)).mono ?_
    rintro e w' ⟨r, rfl, hr0, hr1, hc', hg⟩
    have hr2 : r < 256 := by omega
    clear hr1
    have hg' := grown_trans (grown_drewN (grown_setCell _ _ _ _) _) hg
    clear hg
    go_wp2
    go_ret
    exact ⟨_, rfl, Int.emod_nonneg _ (by omega), .inl (Int.emod_lt_of_pos _ (by omega)), hc', hg'⟩
set_option maxHeartbeats 1000000 in
theorem new_calls (a : Value) (z : List Int) (w : World) (most : Nat) (h : Rd .u8 w a z) (hz : ∀ n ∈ z, (Lit.int .u8 n).wf = true) (hm : most ≤ 65536) :
    Calls Try.prog 9 #[a, .int .i64 (most : Int)] w fun e w' => e = .returned (.pointer (some ⟨w.heap.size, 0, none⟩)) ∧ Codes w.heap.size w' ∧ Below w.heap.size w w' := by
  obtain ⟨ad, cap, rfl, h1, h2, h3⟩ := h
  have codes : ∀ n, n ≤ z.length → Codes w.heap.size (w.alloc (.cells #[.slice ad n cap, .int .i64 0] 54)) := by
    intro n hn
    refine ⟨ad, n, cap, 0, heap_alloc_new w _, by omega, Nat.zero_le _, ?_⟩
    rcases h3 with h3 | ⟨b, off, rfl, hlt, hc⟩
    · exact .inl (by omega)
    · refine .inr ⟨b, off, rfl, hlt, fun i hi => ⟨z.getD i 0, ?_, ?_, ?_⟩⟩
      · have := bounds_u8 (hz (z.getD i 0) (by simp [List.getD, show i < z.length by omega])); omega
      · have := bounds_u8 (hz (z.getD i 0) (by simp [List.getD, show i < z.length by omega])); omega
      · rw [← hc i (by omega)]
        exact World.cell?_of_block (w := w) (Below.heap_alloc w _ b hlt)
  have bel : ∀ o, Below w.heap.size w (w.alloc o) := fun o => (Below.refl _ _).alloc (Nat.le_refl _) _
  have CD := Lib.hid codes
  have BL := Lib.hid bel
  clear codes bel hz h3
  unfold maxLen at h2
  by_cases hl : (most : Nat) < z.length
  · go_enter Try.func9, Try.ntmps9
    go_wp2
    go_ret
    exact ⟨rfl, CD.out most (by omega), BL.out _⟩
  · go_enter Try.func9, Try.ntmps9
    go_wp2
    go_ret
    exact ⟨rfl, CD.out z.length (by omega), BL.out _⟩
end Go.Proofs.Ytagmohpafjncfaa

/- From a contract to the walk of a law: bytes that came in. -/
set_option linter.unusedSimpArgs false
set_option linter.unusedVariables false
namespace Go.Proofs.Ytagmohpafjncfaa
open Go.RowKit Eng
def slB (a : Option Addr) (cap : Nat) (z : List Int) : SV := .sl a z.length cap 1 fun i _ => .i .u8 (z.getD i 0)
theorem slB_of {w : World} {v : Value} {z : List Int} (h : Rd .u8 w v z) : ∃ a cap, v = (slB a cap z).den ∧ (slB a cap z).ok (fun b => b < w.heap.size) w := by
  obtain ⟨ad, cap, rfl, h1, h2, h3⟩ := h
  refine ⟨ad, cap, rfl, h1, h2, ?_⟩
  rcases h3 with h3 | ⟨b, off, rfl, hlt, hc⟩
  · exact .inl h3
  · refine .inr ⟨b, off, rfl, hlt, fun i j hi hj => ?_⟩
    obtain rfl : j = 0 := by omega
    rw [Nat.mul_one]
    exact ⟨hc i hi, rfl, trivial⟩
theorem walk_of {P : Program} {f : FuncId} {args : List SV} (h : Contract Frm.nil P f args (fun r => r = .b true)) {w : World} (ha : ∀ s ∈ args, s.ok (fun b => b < w.heap.size) w) :
    Calls P f (args.map SV.den).toArray w fun e w' => e = .returned (.bool true) ∧ Below w.heap.size w w' :=
  (h.calls _ w trivial ha (fun b hb => ⟨hb, fun h => h⟩)).mono fun e w' ⟨r, he, hr, _, hevo, _⟩ => by
    subst hr
    exact ⟨he, ⟨hevo.os, hevo.tape, hevo.output, hevo.size, fun b hb => hevo.block b hb (fun h => h)⟩⟩
end Go.Proofs.Ytagmohpafjncfaa

/- Tables for which a rule stops too early: their numbers. -/
namespace Go.Proofs.Ytagmohpafjncfaa.Lmb
def sumUp (f : Nat → Nat) : Nat → Nat
  | 0 => 0
  | m + 1 => sumUp f m + f m
theorem sumUp_congr {f g : Nat → Nat} : ∀ {m : Nat}, (∀ i, i < m → f i = g i) → sumUp f m = sumUp g m
  | 0, _ => rfl
  | m + 1, h => by
    unfold sumUp
    rw [sumUp_congr (fun i hi => h i (by omega)), h m (by omega)]
theorem sumUp_add (f g : Nat → Nat) : ∀ m, sumUp (fun i => f i + g i) m = sumUp f m + sumUp g m
  | 0 => rfl
  | m + 1 => by
    unfold sumUp
    rw [sumUp_add f g m]
    omega
theorem sumUp_mul (f : Nat → Nat) (c : Nat) : ∀ m, sumUp (fun i => f i * c) m = sumUp f m * c
  | 0 => by simp [sumUp]
  | m + 1 => by
    unfold sumUp
    rw [sumUp_mul f c m, Nat.add_mul]
theorem sumUp_le {f g : Nat → Nat} : ∀ {m : Nat}, (∀ i, i < m → f i ≤ g i) → sumUp f m ≤ sumUp g m
  | 0, _ => Nat.le_refl _
  | m + 1, h => by
    unfold sumUp
    have h1 := sumUp_le (m := m) (fun i hi => h i (by omega))
    have h2 := h m (by omega)
    omega
theorem sumUp_one (f : Nat → Nat) : ∀ {m i : Nat}, i < m → f i ≤ sumUp f m
  | m + 1, i, h => by
    unfold sumUp
    by_cases e : i = m
    · subst e; omega
    · have := sumUp_one f (m := m) (i := i) (by omega)
      omega
theorem sumUp_mono (f : Nat → Nat) {m : Nat} : ∀ {n : Nat}, m ≤ n → sumUp f m ≤ sumUp f n
  | 0, h => by
    obtain rfl : m = 0 := by omega
    exact Nat.le_refl _
  | n + 1, h => by
    by_cases e : m = n + 1
    · subst e; exact Nat.le_refl _
    · have := sumUp_mono f (m := m) (n := n) (by omega)
      rw [sumUp]
      omega
def rawW (k : Nat) (W : Nat → Nat) (j : Nat) : Nat := W j * j + (if j = 0 then 0 else W (j - 1) * (k - j + 1))
def stopAt (k : Nat) (st : Nat → Nat) (n j : Nat) : Prop := 1 ≤ j ∧ j < k ∧ st j ≤ n
instance (k : Nat) (st : Nat → Nat) (n j : Nat) : Decidable (stopAt k st n j) := by unfold stopAt; exact inferInstance
def wayN (k : Nat) (st : Nat → Nat) : Nat → Nat → Nat
  | 0, j => if j = 0 then 1 else 0
  | n + 1, j => if stopAt k st (n + 1) j then 0 else rawW k (wayN k st n) j
def outN (k : Nat) (st : Nat → Nat) (n j : Nat) : Nat := sumUp (fun i => if stopAt k st (n + 1) i then rawW k (wayN k st n) i else 0) j
def failN (k : Nat) (st : Nat → Nat) : Nat → Nat
  | 0 => 0
  | n + 1 => failN k st n * k + outN k st n k
theorem raw_sum (k : Nat) (W : Nat → Nat) : ∀ m, m ≤ k → sumUp (rawW k W) (m + 1) = sumUp (fun j => W j * k) m + W m * m
  | 0, _ => by simp [sumUp, rawW]
  | m + 1, h => by
    rw [sumUp, raw_sum k W m (by omega)]
    have e1 : k - (m + 1) + 1 = k - m := by omega
    have e2 : sumUp (fun j => W j * k) (m + 1) = sumUp (fun j => W j * k) m + W m * k := rfl
    have e3 : W m * m + W m * (k - m) = W m * k := by rw [← Nat.mul_add]; congr 1; omega
    rw [e2]
    unfold rawW
    rw [if_neg (by omega), Nat.add_sub_cancel, e1]
    omega
theorem total (k : Nat) (st : Nat → Nat) : ∀ n, sumUp (wayN k st n) (k + 1) + failN k st n = k ^ n
  | 0 => by
    have h : ∀ m, sumUp (wayN k st 0) (m + 1) = 1 := by
      intro m
      induction m with
      | zero => rfl
      | succ m ih => rw [sumUp, ih]; simp [wayN]
    rw [h k]
    rfl
  | n + 1 => by
    have ih := total k st n
    have h1 : sumUp (wayN k st (n + 1)) (k + 1) + outN k st n (k + 1) = sumUp (rawW k (wayN k st n)) (k + 1) := by
      unfold outN
      rw [← sumUp_add]
      refine sumUp_congr fun i hi => ?_
      by_cases h : stopAt k st (n + 1) i
      · rw [wayN, if_pos h, if_pos h, Nat.zero_add]
      · rw [wayN, if_neg h, if_neg h, Nat.add_zero]
    have h2 : outN k st n (k + 1) = outN k st n k := by
      unfold outN
      rw [sumUp, if_neg (fun h => by have := h.2.1; omega), Nat.add_zero]
    have h3 := raw_sum k (wayN k st n) k (Nat.le_refl _)
    have h4 : sumUp (fun j => wayN k st n j * k) k + wayN k st n k * k = sumUp (wayN k st n) (k + 1) * k := by
      rw [sumUp_mul, sumUp, Nat.add_mul]
    rw [failN, Nat.pow_succ, ← ih, Nat.add_mul]
    omega
theorem failN_le (k : Nat) (st : Nat → Nat) (n : Nat) : failN k st n ≤ k ^ n := by have := total k st n; omega
theorem wayN_le (k : Nat) (st : Nat → Nat) (n : Nat) {j : Nat} (hj : j ≤ k) : wayN k st n j ≤ k ^ n := by
  have := total k st n
  have := sumUp_one (wayN k st n) (m := k + 1) (i := j) (by omega)
  omega
theorem outN_le (k : Nat) (st : Nat → Nat) (n : Nat) {j : Nat} (hj : j ≤ k) : failN k st n * k + outN k st n j ≤ k ^ (n + 1) := by
  have h1 := failN_le k st (n + 1)
  have h2 : outN k st n j ≤ outN k st n k := sumUp_mono _ hj
  rw [failN] at h1
  omega
theorem rawW_le (k : Nat) (st : Nat → Nat) (n : Nat) {j : Nat} (hj : j ≤ k) : rawW k (wayN k st n) j ≤ k ^ (n + 1) := by
  have h3 := raw_sum k (wayN k st n) k (Nat.le_refl _)
  have h4 : sumUp (fun j => wayN k st n j * k) k + wayN k st n k * k = sumUp (wayN k st n) (k + 1) * k := by
    rw [sumUp_mul, sumUp, Nat.add_mul]
  have h5 := sumUp_one (rawW k (wayN k st n)) (m := k + 1) (i := j) (by omega)
  have h6 := total k st n
  have h7 : sumUp (wayN k st n) (k + 1) * k ≤ k ^ n * k := Nat.mul_le_mul_right _ (by omega)
  rw [Nat.pow_succ]
  omega
theorem wayN_mono {k : Nat} {st st' : Nat → Nat} (h : ∀ j, 1 ≤ j → j < k → st j ≤ st' j) : ∀ n j, wayN k st n j ≤ wayN k st' n j
  | 0, j => Nat.le_refl _
  | n + 1, j => by
    have hr : rawW k (wayN k st n) j ≤ rawW k (wayN k st' n) j := by
      unfold rawW
      have h1 := Nat.mul_le_mul_right j (wayN_mono h n j)
      split
      · omega
      · have h2 := Nat.mul_le_mul_right (k - j + 1) (wayN_mono h n (j - 1))
        omega
    rw [wayN, wayN]
    by_cases h1 : stopAt k st (n + 1) j
    · rw [if_pos h1]; exact Nat.zero_le _
    · rw [if_neg h1, if_neg (fun h2 => h1 ⟨h2.1, h2.2.1, by have := h j h2.1 h2.2.1; have := h2.2.2; omega⟩)]
      exact hr
theorem failN_mono {k : Nat} {st st' : Nat → Nat} (h : ∀ j, 1 ≤ j → j < k → st j ≤ st' j) (n : Nat) : failN k st' n ≤ failN k st n := by
  have h1 := total k st n
  have h2 := total k st' n
  have h3 : sumUp (wayN k st n) (k + 1) ≤ sumUp (wayN k st' n) (k + 1) := sumUp_le fun i _ => wayN_mono h n i
  omega
theorem wayN_pos {k : Nat} {st : Nat → Nat} (h : ∀ j, 1 ≤ j → j < k → j < st j) : ∀ j, j ≤ k → 0 < wayN k st j j
  | 0, _ => by simp [wayN]
  | j + 1, hj => by
    have ih := wayN_pos h j (by omega)
    rw [wayN, if_neg (fun h2 => by have := h (j + 1) h2.1 h2.2.1; have := h2.2.2; omega)]
    unfold rawW
    rw [if_neg (by omega), Nat.add_sub_cancel]
    have : 0 < wayN k st j j * (k - (j + 1) + 1) := Nat.mul_pos ih (by omega)
    omega
theorem wayN_end {k : Nat} {st : Nat → Nat} (hk : 1 ≤ k) (h : ∀ j, 1 ≤ j → j < k → j < st j) : ∀ n, 0 < wayN k st (k + n) k
  | 0 => wayN_pos h k (Nat.le_refl _)
  | n + 1 => by
    have ih := wayN_end hk h n
    rw [← Nat.add_assoc, wayN, if_neg (fun h2 => by have := h2.2.1; omega)]
    unfold rawW
    have : 0 < wayN k st (k + n) k * k := Nat.mul_pos ih hk
    omega
theorem failN_lt {k : Nat} {st : Nat → Nat} (hk : 1 ≤ k) (h : ∀ j, 1 ≤ j → j < k → j < st j) {n : Nat} (hn : k ≤ n) : failN k st n < k ^ n := by
  obtain ⟨d, rfl⟩ := Nat.exists_eq_add_of_le hn
  have h1 := total k st (k + d)
  have h2 := sumUp_one (wayN k st (k + d)) (m := k + 1) (i := k) (by omega)
  have h3 := wayN_end hk h d
  omega
theorem wayN_zero {k : Nat} {st : Nat → Nat} {n j : Nat} (hn : 1 ≤ n) (hj : j < k) (h : 1 ≤ j → st j ≤ n) : wayN k st n j = 0 := by
  obtain ⟨m, rfl⟩ : ∃ m, n = m + 1 := ⟨n - 1, by omega⟩
  rw [wayN]
  by_cases h0 : j = 0
  · subst h0
    rw [if_neg (fun h2 => by have := h2.1; omega)]
    simp [rawW]
  · rw [if_pos ⟨by omega, hj, h (by omega)⟩]
theorem failN_late {k : Nat} {st : Nat → Nat} {n : Nat} (hn : 1 ≤ n ∨ k ≤ 1) (h : ∀ j, 1 ≤ j → j < k → st j ≤ n) : failN k st (n + 1) = failN k st n * k := by
  rw [failN]
  have e : outN k st n k = 0 := by
    have h1 : outN k st n k = sumUp (fun _ => 0) k := by
      unfold outN
      refine sumUp_congr fun i hi => ?_
      by_cases h9 : stopAt k st (n + 1) i
      · rw [if_pos h9]
        have h1 := h9.1
        have hn1 : 1 ≤ n := by omega
        unfold rawW
        rw [if_neg (by omega), wayN_zero hn1 hi (fun _ => h i h1 hi), wayN_zero (j := i - 1) hn1 (by omega) (fun h2 => h (i - 1) h2 (by omega))]
        simp
      · rw [if_neg h9]
    have h2 : ∀ m, sumUp (fun _ => 0) m = 0 := by
      intro m
      induction m with
      | zero => rfl
      | succ m ih => rw [sumUp, ih]
    rw [h1, h2]
  omega
theorem failN_end {k : Nat} {st : Nat → Nat} {n : Nat} (hn : 1 ≤ n ∨ k ≤ 1) (h : ∀ j, 1 ≤ j → j < k → st j ≤ n) : ∀ d, failN k st (n + d) = failN k st n * k ^ d
  | 0 => by simp
  | d + 1 => by
    rw [← Nat.add_assoc, failN_late (by omega) (fun j h1 h2 => by have := h j h1 h2; omega), failN_end hn h d, Nat.mul_assoc, ← Nat.pow_succ]
/-! reduced fractions -/
def redP (a b : Nat) : Nat := a / Nat.gcd a b
def redQ (a b : Nat) : Nat := b / Nat.gcd a b
theorem red_mul (a b : Nat) {x : Nat} (hx : 0 < x) : redP (a * x) (b * x) = redP a b ∧ redQ (a * x) (b * x) = redQ a b := by
  unfold redP redQ
  rw [Nat.gcd_mul_right]
  exact ⟨Nat.mul_div_mul_right _ _ hx, Nat.mul_div_mul_right _ _ hx⟩
theorem red_eq {a b c d : Nat} (hb : 0 < b) (hd : 0 < d) (h : a * d = c * b) : redP a b = redP c d ∧ redQ a b = redQ c d := by
  have h1 := red_mul a b hd
  have h2 := red_mul c d hb
  rw [h, Nat.mul_comm b d] at h1
  exact ⟨h1.1.symm.trans h2.1, h1.2.symm.trans h2.2⟩
theorem redP_mul {a b : Nat} (hb : 0 < b) : redP a b * b = a * redQ a b := by
  have hg : 0 < Nat.gcd a b := Nat.gcd_pos_of_pos_right _ hb
  unfold redP redQ
  have e1 : a / Nat.gcd a b * Nat.gcd a b = a := Nat.div_mul_cancel (Nat.gcd_dvd_left a b)
  have e2 : b / Nat.gcd a b * Nat.gcd a b = b := Nat.div_mul_cancel (Nat.gcd_dvd_right a b)
  generalize a / Nat.gcd a b = x at *
  generalize b / Nat.gcd a b = y at *
  generalize Nat.gcd a b = g at *
  subst e1 e2
  rw [Nat.mul_assoc, Nat.mul_comm y g]
theorem redQ_pos {a b : Nat} (hb : 0 < b) : 0 < redQ a b := Nat.div_pos (Nat.le_of_dvd hb (Nat.gcd_dvd_right a b)) (Nat.gcd_pos_of_pos_right _ hb)
theorem redP_le (a b : Nat) : redP a b ≤ a := Nat.div_le_self _ _
theorem redQ_le (a b : Nat) : redQ a b ≤ b := Nat.div_le_self _ _
theorem red_sum {a b w : Nat} (hb : 0 < b) : redP (redP a b * b + w * redQ a b) (redQ a b * b) = redP (a + w) b ∧ redQ (redP a b * b + w * redQ a b) (redQ a b * b) = redQ (a + w) b := by
  have hq := redQ_pos (a := a) hb
  refine red_eq (Nat.mul_pos hq hb) hb ?_
  rw [redP_mul hb, ← Nat.add_mul, Nat.mul_assoc]
end Go.Proofs.Ytagmohpafjncfaa.Lmb

/- The evaluator: a row of the call's own is read by another reader that yields the same values. -/
set_option linter.unusedSimpArgs false
set_option linter.unusedVariables false
namespace Go.Proofs.Ytagmohpafjncfaa
namespace Eng
theorem cellsOf_sim {len sz : Nat} {rd rd' : Nat → Nat → SV} (h : ∀ i j, i < len → j < sz → sim (rd i j) (rd' i j)) : cellsOf len sz rd = cellsOf len sz rd' := by
  unfold cellsOf
  apply List.map_congr_left
  intro q hq
  have hq' : q < len * sz := by simpa using hq
  have hz : 0 < sz := by
    rcases Nat.eq_zero_or_pos sz with h0 | h0
    · subst h0; simp at hq'
    · exact h0
  exact (h _ _ ((Nat.div_lt_iff_lt_mul hz).2 hq') (Nat.mod_lt _ hz)).1
theorem Sat.reread {P : Program} {F : Frm} {n : Nat} {env : List (Nat × SV)} {own : List Own} {c : Code} {K : Exit → St → Prop} (id : Nat) {ad : Option Addr} {e len cap sz : Nat} {rd : Nat → Nat → SV} (rd' : Nat → Nat → SV)
    (hid : own[id]? = some (.row ad e len cap sz rd)) (hs : ∀ i j, i < len → j < sz → sim (rd i j) (rd' i j)) (h : Sat P F c ⟨n, env, own.set id (.row ad e len cap sz rd')⟩ K) : Sat P F c ⟨n, env, own⟩ K := by
  rintro R0 w0 a w ⟨ob, R, hr⟩
  refine h R0 w0 a w ⟨ob, R, ?_⟩
  have hidl : id < own.length := (List.getElem?_eq_some_iff.1 hid).1
  have hblk : (Own.row ad e len cap sz rd').blk = (Own.row ad e len cap sz rd).blk := by cases ad <;> rfl
  have hrow := hr.own _ _ hid
  have hok : (Own.row ad e len cap sz rd').ok R ob w := ⟨by rw [← cellsOf_sim hs]; exact hrow.1, hrow.2.1, fun i j hi hj => by
    have h1 := hrow.2.2 i j hi hj
    have h2 := hs i j hi hj
    exact ⟨by rw [← h2.1]; exact h1.1, h2.2 R w h1.2⟩⟩
  refine ⟨hr.defers, hr.env, hr.size, ?_, ?_, hr.evo, hr.inv, hr.obM, ?_, hr.obw, hr.rr, hr.r0⟩
  · intro i x hx
    rw [List.getElem?_set] at hx
    split at hx
    · simp only [hidl, if_true, Option.some.injEq] at hx
      subst hx
      exact hok
    · exact hr.own i x hx
  · intro i j x y hij hx hy b hb1 hb2
    rw [List.getElem?_set] at hx hy
    split at hx <;> split at hy
    · omega
    · rename_i e1 _
      subst e1
      simp only [hidl, if_true, Option.some.injEq] at hx
      subst hx
      exact hr.dist id j _ y hij hid hy b (hblk ▸ hb1) hb2
    · rename_i _ e1
      subst e1
      simp only [hidl, if_true, Option.some.injEq] at hy
      subst hy
      exact hr.dist i id x _ hij hx hid b hb1 (hblk ▸ hb2)
    · exact hr.dist i j x y hij hx hy b hb1 hb2
  · exact gb_set (m := w0.w.heap.size) (Nat.le_refl _) hr.gb hid fun b hb => .inl (hblk ▸ hb)
theorem simA_getD : ∀ {l l' : List SV}, simA l l' → ∀ j, sim (l.getD j default) (l'.getD j default)
  | [], [], _, j => sim_refl _
  | [], _ :: _, h, _ => h.elim
  | _ :: _, [], h, _ => h.elim
  | s :: l, s' :: l', h, 0 => h.1
  | s :: l, s' :: l', h, j + 1 => simA_getD (l := l) (l' := l') h.2 j
theorem sim_tt : sim .tt (.b true) := ⟨rfl, fun _ _ _ => trivial⟩
theorem sim_ff : sim .ff (.b false) := ⟨rfl, fun _ _ _ => trivial⟩
end Eng
end Go.Proofs.Ytagmohpafjncfaa

/- The evaluator: a row that lies in a cell of another row of the call's own is only read from now on. -/
set_option linter.unusedSimpArgs false
set_option linter.unusedVariables false
namespace Go.Proofs.Ytagmohpafjncfaa
namespace Eng
theorem cellsOf_den {len sz : Nat} {rd rd' : Nat → Nat → SV} (h : ∀ i j, i < len → j < sz → (rd i j).den = (rd' i j).den) : cellsOf len sz rd = cellsOf len sz rd' := by
  unfold cellsOf
  apply List.map_congr_left
  intro q hq
  have hq' : q < len * sz := by simpa using hq
  have hz : 0 < sz := by
    rcases Nat.eq_zero_or_pos sz with h0 | h0
    · subst h0; simp at hq'
    · exact h0
  exact h _ _ ((Nat.div_lt_iff_lt_mul hz).2 hq') (Nat.mod_lt _ hz)
theorem Sat.settleCell {P : Program} {F : Frm} {n : Nat} {env : List (Nat × SV)} {own : List Own} {c : Code} {K : Exit → St → Prop} (id id2 : Nat) {ad a2 : Option Addr} {e len cap sz e2 len2 cap2 sz2 : Nat} {rd rd2 : Nat → Nat → SV} (rd' : Nat → Nat → SV)
    (hid : own[id]? = some (.row ad e len cap sz rd)) (h2 : own[id2]? = some (.row a2 e2 len2 cap2 sz2 rd2)) (hne : id2 ≠ id)
    (hs : ∀ i j, i < len → j < sz → sim (rd i j) (rd' i j) ∨ (rd i j = .os id2 a2 len2 cap2 ∧ rd' i j = .sl a2 len2 cap2 sz2 rd2))
    (h : Sat P F c ⟨n, env, (own.set id2 (.frz a2 len2 cap2 sz2 rd2)).set id (.row ad e len cap sz rd')⟩ K) : Sat P F c ⟨n, env, own⟩ K := by
  rintro R0 w0 a w ⟨ob, R0', hr0⟩
  have hf : frz own [.os id2 a2 len2 cap2] = own.set id2 (.frz a2 len2 cap2 sz2 rd2) := by simp [frz, frzOne, h2]
  have hlt2 : id2 < own.length := (List.getElem?_eq_some_iff.1 h2).1
  obtain ⟨R, hRR, hr⟩ := hr0.frz [.os id2 a2 len2 cap2]
  rw [hf] at hr
  have hid' : (own.set id2 (.frz a2 len2 cap2 sz2 rd2))[id]? = some (.row ad e len cap sz rd) := by rw [List.getElem?_set_ne hne]; exact hid
  have h2' : (own.set id2 (.frz a2 len2 cap2 sz2 rd2))[id2]? = some (.frz a2 len2 cap2 sz2 rd2) := by rw [List.getElem?_set_self hlt2]
  have hfz : (SV.sl a2 len2 cap2 sz2 rd2).ok R w := hr.own id2 _ h2'
  clear hr0 hf h2 hid
  generalize own.set id2 (.frz a2 len2 cap2 sz2 rd2) = own at *
  have hden : ∀ i j, i < len → j < sz → (rd i j).den = (rd' i j).den := fun i j hi hj => by
    rcases hs i j hi hj with h9 | ⟨h8, h9⟩
    · exact h9.1
    · rw [h8, h9]; rfl
  refine h R0 w0 a w ⟨ob, R, ?_⟩
  have hidl : id < own.length := (List.getElem?_eq_some_iff.1 hid').1
  have hblk : (Own.row ad e len cap sz rd').blk = (Own.row ad e len cap sz rd).blk := by cases ad <;> rfl
  have hrow := hr.own _ _ hid'
  have hcells : cellsOf len sz rd = cellsOf len sz rd' := cellsOf_den hden
  have hok : (Own.row ad e len cap sz rd').ok R ob w := ⟨by rw [← hcells]; exact hrow.1, hrow.2.1, fun i j hi hj => by
    have h1 := hrow.2.2 i j hi hj
    rcases hs i j hi hj with h9 | ⟨h8, h9⟩
    · exact ⟨by rw [← h9.1]; exact h1.1, h9.2 R w h1.2⟩
    · rw [h9]
      exact ⟨rfl, hfz⟩⟩
  refine ⟨hr.defers, hr.env, hr.size, ?_, ?_, hr.evo, hr.inv, hr.obM, ?_, hr.obw, hr.rr, hr.r0⟩
  · intro i x hx
    rw [List.getElem?_set] at hx
    split at hx
    · simp only [hidl, if_true, Option.some.injEq] at hx
      subst hx
      exact hok
    · exact hr.own i x hx
  · intro i j x y hij hx hy b hb1 hb2
    rw [List.getElem?_set] at hx hy
    split at hx <;> split at hy
    · omega
    · rename_i e1 _
      subst e1
      simp only [hidl, if_true, Option.some.injEq] at hx
      subst hx
      exact hr.dist id j _ y hij hid' hy b (hblk ▸ hb1) hb2
    · rename_i _ e1
      subst e1
      simp only [hidl, if_true, Option.some.injEq] at hy
      subst hy
      exact hr.dist i id x _ hij hx hid' b hb1 (hblk ▸ hb2)
    · exact hr.dist i j x y hij hx hy b hb1 hb2
  · exact gb_set (m := w0.w.heap.size) (Nat.le_refl _) hr.gb hid' fun b hb => .inl (hblk ▸ hb)
end Eng
end Go.Proofs.Ytagmohpafjncfaa

/- The evaluator: a row in a struct variable is only read from now on. -/
set_option linter.unusedSimpArgs false
set_option linter.unusedVariables false
namespace Go.Proofs.Ytagmohpafjncfaa
namespace Eng
theorem Sat.settleLeafF {P : Program} {F : Frm} {n : Nat} {env : List (Nat × SV)} {own : List Own} {c : Code} {K : Exit → St → Prop} (id j : Nat) {blk ty id2 len cap e sz : Nat} {ad : Option Addr} {cs : List SV} {rd : Nat → Nat → SV}
    (hb : own[id]? = some (.box blk ty cs)) (hj : cs[j]? = some (.os id2 ad len cap)) (h2 : own[id2]? = some (.row ad e len cap sz rd))
    (h : Sat P F c ⟨n, env, (own.set id2 (.frz ad len cap sz rd)).set id (.box blk ty (cs.set j (.sl ad len cap sz rd)))⟩ K) : Sat P F c ⟨n, env, own⟩ K := by
  rintro R0 w0 a w ⟨ob, R, hr⟩
  have hf : frz own [.os id2 ad len cap] = own.set id2 (.frz ad len cap sz rd) := by simp [frz, frzOne, h2]
  have hne : id2 ≠ id := fun e => by subst e; rw [hb] at h2; cases h2
  have hlt2 : id2 < own.length := (List.getElem?_eq_some_iff.1 h2).1
  obtain ⟨R', hRR, hr'⟩ := hr.frz [.os id2 ad len cap]
  rw [hf] at hr'
  have hb' : (own.set id2 (.frz ad len cap sz rd))[id]? = some (.box blk ty cs) := by rw [List.getElem?_set_ne hne]; exact hb
  have h2' : (own.set id2 (.frz ad len cap sz rd))[id2]? = some (.frz ad len cap sz rd) := by rw [List.getElem?_set_self hlt2]
  obtain ⟨g1, g2, g3, g4⟩ := hr'.own id _ hb'
  have hfz : (SV.sl ad len cap sz rd).ok R' w := hr'.own id2 _ h2'
  refine h R0 w0 a w ⟨ob, R', ?_⟩
  have hjl : j < cs.length := (List.getElem?_eq_some_iff.1 hj).1
  have hden : (cs.set j (.sl ad len cap sz rd)).map SV.den = cs.map SV.den := by
    apply List.ext_getElem?
    intro q
    rw [List.getElem?_map, List.getElem?_map, List.getElem?_set]
    split
    · rename_i e
      subst e
      simp only [hjl, if_true, hj, Option.map_some]
      rfl
    · rfl
  refine hr'.setOwn (g := blk) hb' rfl (fun b hb => by simpa [Own.blk] using hb.symm) rfl rfl rfl (Nat.le_refl _) (fun _ _ _ => rfl) ⟨g1, g2, by rw [hden]; exact g3, fun c' hc' => ?_⟩
  rcases List.mem_or_eq_of_mem_set hc' with hc' | rfl
  · exact g4 c' hc'
  · exact ⟨rfl, hfz⟩
end Eng
end Go.Proofs.Ytagmohpafjncfaa

/- The frame of the proof of 'Rows.StoppingExactSaid': from the walk of the Go function to the given statement. Written by a program (wip/shell.py). -/
namespace Go.Proofs.Ytagmohpafjncfaa.stoppingExact
open Go.ChangeShapes Go.WideShapes Go.ChangeAt Go.RowKit
open Go.ChangeMaps (open_string shut_string)
set_option linter.unusedVariables false
theorem own : ownKnob Try.prog.godebug = none := by kernel_rfl
theorem laidOut : laidOutB Try.prog = true := by kernel_rfl
def Walk : Prop := ∀ (a0 : Value) (z0 : List Int) (a1 : Int) (a2 : Int) (w : World), (Rd .u8 w a0 z0 ∧ ∀ n ∈ z0, (Lit.int .u8 n).wf = true) → (Lit.int .i64 a1).wf = true → (Lit.int .i64 a2).wf = true →
    Calls Try.prog 5 #[a0, .int .i64 a1, .int .i64 a2] w fun e w' => e = .returned (.bool true) ∧ Below w.heap.size w w'
set_option maxRecDepth 100000 in
theorem lifted (walk : Walk) (os : Os) (started : os.Started) (H : Type) (enc : TypeId × Value → H) :
    ReturnsInHanded {} Try.checked os 5 .any (Rows.stoppingExactSpec.pre6 enc Try.prog Try.f5 Rows.stoppingExactRow.domain false) (Rows.stoppingExactSpec.post enc Try.prog Try.f5 false true false false) := by
  refine returnsInHanded_of_change (C := Try.checked) own started (by kernel_rfl) Try.func5
    (ChangeSpec.witness6 (enc := enc) (C := Try.checked) false ⟨#[], #[.slice none 0 0, .int .i64 0, .int .i64 0], []⟩ 8 (by kernel_rfl) (by kernel_rfl) (by kernel_rfl) (by kernel_rfl)) ?_
  intro W base args ds gs before hval0 hW hcnd _
  have hval : ∀ (j : Nat) t v, Try.f5.params[j]? = some t → args[j]? = some v → Value.okWide Try.prog W .any base t v := hval0
  have hW' := hW
  obtain ⟨p, q, hA0, hV, rfl, hfz, hnd⟩ := hW
  have hA : DataW.TrodAll enc Try.prog W 0 (fun _ => true) true Try.f5.params.toList args.toList ds p := hA0
  rw [Try.params5] at hA hval
  obtain ⟨v0, vs0, d0, ds0, p0, q0, hargs, rfl, rfl, h0, r0⟩ := trodAll_cons hA
  obtain ⟨v1, vs1, d1, ds1, p1, q1, rfl, rfl, rfl, h1, r1⟩ := trodAll_cons r0
  obtain ⟨v2, vs2, d2, ds2, p2, q2, rfl, rfl, rfl, h2, r2⟩ := trodAll_cons r1
  obtain ⟨rfl, rfl, rfl⟩ := trodAll_nil r2
  obtain rfl : args = #[v0, v1, v2] := by cases args; simp_all
  obtain ⟨rfl, rfl⟩ := trodVars_none hV
  obtain ⟨ad0, len0, cap0, rfl⟩ := okWide_slice Try.underlying22 (hval 0 22 v0 rfl rfl)
  have k0 := h0
  have lt0 : ∀ x ∈ p0, x.block < W.heap.size := by obtain ⟨m, hm⟩ := k0; exact DataW.trod_lt m _ _ _ hm
  obtain ⟨z0, w0⟩ : ∃ zs, Rd .u8 W (.slice ad0 len0 cap0) zs ∧ ∀ n ∈ zs, (Lit.int .u8 n).wf = true := by
    obtain ⟨fuel, hf⟩ := h0
    rcases open_ints Try.underlying22 Try.underlying5 (by kernel_rfl) hf with ⟨hcs, _⟩ | ⟨x, l, c, zs, hcs, _, hl, hm, hz, _, hcell, hwz⟩
    · simp [Value.cells] at hcs
      obtain ⟨rfl, rfl, rfl⟩ := hcs
      exact ⟨[], Rd.nil _ _, by simp⟩
    · simp [Value.cells] at hcs
      obtain ⟨rfl, rfl, rfl⟩ := hcs
      exact ⟨zs.take len0, rd_of_ints hl hm hz hcell, fun n hn => hwz n (List.mem_of_mem_take hn)⟩
  obtain ⟨a1, rfl, rfl, rfl, w1⟩ := open_int Try.underlying3 (hval 1 3 v1 rfl rfl) h1
  obtain ⟨a2, rfl, rfl, rfl, w2⟩ := open_int Try.underlying3 (hval 2 3 v2 rfl rfl) h2
  clear hA0 hval0
  refine (walk _ z0 a1 a2 W w0 w1 w2).mono fun e W' ⟨he, bel⟩ => ?_
  subst he
  exact ⟨_, rfl, _, _, _, [], _, [], hW', trodAll_mk1 (shut_bool Try.underlying4 _), (trodAll_cons_mk (Below.trod laidOut (by kernel_rfl) (of_decide_eq_true (by kernel_rfl)) k0 bel lt0) (trodAll_cons_mk (shut_int Try.underlying3 w1) (trodAll_cons_mk (shut_int Try.underlying3 w2) trodAll_mk0))), rfl, bel.frame _, fun h => by cases h⟩
theorem of_walk (walk : Walk) : Rows.StoppingExactSaid :=
  OpenClaim.holds_of_wide 5 Try.f5 rfl rfl rfl rfl rfl rfl rfl ⟨rfl, rfl, rfl, rfl, rfl⟩ rfl rfl rfl rfl rfl (by kernel_rfl) Try.func5 (by kernel_rfl)
    (of_decide_eq_true (by kernel_rfl)) (by unfold Func.isWrapper; first | (rw [if_pos (by decide +kernel)]; kernel_rfl) | (rw [if_neg (by decide +kernel)]; exact ⟨rfl, rfl⟩))
    (fun os started H enc _ => lifted walk os started H enc)
end Go.Proofs.Ytagmohpafjncfaa.stoppingExact

/- The evaluator's rules as one conjunction, so that a text names them shortly. -/
set_option linter.defProp false
set_option linter.unusedVariables false
namespace Go.Proofs.Ytagmohpafjncfaa
namespace Eng
def evr0 := And.intro @dOk_some (And.intro @dOk_none (And.intro @look_hit (And.intro @look_miss (And.intro @put_some (And.intro @put_none (And.intro @ev_tmp (And.intro @ev_int (And.intro @ev_true (And.intro @ev_false (And.intro @ev_nil (And.intro @ev_str (And.intro @ev_fn (And.intro @wv_val (And.intro @wv_cond (And.intro @wv_fail (And.intro @rOpt_some (And.intro @rOpt_none (And.intro @wo_nil (And.intro @wo_move (And.intro @wo_assign (And.intro @wo_pick (And.intro @wo_bin (And.intro @wo_un (@wo_conv))))))))))))))))))))))))
def evr1 := And.intro @wo_makeSlice (And.intro @wmk_int (And.intro @wo_extract (And.intro @wo_fieldAddr (And.intro @wo_field (And.intro @wo_indexAddr (And.intro @wo_load (And.intro @wo_slice (And.intro @wo_build (And.intro @wo_len (And.intro @wo_max (And.intro @wo_min (And.intro @wo_alloc (And.intro @wo_box (And.intro @wbox_some (And.intro @wo_store (And.intro @wst_op (And.intro @wstb_box (And.intro @wst_oe (And.intro @wstr_row (And.intro @wbs_some (And.intro @wbst_slice (And.intro @wo_buildSlice (And.intro @wo_append (And.intro @wapp_nil (And.intro @wapp_own (@wappr_row))))))))))))))))))))))))))
def evr2 := And.intro @wo_call (And.intro @wo_callv (And.intro @wcallv_fn (And.intro @wo_makeFunc (And.intro @rFunc_some (And.intro @evs_nil (And.intro @evs_cons (And.intro @wo_guard (And.intro @wg_some (And.intro @wg_tt_true (And.intro @wg_tt_false (And.intro @wg_ff_true (And.intro @wg_ff_false (And.intro @wg_undef (And.intro @wg_b (And.intro @qv_val (And.intro @qv_cond (And.intro @qv_fail (And.intro @wq_nil (And.intro @wq_move (And.intro @wq_assign (And.intro @wq_pick (And.intro @wq_bin (And.intro @wq_un (@wq_conv))))))))))))))))))))))))
def evr3 := And.intro @wq_extract (And.intro @wq_fieldAddr (And.intro @wq_field (And.intro @wq_indexAddr (And.intro @wq_load (And.intro @wq_slice (And.intro @wq_build (And.intro @wq_len (And.intro @wq_max (And.intro @wq_min (And.intro @wq_call (And.intro @wq_callv (And.intro @qcallv_fn (And.intro @wq_guard (And.intro @qg_some (And.intro @qg_tt_true (And.intro @qg_tt_false (And.intro @qg_ff_true (And.intro @qg_ff_false (And.intro @qg_undef (And.intro @qg_b (And.intro @rExtract_tup (And.intro @resOf_nil (And.intro @resOf_one (And.intro @resOf_two (And.intro @resOf_three (@rExtract_tupL))))))))))))))))))))))))))
def evr4 := And.intro @List.map_cons.{0,0} (And.intro @List.map_nil.{0,0} (And.intro @List.getElem?_cons_zero.{0} (And.intro @List.getElem?_cons_succ.{0} (And.intro @List.getElem?_nil.{0} (And.intro @List.getD_cons_zero.{0} (And.intro @List.getD_cons_succ.{0} (And.intro @List.length_cons.{0} (And.intro @List.length_nil.{0} (And.intro @List.cons_append.{0} (And.intro @List.nil_append.{0} (And.intro @List.set_cons_zero.{0} (And.intro @List.set_cons_succ.{0} (And.intro @List.all_cons.{0} (And.intro @List.all_nil.{0} (And.intro @List.take_succ_cons.{0} (And.intro @List.take_zero.{0} (And.intro @List.drop_succ_cons.{0} (And.intro @List.drop_zero.{0} (And.intro @Option.bind_some.{0,0} (And.intro @Option.map_some.{0,0} (And.intro @not_false_eq_true (And.intro @and_self (And.intro @and_true (And.intro @true_and (And.intro @Nat.zero_add (And.intro @Nat.add_zero (And.intro @Bool.true_and (And.intro @Bool.and_true (@Bool.and_self)))))))))))))))))))))))))))))
def evr5 := And.intro @List.range_succ (And.intro @List.range_zero (And.intro @List.append_assoc.{0} (And.intro @Nat.lt_irrefl (And.intro @Int.toNat_natCast (And.intro @Int.natCast_nonneg (And.intro @true_implies (And.intro @false_implies (And.intro @List.foldl_cons.{0,0} (And.intro @List.foldl_nil.{0,0} (And.intro @Bool.bne_false (And.intro @Bool.bne_true (And.intro @Bool.false_bne (And.intro @Bool.true_bne (And.intro @Bool.not_true (@Bool.not_false)))))))))))))))
def evrM := And.intro @renM_tupL (And.intro @renM_i (And.intro @renM_b (And.intro @renM_os (And.intro @resM_nil (And.intro @resM_one (And.intro @resM_two (And.intro @roB_i (And.intro @roB_b (And.intro @roB_tt (And.intro @roB_ff (@roB_os)))))))))))
def evrNew := And.intro evrM (And.intro @wo_nilCheck (And.intro @wo_index (And.intro @wq_nilCheck (And.intro @wo_cap (And.intro @wo_clear (And.intro @wo_copy (And.intro @wcpy_ow (And.intro @wcpr_row (And.intro @ro_list (And.intro @ro_i (And.intro @ro_b (And.intro @ro_tt (And.intro @ro_ff (And.intro @ro_v (And.intro @ro_sl (And.intro @ro_os (And.intro @ro_el (And.intro @ro_op (And.intro @ro_fn @wq_index)))))))))))))))))))
def evrOne := And.intro evrNew (And.intro @one_i (And.intro @one_b (And.intro @one_tt (And.intro @one_ff (And.intro @one_sl (And.intro @one_os (And.intro @one_op (And.intro @one_el (And.intro @one_fn (And.intro @one_str (And.intro @one_ptr (And.intro @one_map (And.intro @one_nilFunc (And.intro @one_nilIface (And.intro @one_slice (@one_agg))))))))))))))))
def evrLib := And.intro @ne_eq.{1} (And.intro @if_true.{1} (And.intro @if_false.{1} (And.intro @forall_const.{1} (And.intro @forall_const.{0} (And.intro @decide_true (And.intro @decide_eq_true_eq (And.intro @decide_eq_false_iff_not (And.intro @beq_self_eq_true.{0} (And.intro @eq_self.{1} (And.intro @implies_true.{0} (And.intro @implies_true.{1} (And.intro @bne_self_eq_false.{0} (And.intro @Option.isSome_some.{0} (And.intro @Option.isSome_none.{0} (And.intro @Option.isNone_some.{0} (And.intro @Option.isNone_none.{0} (And.intro @and_false (And.intro @false_and (And.intro @Bool.false_eq_true (And.intro @Bool.true_eq_false (And.intro @look_nil (And.intro @List.contains_cons.{0} (And.intro @List.contains_nil.{0} (And.intro @List.elem_cons.{0} (And.intro @List.elem_nil.{0} (And.intro @Bool.or_false (And.intro @Bool.or_true (And.intro @Bool.true_or (@Bool.false_or)))))))))))))))))))))))))))))
def evrEq0 := And.intro @rPick.eq_1 (And.intro @rPick.eq_2 (And.intro @rPick.eq_3 (And.intro @rPick.eq_4 (And.intro @rPick.eq_5 (And.intro @rIbin.eq_1 (And.intro @rIbin.eq_2 (And.intro @rIbin.eq_3 (And.intro @rIbin.eq_4 (And.intro @rIbin.eq_5 (And.intro @rIbin.eq_6 (And.intro @rIbin.eq_7 (And.intro @rIbin.eq_8 (And.intro @rIbin.eq_9 (And.intro @rIbin.eq_10 (And.intro @rIbin.eq_11 (And.intro @rIbin.eq_12 (And.intro @rIbin.eq_13 (And.intro @rIbin.eq_14 (@rIbin.eq_15)))))))))))))))))))
def evrEq1 := And.intro @rIbin.eq_16 (And.intro @rBin.eq_1 (And.intro @rBin.eq_2 (And.intro @rBin.eq_3 (And.intro @rBin.eq_4 (And.intro @rBin.eq_5 (And.intro @wideB.eq_1 (And.intro @wideB.eq_2 (And.intro @wideB.eq_3 (And.intro @wideB.eq_4 (And.intro @wideB.eq_5 (And.intro @eqB.eq_1 (And.intro @eqB.eq_2 (And.intro @eqB.eq_3 (And.intro @strB.eq_1 (And.intro @strB.eq_2 (And.intro @strB.eq_3 (And.intro @strB.eq_4 (And.intro @strB.eq_5 (@strB.eq_6)))))))))))))))))))
def evrEq2 := And.intro @strB.eq_7 (And.intro @strB.eq_8 (And.intro @rUn.eq_1 (And.intro @rUn.eq_2 (And.intro @rUn.eq_3 (And.intro @rUn.eq_4 (And.intro @rUn.eq_5 (And.intro @rUn.eq_6 (And.intro @rConv.eq_1 (And.intro @rConv.eq_4 (And.intro @strRd.eq_1 (And.intro @strRd.eq_2 (And.intro @rConv.eq_2 (And.intro @rConv.eq_3 (And.intro @rFieldAddr.eq_1 (And.intro @rFieldAddr.eq_2 (And.intro @rFieldAddr.eq_3 (And.intro @rFieldAddr.eq_4 (And.intro @rFieldAddr.eq_5 (And.intro @rIndexAddr.eq_1 (And.intro @rIndexAddr.eq_2 (And.intro @rIndexAddr.eq_3 (And.intro @rIndexAddr.eq_4 (@rIndexAddr.eq_5)))))))))))))))))))))))
def evrEq3 := And.intro @rIndexAddr.eq_6 (And.intro @rLoad.eq_1 (And.intro @rLoad.eq_2 (And.intro @rLoad.eq_3 (And.intro @rLoad.eq_4 (And.intro @rField.eq_1 (And.intro @rField.eq_2 (And.intro @rLen.eq_1 (And.intro @rLen.eq_2 (And.intro @rLen.eq_3 (And.intro @rLen.eq_4 (And.intro @rLen.eq_5 (And.intro @rLen.eq_6 (And.intro @rCap.eq_1 (And.intro @rCap.eq_2 (And.intro @rCap.eq_3 (And.intro @rMax.eq_1 (And.intro @rMax.eq_2 (And.intro @rMin.eq_1 (@rMin.eq_2)))))))))))))))))))
def evrEq4 := And.intro @rSlice.eq_1 (And.intro @rSlice.eq_2 (And.intro @rSlice.eq_3 (And.intro @isRow.eq_1 (And.intro @isRow.eq_2 (And.intro @WCut.eq_1 (And.intro @WCut.eq_2 (And.intro @WZer.eq_1 (And.intro @WZer.eq_2 (And.intro @rBuild.eq_1 (And.intro @rBuild.eq_2 (And.intro @toB.eq_1 (And.intro @toB.eq_2 (And.intro @toB.eq_3 (And.intro @toB.eq_4 (And.intro @asRead.eq_1 (And.intro @asRead.eq_2 (And.intro @asRead.eq_3 (And.intro @asAny.eq_1 (@asAny.eq_2)))))))))))))))))))
def evrEq5 := And.intro @bound.eq_1 (And.intro @bound.eq_2 (And.intro @flatOk.eq_1 (And.intro @flatOk.eq_2 (And.intro @flatOk.eq_3 (And.intro @flat.eq_1 (And.intro @flat.eq_2 (And.intro @lay.eq_1 (And.intro @fillS.eq_1 (And.intro @fillS.eq_2 (And.intro @fillS.eq_3 (And.intro @placesOf.eq_1 (And.intro @thenK.eq_1 (And.intro @thenK.eq_2 (And.intro @blockK.eq_1 (And.intro @blockK.eq_2 (And.intro @retK.eq_1 (And.intro @retK.eq_2 (And.intro @retK.eq_3 (@resHolds.eq_1)))))))))))))))))))
def evrEq6 := And.intro @resHolds.eq_2 (And.intro @resVR.eq_1 (And.intro @resVR.eq_2 (And.intro @VR.holds.eq_1 (And.intro @VR.holds.eq_2 (And.intro @VR.holds.eq_3 (And.intro @roArg.eq_1 (And.intro @roArg.eq_2 (And.intro @roPtr.eq_1 (And.intro @roPtr.eq_2 (And.intro @roArgS.eq_1 (And.intro @roArgS.eq_2 (And.intro @roArgS.eq_3 (And.intro @roSl.eq_1 (And.intro @frz.eq_1 (And.intro @frzOne.eq_1 (And.intro @frzOne.eq_2 (And.intro @rNilCheck.eq_1 (And.intro @rNilCheck.eq_2 (@rNilCheck.eq_3)))))))))))))))))))
def evrEq7 := And.intro @rNilCheck.eq_4 (And.intro @rNilCheck.eq_5 (And.intro @rNilCheck.eq_6 (And.intro @rIndex.eq_1 (And.intro @rIndex.eq_2 (And.intro @rIndex.eq_3 (And.intro @retM.eq_1 (And.intro @retM.eq_2 (And.intro @retM.eq_3 (And.intro @retMK.eq_1 (And.intro @argM.eq_1 (And.intro @argM.eq_2 (And.intro @argM.eq_3 (And.intro @argM.eq_4 (And.intro @argM.eq_5 (And.intro @WClr.eq_1 (And.intro @WClr.eq_2 (And.intro @WBT.eq_1 (And.intro @WBT.eq_2 (@WBT.eq_3)))))))))))))))))))
def evrMp := And.intro @wo_lookup (And.intro @wlk_mp (And.intro @wlo_some (And.intro @wls_two (And.intro @wls_one (And.intro @wo_makeMap (And.intro @wmkp_some (And.intro @wo_mapUpdate (And.intro @wmu_mp (And.intro @wmo_some (And.intro @keyS.eq_1 (And.intro @keyS.eq_2 (And.intro @keyIs.eq_1 (@keyIs.eq_2)))))))))))))
def evrNil := And.intro evrMp <| And.intro @rBinN.eq_1 (And.intro @rBinN.eq_2 (And.intro @rNil.eq_1 (And.intro @rNil.eq_2 (And.intro @nilC_tmp (And.intro @nilC_int (And.intro @nilC_bool (And.intro @nilC_string (And.intro @nilC_slice (And.intro @nilC_nil (And.intro @nilC_ptr (And.intro @nilC_map (And.intro @nilC_func (And.intro @nilC_global @nilC_fn)))))))))))))
def evrEq8 := And.intro evrNil <| And.intro @WByt.eq_1 <| And.intro @WBT.eq_4 (And.intro @WBT.eq_5 (And.intro @keepW.eq_1 (@ty)))
def evrEq := And.intro evrEq0 (And.intro evrEq1 (And.intro evrEq2 (And.intro evrEq3 (And.intro evrEq4 (And.intro evrEq5 (And.intro evrEq6 (And.intro evrEq7 (evrEq8))))))))
def evl0 := And.intro @Le.eq_1 (And.intro @envLe.eq_1 (And.intro @envLe.eq_2 (And.intro @ownLe.eq_1 (And.intro @ownLe.eq_2 (And.intro @ownLe.eq_3 (And.intro @Own.le.eq_1 (And.intro @Own.le.eq_2 (And.intro @Own.le.eq_3 (And.intro @Own.le.eq_4 (And.intro @Own.le.eq_5 (And.intro @Own.le.eq_6 <| And.intro @Own.le.eq_7 <| And.intro @fnEq_same (And.intro @envSim.eq_1 (And.intro @envSim.eq_2 (And.intro @idSim.eq_1 (And.intro @idSim.eq_2 (And.intro @idSim.eq_3 (And.intro @Option.some.injEq.{0} (And.intro @eq_self.{1} (@true_or)))))))))))))))))))
def evl1 := And.intro @false_or (And.intro @or_false (And.intro @exists_eq_left'.{1} (And.intro @exists_eq_left.{1} (And.intro @exists_eq.{1} (And.intro @exists_eq'.{1} (And.intro @SV.i.injEq (And.intro @SV.b.injEq (And.intro @SV.op.injEq (And.intro @SV.os.injEq (And.intro @rdEq_same (And.intro @exists_false.{1} (And.intro @and_false (@false_and)))))))))))))
def evl := And.intro evl0 (evl1)
def evr := And.intro evrEq (And.intro evrLib (And.intro evrOne (And.intro evr0 (And.intro evr1 (And.intro evr2 (And.intro evr3 (And.intro evr4 (evr5))))))))
end Eng
end Go.Proofs.Ytagmohpafjncfaa

/- Package natural, for the evaluator: its contracts, out of the walks. -/
set_option linter.unusedSimpArgs false
set_option linter.unusedVariables false
namespace Go.Proofs.Ytagmohpafjncfaa
open Eng Lmb Go.RowKit
def Nats (s : SV) (n : Nat) : Prop := ∃ (a : Option Addr) (cap sz : Nat) (rd : Nat → Nat → SV) (xs : List Int), s = .sl a xs.length cap sz rd ∧ (xs.length = 0 ∨ sz = 1) ∧ (∀ i, i < xs.length → rd i 0 = .i .i64 (xs.getD i 0)) ∧ Dig xs n
abbrev zoneOf (R : Nat → Prop) (w : World) : Zn.Zone := ⟨fun b => R b ∨ w.heap.size ≤ b, w.heap.size, fun b h => .inr h⟩
theorem nat_to {R : Nat → Prop} {w : World} {s : SV} {n : Nat} (hs : s.ok R w) (hn : Nats s n) (hR : ∀ b, R b → b < w.heap.size) : @Zn.NatAt (zoneOf R w) w s.den n := by
  obtain ⟨a, cap, sz, rd, xs, rfl, hz, hrd, hd⟩ := hn
  obtain ⟨h1, h2, h3⟩ := hs
  refine ⟨xs, ⟨a, cap, rfl, h1, ⟨h2, Nat.le_refl _, ?_⟩, ?_⟩, hd⟩
  · rcases h3 with h3 | ⟨blk, off, rfl, hr, _⟩
    · exact .inl h3
    · exact .inr fun x hx => by cases hx; exact .inl hr
  · rcases h3 with h3 | ⟨blk, off, rfl, hr, hc⟩
    · exact .inl h3
    rcases hz with hz | rfl
    · exact .inl hz
    · refine .inr ⟨blk, off, rfl, hR _ hr, fun i hi => ?_⟩
      have := (hc i 0 hi (by omega)).1
      rw [hrd i hi, Nat.mul_one, Nat.add_zero] at this
      exact this
theorem nat_from {R : Nat → Prop} {w w' : World} {v : Value} {n : Nat} (h : @Zn.NatAt (zoneOf R w) w' v n) : ∃ s, s.den = v ∧ Nats s n ∧ s.ok (fun b => R b ∨ (w.heap.size ≤ b ∧ b < w'.heap.size)) w' := by
  obtain ⟨xs, ⟨a, cap, rfl, h1, ⟨h2, _, hz⟩, h3⟩, hd⟩ := h
  refine ⟨.sl a xs.length cap 1 (fun i _ => .i .i64 (xs.getD i 0)), rfl, ⟨a, cap, 1, _, xs, rfl, .inr rfl, fun i _ => rfl, hd⟩, h1, h2, ?_⟩
  rcases h3 with h3 | ⟨b, off, rfl, hb, hc⟩
  · exact .inl h3
  · by_cases h0 : xs.length = 0
    · exact .inl h0
    · refine .inr ⟨b, off, rfl, ?_, fun i j hi hj => ⟨?_, rfl, trivial⟩⟩
      · rcases hz with hz | hz
        · exact absurd hz h0
        · rcases hz _ rfl with hr | hr
          · exact .inl hr
          · exact .inr ⟨hr, hb⟩
      · obtain rfl : j = 0 := by omega
        rw [Nat.mul_one, Nat.add_zero]
        exact hc i hi
theorem ofCalls {F : Frm} {P : Program} {f : FuncId} {fn : Func} {c : Code} {args : List SV} {post : SV → Prop} (hf : P.funcs[f]? = some fn) (hb : fn.body = some c) (hname : (fn.name == "runtime.NumGoroutine") = false)
    (h : ∀ (R : Nat → Prop) (w : World), (∀ s ∈ args, s.ok R w) → (∀ b, R b → b < w.heap.size) → Calls P f (args.map SV.den).toArray w fun e w' => ∃ r, e = .returned r.den ∧ post r ∧ r.ok (fun b => R b ∨ (w.heap.size ≤ b ∧ b < w'.heap.size)) w' ∧ Below w.heap.size w w') :
    Contract F P f args post := by
  refine ⟨fun vs w => ?_, fun R w hinv hargs hR => ?_⟩
  · have hn : ¬ fn.name = "runtime.NumGoroutine" := by simpa using hname
    simp [callFunc, hf, hn, hb]
  · refine (h R w hargs fun b hb => (hR b hb).1).mono ?_
    rintro e w' ⟨r, he, hp, hok, hbel⟩
    exact ⟨r, he, hp, hok, ⟨hbel.os, hbel.tape, hbel.output, hbel.size, fun b hb _ => hbel.block b hb⟩, F.stab w w' w.heap.size hinv (fun b hm => F.lt w b hinv hm) fun b hb => hbel.block b hb⟩
theorem tup2_ok {R : Nat → Prop} {w : World} {s t : SV} (hs : s.ok R w) (ht : t.ok R w) : (tupL [s, t]).ok R w := by
  intro j hj
  match j, hj with
  | 0, _ => exact hs
  | 1, _ => exact ht
theorem tup3_ok {R : Nat → Prop} {w : World} {s t u : SV} (hs : s.ok R w) (ht : t.ok R w) (hu : u.ok R w) : (tupL [s, t, u]).ok R w := by
  intro j hj
  match j, hj with
  | 0, _ => exact hs
  | 1, _ => exact ht
  | 2, _ => exact hu
theorem Nats.nil {sz : Nat} {rd : Nat → Nat → SV} : Nats (.sl none 0 0 sz rd) 0 := ⟨none, 0, sz, rd, [], rfl, .inl rfl, fun i hi => absurd hi (Nat.not_lt_zero _), Dig.nil⟩
def natRes (n : Nat) (r : SV) : Prop := ∃ s, r = tupL [s, .i .i64 0] ∧ Nats s n
section
variable (F : Frm) {sa sb : SV} {m n : Nat}
theorem addC (ha : Nats sa m) (hb : Nats sb n) (h : ((m + n : Nat) : Int) < pw 256) : Contract F Try.prog 61 [sa, sb] (natRes (m + n)) := by
  refine ofCalls Try.func61 rfl (by kernel_rfl) fun R w hargs hR => ?_
  refine (@Zn.add_nat (zoneOf R w) _ _ _ _ w (nat_to (hargs sa (by simp)) ha hR) (nat_to (hargs sb (by simp)) hb hR) h).mono ?_
  rintro e w' ⟨v, rfl, hv, hbel⟩
  obtain ⟨s, rfl, hs, hok⟩ := nat_from hv
  exact ⟨tupL [s, .i .i64 0], rfl, ⟨s, rfl, hs⟩, tup2_ok hok trivial, hbel⟩
theorem mulC (ha : Nats sa m) (hb : Nats sb n) (hm : (m : Int) < pw 256) (hn : (n : Int) < pw 256) (h : ((m * n : Nat) : Int) < pw 256) : Contract F Try.prog 62 [sa, sb] (natRes (m * n)) := by
  refine ofCalls Try.func62 rfl (by kernel_rfl) fun R w hargs hR => ?_
  refine (@Zn.mul_nat (zoneOf R w) _ _ _ _ w (nat_to (hargs sa (by simp)) ha hR) (nat_to (hargs sb (by simp)) hb hR) hm hn h).mono ?_
  rintro e w' ⟨v, rfl, hv, hbel⟩
  obtain ⟨s, rfl, hs, hok⟩ := nat_from hv
  exact ⟨tupL [s, .i .i64 0], rfl, ⟨s, rfl, hs⟩, tup2_ok hok trivial, hbel⟩
theorem subC (ha : Nats sa m) (hb : Nats sb n) (hm : (m : Int) < pw 256) (h : n ≤ m) : Contract F Try.prog 32 [sa, sb] (natRes (m - n)) := by
  refine ofCalls Try.func32 rfl (by kernel_rfl) fun R w hargs hR => ?_
  refine (@Zn.sub_nat (zoneOf R w) _ _ _ _ w (nat_to (hargs sa (by simp)) ha hR) (nat_to (hargs sb (by simp)) hb hR) hm h).mono ?_
  rintro e w' ⟨v, rfl, hv, hbel⟩
  obtain ⟨s, rfl, hs, hok⟩ := nat_from hv
  exact ⟨tupL [s, .i .i64 0], rfl, ⟨s, rfl, hs⟩, tup2_ok hok trivial, hbel⟩
theorem gcdC (ha : Nats sa m) (hb : Nats sb n) (hm : (m : Int) < pw 256) (hn : (n : Int) < pw 256) : Contract F Try.prog 77 [sa, sb] (fun r => Nats r (Nat.gcd m n)) := by
  refine ofCalls Try.func77 rfl (by kernel_rfl) fun R w hargs hR => ?_
  refine (@Zn.gcd_calls (zoneOf R w) _ _ _ _ w (nat_to (hargs sa (by simp)) ha hR) (nat_to (hargs sb (by simp)) hb hR) hm hn).mono ?_
  rintro e w' ⟨v, rfl, hv, hbel⟩
  obtain ⟨s, rfl, hs, hok⟩ := nat_from hv
  exact ⟨s, rfl, hs, hok, hbel⟩
theorem divModC (ha : Nats sa m) (hb : Nats sb n) (hm : (m : Int) < pw 256) (hn : 0 < n) : Contract F Try.prog 78 [sa, sb] (fun r => ∃ s t, r = tupL [s, t, .i .i64 0] ∧ Nats s (m / n) ∧ Nats t (m % n)) := by
  refine ofCalls Try.func78 rfl (by kernel_rfl) fun R w hargs hR => ?_
  refine (@Zn.divmod_nat (zoneOf R w) _ _ _ _ w (nat_to (hargs sa (by simp)) ha hR) (nat_to (hargs sb (by simp)) hb hR) hm hn).mono ?_
  rintro e w' ⟨q, r, rfl, hq, hr, hbel⟩
  obtain ⟨s, rfl, hs, hok⟩ := nat_from hq
  obtain ⟨t, rfl, ht, hok2⟩ := nat_from hr
  exact ⟨tupL [s, t, .i .i64 0], rfl, ⟨s, t, rfl, hs, ht⟩, tup3_ok hok hok2 trivial, hbel⟩
theorem cloneNatC (ha : Nats sa m) (h : (m : Int) < pw 256) : Contract F Try.prog 74 [sa] (fun r => Nats r m) := by
  refine ofCalls Try.func74 rfl (by kernel_rfl) fun R w hargs hR => ?_
  refine (@Zn.clone_nat (zoneOf R w) _ _ w (nat_to (hargs sa (by simp)) ha hR) h).mono ?_
  rintro e w' ⟨v, rfl, hv, hbel⟩
  obtain ⟨s, rfl, hs, hok⟩ := nat_from hv
  exact ⟨s, rfl, hs, hok, hbel⟩
theorem natCmpC (ha : Nats sa m) (hb : Nats sb n) : Contract F Try.prog 57 [sa, sb] (fun r => r = .i .i64 (cmpI m n)) := by
  refine ofCalls Try.func57 rfl (by kernel_rfl) fun R w hargs hR => ?_
  refine (@Zn.compare_nat (zoneOf R w) _ _ _ _ w (nat_to (hargs sa (by simp)) ha hR) (nat_to (hargs sb (by simp)) hb hR)).mono ?_
  rintro e w' ⟨rfl, d, rfl⟩
  exact ⟨.i .i64 (cmpI m n), rfl, rfl, trivial, @Zn.Below.drewN' w d⟩
end
end Go.Proofs.Ytagmohpafjncfaa

/- Numbers and fractions, by the evaluator: natural.From, fraction.product. -/
set_option linter.unusedSimpArgs false
set_option linter.unusedVariables false
namespace Go.Proofs.Ytagmohpafjncfaa
open Eng Lmb
def limbN (n p : Nat) : Int := ((n / 1073741824 ^ p % 1073741824 : Nat) : Int)
theorem limbN_succ (n p : Nat) : limbN n (p + 1) = limbN (n / 1073741824) p := by
  unfold limbN
  rw [Nat.pow_succ, Nat.mul_comm, ← Nat.div_div_eq_div_mul]
theorem limbN_list (n : Nat) : ∀ i, (List.range (i + 1)).map (limbN n) = limbN n 0 :: (List.range i).map (limbN (n / 1073741824)) := by
  intro i
  rw [List.range_succ_eq_map, List.map_cons, List.map_map]
  congr 1
  apply List.map_congr_left
  intro p _
  exact limbN_succ n p
theorem dig_range : ∀ (i n : Nat), n / 1073741824 ^ i = 0 → (i = 0 ∨ 0 < n / 1073741824 ^ (i - 1)) → Dig ((List.range i).map (limbN n)) n
  | 0, n, h0, _ => by
    simp at h0
    subst h0
    exact Dig.nil
  | i + 1, n, h0, h1 => by
    have h1' : 0 < n / 1073741824 ^ i := by
      rcases h1 with h | h
      · omega
      · simpa using h
    have e0 : n / 1073741824 / 1073741824 ^ i = 0 := by
      rw [Nat.div_div_eq_div_mul, Nat.mul_comm, ← Nat.pow_succ]; exact h0
    have ih := dig_range i (n / 1073741824) e0 (by
      cases i with
      | zero => exact .inl rfl
      | succ i =>
        right
        rw [Nat.add_sub_cancel, Nat.div_div_eq_div_mul, Nat.mul_comm, ← Nat.pow_succ]
        exact h1')
    rw [limbN_list]
    refine ⟨?_, ?_, ?_⟩
    · rw [limbs_cons]
      exact ⟨by unfold limbN; omega, ih.limbs⟩
    · cases i with
      | zero =>
        simp only [List.range_zero, List.map_nil]
        rw [norm_one]
        have e : n / 1073741824 ^ 0 = n := by simp
        have e1 : n / 1073741824 = 0 := by simpa using e0
        rw [e] at h1'
        unfold limbN
        rw [e]
        omega
      | succ i =>
        have := ih.norm
        rw [limbN_list] at this ⊢
        rw [norm_cons]
        exact this
    · rw [val_cons, ih.val]
      unfold limbN
      have e : n / 1073741824 ^ 0 = n := by simp
      rw [e]
      omega
theorem nats_of {a : Option Addr} {i cap n : Nat} {rd : Nat → Nat → SV} {xs : List Int} (hl : xs.length = i) (h : ∀ p, p < i → rd p 0 = .i .i64 (xs.getD p 0)) (hd : Dig xs n) : Nats (.sl a i cap 1 rd) n := by
  subst hl
  exact ⟨a, cap, 1, rd, xs, rfl, .inr rfl, h, hd⟩
theorem nats_limbN {a : Option Addr} {i cap n : Nat} {rd : Nat → Nat → SV} (h : ∀ p, p < i → rd p 0 = .i .i64 (limbN n p)) (h0 : n / 1073741824 ^ i = 0) (h1 : i = 0 ∨ 0 < n / 1073741824 ^ (i - 1)) : Nats (.sl a i cap 1 rd) n :=
  nats_of (by simp) (fun p hp => by rw [h p hp]; simp [List.getD, hp]) (dig_range i n h0 h1)
set_option maxRecDepth 100000 in
theorem fromC (F : Frm) (n : Nat) (hn : n < 9223372036854775808) : Contract F Try.prog 71 [.i .i64 n] (natRes n) := by
  refine contract_of Try.func71 rfl (by kernel_rfl) ?_
  simp only [Try.ntmps71, argEnv]
  (repeat refine Sat.seq ?_)
  (refine Sat.region_k fun k hk => ?_; simp -implicitDefEqProofs only [evr, id, reduceCtorEq, reduceIte, Nat.reduceMul, Nat.reduceAdd, Nat.reduceLT, Nat.reduceLeDiff, Nat.reduceEqDiff, Int.reduceLT, Int.reduceBEq, Int.reduceBNe, Nat.reduceBEq, List.append_nil, Int.toNat_zero, Nat.sub_self]; refine hk _ ?_; clear hk k; try show Sat _ _ _ _ _)
  (repeat refine Sat.seq ?_)
  (refine Sat.region_k fun k hk => ?_; simp -implicitDefEqProofs only [evr, id, reduceCtorEq, reduceIte, Nat.reduceMul, Nat.reduceAdd, Nat.reduceLT, Nat.reduceLeDiff, Nat.reduceEqDiff, Int.reduceLT, Int.reduceBEq, Int.reduceBNe, Nat.reduceBEq, List.append_nil, Int.toNat_zero, Nat.sub_self]; refine hk _ ?_; clear hk k; try show Sat _ _ _ _ _)
  refine Sat.cond_b rfl (fun h => ?_) (fun h => ?_)
  · exfalso
    simp only [decide_eq_true_eq] at h
    omega
  refine Sat.skip ?_
  simp only [thenK]
  (repeat refine Sat.seq ?_)
  (refine Sat.region_k fun k hk => ?_; simp -implicitDefEqProofs only [evr, id, reduceCtorEq, reduceIte, Nat.reduceMul, Nat.reduceAdd, Nat.reduceLT, Nat.reduceLeDiff, Nat.reduceEqDiff, Int.reduceLT, Int.reduceBEq, Int.reduceBNe, Nat.reduceBEq, List.append_nil, Int.toNat_zero, Nat.sub_self]; refine hk _ ?_; clear hk k; try show Sat _ _ _ _ _)
  (repeat refine Sat.seq ?_)
  refine Sat.block ?_
  refine Sat.adopt 4 3 1 (fun p _ => .i .i64 (limbN n p)) rfl ?_
  refine Sat.loop (ι := Nat × Option Addr × Nat) (fun x => ⟨17, [(0, .i .i64 (n / 1073741824 ^ x.1 : Nat)), (4, .os 0 x.2.1 x.1 x.2.2)], [.row x.2.1 3 x.1 x.2.2 1 (fun p _ => .i .i64 (limbN n p))]⟩)
    (fun x => x.1 ≤ 3 ∧ (x.1 = 0 ∨ 0 < n / 1073741824 ^ (x.1 - 1))) (fun x => 3 - x.1) (0, none, 0) ⟨by omega, .inl rfl⟩ (by simp only [Nat.pow_zero, Nat.div_one]; simp -implicitDefEqProofs only [evr, id, reduceCtorEq, reduceIte, Nat.reduceMul, Nat.reduceAdd, Nat.reduceLT, Nat.reduceLeDiff, Nat.reduceEqDiff, Int.reduceLT, Int.reduceBEq, Int.reduceBNe, Nat.reduceBEq, List.append_nil, Int.toNat_zero, Nat.sub_self, evl]) ?_
  rintro ⟨i, a, c⟩ ⟨hi, hpos⟩
  simp only at hi hpos ⊢
  (repeat refine Sat.seq ?_)
  (refine Sat.region_k fun k hk => ?_; simp -implicitDefEqProofs only [evr, id, reduceCtorEq, reduceIte, Nat.reduceMul, Nat.reduceAdd, Nat.reduceLT, Nat.reduceLeDiff, Nat.reduceEqDiff, Int.reduceLT, Int.reduceBEq, Int.reduceBNe, Nat.reduceBEq, List.append_nil, Int.toNat_zero, Nat.sub_self]; refine hk _ ?_; clear hk k; try show Sat _ _ _ _ _)
  (repeat refine Sat.seq ?_)
  refine Sat.cond_b rfl (fun h => ?_) (fun h => ?_)
  · simp only [decide_eq_true_eq] at h
    have hi3 : i < 3 := by
      rcases (show i < 3 ∨ i = 3 by omega) with h3 | h3
      · exact h3
      · subst h3
        have : n / 1073741824 ^ 3 = 0 := Nat.div_eq_of_lt (Nat.lt_trans hn (by decide))
        omega
    refine Sat.skip ?_
    simp only [thenK]
    (repeat refine Sat.seq ?_)
    refine Sat.block ?_
    (repeat refine Sat.seq ?_)
    (refine Sat.region_k fun k hk => ?_; simp -implicitDefEqProofs only [evr, id, reduceCtorEq, reduceIte, Nat.reduceMul, Nat.reduceAdd, Nat.reduceLT, Nat.reduceLeDiff, Nat.reduceEqDiff, Int.reduceLT, Int.reduceBEq, Int.reduceBNe, Nat.reduceBEq, List.append_nil, Int.toNat_zero, Nat.sub_self])
    intro blk
    refine ⟨⟨by unfold maxLen; omega, by omega⟩, fun a2 cap2 => ?_⟩
    (refine hk _ ?_; clear hk k; try show Sat _ _ _ _ _)
    (repeat refine Sat.seq ?_)
    (refine Sat.region_k fun k hk => ?_; simp -implicitDefEqProofs only [evr, id, reduceCtorEq, reduceIte, Nat.reduceMul, Nat.reduceAdd, Nat.reduceLT, Nat.reduceLeDiff, Nat.reduceEqDiff, Int.reduceLT, Int.reduceBEq, Int.reduceBNe, Nat.reduceBEq, List.append_nil, Int.toNat_zero, Nat.sub_self])
    have ew : (n / 1073741824 ^ i : Nat) < 9223372036854775808 := Nat.lt_of_le_of_lt (Nat.div_le_self _ _) hn
    have hp : 0 < n / 1073741824 ^ i := by generalize n / 1073741824 ^ i = q at h; omega
    refine ⟨by decide, ?_⟩
    refine hk _ ?_
    simp only [thenK, blockK]
    refine ⟨(i + 1, a2, cap2), ⟨by show i + 1 ≤ 3; omega, .inr (by show 0 < n / 1073741824 ^ (i + 1 - 1); rw [Nat.add_sub_cancel]; exact hp)⟩, by show 3 - (i + 1) < 3 - i; omega, ?_⟩
    simp -implicitDefEqProofs only [evr, id, reduceCtorEq, reduceIte, Nat.reduceMul, Nat.reduceAdd, Nat.reduceLT, Nat.reduceLeDiff, Nat.reduceEqDiff, Int.reduceLT, Int.reduceBEq, Int.reduceBNe, Nat.reduceBEq, List.append_nil, Int.toNat_zero, Nat.sub_self, evl]
    refine ⟨?_, rdEq_one (rdEq_refl _ _ _) ?_⟩
    · have e1 : ((2 : Int) ^ min (Int.toNat 30) IntKind.i64.bits) = 1073741824 := by decide
      rw [e1, Int.fdiv_eq_ediv_of_nonneg _ (by decide), Nat.pow_succ, ← Nat.div_div_eq_div_mul]
      generalize n / 1073741824 ^ i = q
      omega
    · rw [Zn.and_limb]
      unfold limbN
      generalize n / 1073741824 ^ i = q
      congr 1
  · simp only [decide_eq_false_iff_not] at h
    refine Sat.exit ?_
    simp only [thenK, blockK, reduceIte]
    (repeat refine Sat.seq ?_)
    (refine Sat.region_k fun k hk => ?_; simp -implicitDefEqProofs only [evr, id, reduceCtorEq, reduceIte, Nat.reduceMul, Nat.reduceAdd, Nat.reduceLT, Nat.reduceLeDiff, Nat.reduceEqDiff, Int.reduceLT, Int.reduceBEq, Int.reduceBNe, Nat.reduceBEq, List.append_nil, Int.toNat_zero, Nat.sub_self]; refine hk _ ?_; clear hk k; try show Sat _ _ _ _ _)
    refine Sat.ret ?_
    simp only [Try.results71, evr, id, reduceCtorEq, reduceIte, Nat.reduceMul, Nat.reduceAdd, Nat.reduceLT, Nat.reduceLeDiff, Nat.reduceEqDiff, Int.reduceLT, Int.reduceBEq, Int.reduceBNe, Nat.reduceBEq, List.append_nil, Int.toNat_zero, Nat.sub_self]
    exact ⟨_, rfl, nats_limbN (fun p _ => rfl) (by generalize n / 1073741824 ^ i = q at h; omega) hpos⟩
section
variable (F : Frm) {sa sb : SV} {m n : Nat}
set_option maxRecDepth 100000 in
theorem fractionProductC (ha : Nats sa m) (hb : Nats sb n) (hm : (m : Int) < pw 256) (hn : (n : Int) < pw 256) (h : ((m * n : Nat) : Int) < pw 256) : Contract F Try.prog 35 [sa, sb] (fun r => Nats r (m * n)) := by
  have ha' := ha
  have hb' := hb
  obtain ⟨a1, c1, z1, r1, x1, rfl, _⟩ := ha
  obtain ⟨a2, c2, z2, r2, x2, rfl, _⟩ := hb
  refine contract_of Try.func35 rfl (by kernel_rfl) ?_
  simp only [Try.ntmps35, argEnv]
  (repeat refine Sat.seq ?_)
  (refine Sat.region_k fun k hk => ?_; simp -implicitDefEqProofs only [evr, id, reduceCtorEq, reduceIte, Nat.reduceMul, Nat.reduceAdd, Nat.reduceLT, Nat.reduceLeDiff, Nat.reduceEqDiff, Int.reduceLT, Int.reduceBEq, Int.reduceBNe, Nat.reduceBEq, List.append_nil, Int.toNat_zero, Nat.sub_self]; refine hk _ ?_; clear hk k; try show Sat _ _ _ _ _)
  (repeat refine Sat.seq ?_)
  (refine Sat.region_k fun k hk => ?_; simp -implicitDefEqProofs only [evr, id, reduceCtorEq, reduceIte, Nat.reduceMul, Nat.reduceAdd, Nat.reduceLT, Nat.reduceLeDiff, Nat.reduceEqDiff, Int.reduceLT, Int.reduceBEq, Int.reduceBNe, Nat.reduceBEq, List.append_nil, Int.toNat_zero, Nat.sub_self])
  refine wcall_slice (mulC F ha' hb' hm hn h) rfl rfl ?_
  rintro r ⟨s, rfl, hs⟩
  have hs' := hs
  obtain ⟨a, cap, sz, rd, xs, rfl, _⟩ := hs
  simp -implicitDefEqProofs only [evr, id, reduceCtorEq, reduceIte, Nat.reduceMul, Nat.reduceAdd, Nat.reduceLT, Nat.reduceLeDiff, Nat.reduceEqDiff, Int.reduceLT, Int.reduceBEq, Int.reduceBNe, Nat.reduceBEq, List.append_nil, Int.toNat_zero, Nat.sub_self]
  (refine hk _ ?_; clear hk k; try show Sat _ _ _ _ _)
  (repeat refine Sat.seq ?_)
  (refine Sat.region_k fun k hk => ?_; simp -implicitDefEqProofs only [evr, id, reduceCtorEq, reduceIte, Nat.reduceMul, Nat.reduceAdd, Nat.reduceLT, Nat.reduceLeDiff, Nat.reduceEqDiff, Int.reduceLT, Int.reduceBEq, Int.reduceBNe, Nat.reduceBEq, List.append_nil, Int.toNat_zero, Nat.sub_self]; refine hk _ ?_; clear hk k; try show Sat _ _ _ _ _)
  refine Sat.ret ?_
  simp only [Try.results35, evr, id, reduceCtorEq, reduceIte, Nat.reduceMul, Nat.reduceAdd, Nat.reduceLT, Nat.reduceLeDiff, Nat.reduceEqDiff, Int.reduceLT, Int.reduceBEq, Int.reduceBNe, Nat.reduceBEq, List.append_nil, Int.toNat_zero, Nat.sub_self]
  exact hs'
end
end Go.Proofs.Ytagmohpafjncfaa

/- The reference of package natural, by the evaluator: Order, limb, Trim, Plus. -/
set_option linter.unusedSimpArgs false
set_option linter.unusedVariables false
namespace Go.Proofs.Ytagmohpafjncfaa
open Eng Lmb Go.RowKit
def Ints (s : SV) (xs : List Int) : Prop := ∃ (a : Option Addr) (cap sz : Nat) (rd : Nat → Nat → SV), s = .sl a xs.length cap sz rd ∧ (xs.length = 0 ∨ sz = 1) ∧ (∀ i, i < xs.length → rd i 0 = .i .i64 (xs.getD i 0))
theorem Nats.ints {s : SV} {n : Nat} (h : Nats s n) : ∃ xs, Ints s xs ∧ Dig xs n := by
  obtain ⟨a, cap, sz, rd, xs, e, hz, hr, hd⟩ := h
  exact ⟨xs, ⟨a, cap, sz, rd, e, hz, hr⟩, hd⟩
theorem Ints.nats {s : SV} {xs : List Int} {n : Nat} (h : Ints s xs) (hd : Dig xs n) : Nats s n := by
  obtain ⟨a, cap, sz, rd, e, hz, hr⟩ := h
  exact ⟨a, cap, sz, rd, xs, e, hz, hr, hd⟩
theorem rd_to {R : Nat → Prop} {w : World} {s : SV} {xs : List Int} (hs : s.ok R w) (hn : Ints s xs) (hR : ∀ b, R b → b < w.heap.size) : @Zn.Rd (zoneOf R w) .i64 w s.den xs := by
  obtain ⟨a, cap, sz, rd, rfl, hz, hrd⟩ := hn
  obtain ⟨h1, h2, h3⟩ := hs
  refine ⟨a, cap, rfl, h1, ⟨h2, Nat.le_refl _, ?_⟩, ?_⟩
  · rcases h3 with h3 | ⟨blk, off, rfl, hr, _⟩
    · exact .inl h3
    · exact .inr fun x hx => by cases hx; exact .inl hr
  · rcases h3 with h3 | ⟨blk, off, rfl, hr, hc⟩
    · exact .inl h3
    rcases hz with hz | rfl
    · exact .inl hz
    · refine .inr ⟨blk, off, rfl, hR _ hr, fun i hi => ?_⟩
      have := (hc i 0 hi (by omega)).1
      rw [hrd i hi, Nat.mul_one, Nat.add_zero] at this
      exact this
theorem refTrimC (F : Frm) {s : SV} {xs : List Int} (h : Ints s xs) (hl : Limbs xs) : Contract F Try.prog 66 [s] (fun r => Nats r (val xs).toNat) := by
  refine ofCalls Try.func66 rfl (by kernel_rfl) fun R w hargs hR => ?_
  refine (@Zn.ref_trim_rd (zoneOf R w) _ _ w (rd_to (hargs s (by simp)) h hR)).mono ?_
  rintro e w' ⟨v, rfl, hv, rfl⟩
  obtain ⟨t, rfl, ht, hok⟩ := nat_from (R := R) (w := w) (w' := w) (n := (val xs).toNat) ⟨_, hv, dig_trim hl⟩
  exact ⟨t, rfl, ht, hok, Below.refl _ _⟩
set_option maxRecDepth 100000 in
theorem refOrderC (F : Frm) (x y : Int) : Contract F Try.prog 80 [.i .i64 x, .i .i64 y] (fun r => r = .i .i64 (cmpI x y)) := by
  refine contract_of Try.func80 rfl (by kernel_rfl) ?_
  simp only [Try.ntmps80, argEnv]
  (repeat refine Sat.seq ?_)
  (refine Sat.region_k fun k hk => ?_; simp -implicitDefEqProofs only [evr, id, reduceCtorEq, reduceIte, Nat.reduceMul, Nat.reduceAdd, Nat.reduceLT, Nat.reduceLeDiff, Nat.reduceEqDiff, Int.reduceLT, Int.reduceBEq, Int.reduceBNe, Nat.reduceBEq, List.append_nil, Int.toNat_zero, Nat.sub_self]; refine hk _ ?_; clear hk k; try show Sat _ _ _ _ _)
  (repeat refine Sat.seq ?_)
  (refine Sat.region_k fun k hk => ?_; simp -implicitDefEqProofs only [evr, id, reduceCtorEq, reduceIte, Nat.reduceMul, Nat.reduceAdd, Nat.reduceLT, Nat.reduceLeDiff, Nat.reduceEqDiff, Int.reduceLT, Int.reduceBEq, Int.reduceBNe, Nat.reduceBEq, List.append_nil, Int.toNat_zero, Nat.sub_self]; refine hk _ ?_; clear hk k; try show Sat _ _ _ _ _)
  refine Sat.cond_b rfl (fun h => ?_) (fun h => ?_)
  · simp only [decide_eq_true_eq] at h
    (repeat refine Sat.seq ?_)
    (refine Sat.region_k fun k hk => ?_; simp -implicitDefEqProofs only [evr, id, reduceCtorEq, reduceIte, Nat.reduceMul, Nat.reduceAdd, Nat.reduceLT, Nat.reduceLeDiff, Nat.reduceEqDiff, Int.reduceLT, Int.reduceBEq, Int.reduceBNe, Nat.reduceBEq, List.append_nil, Int.toNat_zero, Nat.sub_self]; refine hk _ ?_; clear hk k; try show Sat _ _ _ _ _)
    refine Sat.ret ?_
    simp only [Try.results80, evr, id, reduceCtorEq, reduceIte, Nat.reduceMul, Nat.reduceAdd, Nat.reduceLT, Nat.reduceLeDiff, Nat.reduceEqDiff, Int.reduceLT, Int.reduceBEq, Int.reduceBNe, Nat.reduceBEq, List.append_nil, Int.toNat_zero, Nat.sub_self]
    rw [cmpI_lt h]
  · simp only [decide_eq_false_iff_not] at h
    refine Sat.skip ?_
    simp only [thenK]
    (repeat refine Sat.seq ?_)
    (refine Sat.region_k fun k hk => ?_; simp -implicitDefEqProofs only [evr, id, reduceCtorEq, reduceIte, Nat.reduceMul, Nat.reduceAdd, Nat.reduceLT, Nat.reduceLeDiff, Nat.reduceEqDiff, Int.reduceLT, Int.reduceBEq, Int.reduceBNe, Nat.reduceBEq, List.append_nil, Int.toNat_zero, Nat.sub_self]; refine hk _ ?_; clear hk k; try show Sat _ _ _ _ _)
    refine Sat.cond_b rfl (fun h2 => ?_) (fun h2 => ?_)
    · simp only [decide_eq_true_eq] at h2
      (repeat refine Sat.seq ?_)
      (refine Sat.region_k fun k hk => ?_; simp -implicitDefEqProofs only [evr, id, reduceCtorEq, reduceIte, Nat.reduceMul, Nat.reduceAdd, Nat.reduceLT, Nat.reduceLeDiff, Nat.reduceEqDiff, Int.reduceLT, Int.reduceBEq, Int.reduceBNe, Nat.reduceBEq, List.append_nil, Int.toNat_zero, Nat.sub_self]; refine hk _ ?_; clear hk k; try show Sat _ _ _ _ _)
      refine Sat.ret ?_
      simp only [Try.results80, evr, id, reduceCtorEq, reduceIte, Nat.reduceMul, Nat.reduceAdd, Nat.reduceLT, Nat.reduceLeDiff, Nat.reduceEqDiff, Int.reduceLT, Int.reduceBEq, Int.reduceBNe, Nat.reduceBEq, List.append_nil, Int.toNat_zero, Nat.sub_self]
      rw [cmpI_gt h2]
    · simp only [decide_eq_false_iff_not] at h2
      refine Sat.skip ?_
      simp only [thenK]
      (repeat refine Sat.seq ?_)
      (refine Sat.region_k fun k hk => ?_; simp -implicitDefEqProofs only [evr, id, reduceCtorEq, reduceIte, Nat.reduceMul, Nat.reduceAdd, Nat.reduceLT, Nat.reduceLeDiff, Nat.reduceEqDiff, Int.reduceLT, Int.reduceBEq, Int.reduceBNe, Nat.reduceBEq, List.append_nil, Int.toNat_zero, Nat.sub_self]; refine hk _ ?_; clear hk k; try show Sat _ _ _ _ _)
      refine Sat.ret ?_
      simp only [Try.results80, evr, id, reduceCtorEq, reduceIte, Nat.reduceMul, Nat.reduceAdd, Nat.reduceLT, Nat.reduceLeDiff, Nat.reduceEqDiff, Int.reduceLT, Int.reduceBEq, Int.reduceBNe, Nat.reduceBEq, List.append_nil, Int.toNat_zero, Nat.sub_self]
      rw [cmpI_eq (by omega)]
set_option maxRecDepth 100000 in
theorem refLimbC (F : Frm) {s : SV} {xs : List Int} (h : Ints s xs) (i : Nat) : Contract F Try.prog 69 [s, .i .i64 i] (fun r => r = .i .i64 (xs.getD i 0)) := by
  obtain ⟨a, cap, sz, rd, rfl, hz, hrd⟩ := h
  refine contract_of Try.func69 rfl (by kernel_rfl) ?_
  simp only [Try.ntmps69, argEnv]
  (repeat refine Sat.seq ?_)
  (refine Sat.region_k fun k hk => ?_; simp -implicitDefEqProofs only [evr, id, reduceCtorEq, reduceIte, Nat.reduceMul, Nat.reduceAdd, Nat.reduceLT, Nat.reduceLeDiff, Nat.reduceEqDiff, Int.reduceLT, Int.reduceBEq, Int.reduceBNe, Nat.reduceBEq, List.append_nil, Int.toNat_zero, Nat.sub_self]; refine hk _ ?_; clear hk k; try show Sat _ _ _ _ _)
  (repeat refine Sat.seq ?_)
  (refine Sat.region_k fun k hk => ?_; simp -implicitDefEqProofs only [evr, id, reduceCtorEq, reduceIte, Nat.reduceMul, Nat.reduceAdd, Nat.reduceLT, Nat.reduceLeDiff, Nat.reduceEqDiff, Int.reduceLT, Int.reduceBEq, Int.reduceBNe, Nat.reduceBEq, List.append_nil, Int.toNat_zero, Nat.sub_self]; refine hk _ ?_; clear hk k; try show Sat _ _ _ _ _)
  refine Sat.cond_b rfl (fun h => ?_) (fun h => ?_)
  · simp only [decide_eq_true_eq] at h
    have hlt : i < xs.length := by omega
    have hsz : sz = 1 := by
      rcases hz with hz | hz
      · omega
      · exact hz
    subst hsz
    (repeat refine Sat.seq ?_)
    (refine Sat.region_k fun k hk => ?_; simp -implicitDefEqProofs only [evr, id, reduceCtorEq, reduceIte, Nat.reduceMul, Nat.reduceAdd, Nat.reduceLT, Nat.reduceLeDiff, Nat.reduceEqDiff, Int.reduceLT, Int.reduceBEq, Int.reduceBNe, Nat.reduceBEq, List.append_nil, Int.toNat_zero, Nat.sub_self])
    refine ⟨by omega, ?_⟩
    rw [hrd i hlt]
    (refine hk _ ?_; clear hk k; try show Sat _ _ _ _ _)
    refine Sat.ret ?_
    simp only [Try.results69, evr, id, reduceCtorEq, reduceIte, Nat.reduceMul, Nat.reduceAdd, Nat.reduceLT, Nat.reduceLeDiff, Nat.reduceEqDiff, Int.reduceLT, Int.reduceBEq, Int.reduceBNe, Nat.reduceBEq, List.append_nil, Int.toNat_zero, Nat.sub_self]
  · simp only [decide_eq_false_iff_not] at h
    refine Sat.skip ?_
    simp only [thenK]
    (repeat refine Sat.seq ?_)
    (refine Sat.region_k fun k hk => ?_; simp -implicitDefEqProofs only [evr, id, reduceCtorEq, reduceIte, Nat.reduceMul, Nat.reduceAdd, Nat.reduceLT, Nat.reduceLeDiff, Nat.reduceEqDiff, Int.reduceLT, Int.reduceBEq, Int.reduceBNe, Nat.reduceBEq, List.append_nil, Int.toNat_zero, Nat.sub_self]; refine hk _ ?_; clear hk k; try show Sat _ _ _ _ _)
    refine Sat.ret ?_
    simp only [Try.results69, evr, id, reduceCtorEq, reduceIte, Nat.reduceMul, Nat.reduceAdd, Nat.reduceLT, Nat.reduceLeDiff, Nat.reduceEqDiff, Int.reduceLT, Int.reduceBEq, Int.reduceBNe, Nat.reduceBEq, List.append_nil, Int.toNat_zero, Nat.sub_self]
    have : xs.length ≤ i := by omega
    simp [List.getD, this]
theorem getD_snoc_lt {os : List Int} {x : Int} {p : Nat} (h : p < os.length) : (os ++ [x]).getD p 0 = os.getD p 0 := by
  simp [List.getD, List.getElem?_append_left h]
theorem getD_snoc_eq {os : List Int} {x : Int} : (os ++ [x]).getD os.length 0 = x := by
  simp [List.getD]
theorem rd_snoc {os : List Int} {x y : Int} {n : Nat} (hn : os.length = n) (hx : y = x) : rdEq (n + 1) 1 (rdCat n (fun p _ => .i .i64 (os.getD p 0)) (rdL [.i .i64 y] 1)) (fun p _ => .i .i64 ((os ++ [x]).getD p 0)) := by
  subst hn
  refine rdEq_one (fun p j hp hj => ?_) ?_
  · show SV.i .i64 _ = SV.i .i64 _
    rw [getD_snoc_lt hp]
  · show SV.i .i64 _ = SV.i .i64 _
    rw [getD_snoc_eq, hx]
set_option maxRecDepth 100000 in
theorem refPlusC (F : Frm) {sa sb : SV} {m n : Nat} (ha : Nats sa m) (hb : Nats sb n) (b1 : (m : Int) < pw 512) (b2 : (n : Int) < pw 512) : Contract F Try.prog 50 [sa, sb] (fun r => Nats r (m + n)) := by
  obtain ⟨xs, hi1, d1⟩ := ha.ints
  obtain ⟨ys, hi2, d2⟩ := hb.ints
  have l1 := (d1.len_le 512).2 b1
  have l2 := (d2.len_le 512).2 b2
  have hj1 := hi1
  have hj2 := hi2
  obtain ⟨a1, c1, z1, r1, rfl, _⟩ := hi1
  obtain ⟨a2, c2, z2, r2, rfl, _⟩ := hi2
  refine contract_of Try.func50 rfl (by kernel_rfl) ?_
  simp only [Try.ntmps50, argEnv]
  (repeat refine Sat.seq ?_)
  (refine Sat.region_k fun k hk => ?_; simp -implicitDefEqProofs only [evr, id, reduceCtorEq, reduceIte, Nat.reduceMul, Nat.reduceAdd, Nat.reduceLT, Nat.reduceLeDiff, Nat.reduceEqDiff, Int.reduceLT, Int.reduceBEq, Int.reduceBNe, Nat.reduceBEq, List.append_nil, Int.toNat_zero, Nat.sub_self]; refine hk _ ?_; clear hk k; try show Sat _ _ _ _ _)
  (repeat refine Sat.seq ?_)
  (refine Sat.region_k fun k hk => ?_; simp -implicitDefEqProofs only [evr, id, reduceCtorEq, reduceIte, Nat.reduceMul, Nat.reduceAdd, Nat.reduceLT, Nat.reduceLeDiff, Nat.reduceEqDiff, Int.reduceLT, Int.reduceBEq, Int.reduceBNe, Nat.reduceBEq, List.append_nil, Int.toNat_zero, Nat.sub_self]; refine hk _ ?_; clear hk k; try show Sat _ _ _ _ _)
  (repeat refine Sat.seq ?_)
  (refine Sat.region_k fun k hk => ?_; simp -implicitDefEqProofs only [evr, id, reduceCtorEq, reduceIte, Nat.reduceMul, Nat.reduceAdd, Nat.reduceLT, Nat.reduceLeDiff, Nat.reduceEqDiff, Int.reduceLT, Int.reduceBEq, Int.reduceBNe, Nat.reduceBEq, List.append_nil, Int.toNat_zero, Nat.sub_self]; refine hk _ ?_; clear hk k; try show Sat _ _ _ _ _)
  (repeat refine Sat.seq ?_)
  (refine Sat.region_k fun k hk => ?_; simp -implicitDefEqProofs only [evr, id, reduceCtorEq, reduceIte, Nat.reduceMul, Nat.reduceAdd, Nat.reduceLT, Nat.reduceLeDiff, Nat.reduceEqDiff, Int.reduceLT, Int.reduceBEq, Int.reduceBNe, Nat.reduceBEq, List.append_nil, Int.toNat_zero, Nat.sub_self]; refine hk _ ?_; clear hk k; try show Sat _ _ _ _ _)
  (repeat refine Sat.seq ?_)
  refine Sat.block ?_
  refine Sat.adopt 5 3 1 (fun p _ => .i .i64 (([] : List Int).getD p 0)) rfl ?_
  refine Sat.loop (ι := Nat × Int × List Int × Option Addr × Nat) (fun x => ⟨42, [(7, .i .i64 x.1), (6, .i .i64 x.2.1), (0, .sl a1 xs.length c1 z1 r1), (1, .sl a2 ys.length c2 z2 r2), (5, .os 0 x.2.2.2.1 x.1 x.2.2.2.2)], [.row x.2.2.2.1 3 x.1 x.2.2.2.2 1 (fun p _ => .i .i64 (x.2.2.1.getD p 0))]⟩)
    (fun x => PlusInv xs ys x.2.2.1 x.1 x.2.1) (fun x => 2000 - x.1) (0, 0, [], none, 0) (PlusInv.start xs ys) (by simp -implicitDefEqProofs only [evr, id, reduceCtorEq, reduceIte, Nat.reduceMul, Nat.reduceAdd, Nat.reduceLT, Nat.reduceLeDiff, Nat.reduceEqDiff, Int.reduceLT, Int.reduceBEq, Int.reduceBNe, Nat.reduceBEq, List.append_nil, Int.toNat_zero, Nat.sub_self, evl]; try rfl) ?_
  rintro ⟨i, c, os, a, cap⟩ hinv
  simp only at hinv ⊢
  have t1 := hinv.tight
  have t2 := hinv.c0
  have t3 := hinv.c1
  have t4 := hinv.len
  have bx := limbs_getD d1.limbs i
  have bY := limbs_getD d2.limbs i
  have hi : i ≤ 513 := by omega
  (repeat refine Sat.seq ?_)
  refine Sat.region_at ⟨42, [(22, .b (decide (i < xs.length ∨ i < ys.length ∨ 0 < c))), (7, .i .i64 i), (6, .i .i64 c), (0, .sl a1 xs.length c1 z1 r1), (1, .sl a2 ys.length c2 z2 r2), (5, .os 0 a i cap)], [.row a 3 i cap 1 (fun p _ => .i .i64 (os.getD p 0))]⟩ (fun k hk => ?_) ?_
  · simp -implicitDefEqProofs only [evr, id, reduceCtorEq, reduceIte, Nat.reduceMul, Nat.reduceAdd, Nat.reduceLT, Nat.reduceLeDiff, Nat.reduceEqDiff, Int.reduceLT, Int.reduceBEq, Int.reduceBNe, Nat.reduceBEq, List.append_nil, Int.toNat_zero, Nat.sub_self]
    refine ⟨fun h => ?_, fun h => ⟨fun h2 => ?_, fun h2 => ?_⟩⟩
    · refine hk _ ?_
      have e : decide (i < xs.length ∨ i < ys.length ∨ 0 < c) = true := decide_eq_true (.inl (by omega))
      rw [e]
      simp -implicitDefEqProofs only [evr, id, reduceCtorEq, reduceIte, Nat.reduceMul, Nat.reduceAdd, Nat.reduceLT, Nat.reduceLeDiff, Nat.reduceEqDiff, Int.reduceLT, Int.reduceBEq, Int.reduceBNe, Nat.reduceBEq, List.append_nil, Int.toNat_zero, Nat.sub_self, evl]
    · refine hk _ ?_
      have e : decide (i < xs.length ∨ i < ys.length ∨ 0 < c) = true := decide_eq_true (.inr (.inl (by omega)))
      rw [e]
      simp -implicitDefEqProofs only [evr, id, reduceCtorEq, reduceIte, Nat.reduceMul, Nat.reduceAdd, Nat.reduceLT, Nat.reduceLeDiff, Nat.reduceEqDiff, Int.reduceLT, Int.reduceBEq, Int.reduceBNe, Nat.reduceBEq, List.append_nil, Int.toNat_zero, Nat.sub_self, evl]
    · refine hk _ ?_
      have e : decide (i < xs.length ∨ i < ys.length ∨ 0 < c) = decide (0 < c) := by
        congr 1
        apply propext
        constructor
        · rintro (h3 | h3 | h3)
          · omega
          · omega
          · exact h3
        · exact fun h3 => .inr (.inr h3)
      rw [e]
      simp -implicitDefEqProofs only [evr, id, reduceCtorEq, reduceIte, Nat.reduceMul, Nat.reduceAdd, Nat.reduceLT, Nat.reduceLeDiff, Nat.reduceEqDiff, Int.reduceLT, Int.reduceBEq, Int.reduceBNe, Nat.reduceBEq, List.append_nil, Int.toNat_zero, Nat.sub_self, evl]
  simp only [thenK]
  refine Sat.cond_b rfl (fun h => ?_) (fun h => ?_)
  · have hg : i < xs.length ∨ i < ys.length ∨ 0 < c := of_decide_eq_true h
    have hnext := hinv.step d1.limbs d2.limbs hg
    refine Sat.skip ?_
    simp only [thenK]
    (repeat refine Sat.seq ?_)
    refine Sat.block ?_
    (repeat refine Sat.seq ?_)
    (refine Sat.region_k fun k hk => ?_; simp -implicitDefEqProofs only [evr, id, reduceCtorEq, reduceIte, Nat.reduceMul, Nat.reduceAdd, Nat.reduceLT, Nat.reduceLeDiff, Nat.reduceEqDiff, Int.reduceLT, Int.reduceBEq, Int.reduceBNe, Nat.reduceBEq, List.append_nil, Int.toNat_zero, Nat.sub_self])
    refine wcall_plain (refLimbC F hj1 i) (by simp -implicitDefEqProofs only [evr, id, reduceCtorEq, reduceIte, Nat.reduceMul, Nat.reduceAdd, Nat.reduceLT, Nat.reduceLeDiff, Nat.reduceEqDiff, Int.reduceLT, Int.reduceBEq, Int.reduceBNe, Nat.reduceBEq, List.append_nil, Int.toNat_zero, Nat.sub_self]; try rfl) (by rintro _ rfl; exact ok_plain rfl) ?_
    rintro y rfl
    simp -implicitDefEqProofs only [evr, id, reduceCtorEq, reduceIte, Nat.reduceMul, Nat.reduceAdd, Nat.reduceLT, Nat.reduceLeDiff, Nat.reduceEqDiff, Int.reduceLT, Int.reduceBEq, Int.reduceBNe, Nat.reduceBEq, List.append_nil, Int.toNat_zero, Nat.sub_self]
    refine wcall_plain (refLimbC F hj2 i) (by simp -implicitDefEqProofs only [evr, id, reduceCtorEq, reduceIte, Nat.reduceMul, Nat.reduceAdd, Nat.reduceLT, Nat.reduceLeDiff, Nat.reduceEqDiff, Int.reduceLT, Int.reduceBEq, Int.reduceBNe, Nat.reduceBEq, List.append_nil, Int.toNat_zero, Nat.sub_self]; try rfl) (by rintro _ rfl; exact ok_plain rfl) ?_
    rintro y rfl
    have w1 : IntKind.i64.wrap (xs.getD i 0 + ys.getD i 0) = xs.getD i 0 + ys.getD i 0 := w64 (by omega)
    have w2 : IntKind.i64.wrap (xs.getD i 0 + ys.getD i 0 + c) = xs.getD i 0 + ys.getD i 0 + c := w64 (by omega)
    simp -implicitDefEqProofs only [evr, id, reduceCtorEq, reduceIte, Nat.reduceMul, Nat.reduceAdd, Nat.reduceLT, Nat.reduceLeDiff, Nat.reduceEqDiff, Int.reduceLT, Int.reduceBEq, Int.reduceBNe, Nat.reduceBEq, List.append_nil, Int.toNat_zero, Nat.sub_self, w1, w2]
    refine hk _ ?_
    clear hk k
    try show Sat _ _ _ _ _
    have tm : (xs.getD i 0 + ys.getD i 0 + c).tmod 1073741824 = (xs.getD i 0 + ys.getD i 0 + c) % 1073741824 := Int.tmod_eq_emod_of_nonneg (by omega)
    have td : IntKind.i64.wrap ((xs.getD i 0 + ys.getD i 0 + c).tdiv 1073741824) = (xs.getD i 0 + ys.getD i 0 + c) / 1073741824 := by
      rw [Int.tdiv_eq_ediv_of_nonneg (by omega), w64 (by omega)]
    have ti : IntKind.i64.wrap ((i : Int) + 1) = ((i + 1 : Nat) : Int) := by rw [w64 (by omega)]; omega
    (repeat refine Sat.seq ?_)
    (refine Sat.region_k fun k hk => ?_; simp -implicitDefEqProofs only [evr, id, reduceCtorEq, reduceIte, Nat.reduceMul, Nat.reduceAdd, Nat.reduceLT, Nat.reduceLeDiff, Nat.reduceEqDiff, Int.reduceLT, Int.reduceBEq, Int.reduceBNe, Nat.reduceBEq, List.append_nil, Int.toNat_zero, Nat.sub_self])
    refine ⟨by decide, fun blk => ?_⟩
    refine ⟨⟨by unfold maxLen; omega, by omega⟩, fun a2_1 cap2 => ?_⟩
    (refine hk _ ?_; clear hk k; try show Sat _ _ _ _ _)
    (repeat refine Sat.seq ?_)
    refine Sat.region_k fun k hk => ?_
    simp -implicitDefEqProofs only [evr, id, reduceCtorEq, reduceIte, Nat.reduceMul, Nat.reduceAdd, Nat.reduceLT, Nat.reduceLeDiff, Nat.reduceEqDiff, Int.reduceLT, Int.reduceBEq, Int.reduceBNe, Nat.reduceBEq, List.append_nil, Int.toNat_zero, Nat.sub_self, td]
    refine ⟨by decide, ?_⟩
    refine hk _ ?_
    clear hk k
    simp only [thenK, blockK]
    (repeat refine Sat.seq ?_)
    refine Sat.region_k fun k hk => ?_
    simp -implicitDefEqProofs only [evr, id, reduceCtorEq, reduceIte, Nat.reduceMul, Nat.reduceAdd, Nat.reduceLT, Nat.reduceLeDiff, Nat.reduceEqDiff, Int.reduceLT, Int.reduceBEq, Int.reduceBNe, Nat.reduceBEq, List.append_nil, Int.toNat_zero, Nat.sub_self, ti]
    refine hk _ ?_
    simp only [thenK, blockK]
    refine ⟨(i + 1, _, _, a2_1, cap2), hnext, by show 2000 - (i + 1) < 2000 - i; omega, ?_⟩
    simp -implicitDefEqProofs only [evr, id, reduceCtorEq, reduceIte, Nat.reduceMul, Nat.reduceAdd, Nat.reduceLT, Nat.reduceLeDiff, Nat.reduceEqDiff, Int.reduceLT, Int.reduceBEq, Int.reduceBNe, Nat.reduceBEq, List.append_nil, Int.toNat_zero, Nat.sub_self, evl]
    exact rd_snoc t4 tm
  · have hg : ¬ (i < xs.length ∨ i < ys.length ∨ 0 < c) := of_decide_eq_false h
    have hd := hinv.done d1 d2 (by omega) (by omega) (by omega)
    refine Sat.exit ?_
    simp only [thenK, blockK, reduceIte]
    (repeat refine Sat.seq ?_)
    (refine Sat.region_k fun k hk => ?_; simp -implicitDefEqProofs only [evr, id, reduceCtorEq, reduceIte, Nat.reduceMul, Nat.reduceAdd, Nat.reduceLT, Nat.reduceLeDiff, Nat.reduceEqDiff, Int.reduceLT, Int.reduceBEq, Int.reduceBNe, Nat.reduceBEq, List.append_nil, Int.toNat_zero, Nat.sub_self]; refine hk _ ?_; clear hk k; try show Sat _ _ _ _ _)
    refine Sat.ret ?_
    simp only [Try.results50, evr, id, reduceCtorEq, reduceIte, Nat.reduceMul, Nat.reduceAdd, Nat.reduceLT, Nat.reduceLeDiff, Nat.reduceEqDiff, Int.reduceLT, Int.reduceBEq, Int.reduceBNe, Nat.reduceBEq, List.append_nil, Int.toNat_zero, Nat.sub_self]
    exact nats_of t4 (fun p hp => rfl) hd
end Go.Proofs.Ytagmohpafjncfaa

/- The reference of package natural, by the evaluator: Less, Compare. -/
set_option linter.unusedSimpArgs false
set_option linter.unusedVariables false
namespace Go.Proofs.Ytagmohpafjncfaa
open Eng Lmb Go.RowKit
set_option maxRecDepth 100000 in
theorem refLessC (F : Frm) {sa sb : SV} {m n : Nat} (ha : Nats sa m) (hb : Nats sb n) (b1 : (m : Int) < pw 512) (hle : n ≤ m) : Contract F Try.prog 45 [sa, sb] (fun r => Nats r (m - n)) := by
  obtain ⟨xs, hi1, d1⟩ := ha.ints
  obtain ⟨ys, hi2, d2⟩ := hb.ints
  have l1 := (d1.len_le 512).2 b1
  have l2 := d2.mono_len d1 hle
  have hj1 := hi1
  have hj2 := hi2
  obtain ⟨a1, c1, z1, r1, rfl, hz1, hr1⟩ := hi1
  obtain ⟨a2, c2, z2, r2, rfl, _⟩ := hi2
  refine contract_of Try.func45 rfl (by kernel_rfl) ?_
  simp only [Try.ntmps45, argEnv]
  (repeat refine Sat.seq ?_)
  (refine Sat.region_k fun k hk => ?_; simp -implicitDefEqProofs only [evr, id, reduceCtorEq, reduceIte, Nat.reduceMul, Nat.reduceAdd, Nat.reduceLT, Nat.reduceLeDiff, Nat.reduceEqDiff, Int.reduceLT, Int.reduceBEq, Int.reduceBNe, Nat.reduceBEq, List.append_nil, Int.toNat_zero, Nat.sub_self]; refine hk _ ?_; clear hk k; try show Sat _ _ _ _ _)
  (repeat refine Sat.seq ?_)
  (refine Sat.region_k fun k hk => ?_; simp -implicitDefEqProofs only [evr, id, reduceCtorEq, reduceIte, Nat.reduceMul, Nat.reduceAdd, Nat.reduceLT, Nat.reduceLeDiff, Nat.reduceEqDiff, Int.reduceLT, Int.reduceBEq, Int.reduceBNe, Nat.reduceBEq, List.append_nil, Int.toNat_zero, Nat.sub_self]; refine hk _ ?_; clear hk k; try show Sat _ _ _ _ _)
  (repeat refine Sat.seq ?_)
  (refine Sat.region_k fun k hk => ?_; simp -implicitDefEqProofs only [evr, id, reduceCtorEq, reduceIte, Nat.reduceMul, Nat.reduceAdd, Nat.reduceLT, Nat.reduceLeDiff, Nat.reduceEqDiff, Int.reduceLT, Int.reduceBEq, Int.reduceBNe, Nat.reduceBEq, List.append_nil, Int.toNat_zero, Nat.sub_self]; refine hk _ ?_; clear hk k; try show Sat _ _ _ _ _)
  (repeat refine Sat.seq ?_)
  (refine Sat.region_k fun k hk => ?_; simp -implicitDefEqProofs only [evr, id, reduceCtorEq, reduceIte, Nat.reduceMul, Nat.reduceAdd, Nat.reduceLT, Nat.reduceLeDiff, Nat.reduceEqDiff, Int.reduceLT, Int.reduceBEq, Int.reduceBNe, Nat.reduceBEq, List.append_nil, Int.toNat_zero, Nat.sub_self]; refine hk _ ?_; clear hk k; try show Sat _ _ _ _ _)
  (repeat refine Sat.seq ?_)
  refine Sat.block ?_
  refine Sat.adopt 5 3 1 (fun p _ => .i .i64 (([] : List Int).getD p 0)) rfl ?_
  refine Sat.loop (ι := Nat × Int × List Int × Option Addr × Nat) (fun x => ⟨35, [(7, .i .i64 x.1), (6, .i .i64 x.2.1), (0, .sl a1 xs.length c1 z1 r1), (1, .sl a2 ys.length c2 z2 r2), (5, .os 0 x.2.2.2.1 x.1 x.2.2.2.2)], [.row x.2.2.2.1 3 x.1 x.2.2.2.2 1 (fun p _ => .i .i64 (x.2.2.1.getD p 0))]⟩)
    (fun x => x.1 ≤ xs.length ∧ LessInv xs ys x.2.2.1 x.1 x.2.1) (fun x => xs.length - x.1) (0, 0, [], none, 0) ⟨Nat.zero_le _, LessInv.start xs ys⟩ (by simp -implicitDefEqProofs only [evr, id, reduceCtorEq, reduceIte, Nat.reduceMul, Nat.reduceAdd, Nat.reduceLT, Nat.reduceLeDiff, Nat.reduceEqDiff, Int.reduceLT, Int.reduceBEq, Int.reduceBNe, Nat.reduceBEq, List.append_nil, Int.toNat_zero, Nat.sub_self, evl]; try rfl) ?_
  rintro ⟨i, c, os, a, cap⟩ ⟨hi, hinv⟩
  simp only at hi hinv ⊢
  have t2 := hinv.c0
  have t3 := hinv.c1
  have t4 := hinv.len
  have bx := limbs_getD d1.limbs i
  have bY := limbs_getD d2.limbs i
  (repeat refine Sat.seq ?_)
  (refine Sat.region_k fun k hk => ?_; simp -implicitDefEqProofs only [evr, id, reduceCtorEq, reduceIte, Nat.reduceMul, Nat.reduceAdd, Nat.reduceLT, Nat.reduceLeDiff, Nat.reduceEqDiff, Int.reduceLT, Int.reduceBEq, Int.reduceBNe, Nat.reduceBEq, List.append_nil, Int.toNat_zero, Nat.sub_self]; refine hk _ ?_; clear hk k; try show Sat _ _ _ _ _)
  (repeat refine Sat.seq ?_)
  refine Sat.cond_b rfl (fun h => ?_) (fun h => ?_)
  · simp only [decide_eq_true_eq] at h
    have hlt : i < xs.length := by omega
    have hsz : z1 = 1 := by
      rcases hz1 with hz | hz
      · omega
      · exact hz
    subst hsz
    have hnext := hinv.step d1.limbs d2.limbs
    have w1 : IntKind.i64.wrap (xs.getD i 0 - ys.getD i 0) = xs.getD i 0 - ys.getD i 0 := w64 (by omega)
    have w2 : IntKind.i64.wrap (xs.getD i 0 - ys.getD i 0 - c) = xs.getD i 0 - ys.getD i 0 - c := w64 (by omega)
    have ti : IntKind.i64.wrap ((i : Int) + 1) = ((i + 1 : Nat) : Int) := by rw [w64 (by omega)]; omega
    refine Sat.skip ?_
    simp only [thenK]
    (repeat refine Sat.seq ?_)
    refine Sat.block ?_
    (repeat refine Sat.seq ?_)
    (refine Sat.region_qk (by kernel_rfl) (by kernel_rfl) fun k hk => ?_; simp -implicitDefEqProofs only [evr, id, reduceCtorEq, reduceIte, Nat.reduceMul, Nat.reduceAdd, Nat.reduceLT, Nat.reduceLeDiff, Nat.reduceEqDiff, Int.reduceLT, Int.reduceBEq, Int.reduceBNe, Nat.reduceBEq, List.append_nil, Int.toNat_zero, Nat.sub_self])
    refine ⟨by omega, ?_⟩
    rw [hr1 i hlt]
    refine qcall (refLimbC Frm.nil hj2 i) (by simp -implicitDefEqProofs only [evr, id, reduceCtorEq, reduceIte, Nat.reduceMul, Nat.reduceAdd, Nat.reduceLT, Nat.reduceLeDiff, Nat.reduceEqDiff, Int.reduceLT, Int.reduceBEq, Int.reduceBNe, Nat.reduceBEq, List.append_nil, Int.toNat_zero, Nat.sub_self]; try rfl) (ok_plain rfl) ?_
    simp -implicitDefEqProofs only [evr, id, reduceCtorEq, reduceIte, Nat.reduceMul, Nat.reduceAdd, Nat.reduceLT, Nat.reduceLeDiff, Nat.reduceEqDiff, Int.reduceLT, Int.reduceBEq, Int.reduceBNe, Nat.reduceBEq, List.append_nil, Int.toNat_zero, Nat.sub_self, w1, w2]
    refine hk _ ?_
    clear hk k
    try show Sat _ _ _ _ _
    (repeat refine Sat.seq ?_)
    (refine Sat.region_k fun k hk => ?_; simp -implicitDefEqProofs only [evr, id, reduceCtorEq, reduceIte, Nat.reduceMul, Nat.reduceAdd, Nat.reduceLT, Nat.reduceLeDiff, Nat.reduceEqDiff, Int.reduceLT, Int.reduceBEq, Int.reduceBNe, Nat.reduceBEq, List.append_nil, Int.toNat_zero, Nat.sub_self]; refine hk _ ?_; clear hk k; try show Sat _ _ _ _ _)
    (repeat refine Sat.seq ?_)
    (refine Sat.region_k fun k hk => ?_; simp -implicitDefEqProofs only [evr, id, reduceCtorEq, reduceIte, Nat.reduceMul, Nat.reduceAdd, Nat.reduceLT, Nat.reduceLeDiff, Nat.reduceEqDiff, Int.reduceLT, Int.reduceBEq, Int.reduceBNe, Nat.reduceBEq, List.append_nil, Int.toNat_zero, Nat.sub_self]; refine hk _ ?_; clear hk k; try show Sat _ _ _ _ _)
    have b9 : -2147483648 < xs.getD i 0 - ys.getD i 0 - c ∧ xs.getD i 0 - ys.getD i 0 - c < 2147483648 := by omega
    generalize xs.getD i 0 - ys.getD i 0 - c = x at *
    (repeat refine Sat.seq ?_)
    refine Sat.at ⟨35, [(8, .i .i64 (dI x)), (6, .i .i64 (cI x)), (7, .i .i64 i), (0, .sl a1 xs.length c1 1 r1), (1, .sl a2 ys.length c2 z2 r2), (5, .os 0 a i cap)], [.row a 3 i cap 1 (fun p _ => .i .i64 (os.getD p 0))]⟩ ?_ ?_
    · refine Sat.cond_b rfl (fun h5 => ?_) (fun h5 => ?_)
      · simp only [decide_eq_true_eq] at h5
        have e1 : IntKind.i64.wrap (x + 1073741824) = dI x := by rw [w64 (by omega)]; unfold dI; rw [if_pos h5]
        have e2 : cI x = 1 := by unfold cI; rw [if_pos h5]
        (repeat refine Sat.seq ?_)
        refine Sat.region_k fun k hk => ?_
        simp -implicitDefEqProofs only [evr, id, reduceCtorEq, reduceIte, Nat.reduceMul, Nat.reduceAdd, Nat.reduceLT, Nat.reduceLeDiff, Nat.reduceEqDiff, Int.reduceLT, Int.reduceBEq, Int.reduceBNe, Nat.reduceBEq, List.append_nil, Int.toNat_zero, Nat.sub_self, e1]
        (refine hk _ ?_; clear hk k; try show Sat _ _ _ _ _)
        refine Sat.region_k fun k hk => ?_
        simp -implicitDefEqProofs only [evr, id, reduceCtorEq, reduceIte, Nat.reduceMul, Nat.reduceAdd, Nat.reduceLT, Nat.reduceLeDiff, Nat.reduceEqDiff, Int.reduceLT, Int.reduceBEq, Int.reduceBNe, Nat.reduceBEq, List.append_nil, Int.toNat_zero, Nat.sub_self]
        refine hk _ ?_
        simp only [thenK, e2]
        simp -implicitDefEqProofs only [evr, id, reduceCtorEq, reduceIte, Nat.reduceMul, Nat.reduceAdd, Nat.reduceLT, Nat.reduceLeDiff, Nat.reduceEqDiff, Int.reduceLT, Int.reduceBEq, Int.reduceBNe, Nat.reduceBEq, List.append_nil, Int.toNat_zero, Nat.sub_self, evl]
      · simp only [decide_eq_false_iff_not] at h5
        have e1 : dI x = x := by unfold dI; rw [if_neg h5]
        have e2 : cI x = 0 := by unfold cI; rw [if_neg h5]
        refine Sat.skip ?_
        simp only [thenK, e1, e2]
        simp -implicitDefEqProofs only [evr, id, reduceCtorEq, reduceIte, Nat.reduceMul, Nat.reduceAdd, Nat.reduceLT, Nat.reduceLeDiff, Nat.reduceEqDiff, Int.reduceLT, Int.reduceBEq, Int.reduceBNe, Nat.reduceBEq, List.append_nil, Int.toNat_zero, Nat.sub_self, evl]
    · simp only [thenK]
      (repeat refine Sat.seq ?_)
      (refine Sat.region_k fun k hk => ?_; simp -implicitDefEqProofs only [evr, id, reduceCtorEq, reduceIte, Nat.reduceMul, Nat.reduceAdd, Nat.reduceLT, Nat.reduceLeDiff, Nat.reduceEqDiff, Int.reduceLT, Int.reduceBEq, Int.reduceBNe, Nat.reduceBEq, List.append_nil, Int.toNat_zero, Nat.sub_self])
      intro blk
      refine ⟨⟨by unfold maxLen; omega, by omega⟩, fun a2_1 cap2 => ?_⟩
      refine hk _ ?_
      clear hk k
      simp only [thenK, blockK]
      (repeat refine Sat.seq ?_)
      refine Sat.region_k fun k hk => ?_
      simp -implicitDefEqProofs only [evr, id, reduceCtorEq, reduceIte, Nat.reduceMul, Nat.reduceAdd, Nat.reduceLT, Nat.reduceLeDiff, Nat.reduceEqDiff, Int.reduceLT, Int.reduceBEq, Int.reduceBNe, Nat.reduceBEq, List.append_nil, Int.toNat_zero, Nat.sub_self, ti]
      refine hk _ ?_
      simp only [thenK, blockK]
      refine ⟨(i + 1, cI x, os ++ [dI x], a2_1, cap2), ⟨by show i + 1 ≤ xs.length; omega, hnext⟩, by show xs.length - (i + 1) < xs.length - i; omega, ?_⟩
      simp -implicitDefEqProofs only [evr, id, reduceCtorEq, reduceIte, Nat.reduceMul, Nat.reduceAdd, Nat.reduceLT, Nat.reduceLeDiff, Nat.reduceEqDiff, Int.reduceLT, Int.reduceBEq, Int.reduceBNe, Nat.reduceBEq, List.append_nil, Int.toNat_zero, Nat.sub_self, evl]
      exact rd_snoc t4 rfl
  · simp only [decide_eq_false_iff_not] at h
    have hi2 : i = xs.length := by omega
    subst hi2
    have hd := hinv.done d1 d2 hle
    refine Sat.exit ?_
    simp only [thenK, blockK, reduceIte]
    (repeat refine Sat.seq ?_)
    (refine Sat.region_k fun k hk => ?_; simp -implicitDefEqProofs only [evr, id, reduceCtorEq, reduceIte, Nat.reduceMul, Nat.reduceAdd, Nat.reduceLT, Nat.reduceLeDiff, Nat.reduceEqDiff, Int.reduceLT, Int.reduceBEq, Int.reduceBNe, Nat.reduceBEq, List.append_nil, Int.toNat_zero, Nat.sub_self])
    refine wcall_slice (refTrimC F (s := .sl a os.length cap 1 (fun p _ => .i .i64 (os.getD p 0))) ⟨a, cap, 1, _, rfl, .inr rfl, fun p _ => rfl⟩ hinv.limbs) (by simp -implicitDefEqProofs only [evr, id, reduceCtorEq, reduceIte, Nat.reduceMul, Nat.reduceAdd, Nat.reduceLT, Nat.reduceLeDiff, Nat.reduceEqDiff, Int.reduceLT, Int.reduceBEq, Int.reduceBNe, Nat.reduceBEq, List.append_nil, Int.toNat_zero, Nat.sub_self]; try rfl) (by simp -implicitDefEqProofs only [evr, id, reduceCtorEq, reduceIte, Nat.reduceMul, Nat.reduceAdd, Nat.reduceLT, Nat.reduceLeDiff, Nat.reduceEqDiff, Int.reduceLT, Int.reduceBEq, Int.reduceBNe, Nat.reduceBEq, List.append_nil, Int.toNat_zero, Nat.sub_self, t4]; try rfl) ?_
    intro y hy
    rw [hd] at hy
    have hs8 := hy
    obtain ⟨a8, c8, z8, r8, x8, rfl, _⟩ := hy
    simp -implicitDefEqProofs only [evr, id, reduceCtorEq, reduceIte, Nat.reduceMul, Nat.reduceAdd, Nat.reduceLT, Nat.reduceLeDiff, Nat.reduceEqDiff, Int.reduceLT, Int.reduceBEq, Int.reduceBNe, Nat.reduceBEq, List.append_nil, Int.toNat_zero, Nat.sub_self]
    (refine hk _ ?_; clear hk k; try show Sat _ _ _ _ _)
    refine Sat.ret ?_
    simp only [Try.results45, evr, id, reduceCtorEq, reduceIte, Nat.reduceMul, Nat.reduceAdd, Nat.reduceLT, Nat.reduceLeDiff, Nat.reduceEqDiff, Int.reduceLT, Int.reduceBEq, Int.reduceBNe, Nat.reduceBEq, List.append_nil, Int.toNat_zero, Nat.sub_self]
    exact hs8
set_option maxRecDepth 100000 in
theorem refCompareC (F : Frm) {sa sb : SV} {m n : Nat} (ha : Nats sa m) (hb : Nats sb n) (b1 : (m : Int) < pw 512) : Contract F Try.prog 70 [sa, sb] (fun r => r = .i .i64 (cmpI m n)) := by
  obtain ⟨xs, hi1, d1⟩ := ha.ints
  obtain ⟨ys, hi2, d2⟩ := hb.ints
  have l1 := (d1.len_le 512).2 b1
  obtain ⟨a1, c1, z1, r1, rfl, hz1, hr1⟩ := hi1
  obtain ⟨a2, c2, z2, r2, rfl, hz2, hr2⟩ := hi2
  refine contract_of Try.func70 rfl (by kernel_rfl) ?_
  simp only [Try.ntmps70, argEnv]
  (repeat refine Sat.seq ?_)
  (refine Sat.region_k fun k hk => ?_; simp -implicitDefEqProofs only [evr, id, reduceCtorEq, reduceIte, Nat.reduceMul, Nat.reduceAdd, Nat.reduceLT, Nat.reduceLeDiff, Nat.reduceEqDiff, Int.reduceLT, Int.reduceBEq, Int.reduceBNe, Nat.reduceBEq, List.append_nil, Int.toNat_zero, Nat.sub_self]; refine hk _ ?_; clear hk k; try show Sat _ _ _ _ _)
  (repeat refine Sat.seq ?_)
  (refine Sat.region_k fun k hk => ?_; simp -implicitDefEqProofs only [evr, id, reduceCtorEq, reduceIte, Nat.reduceMul, Nat.reduceAdd, Nat.reduceLT, Nat.reduceLeDiff, Nat.reduceEqDiff, Int.reduceLT, Int.reduceBEq, Int.reduceBNe, Nat.reduceBEq, List.append_nil, Int.toNat_zero, Nat.sub_self]; refine hk _ ?_; clear hk k; try show Sat _ _ _ _ _)
  refine Sat.cond_b rfl (fun h => ?_) (fun h => ?_)
  · have hne : xs.length ≠ ys.length := by
      intro h9
      rw [h9] at h
      simp at h
    (repeat refine Sat.seq ?_)
    (refine Sat.region_k fun k hk => ?_; simp -implicitDefEqProofs only [evr, id, reduceCtorEq, reduceIte, Nat.reduceMul, Nat.reduceAdd, Nat.reduceLT, Nat.reduceLeDiff, Nat.reduceEqDiff, Int.reduceLT, Int.reduceBEq, Int.reduceBNe, Nat.reduceBEq, List.append_nil, Int.toNat_zero, Nat.sub_self])
    refine wcall_plain (refOrderC F _ _) (by simp -implicitDefEqProofs only [evr, id, reduceCtorEq, reduceIte, Nat.reduceMul, Nat.reduceAdd, Nat.reduceLT, Nat.reduceLeDiff, Nat.reduceEqDiff, Int.reduceLT, Int.reduceBEq, Int.reduceBNe, Nat.reduceBEq, List.append_nil, Int.toNat_zero, Nat.sub_self]; try rfl) (by rintro _ rfl; exact ok_plain rfl) ?_
    rintro y rfl
    simp -implicitDefEqProofs only [evr, id, reduceCtorEq, reduceIte, Nat.reduceMul, Nat.reduceAdd, Nat.reduceLT, Nat.reduceLeDiff, Nat.reduceEqDiff, Int.reduceLT, Int.reduceBEq, Int.reduceBNe, Nat.reduceBEq, List.append_nil, Int.toNat_zero, Nat.sub_self]
    (refine hk _ ?_; clear hk k; try show Sat _ _ _ _ _)
    refine Sat.ret ?_
    simp only [Try.results70, evr, id, reduceCtorEq, reduceIte, Nat.reduceMul, Nat.reduceAdd, Nat.reduceLT, Nat.reduceLeDiff, Nat.reduceEqDiff, Int.reduceLT, Int.reduceBEq, Int.reduceBNe, Nat.reduceBEq, List.append_nil, Int.toNat_zero, Nat.sub_self]
    rw [cmp_len d1 d2 hne]
  have hle : xs.length = ys.length := by
    simp only [bne_eq_false_iff_eq] at h
    omega
  have e0 : IntKind.i64.wrap ((xs.length : Int) - 1) = (xs.length : Int) - 1 := w64 (by omega)
  refine Sat.skip ?_
  simp only [thenK]
  (repeat refine Sat.seq ?_)
  refine Sat.region_k fun k hk => ?_
  simp -implicitDefEqProofs only [evr, id, reduceCtorEq, reduceIte, Nat.reduceMul, Nat.reduceAdd, Nat.reduceLT, Nat.reduceLeDiff, Nat.reduceEqDiff, Int.reduceLT, Int.reduceBEq, Int.reduceBNe, Nat.reduceBEq, List.append_nil, Int.toNat_zero, Nat.sub_self, e0]
  (refine hk _ ?_; clear hk k; try show Sat _ _ _ _ _)
  (repeat refine Sat.seq ?_)
  refine Sat.block ?_
  (repeat refine Sat.seq ?_)
  refine Sat.loop (ι := Nat) (fun q => ⟨41, [(5, .i .i64 ((q : Int) - 1)), (0, .sl a1 xs.length c1 z1 r1), (1, .sl a2 ys.length c2 z2 r2)], []⟩)
    (fun q => q ≤ xs.length ∧ xs.drop q = ys.drop q) (fun q => q) xs.length ⟨Nat.le_refl _, by rw [List.drop_length, hle, List.drop_length]⟩ (by simp -implicitDefEqProofs only [evr, id, reduceCtorEq, reduceIte, Nat.reduceMul, Nat.reduceAdd, Nat.reduceLT, Nat.reduceLeDiff, Nat.reduceEqDiff, Int.reduceLT, Int.reduceBEq, Int.reduceBNe, Nat.reduceBEq, List.append_nil, Int.toNat_zero, Nat.sub_self, evl]; try rfl) ?_
  rintro q ⟨hq, hdr⟩
  (repeat refine Sat.seq ?_)
  (refine Sat.region_k fun k hk => ?_; simp -implicitDefEqProofs only [evr, id, reduceCtorEq, reduceIte, Nat.reduceMul, Nat.reduceAdd, Nat.reduceLT, Nat.reduceLeDiff, Nat.reduceEqDiff, Int.reduceLT, Int.reduceBEq, Int.reduceBNe, Nat.reduceBEq, List.append_nil, Int.toNat_zero, Nat.sub_self]; refine hk _ ?_; clear hk k; try show Sat _ _ _ _ _)
  (repeat refine Sat.seq ?_)
  refine Sat.cond_b rfl (fun h2 => ?_) (fun h2 => ?_)
  · simp only [decide_eq_true_eq] at h2
    obtain ⟨j, rfl⟩ : ∃ j, q = j + 1 := ⟨q - 1, by omega⟩
    have hj : j < xs.length := by omega
    have hj2 : j < ys.length := by omega
    have ej : (((j + 1 : Nat) : Int) - 1) = (j : Int) := by omega
    have ej2 : IntKind.i64.wrap ((j : Int) - 1) = (j : Int) - 1 := w64 (by omega)
    have hsz1 : z1 = 1 := by
      rcases hz1 with hz | hz
      · omega
      · exact hz
    have hsz2 : z2 = 1 := by
      rcases hz2 with hz | hz
      · omega
      · exact hz
    subst hsz1 hsz2
    have g1 := hr1 j hj
    have g2 := hr2 j hj2
    refine Sat.skip ?_
    simp only [thenK, ej]
    (repeat refine Sat.seq ?_)
    refine Sat.block ?_
    (repeat refine Sat.seq ?_)
    (refine Sat.region_qk (by kernel_rfl) (by kernel_rfl) fun k hk => ?_; simp -implicitDefEqProofs only [evr, id, reduceCtorEq, reduceIte, Nat.reduceMul, Nat.reduceAdd, Nat.reduceLT, Nat.reduceLeDiff, Nat.reduceEqDiff, Int.reduceLT, Int.reduceBEq, Int.reduceBNe, Nat.reduceBEq, List.append_nil, Int.toNat_zero, Nat.sub_self])
    refine ⟨by omega, by omega, ?_⟩
    rw [g1, g2]
    simp -implicitDefEqProofs only [evr, id, reduceCtorEq, reduceIte, Nat.reduceMul, Nat.reduceAdd, Nat.reduceLT, Nat.reduceLeDiff, Nat.reduceEqDiff, Int.reduceLT, Int.reduceBEq, Int.reduceBNe, Nat.reduceBEq, List.append_nil, Int.toNat_zero, Nat.sub_self]
    (refine hk _ ?_; clear hk k; try show Sat _ _ _ _ _)
    (repeat refine Sat.seq ?_)
    refine Sat.cond_b rfl (fun h5 => ?_) (fun h5 => ?_)
    · have h6 : xs.getD j 0 ≠ ys.getD j 0 := by simpa using h5
      have hcmp := cmp_limb d1.limbs d2.limbs hj hj2 hdr h6
      rw [d1.val, d2.val] at hcmp
      (repeat refine Sat.seq ?_)
      (refine Sat.region_qk (by kernel_rfl) (by kernel_rfl) fun k hk => ?_; simp -implicitDefEqProofs only [evr, id, reduceCtorEq, reduceIte, Nat.reduceMul, Nat.reduceAdd, Nat.reduceLT, Nat.reduceLeDiff, Nat.reduceEqDiff, Int.reduceLT, Int.reduceBEq, Int.reduceBNe, Nat.reduceBEq, List.append_nil, Int.toNat_zero, Nat.sub_self])
      refine ⟨by omega, by omega, ?_⟩
      rw [g1, g2]
      refine qcall (refOrderC Frm.nil _ _) (by simp -implicitDefEqProofs only [evr, id, reduceCtorEq, reduceIte, Nat.reduceMul, Nat.reduceAdd, Nat.reduceLT, Nat.reduceLeDiff, Nat.reduceEqDiff, Int.reduceLT, Int.reduceBEq, Int.reduceBNe, Nat.reduceBEq, List.append_nil, Int.toNat_zero, Nat.sub_self]; try rfl) (ok_plain rfl) ?_
      simp -implicitDefEqProofs only [evr, id, reduceCtorEq, reduceIte, Nat.reduceMul, Nat.reduceAdd, Nat.reduceLT, Nat.reduceLeDiff, Nat.reduceEqDiff, Int.reduceLT, Int.reduceBEq, Int.reduceBNe, Nat.reduceBEq, List.append_nil, Int.toNat_zero, Nat.sub_self]
      (refine hk _ ?_; clear hk k; try show Sat _ _ _ _ _)
      refine Sat.ret ?_
      simp only [thenK, blockK, Try.results70, evr, id, reduceCtorEq, reduceIte, Nat.reduceMul, Nat.reduceAdd, Nat.reduceLT, Nat.reduceLeDiff, Nat.reduceEqDiff, Int.reduceLT, Int.reduceBEq, Int.reduceBNe, Nat.reduceBEq, List.append_nil, Int.toNat_zero, Nat.sub_self]
      first | rw [hcmp] | rw [← hcmp]
    · have h6 : xs.getD j 0 = ys.getD j 0 := by simpa using h5
      refine Sat.skip ?_
      simp only [thenK, blockK]
      (repeat refine Sat.seq ?_)
      refine Sat.region_k fun k hk => ?_
      simp -implicitDefEqProofs only [evr, id, reduceCtorEq, reduceIte, Nat.reduceMul, Nat.reduceAdd, Nat.reduceLT, Nat.reduceLeDiff, Nat.reduceEqDiff, Int.reduceLT, Int.reduceBEq, Int.reduceBNe, Nat.reduceBEq, List.append_nil, Int.toNat_zero, Nat.sub_self, ej2]
      refine hk _ ?_
      simp only [thenK, blockK]
      refine ⟨j, ⟨by show j ≤ xs.length; omega, drop_eq_step hj hj2 hdr h6⟩, by show j < j + 1; omega, ?_⟩
      simp -implicitDefEqProofs only [evr, id, reduceCtorEq, reduceIte, Nat.reduceMul, Nat.reduceAdd, Nat.reduceLT, Nat.reduceLeDiff, Nat.reduceEqDiff, Int.reduceLT, Int.reduceBEq, Int.reduceBNe, Nat.reduceBEq, List.append_nil, Int.toNat_zero, Nat.sub_self, evl]
  · simp only [decide_eq_false_iff_not] at h2
    obtain rfl : q = 0 := by omega
    rw [List.drop_zero, List.drop_zero] at hdr
    have hmn : m = n := (d1.inj d2).1 hdr
    refine Sat.exit ?_
    simp only [thenK, blockK, reduceIte]
    (repeat refine Sat.seq ?_)
    (refine Sat.region_k fun k hk => ?_; simp -implicitDefEqProofs only [evr, id, reduceCtorEq, reduceIte, Nat.reduceMul, Nat.reduceAdd, Nat.reduceLT, Nat.reduceLeDiff, Nat.reduceEqDiff, Int.reduceLT, Int.reduceBEq, Int.reduceBNe, Nat.reduceBEq, List.append_nil, Int.toNat_zero, Nat.sub_self]; refine hk _ ?_; clear hk k; try show Sat _ _ _ _ _)
    refine Sat.ret ?_
    simp only [Try.results70, evr, id, reduceCtorEq, reduceIte, Nat.reduceMul, Nat.reduceAdd, Nat.reduceLT, Nat.reduceLeDiff, Nat.reduceEqDiff, Int.reduceLT, Int.reduceBEq, Int.reduceBNe, Nat.reduceBEq, List.append_nil, Int.toNat_zero, Nat.sub_self]
    rw [cmpI_eq (by omega)]
end Go.Proofs.Ytagmohpafjncfaa

/- The reference of package natural, by the evaluator: half, Times. -/
set_option linter.unusedSimpArgs false
set_option linter.unusedVariables false
namespace Go.Proofs.Ytagmohpafjncfaa
open Eng Lmb Go.RowKit
theorem rd_zero {n N : Nat} {rd : Nat → Nat → SV} (h : ∀ p, rd p 0 = .i .i64 0) : rdEq n 1 rd (fun p _ => .i .i64 ((List.replicate N 0).getD p 0)) := by
  intro p j hp hj
  obtain rfl : j = 0 := by omega
  rw [h p]
  show SV.i .i64 0 = SV.i .i64 _
  congr 1
  simp only [List.getD, List.getElem?_replicate]
  split <;> rfl
theorem rd_set {qs : List Int} {n ix : Nat} {x y : Int} (hx : y = x) (h : ix < qs.length) : rdEq n 1 (rdSet (fun p _ => .i .i64 (qs.getD p 0)) ix 0 [.i .i64 y]) (fun p _ => .i .i64 ((qs.set ix x).getD p 0)) := by
  subst hx
  intro p j hp hj
  obtain rfl : j = 0 := by omega
  unfold rdSet
  show (if _ then _ else _) = SV.i .i64 _
  rw [getD_set _ _ _ h]
  by_cases hpx : p = ix
  · subst hpx
    simp
  · rw [if_neg (by intro h; exact hpx h.1), if_neg (fun h => hpx h.symm)]
set_option maxRecDepth 100000 in
theorem refHalfC (F : Frm) {sa : SV} {m : Nat} (ha : Nats sa m) (b1 : (m : Int) < pw 512) : Contract F Try.prog 79 [sa] (fun r => Nats r (m / 2)) := by
  obtain ⟨xs, hi1, d1⟩ := ha.ints
  have l1 := (d1.len_le 512).2 b1
  obtain ⟨a1, c1, z1, r1, rfl, hz1, hr1⟩ := hi1
  refine contract_of Try.func79 rfl (by kernel_rfl) ?_
  simp only [Try.ntmps79, argEnv]
  have e0 : IntKind.i64.wrap ((xs.length : Int) - 1) = (xs.length : Int) - 1 := w64 (by omega)
  (repeat refine Sat.seq ?_)
  (refine Sat.region_k fun k hk => ?_; simp -implicitDefEqProofs only [evr, id, reduceCtorEq, reduceIte, Nat.reduceMul, Nat.reduceAdd, Nat.reduceLT, Nat.reduceLeDiff, Nat.reduceEqDiff, Int.reduceLT, Int.reduceBEq, Int.reduceBNe, Nat.reduceBEq, List.append_nil, Nat.sub_self]; refine hk _ ?_; clear hk k; try show Sat _ _ _ _ _)
  (repeat refine Sat.seq ?_)
  (refine Sat.region_k fun k hk => ?_; simp -implicitDefEqProofs only [evr, id, reduceCtorEq, reduceIte, Nat.reduceMul, Nat.reduceAdd, Nat.reduceLT, Nat.reduceLeDiff, Nat.reduceEqDiff, Int.reduceLT, Int.reduceBEq, Int.reduceBNe, Nat.reduceBEq, List.append_nil, Nat.sub_self])
  refine ⟨by omega, fun a cap => ?_⟩
  (refine hk _ ?_; clear hk k; try show Sat _ _ _ _ _)
  (repeat refine Sat.seq ?_)
  (refine Sat.region_k fun k hk => ?_; simp -implicitDefEqProofs only [evr, id, reduceCtorEq, reduceIte, Nat.reduceMul, Nat.reduceAdd, Nat.reduceLT, Nat.reduceLeDiff, Nat.reduceEqDiff, Int.reduceLT, Int.reduceBEq, Int.reduceBNe, Nat.reduceBEq, List.append_nil, Nat.sub_self]; refine hk _ ?_; clear hk k; try show Sat _ _ _ _ _)
  (repeat refine Sat.seq ?_)
  refine Sat.region_k fun k hk => ?_
  simp -implicitDefEqProofs only [evr, id, reduceCtorEq, reduceIte, Nat.reduceMul, Nat.reduceAdd, Nat.reduceLT, Nat.reduceLeDiff, Nat.reduceEqDiff, Int.reduceLT, Int.reduceBEq, Int.reduceBNe, Nat.reduceBEq, List.append_nil, Nat.sub_self, e0]
  (refine hk _ ?_; clear hk k; try show Sat _ _ _ _ _)
  (repeat refine Sat.seq ?_)
  refine Sat.block ?_
  (repeat refine Sat.seq ?_)
  refine Sat.loop (ι := Nat × Int × List Int) (fun x => ⟨33, [(5, .i .i64 ((x.1 : Int) - 1)), (4, .i .i64 x.2.1), (3, .os 0 a xs.length cap), (0, .sl a1 xs.length c1 z1 r1)], [.row a 3 xs.length cap 1 (fun p _ => .i .i64 (x.2.2.getD p 0))]⟩)
    (fun x => x.1 ≤ xs.length ∧ SmallInv xs 2 x.1 x.2.2 x.2.1) (fun x => x.1) (xs.length, 0, List.replicate xs.length 0) ⟨Nat.le_refl _, SmallInv.start xs 2 (by decide)⟩ (by simp -implicitDefEqProofs only [evr, id, reduceCtorEq, reduceIte, Nat.reduceMul, Nat.reduceAdd, Nat.reduceLT, Nat.reduceLeDiff, Nat.reduceEqDiff, Int.reduceLT, Int.reduceBEq, Int.reduceBNe, Nat.reduceBEq, List.append_nil, Nat.sub_self, evl]; exact rd_zero (fun p => rfl)) ?_
  rintro ⟨q, rest, qs⟩ ⟨hq, hinv⟩
  simp only at hq hinv ⊢
  have t1 := hinv.r0
  have t2 := hinv.r1
  have t3 := hinv.len
  (repeat refine Sat.seq ?_)
  (refine Sat.region_k fun k hk => ?_; simp -implicitDefEqProofs only [evr, id, reduceCtorEq, reduceIte, Nat.reduceMul, Nat.reduceAdd, Nat.reduceLT, Nat.reduceLeDiff, Nat.reduceEqDiff, Int.reduceLT, Int.reduceBEq, Int.reduceBNe, Nat.reduceBEq, List.append_nil, Nat.sub_self]; refine hk _ ?_; clear hk k; try show Sat _ _ _ _ _)
  (repeat refine Sat.seq ?_)
  refine Sat.cond_b rfl (fun h2 => ?_) (fun h2 => ?_)
  · simp only [decide_eq_true_eq] at h2
    obtain ⟨j, rfl⟩ : ∃ j, q = j + 1 := ⟨q - 1, by omega⟩
    have hj : j < xs.length := by omega
    have ej : (((j + 1 : Nat) : Int) - 1) = (j : Int) := by omega
    have ej2 : IntKind.i64.wrap ((j : Int) - 1) = (j : Int) - 1 := w64 (by omega)
    have hsz1 : z1 = 1 := by
      rcases hz1 with hz | hz
      · omega
      · exact hz
    subst hsz1
    have g1 := hr1 j hj
    have bx := limbs_getD d1.limbs j
    have hnext := hinv.step d1.limbs hj
    have w1 : IntKind.i64.wrap (rest * 1073741824) = rest * 1073741824 := w64 (by omega)
    have w2 : IntKind.i64.wrap (xs.getD j 0 + rest * 1073741824) = rest * 1073741824 + xs.getD j 0 := by rw [w64 (by omega)]; omega
    have tq : IntKind.i64.wrap ((rest * 1073741824 + xs.getD j 0).tdiv 2) = (rest * 1073741824 + xs.getD j 0) / 2 := by
      rw [Int.tdiv_eq_ediv_of_nonneg (by omega), w64 (by omega)]
    have tm : (rest * 1073741824 + xs.getD j 0).tmod 2 = (rest * 1073741824 + xs.getD j 0) % 2 := Int.tmod_eq_emod_of_nonneg (by omega)
    refine Sat.skip ?_
    simp only [thenK, ej]
    (repeat refine Sat.seq ?_)
    refine Sat.block ?_
    (repeat refine Sat.seq ?_)
    refine Sat.region_k fun k hk => ?_
    simp -implicitDefEqProofs only [evr, id, reduceCtorEq, reduceIte, Nat.reduceMul, Nat.reduceAdd, Nat.reduceLT, Nat.reduceLeDiff, Nat.reduceEqDiff, Int.reduceLT, Int.reduceBEq, Int.reduceBNe, Nat.reduceBEq, List.append_nil, Nat.sub_self]
    refine ⟨by omega, ?_⟩
    rw [g1]
    simp -implicitDefEqProofs only [evr, id, reduceCtorEq, reduceIte, Nat.reduceMul, Nat.reduceAdd, Nat.reduceLT, Nat.reduceLeDiff, Nat.reduceEqDiff, Int.reduceLT, Int.reduceBEq, Int.reduceBNe, Nat.reduceBEq, List.append_nil, Nat.sub_self, w1, w2]
    (refine hk _ ?_; clear hk k; try show Sat _ _ _ _ _)
    (repeat refine Sat.seq ?_)
    refine Sat.region_k fun k hk => ?_
    simp -implicitDefEqProofs only [evr, id, reduceCtorEq, reduceIte, Nat.reduceMul, Nat.reduceAdd, Nat.reduceLT, Nat.reduceLeDiff, Nat.reduceEqDiff, Int.reduceLT, Int.reduceBEq, Int.reduceBNe, Nat.reduceBEq, List.append_nil, Nat.sub_self, tq]
    refine ⟨by decide, by omega, by omega, ?_⟩
    (refine hk _ ?_; clear hk k; try show Sat _ _ _ _ _)
    refine Sat.region_k fun k hk => ?_
    simp -implicitDefEqProofs only [evr, id, reduceCtorEq, reduceIte, Nat.reduceMul, Nat.reduceAdd, Nat.reduceLT, Nat.reduceLeDiff, Nat.reduceEqDiff, Int.reduceLT, Int.reduceBEq, Int.reduceBNe, Nat.reduceBEq, List.append_nil, Nat.sub_self, tm]
    refine ⟨by decide, ?_⟩
    refine hk _ ?_
    clear hk k
    simp only [thenK, blockK]
    (repeat refine Sat.seq ?_)
    refine Sat.region_k fun k hk => ?_
    simp -implicitDefEqProofs only [evr, id, reduceCtorEq, reduceIte, Nat.reduceMul, Nat.reduceAdd, Nat.reduceLT, Nat.reduceLeDiff, Nat.reduceEqDiff, Int.reduceLT, Int.reduceBEq, Int.reduceBNe, Nat.reduceBEq, List.append_nil, Nat.sub_self, ej2]
    refine hk _ ?_
    simp only [thenK, blockK]
    refine ⟨(j, (rest * 1073741824 + xs.getD j 0) % 2, qs.set j ((rest * 1073741824 + xs.getD j 0) / 2)), ⟨by show j ≤ xs.length; omega, hnext⟩, by show j < j + 1; omega, ?_⟩
    simp -implicitDefEqProofs only [evr, id, reduceCtorEq, reduceIte, Nat.reduceMul, Nat.reduceAdd, Nat.reduceLT, Nat.reduceLeDiff, Nat.reduceEqDiff, Int.reduceLT, Int.reduceBEq, Int.reduceBNe, Nat.reduceBEq, List.append_nil, Nat.sub_self, evl]
    exact rd_set rfl (by omega)
  · simp only [decide_eq_false_iff_not] at h2
    obtain rfl : q = 0 := by omega
    have hd := (hinv.done (n := m) (c := 2) d1.val rfl).1
    have hv : (val qs).toNat = m / 2 := by
      have h8 := hd.val
      rw [trim_val] at h8
      omega
    refine Sat.exit ?_
    simp only [thenK, blockK, reduceIte]
    (repeat refine Sat.seq ?_)
    (refine Sat.region_k fun k hk => ?_; simp -implicitDefEqProofs only [evr, id, reduceCtorEq, reduceIte, Nat.reduceMul, Nat.reduceAdd, Nat.reduceLT, Nat.reduceLeDiff, Nat.reduceEqDiff, Int.reduceLT, Int.reduceBEq, Int.reduceBNe, Nat.reduceBEq, List.append_nil, Nat.sub_self])
    refine wcall_slice (refTrimC F (s := .sl a qs.length cap 1 (fun p _ => .i .i64 (qs.getD p 0))) ⟨a, cap, 1, _, rfl, .inr rfl, fun p _ => rfl⟩ hinv.limbs) (by simp -implicitDefEqProofs only [evr, id, reduceCtorEq, reduceIte, Nat.reduceMul, Nat.reduceAdd, Nat.reduceLT, Nat.reduceLeDiff, Nat.reduceEqDiff, Int.reduceLT, Int.reduceBEq, Int.reduceBNe, Nat.reduceBEq, List.append_nil, Nat.sub_self]; try rfl) (by simp -implicitDefEqProofs only [evr, id, reduceCtorEq, reduceIte, Nat.reduceMul, Nat.reduceAdd, Nat.reduceLT, Nat.reduceLeDiff, Nat.reduceEqDiff, Int.reduceLT, Int.reduceBEq, Int.reduceBNe, Nat.reduceBEq, List.append_nil, Nat.sub_self, t3]; try rfl) ?_
    intro y hy
    rw [hv] at hy
    have hs8 := hy
    obtain ⟨a8, c8, z8, r8, x8, rfl, _⟩ := hy
    simp -implicitDefEqProofs only [evr, id, reduceCtorEq, reduceIte, Nat.reduceMul, Nat.reduceAdd, Nat.reduceLT, Nat.reduceLeDiff, Nat.reduceEqDiff, Int.reduceLT, Int.reduceBEq, Int.reduceBNe, Nat.reduceBEq, List.append_nil, Nat.sub_self]
    (refine hk _ ?_; clear hk k; try show Sat _ _ _ _ _)
    refine Sat.ret ?_
    simp only [Try.results79, evr, id, reduceCtorEq, reduceIte, Nat.reduceMul, Nat.reduceAdd, Nat.reduceLT, Nat.reduceLeDiff, Nat.reduceEqDiff, Int.reduceLT, Int.reduceBEq, Int.reduceBNe, Nat.reduceBEq, List.append_nil, Nat.sub_self]
    exact hs8
def TimIn (xs ys os : List Int) (j q : Nat) (c : Int) (qs : List Int) : Prop := (q ≤ ys.length ∧ MulIn xs ys os qs j q c) ∨ (q = ys.length + 1 ∧ c = 0 ∧ MulOut xs ys qs (j + 1))
theorem TimIn.step {xs ys os qs : List Int} {j q : Nat} {c : Int} (h : TimIn xs ys os j q c qs) (dx : Limbs xs) (dy : Limbs ys) (ho : MulOut xs ys os j) (hj : j < xs.length) (hg : q < ys.length ∨ 0 < c) :
    TimIn xs ys os j (q + 1) ((qs.getD (j + q) 0 + xs.getD j 0 * ys.getD q 0 + c) / 1073741824) (qs.set (j + q) ((qs.getD (j + q) 0 + xs.getD j 0 * ys.getD q 0 + c) % 1073741824)) := by
  rcases h with ⟨hq, h⟩ | ⟨hq, hc, _⟩
  · rcases (show q < ys.length ∨ q = ys.length by omega) with hlt | rfl
    · exact .inl ⟨hlt, h.step dx dy hj hlt⟩
    · right
      have z1 : ys.getD ys.length 0 = 0 := by simp [List.getD]
      have z2 := h.zero (j + ys.length) (Nat.le_refl _)
      have c0 := h.c0
      have c1 := h.c1
      have e : qs.getD (j + ys.length) 0 + xs.getD j 0 * ys.getD ys.length 0 + c = c := by rw [z1, z2]; omega
      rw [e]
      have e1 : c % 1073741824 = c := by omega
      have e2 : c / 1073741824 = 0 := by omega
      rw [e1, e2]
      exact ⟨rfl, rfl, h.done ho hj⟩
  · omega
theorem set_same {l : List Int} {i : Nat} (h : l.getD i 0 = 0) (hi : i < l.length) : l.set i 0 = l := by
  have e : l[i] = 0 := by simpa [List.getD, hi] using h
  rw [← e, List.set_getElem_self]
theorem TimIn.exit {xs ys os qs : List Int} {j q : Nat} {c : Int} (h : TimIn xs ys os j q c qs) (ho : MulOut xs ys os j) (hj : j < xs.length) (hg : ¬ (q < ys.length ∨ 0 < c)) : MulOut xs ys qs (j + 1) := by
  rcases h with ⟨hq, h⟩ | ⟨hq, hc, h⟩
  · have c0 := h.c0
    have hc : c = 0 := by omega
    have hq2 : q = ys.length := by omega
    subst hc hq2
    have hd := h.done ho hj
    rwa [set_same (h.zero _ (Nat.le_refl _)) (by have := h.len; omega)] at hd
  · exact h
theorem TimIn.facts {xs ys os qs : List Int} {j q : Nat} {c : Int} (h : TimIn xs ys os j q c qs) : qs.length = xs.length + ys.length ∧ Limbs qs ∧ 0 ≤ c ∧ c < 1073741824 ∧ q ≤ ys.length + 1 := by
  rcases h with ⟨hq, h⟩ | ⟨hq, hc, h⟩
  · exact ⟨h.len, h.limbs, h.c0, h.c1, by omega⟩
  · exact ⟨h.len, h.limbs, by omega, by omega, by omega⟩
set_option maxRecDepth 100000 in
theorem refTimesC (F : Frm) {sa sb : SV} {m n : Nat} (ha : Nats sa m) (hb : Nats sb n) (b1 : (m : Int) < pw 512) (b2 : (n : Int) < pw 512) : Contract F Try.prog 51 [sa, sb] (fun r => Nats r (m * n)) := by
  obtain ⟨xs, hi1, d1⟩ := ha.ints
  obtain ⟨ys, hi2, d2⟩ := hb.ints
  have l1 := (d1.len_le 512).2 b1
  have l2 := (d2.len_le 512).2 b2
  have hj2 := hi2
  obtain ⟨a1, c1, z1, r1, rfl, hz1, hr1⟩ := hi1
  obtain ⟨a2, c2, z2, r2, rfl, hz2, hr2⟩ := hi2
  refine contract_of Try.func51 rfl (by kernel_rfl) ?_
  simp only [Try.ntmps51, argEnv]
  have e0 : IntKind.i64.wrap ((xs.length : Int) + (ys.length : Int)) = ((xs.length + ys.length : Nat) : Int) := by rw [w64 (by omega)]; omega
  generalize hN : xs.length + ys.length = N at e0
  (repeat refine Sat.seq ?_)
  (refine Sat.region_k fun k hk => ?_; simp -implicitDefEqProofs only [evr, id, reduceCtorEq, reduceIte, Nat.reduceMul, Nat.reduceAdd, Nat.reduceLT, Nat.reduceLeDiff, Nat.reduceEqDiff, Int.reduceLT, Int.reduceBEq, Int.reduceBNe, Nat.reduceBEq, List.append_nil, Nat.sub_self]; refine hk _ ?_; clear hk k; try show Sat _ _ _ _ _)
  (repeat refine Sat.seq ?_)
  refine Sat.region_k fun k hk => ?_
  simp -implicitDefEqProofs only [evr, id, reduceCtorEq, reduceIte, Nat.reduceMul, Nat.reduceAdd, Nat.reduceLT, Nat.reduceLeDiff, Nat.reduceEqDiff, Int.reduceLT, Int.reduceBEq, Int.reduceBNe, Nat.reduceBEq, List.append_nil, Nat.sub_self, e0]
  refine ⟨by omega, fun a cap => ?_⟩
  (refine hk _ ?_; clear hk k; try show Sat _ _ _ _ _)
  (repeat refine Sat.seq ?_)
  (refine Sat.region_k fun k hk => ?_; simp -implicitDefEqProofs only [evr, id, reduceCtorEq, reduceIte, Nat.reduceMul, Nat.reduceAdd, Nat.reduceLT, Nat.reduceLeDiff, Nat.reduceEqDiff, Int.reduceLT, Int.reduceBEq, Int.reduceBNe, Nat.reduceBEq, List.append_nil, Nat.sub_self]; refine hk _ ?_; clear hk k; try show Sat _ _ _ _ _)
  (repeat refine Sat.seq ?_)
  refine Sat.block ?_
  (repeat refine Sat.seq ?_)
  refine Sat.loop (ι := Nat × List Int) (fun x => ⟨60, [(6, .i .i64 x.1), (5, .os 0 a N cap), (0, .sl a1 xs.length c1 z1 r1), (1, .sl a2 ys.length c2 z2 r2)], [.row a 3 N cap 1 (fun p _ => .i .i64 (x.2.getD p 0))]⟩)
    (fun x => x.1 ≤ xs.length ∧ MulOut xs ys x.2 x.1) (fun x => xs.length - x.1) (0, List.replicate (xs.length + ys.length) 0) ⟨Nat.zero_le _, MulOut.start xs ys⟩ (by simp -implicitDefEqProofs only [evr, id, reduceCtorEq, reduceIte, Nat.reduceMul, Nat.reduceAdd, Nat.reduceLT, Nat.reduceLeDiff, Nat.reduceEqDiff, Int.reduceLT, Int.reduceBEq, Int.reduceBNe, Nat.reduceBEq, List.append_nil, Nat.sub_self, evl]; exact ⟨rfl, rd_zero (fun p => rfl)⟩) ?_
  rintro ⟨j, os⟩ ⟨hj, hout⟩
  simp only at hj hout ⊢
  (repeat refine Sat.seq ?_)
  (refine Sat.region_k fun k hk => ?_; simp -implicitDefEqProofs only [evr, id, reduceCtorEq, reduceIte, Nat.reduceMul, Nat.reduceAdd, Nat.reduceLT, Nat.reduceLeDiff, Nat.reduceEqDiff, Int.reduceLT, Int.reduceBEq, Int.reduceBNe, Nat.reduceBEq, List.append_nil, Nat.sub_self]; refine hk _ ?_; clear hk k; try show Sat _ _ _ _ _)
  (repeat refine Sat.seq ?_)
  refine Sat.cond_b rfl (fun h => ?_) (fun h => ?_)
  · simp only [decide_eq_true_eq] at h
    have hjl : j < xs.length := by omega
    have hsz1 : z1 = 1 := by
      rcases hz1 with hz | hz
      · omega
      · exact hz
    subst hsz1
    have g1 := hr1 j hjl
    have bx := limbs_getD d1.limbs j
    have ej1 : IntKind.i64.wrap ((j : Int) + 1) = ((j + 1 : Nat) : Int) := by rw [w64 (by omega)]; omega
    refine Sat.skip ?_
    simp only [thenK]
    (repeat refine Sat.seq ?_)
    refine Sat.block ?_
    (repeat refine Sat.seq ?_)
    (refine Sat.region_k fun k hk => ?_; simp -implicitDefEqProofs only [evr, id, reduceCtorEq, reduceIte, Nat.reduceMul, Nat.reduceAdd, Nat.reduceLT, Nat.reduceLeDiff, Nat.reduceEqDiff, Int.reduceLT, Int.reduceBEq, Int.reduceBNe, Nat.reduceBEq, List.append_nil, Nat.sub_self]; refine hk _ ?_; clear hk k; try show Sat _ _ _ _ _)
    (repeat refine Sat.seq ?_)
    (refine Sat.region_k fun k hk => ?_; simp -implicitDefEqProofs only [evr, id, reduceCtorEq, reduceIte, Nat.reduceMul, Nat.reduceAdd, Nat.reduceLT, Nat.reduceLeDiff, Nat.reduceEqDiff, Int.reduceLT, Int.reduceBEq, Int.reduceBNe, Nat.reduceBEq, List.append_nil, Nat.sub_self]; refine hk _ ?_; clear hk k; try show Sat _ _ _ _ _)
    (repeat refine Sat.seq ?_)
    refine Sat.block ?_
    (repeat refine Sat.seq ?_)
    refine Sat.loop (ι := Nat × Int × List Int) (fun x => ⟨60, [(8, .i .i64 x.1), (7, .i .i64 x.2.1), (6, .i .i64 j), (5, .os 0 a N cap), (0, .sl a1 xs.length c1 1 r1), (1, .sl a2 ys.length c2 z2 r2)], [.row a 3 N cap 1 (fun p _ => .i .i64 (x.2.2.getD p 0))]⟩)
      (fun x => TimIn xs ys os j x.1 x.2.1 x.2.2) (fun x => ys.length + 1 - x.1) (0, 0, os) (.inl ⟨Nat.zero_le _, MulIn.start hout⟩) (by simp -implicitDefEqProofs only [evr, id, reduceCtorEq, reduceIte, Nat.reduceMul, Nat.reduceAdd, Nat.reduceLT, Nat.reduceLeDiff, Nat.reduceEqDiff, Int.reduceLT, Int.reduceBEq, Int.reduceBNe, Nat.reduceBEq, List.append_nil, Nat.sub_self, evl]; try rfl) ?_
    rintro ⟨q, c, qs⟩ hin
    simp only at hin ⊢
    obtain ⟨f1, f2, f3, f4, f5⟩ := hin.facts
    have bo := limbs_getD f2 (j + q)
    have bY := limbs_getD d2.limbs q
    have bp := limb_prod bx bY
    (repeat refine Sat.seq ?_)
    refine Sat.region_at ⟨60, [(29, .b (decide (q < ys.length ∨ 0 < c))), (8, .i .i64 q), (7, .i .i64 c), (6, .i .i64 j), (5, .os 0 a N cap), (0, .sl a1 xs.length c1 1 r1), (1, .sl a2 ys.length c2 z2 r2)], [.row a 3 N cap 1 (fun p _ => .i .i64 (qs.getD p 0))]⟩ (fun k hk => ?_) ?_
    · simp -implicitDefEqProofs only [evr, id, reduceCtorEq, reduceIte, Nat.reduceMul, Nat.reduceAdd, Nat.reduceLT, Nat.reduceLeDiff, Nat.reduceEqDiff, Int.reduceLT, Int.reduceBEq, Int.reduceBNe, Nat.reduceBEq, List.append_nil, Nat.sub_self]
      refine ⟨fun h => ?_, fun h2 => ?_⟩
      · refine hk _ ?_
        have e : decide (q < ys.length ∨ 0 < c) = true := decide_eq_true (.inl (by omega))
        rw [e]
        simp -implicitDefEqProofs only [evr, id, reduceCtorEq, reduceIte, Nat.reduceMul, Nat.reduceAdd, Nat.reduceLT, Nat.reduceLeDiff, Nat.reduceEqDiff, Int.reduceLT, Int.reduceBEq, Int.reduceBNe, Nat.reduceBEq, List.append_nil, Nat.sub_self, evl]
      · refine hk _ ?_
        have e : decide (q < ys.length ∨ 0 < c) = decide (0 < c) := by
          congr 1
          apply propext
          constructor
          · rintro (h3 | h3)
            · omega
            · exact h3
          · exact fun h3 => .inr h3
        rw [e]
        simp -implicitDefEqProofs only [evr, id, reduceCtorEq, reduceIte, Nat.reduceMul, Nat.reduceAdd, Nat.reduceLT, Nat.reduceLeDiff, Nat.reduceEqDiff, Int.reduceLT, Int.reduceBEq, Int.reduceBNe, Nat.reduceBEq, List.append_nil, Nat.sub_self, evl]
    simp only [thenK]
    refine Sat.cond_b rfl (fun h3 => ?_) (fun h3 => ?_)
    · have hg : q < ys.length ∨ 0 < c := of_decide_eq_true h3
      have hnext := hin.step d1.limbs d2.limbs hout hjl hg
      have hql : q ≤ ys.length := by
        rcases hin with h9 | ⟨h9, h10, _⟩
        · exact h9.1
        · omega
      have w0 : IntKind.i64.wrap ((j : Int) + (q : Int)) = ((j + q : Nat) : Int) := by rw [w64 (by omega)]; omega
      have w1 : IntKind.i64.wrap (xs.getD j 0 * ys.getD q 0) = xs.getD j 0 * ys.getD q 0 := w64 (by omega)
      have w2 : IntKind.i64.wrap (qs.getD (j + q) 0 + xs.getD j 0 * ys.getD q 0) = qs.getD (j + q) 0 + xs.getD j 0 * ys.getD q 0 := w64 (by omega)
      have w3 : IntKind.i64.wrap (qs.getD (j + q) 0 + xs.getD j 0 * ys.getD q 0 + c) = qs.getD (j + q) 0 + xs.getD j 0 * ys.getD q 0 + c := w64 (by omega)
      refine Sat.skip ?_
      simp only [thenK]
      (repeat refine Sat.seq ?_)
      refine Sat.block ?_
      (repeat refine Sat.seq ?_)
      refine Sat.region_qk (by kernel_rfl) (by kernel_rfl) fun k hk => ?_
      simp -implicitDefEqProofs only [evr, id, reduceCtorEq, reduceIte, Nat.reduceMul, Nat.reduceAdd, Nat.reduceLT, Nat.reduceLeDiff, Nat.reduceEqDiff, Int.reduceLT, Int.reduceBEq, Int.reduceBNe, Nat.reduceBEq, List.append_nil, Nat.sub_self, w0]
      refine ⟨by omega, by omega, by omega, ?_⟩
      refine qcall (refLimbC Frm.nil hj2 q) (by simp -implicitDefEqProofs only [evr, id, reduceCtorEq, reduceIte, Nat.reduceMul, Nat.reduceAdd, Nat.reduceLT, Nat.reduceLeDiff, Nat.reduceEqDiff, Int.reduceLT, Int.reduceBEq, Int.reduceBNe, Nat.reduceBEq, List.append_nil, Nat.sub_self]; try rfl) (ok_plain rfl) ?_
      rw [g1]
      simp -implicitDefEqProofs only [evr, id, reduceCtorEq, reduceIte, Nat.reduceMul, Nat.reduceAdd, Nat.reduceLT, Nat.reduceLeDiff, Nat.reduceEqDiff, Int.reduceLT, Int.reduceBEq, Int.reduceBNe, Nat.reduceBEq, List.append_nil, Nat.sub_self, w1, w2, w3]
      refine hk _ ?_
      clear hk k
      try show Sat _ _ _ _ _
      generalize hxx : qs.getD (j + q) 0 + xs.getD j 0 * ys.getD q 0 + c = x at *
      have bxx : 0 ≤ x ∧ x < 2305843009213693952 := by omega
      have tm : x.tmod 1073741824 = x % 1073741824 := Int.tmod_eq_emod_of_nonneg (by omega)
      have td : IntKind.i64.wrap (x.tdiv 1073741824) = x / 1073741824 := by
        rw [Int.tdiv_eq_ediv_of_nonneg (by omega), w64 (by omega)]
      have tq : IntKind.i64.wrap ((q : Int) + 1) = ((q + 1 : Nat) : Int) := by rw [w64 (by omega)]; omega
      (repeat refine Sat.seq ?_)
      refine Sat.region_k fun k hk => ?_
      simp -implicitDefEqProofs only [evr, id, reduceCtorEq, reduceIte, Nat.reduceMul, Nat.reduceAdd, Nat.reduceLT, Nat.reduceLeDiff, Nat.reduceEqDiff, Int.reduceLT, Int.reduceBEq, Int.reduceBNe, Nat.reduceBEq, List.append_nil, Nat.sub_self, w0, tm]
      refine ⟨by decide, by omega, by omega, ?_⟩
      (refine hk _ ?_; clear hk k; try show Sat _ _ _ _ _)
      refine Sat.region_k fun k hk => ?_
      simp -implicitDefEqProofs only [evr, id, reduceCtorEq, reduceIte, Nat.reduceMul, Nat.reduceAdd, Nat.reduceLT, Nat.reduceLeDiff, Nat.reduceEqDiff, Int.reduceLT, Int.reduceBEq, Int.reduceBNe, Nat.reduceBEq, List.append_nil, Nat.sub_self, td]
      refine ⟨by decide, ?_⟩
      refine hk _ ?_
      clear hk k
      simp only [thenK, blockK]
      (repeat refine Sat.seq ?_)
      refine Sat.region_k fun k hk => ?_
      simp -implicitDefEqProofs only [evr, id, reduceCtorEq, reduceIte, Nat.reduceMul, Nat.reduceAdd, Nat.reduceLT, Nat.reduceLeDiff, Nat.reduceEqDiff, Int.reduceLT, Int.reduceBEq, Int.reduceBNe, Nat.reduceBEq, List.append_nil, Nat.sub_self, tq]
      refine hk _ ?_
      simp only [thenK, blockK]
      refine ⟨(q + 1, x / 1073741824, qs.set (j + q) (x % 1073741824)), hnext, by show ys.length + 1 - (q + 1) < ys.length + 1 - q; omega, ?_⟩
      simp -implicitDefEqProofs only [evr, id, reduceCtorEq, reduceIte, Nat.reduceMul, Nat.reduceAdd, Nat.reduceLT, Nat.reduceLeDiff, Nat.reduceEqDiff, Int.reduceLT, Int.reduceBEq, Int.reduceBNe, Nat.reduceBEq, List.append_nil, Nat.sub_self, evl]
      exact rd_set rfl (by omega)
    · have hg : ¬ (q < ys.length ∨ 0 < c) := of_decide_eq_false h3
      have hnext := hin.exit hout hjl hg
      refine Sat.exit ?_
      simp only [thenK, blockK, reduceIte]
      (repeat refine Sat.seq ?_)
      refine Sat.region_k fun k hk => ?_
      simp -implicitDefEqProofs only [evr, id, reduceCtorEq, reduceIte, Nat.reduceMul, Nat.reduceAdd, Nat.reduceLT, Nat.reduceLeDiff, Nat.reduceEqDiff, Int.reduceLT, Int.reduceBEq, Int.reduceBNe, Nat.reduceBEq, List.append_nil, Nat.sub_self, ej1]
      refine hk _ ?_
      simp only [thenK, blockK]
      refine ⟨(j + 1, qs), ⟨by show j + 1 ≤ xs.length; omega, hnext⟩, by show xs.length - (j + 1) < xs.length - j; omega, ?_⟩
      simp -implicitDefEqProofs only [evr, id, reduceCtorEq, reduceIte, Nat.reduceMul, Nat.reduceAdd, Nat.reduceLT, Nat.reduceLeDiff, Nat.reduceEqDiff, Int.reduceLT, Int.reduceBEq, Int.reduceBNe, Nat.reduceBEq, List.append_nil, Nat.sub_self, evl]
  · simp only [decide_eq_false_iff_not] at h
    have hj9 : j = xs.length := by omega
    subst hj9
    have hd := hout.done d1.val d2.val
    have hv : (val os).toNat = m * n := by
      have h8 := hd.val
      rw [trim_val] at h8
      omega
    have t3 := hout.len
    refine Sat.exit ?_
    simp only [thenK, blockK, reduceIte]
    (repeat refine Sat.seq ?_)
    (refine Sat.region_k fun k hk => ?_; simp -implicitDefEqProofs only [evr, id, reduceCtorEq, reduceIte, Nat.reduceMul, Nat.reduceAdd, Nat.reduceLT, Nat.reduceLeDiff, Nat.reduceEqDiff, Int.reduceLT, Int.reduceBEq, Int.reduceBNe, Nat.reduceBEq, List.append_nil, Nat.sub_self])
    refine wcall_slice (refTrimC F (s := .sl a os.length cap 1 (fun p _ => .i .i64 (os.getD p 0))) ⟨a, cap, 1, _, rfl, .inr rfl, fun p _ => rfl⟩ hout.limbs) (by simp -implicitDefEqProofs only [evr, id, reduceCtorEq, reduceIte, Nat.reduceMul, Nat.reduceAdd, Nat.reduceLT, Nat.reduceLeDiff, Nat.reduceEqDiff, Int.reduceLT, Int.reduceBEq, Int.reduceBNe, Nat.reduceBEq, List.append_nil, Nat.sub_self]; try rfl) (by simp -implicitDefEqProofs only [evr, id, reduceCtorEq, reduceIte, Nat.reduceMul, Nat.reduceAdd, Nat.reduceLT, Nat.reduceLeDiff, Nat.reduceEqDiff, Int.reduceLT, Int.reduceBEq, Int.reduceBNe, Nat.reduceBEq, List.append_nil, Nat.sub_self, t3, hN]; try rfl) ?_
    intro y hy
    rw [hv] at hy
    have hs8 := hy
    obtain ⟨a8, c8, z8, r8, x8, rfl, _⟩ := hy
    simp -implicitDefEqProofs only [evr, id, reduceCtorEq, reduceIte, Nat.reduceMul, Nat.reduceAdd, Nat.reduceLT, Nat.reduceLeDiff, Nat.reduceEqDiff, Int.reduceLT, Int.reduceBEq, Int.reduceBNe, Nat.reduceBEq, List.append_nil, Nat.sub_self]
    (refine hk _ ?_; clear hk k; try show Sat _ _ _ _ _)
    refine Sat.ret ?_
    simp only [Try.results51, evr, id, reduceCtorEq, reduceIte, Nat.reduceMul, Nat.reduceAdd, Nat.reduceLT, Nat.reduceLeDiff, Nat.reduceEqDiff, Int.reduceLT, Int.reduceBEq, Int.reduceBNe, Nat.reduceBEq, List.append_nil, Nat.sub_self]
    exact hs8
end Go.Proofs.Ytagmohpafjncfaa

/- Fractions, by the evaluator: package fraction's Reduce and Compare. -/
set_option linter.unusedSimpArgs false
set_option linter.unusedVariables false
namespace Go.Proofs.Ytagmohpafjncfaa
open Eng Lmb
def frS (neg : Bool) (sp sq : SV) : SV := .agg 3 fun j => [SV.b neg, sp, sq].getD j default
def FrS (r : SV) (neg : Bool) (p q : Nat) : Prop := ∃ sp sq, r = frS neg sp sq ∧ Nats sp p ∧ Nats sq q
theorem Nats.len {a : Option Addr} {len cap sz n : Nat} {rd : Nat → Nat → SV} (h : Nats (.sl a len cap sz rd) n) : (0 < (len : Int)) = (0 < n) := by
  obtain ⟨a', cap', sz', rd', xs, he, _, _, hd⟩ := h
  simp only [SV.sl.injEq] at he
  have := hd.len_zero
  apply propext
  rw [he.2.1]
  omega
set_option maxRecDepth 100000 in
theorem fractionReducedC (F : Frm) (neg : Bool) {sp sq : SV} {p q : Nat} (hp : Nats sp p) (hq : Nats sq q) (h1 : (p : Int) < pw 256) (h2 : (q : Int) < pw 256) (h0 : 0 < q) : Contract F Try.prog 60 [.b neg, sp, sq] (fun r => FrS r (neg && decide (0 < p / Nat.gcd p q)) (p / Nat.gcd p q) (q / Nat.gcd p q)) := by
  have hp' := hp
  have hq' := hq
  have hg : 0 < Nat.gcd p q := Nat.gcd_pos_of_pos_right _ h0
  obtain ⟨a1, c1, z1, r1, x1, rfl, _⟩ := hp
  obtain ⟨a2, c2, z2, r2, x2, rfl, _⟩ := hq
  refine contract_of Try.func60 rfl (by kernel_rfl) ?_
  simp only [Try.ntmps60, argEnv]
  (repeat refine Sat.seq ?_)
  (refine Sat.region_k fun k hk => ?_; simp -implicitDefEqProofs only [evr, id, reduceCtorEq, reduceIte, Nat.reduceMul, Nat.reduceAdd, Nat.reduceLT, Nat.reduceLeDiff, Nat.reduceEqDiff, Int.reduceLT, Int.reduceBEq, Int.reduceBNe, Nat.reduceBEq, List.append_nil, Int.toNat_zero, Nat.sub_self])
  intro b6
  (refine hk _ ?_; clear hk k; try show Sat _ _ _ _ _)
  (repeat refine Sat.seq ?_)
  (refine Sat.region_k fun k hk => ?_; simp -implicitDefEqProofs only [evr, id, reduceCtorEq, reduceIte, Nat.reduceMul, Nat.reduceAdd, Nat.reduceLT, Nat.reduceLeDiff, Nat.reduceEqDiff, Int.reduceLT, Int.reduceBEq, Int.reduceBNe, Nat.reduceBEq, List.append_nil, Int.toNat_zero, Nat.sub_self])
  refine wcall_slice (gcdC F hp' hq' h1 h2) rfl rfl ?_
  intro r hs
  have hgs := hs
  obtain ⟨a3, c3, z3, r3, x3, rfl, _⟩ := hs
  simp -implicitDefEqProofs only [evr, id, reduceCtorEq, reduceIte, Nat.reduceMul, Nat.reduceAdd, Nat.reduceLT, Nat.reduceLeDiff, Nat.reduceEqDiff, Int.reduceLT, Int.reduceBEq, Int.reduceBNe, Nat.reduceBEq, List.append_nil, Int.toNat_zero, Nat.sub_self]
  (refine hk _ ?_; clear hk k; try show Sat _ _ _ _ _)
  (repeat refine Sat.seq ?_)
  (refine Sat.region_k fun k hk => ?_; simp -implicitDefEqProofs only [evr, id, reduceCtorEq, reduceIte, Nat.reduceMul, Nat.reduceAdd, Nat.reduceLT, Nat.reduceLeDiff, Nat.reduceEqDiff, Int.reduceLT, Int.reduceBEq, Int.reduceBNe, Nat.reduceBEq, List.append_nil, Int.toNat_zero, Nat.sub_self])
  refine wcall_slice (divModC F hp' hgs h1 hg) rfl rfl ?_
  rintro r ⟨s, t, rfl, hs, ht⟩
  have hs4 := hs
  obtain ⟨a4, c4, z4, r4, x4, rfl, _⟩ := hs
  obtain ⟨a5, c5, z5, r5, x5, rfl, _⟩ := ht
  simp -implicitDefEqProofs only [evr, id, reduceCtorEq, reduceIte, Nat.reduceMul, Nat.reduceAdd, Nat.reduceLT, Nat.reduceLeDiff, Nat.reduceEqDiff, Int.reduceLT, Int.reduceBEq, Int.reduceBNe, Nat.reduceBEq, List.append_nil, Int.toNat_zero, Nat.sub_self]
  (refine hk _ ?_; clear hk k; try show Sat _ _ _ _ _)
  (repeat refine Sat.seq ?_)
  (refine Sat.region_k fun k hk => ?_; simp -implicitDefEqProofs only [evr, id, reduceCtorEq, reduceIte, Nat.reduceMul, Nat.reduceAdd, Nat.reduceLT, Nat.reduceLeDiff, Nat.reduceEqDiff, Int.reduceLT, Int.reduceBEq, Int.reduceBNe, Nat.reduceBEq, List.append_nil, Int.toNat_zero, Nat.sub_self])
  refine wcall_slice (divModC F hq' hgs h2 hg) rfl rfl ?_
  rintro r ⟨s, t, rfl, hs, ht⟩
  have hs6 := hs
  obtain ⟨a6, c6, z6, r6, x6, rfl, _⟩ := hs
  obtain ⟨a7, c7, z7, r7, x7, rfl, _⟩ := ht
  simp -implicitDefEqProofs only [evr, id, reduceCtorEq, reduceIte, Nat.reduceMul, Nat.reduceAdd, Nat.reduceLT, Nat.reduceLeDiff, Nat.reduceEqDiff, Int.reduceLT, Int.reduceBEq, Int.reduceBNe, Nat.reduceBEq, List.append_nil, Int.toNat_zero, Nat.sub_self]
  (refine hk _ ?_; clear hk k; try show Sat _ _ _ _ _)
  (repeat refine Sat.seq ?_)
  (refine Sat.region_k fun k hk => ?_; simp -implicitDefEqProofs only [evr, id, reduceCtorEq, reduceIte, Nat.reduceMul, Nat.reduceAdd, Nat.reduceLT, Nat.reduceLeDiff, Nat.reduceEqDiff, Int.reduceLT, Int.reduceBEq, Int.reduceBNe, Nat.reduceBEq, List.append_nil, Int.toNat_zero, Nat.sub_self])
  have e := hs4.len
  refine ⟨fun h => ?_, fun h => ?_⟩
  · (refine hk _ ?_; clear hk k; try show Sat _ _ _ _ _)
    refine Sat.ret ?_
    simp only [Try.results60, evr, id, reduceCtorEq, reduceIte, Nat.reduceMul, Nat.reduceAdd, Nat.reduceLT, Nat.reduceLeDiff, Nat.reduceEqDiff, Int.reduceLT, Int.reduceBEq, Int.reduceBNe, Nat.reduceBEq, List.append_nil, Int.toNat_zero, Nat.sub_self]
    simp only [e, h, Bool.true_and]
    exact ⟨_, _, rfl, hs4, hs6⟩
  · (refine hk _ ?_; clear hk k; try show Sat _ _ _ _ _)
    refine Sat.boxBools 0 rfl ?_
    simp only [roB, List.map_cons, List.map_nil, List.set_cons_zero]
    refine Sat.ret ?_
    simp only [Try.results60, evr, id, reduceCtorEq, reduceIte, Nat.reduceMul, Nat.reduceAdd, Nat.reduceLT, Nat.reduceLeDiff, Nat.reduceEqDiff, Int.reduceLT, Int.reduceBEq, Int.reduceBNe, Nat.reduceBEq, List.append_nil, Int.toNat_zero, Nat.sub_self]
    simp only [h, Bool.false_and]
    exact ⟨_, _, rfl, hs4, hs6⟩
set_option maxRecDepth 100000 in
theorem fractionReduceC (F : Frm) (neg : Bool) {sp sq : SV} {p q : Nat} (hp : Nats sp p) (hq : Nats sq q) (h1 : (p : Int) < pw 256) (h2 : (q : Int) < pw 256) (h0 : 0 < q) : Contract F Try.prog 33 [frS neg sp sq] (fun r => FrS r (neg && decide (0 < p / Nat.gcd p q)) (p / Nat.gcd p q) (q / Nat.gcd p q)) := by
  have hp' := hp
  have hq' := hq
  obtain ⟨a1, c1, z1, r1, x1, rfl, _⟩ := hp
  obtain ⟨a2, c2, z2, r2, x2, rfl, _⟩ := hq
  refine contract_of Try.func33 rfl (by kernel_rfl) ?_
  simp only [Try.ntmps33, argEnv, frS]
  (repeat refine Sat.seq ?_)
  (refine Sat.region_k fun k hk => ?_; simp -implicitDefEqProofs only [evr, id, reduceCtorEq, reduceIte, Nat.reduceMul, Nat.reduceAdd, Nat.reduceLT, Nat.reduceLeDiff, Nat.reduceEqDiff, Int.reduceLT, Int.reduceBEq, Int.reduceBNe, Nat.reduceBEq, List.append_nil, Int.toNat_zero, Nat.sub_self])
  intro b1 b2
  (refine hk _ ?_; clear hk k; try show Sat _ _ _ _ _)
  (repeat refine Sat.seq ?_)
  (refine Sat.region_k fun k hk => ?_; simp -implicitDefEqProofs only [evr, id, reduceCtorEq, reduceIte, Nat.reduceMul, Nat.reduceAdd, Nat.reduceLT, Nat.reduceLeDiff, Nat.reduceEqDiff, Int.reduceLT, Int.reduceBEq, Int.reduceBNe, Nat.reduceBEq, List.append_nil, Int.toNat_zero, Nat.sub_self])
  refine wcall_slice (fractionReducedC F neg hp' hq' h1 h2 h0) rfl (by simp -implicitDefEqProofs only [evr, id, reduceCtorEq, reduceIte, Nat.reduceMul, Nat.reduceAdd, Nat.reduceLT, Nat.reduceLeDiff, Nat.reduceEqDiff, Int.reduceLT, Int.reduceBEq, Int.reduceBNe, Nat.reduceBEq, List.append_nil, Int.toNat_zero, Nat.sub_self]; try rfl) ?_
  rintro r ⟨sp3, sq3, rfl, h3, h4⟩
  have h3' := h3
  have h4' := h4
  obtain ⟨a3, c3, z3, r3, x3, rfl, _⟩ := h3
  obtain ⟨a4, c4, z4, r4, x4, rfl, _⟩ := h4
  simp only [frS, evr, id, reduceCtorEq, reduceIte, Nat.reduceMul, Nat.reduceAdd, Nat.reduceLT, Nat.reduceLeDiff, Nat.reduceEqDiff, Int.reduceLT, Int.reduceBEq, Int.reduceBNe, Nat.reduceBEq, List.append_nil, Int.toNat_zero, Nat.sub_self]
  (refine hk _ ?_; clear hk k; try show Sat _ _ _ _ _)
  refine Sat.ret ?_
  simp only [Try.results33, evr, id, reduceCtorEq, reduceIte, Nat.reduceMul, Nat.reduceAdd, Nat.reduceLT, Nat.reduceLeDiff, Nat.reduceEqDiff, Int.reduceLT, Int.reduceBEq, Int.reduceBNe, Nat.reduceBEq, List.append_nil, Int.toNat_zero, Nat.sub_self]
  exact ⟨_, _, rfl, h3', h4'⟩
def sumV (na : Bool) (a : Nat) (nb : Bool) (b : Nat) : Bool × Nat := if na = nb then (na, a + b) else if a < b then (nb, b - a) else (na, a - b)
set_option maxRecDepth 100000 in
theorem fractionSumC (F : Frm) (na nb : Bool) {sa sb : SV} {a b : Nat} (ha : Nats sa a) (hb : Nats sb b) (h1 : (a : Int) < pw 256) (h2 : (b : Int) < pw 256) (h3 : ((a + b : Nat) : Int) < pw 256) : Contract F Try.prog 34 [.b na, sa, .b nb, sb] (fun r => ∃ s, r = tupL [.b (sumV na a nb b).1, s] ∧ Nats s (sumV na a nb b).2) := by
  have ha' := ha
  have hb' := hb
  obtain ⟨a1, c1, z1, r1, x1, rfl, _⟩ := ha
  obtain ⟨a2, c2, z2, r2, x2, rfl, _⟩ := hb
  refine contract_of Try.func34 rfl (by kernel_rfl) ?_
  simp only [Try.ntmps34, argEnv]
  (repeat refine Sat.seq ?_)
  (refine Sat.region_k fun k hk => ?_; simp -implicitDefEqProofs only [evr, id, reduceCtorEq, reduceIte, Nat.reduceMul, Nat.reduceAdd, Nat.reduceLT, Nat.reduceLeDiff, Nat.reduceEqDiff, Int.reduceLT, Int.reduceBEq, Int.reduceBNe, Nat.reduceBEq, List.append_nil, Int.toNat_zero, Nat.sub_self]; refine hk _ ?_; clear hk k; try show Sat _ _ _ _ _)
  (repeat refine Sat.seq ?_)
  (refine Sat.region_k fun k hk => ?_; simp -implicitDefEqProofs only [evr, id, reduceCtorEq, reduceIte, Nat.reduceMul, Nat.reduceAdd, Nat.reduceLT, Nat.reduceLeDiff, Nat.reduceEqDiff, Int.reduceLT, Int.reduceBEq, Int.reduceBNe, Nat.reduceBEq, List.append_nil, Int.toNat_zero, Nat.sub_self]; refine hk _ ?_; clear hk k; try show Sat _ _ _ _ _)
  refine Sat.cond_b rfl (fun h => ?_) (fun h => ?_)
  · have hn : na = nb := by simpa using h
    (repeat refine Sat.seq ?_)
    (refine Sat.region_k fun k hk => ?_; simp -implicitDefEqProofs only [evr, id, reduceCtorEq, reduceIte, Nat.reduceMul, Nat.reduceAdd, Nat.reduceLT, Nat.reduceLeDiff, Nat.reduceEqDiff, Int.reduceLT, Int.reduceBEq, Int.reduceBNe, Nat.reduceBEq, List.append_nil, Int.toNat_zero, Nat.sub_self])
    refine wcall_slice (addC F ha' hb' h3) rfl rfl ?_
    rintro r ⟨s, rfl, hs⟩
    have hs' := hs
    obtain ⟨a3, c3, z3, r3, x3, rfl, _⟩ := hs
    simp -implicitDefEqProofs only [evr, id, reduceCtorEq, reduceIte, Nat.reduceMul, Nat.reduceAdd, Nat.reduceLT, Nat.reduceLeDiff, Nat.reduceEqDiff, Int.reduceLT, Int.reduceBEq, Int.reduceBNe, Nat.reduceBEq, List.append_nil, Int.toNat_zero, Nat.sub_self]
    (refine hk _ ?_; clear hk k; try show Sat _ _ _ _ _)
    (repeat refine Sat.seq ?_)
    (refine Sat.region_k fun k hk => ?_; simp -implicitDefEqProofs only [evr, id, reduceCtorEq, reduceIte, Nat.reduceMul, Nat.reduceAdd, Nat.reduceLT, Nat.reduceLeDiff, Nat.reduceEqDiff, Int.reduceLT, Int.reduceBEq, Int.reduceBNe, Nat.reduceBEq, List.append_nil, Int.toNat_zero, Nat.sub_self]; refine hk _ ?_; clear hk k; try show Sat _ _ _ _ _)
    refine Sat.ret ?_
    simp only [Try.results34, evr, id, reduceCtorEq, reduceIte, Nat.reduceMul, Nat.reduceAdd, Nat.reduceLT, Nat.reduceLeDiff, Nat.reduceEqDiff, Int.reduceLT, Int.reduceBEq, Int.reduceBNe, Nat.reduceBEq, List.append_nil, Int.toNat_zero, Nat.sub_self]
    unfold sumV
    rw [if_pos hn]
    exact ⟨_, rfl, hs'⟩
  have hn : ¬ na = nb := by simpa using h
  refine Sat.skip ?_
  simp only [thenK]
  (repeat refine Sat.seq ?_)
  (refine Sat.region_k fun k hk => ?_; simp -implicitDefEqProofs only [evr, id, reduceCtorEq, reduceIte, Nat.reduceMul, Nat.reduceAdd, Nat.reduceLT, Nat.reduceLeDiff, Nat.reduceEqDiff, Int.reduceLT, Int.reduceBEq, Int.reduceBNe, Nat.reduceBEq, List.append_nil, Int.toNat_zero, Nat.sub_self])
  refine wcall_plain (natCmpC F ha' hb') rfl (by rintro _ rfl; exact ok_plain rfl) ?_
  rintro r rfl
  simp -implicitDefEqProofs only [evr, id, reduceCtorEq, reduceIte, Nat.reduceMul, Nat.reduceAdd, Nat.reduceLT, Nat.reduceLeDiff, Nat.reduceEqDiff, Int.reduceLT, Int.reduceBEq, Int.reduceBNe, Nat.reduceBEq, List.append_nil, Int.toNat_zero, Nat.sub_self]
  (refine hk _ ?_; clear hk k; try show Sat _ _ _ _ _)
  (repeat refine Sat.seq ?_)
  refine Sat.cond_b rfl (fun h => ?_) (fun h => ?_)
  · have hlt : a < b := by
      by_cases h9 : a < b
      · exact h9
      exfalso
      simp only [decide_eq_true_eq] at h
      by_cases h8 : b < a
      · rw [cmpI_gt (by omega)] at h; omega
      · rw [cmpI_eq (by omega)] at h; omega
    (repeat refine Sat.seq ?_)
    (refine Sat.region_k fun k hk => ?_; simp -implicitDefEqProofs only [evr, id, reduceCtorEq, reduceIte, Nat.reduceMul, Nat.reduceAdd, Nat.reduceLT, Nat.reduceLeDiff, Nat.reduceEqDiff, Int.reduceLT, Int.reduceBEq, Int.reduceBNe, Nat.reduceBEq, List.append_nil, Int.toNat_zero, Nat.sub_self]; refine hk _ ?_; clear hk k; try show Sat _ _ _ _ _)
    (repeat refine Sat.seq ?_)
    (refine Sat.region_k fun k hk => ?_; simp -implicitDefEqProofs only [evr, id, reduceCtorEq, reduceIte, Nat.reduceMul, Nat.reduceAdd, Nat.reduceLT, Nat.reduceLeDiff, Nat.reduceEqDiff, Int.reduceLT, Int.reduceBEq, Int.reduceBNe, Nat.reduceBEq, List.append_nil, Int.toNat_zero, Nat.sub_self])
    refine wcall_slice (subC F hb' ha' h2 (Nat.le_of_lt hlt)) rfl rfl ?_
    rintro r ⟨s, rfl, hs⟩
    have hs' := hs
    obtain ⟨a3, c3, z3, r3, x3, rfl, _⟩ := hs
    simp -implicitDefEqProofs only [evr, id, reduceCtorEq, reduceIte, Nat.reduceMul, Nat.reduceAdd, Nat.reduceLT, Nat.reduceLeDiff, Nat.reduceEqDiff, Int.reduceLT, Int.reduceBEq, Int.reduceBNe, Nat.reduceBEq, List.append_nil, Int.toNat_zero, Nat.sub_self]
    (refine hk _ ?_; clear hk k; try show Sat _ _ _ _ _)
    (repeat refine Sat.seq ?_)
    (refine Sat.region_k fun k hk => ?_; simp -implicitDefEqProofs only [evr, id, reduceCtorEq, reduceIte, Nat.reduceMul, Nat.reduceAdd, Nat.reduceLT, Nat.reduceLeDiff, Nat.reduceEqDiff, Int.reduceLT, Int.reduceBEq, Int.reduceBNe, Nat.reduceBEq, List.append_nil, Int.toNat_zero, Nat.sub_self]; refine hk _ ?_; clear hk k; try show Sat _ _ _ _ _)
    refine Sat.ret ?_
    simp only [Try.results34, evr, id, reduceCtorEq, reduceIte, Nat.reduceMul, Nat.reduceAdd, Nat.reduceLT, Nat.reduceLeDiff, Nat.reduceEqDiff, Int.reduceLT, Int.reduceBEq, Int.reduceBNe, Nat.reduceBEq, List.append_nil, Int.toNat_zero, Nat.sub_self]
    unfold sumV
    rw [if_neg hn, if_pos hlt]
    exact ⟨_, rfl, hs'⟩
  · have hlt : ¬ a < b := by
      intro h9
      rw [cmpI_lt (by omega)] at h
      revert h
      decide
    refine Sat.skip ?_
    simp only [thenK]
    (repeat refine Sat.seq ?_)
    (refine Sat.region_k fun k hk => ?_; simp -implicitDefEqProofs only [evr, id, reduceCtorEq, reduceIte, Nat.reduceMul, Nat.reduceAdd, Nat.reduceLT, Nat.reduceLeDiff, Nat.reduceEqDiff, Int.reduceLT, Int.reduceBEq, Int.reduceBNe, Nat.reduceBEq, List.append_nil, Int.toNat_zero, Nat.sub_self])
    refine wcall_slice (subC F ha' hb' h1 (by omega)) rfl rfl ?_
    rintro r ⟨s, rfl, hs⟩
    have hs' := hs
    obtain ⟨a3, c3, z3, r3, x3, rfl, _⟩ := hs
    simp -implicitDefEqProofs only [evr, id, reduceCtorEq, reduceIte, Nat.reduceMul, Nat.reduceAdd, Nat.reduceLT, Nat.reduceLeDiff, Nat.reduceEqDiff, Int.reduceLT, Int.reduceBEq, Int.reduceBNe, Nat.reduceBEq, List.append_nil, Int.toNat_zero, Nat.sub_self]
    (refine hk _ ?_; clear hk k; try show Sat _ _ _ _ _)
    (repeat refine Sat.seq ?_)
    (refine Sat.region_k fun k hk => ?_; simp -implicitDefEqProofs only [evr, id, reduceCtorEq, reduceIte, Nat.reduceMul, Nat.reduceAdd, Nat.reduceLT, Nat.reduceLeDiff, Nat.reduceEqDiff, Int.reduceLT, Int.reduceBEq, Int.reduceBNe, Nat.reduceBEq, List.append_nil, Int.toNat_zero, Nat.sub_self]; refine hk _ ?_; clear hk k; try show Sat _ _ _ _ _)
    refine Sat.ret ?_
    simp only [Try.results34, evr, id, reduceCtorEq, reduceIte, Nat.reduceMul, Nat.reduceAdd, Nat.reduceLT, Nat.reduceLeDiff, Nat.reduceEqDiff, Int.reduceLT, Int.reduceBEq, Int.reduceBNe, Nat.reduceBEq, List.append_nil, Int.toNat_zero, Nat.sub_self]
    unfold sumV
    rw [if_neg hn, if_neg hlt]
    exact ⟨_, rfl, hs'⟩
end Go.Proofs.Ytagmohpafjncfaa
