/- natural.Choose: it returns the binomial coefficient. -/
import Derived.Test.YtagmohpafjncfaaZNat
import Derived.Test.YtagmohpafjncfaaZClone
import Derived.Test.YtagmohpafjncfaaNatE
import Derived.Test.YtagmohpafjncfaaNtE
import Derived.Test.YtagmohpafjncfaaPk1
import Derived.Test.YtagmohpafjncfaaEngR
import Derived.Test.YtagmohpafjncfaaNat
import Derived.WalkKit
import Derived.Carry
import Derived.Deep.Draws
import Derived.Test.YtagmohpafjncfaaProg
import Derived.Lib.Hide
import Derived.Deep.LoopGhost
import Derived.Deep.QuietTactic
import Derived.BigQuiet
import Derived.Outline
import Derived.OpenShut
import Derived.Test.YtagmohpafjncfaaEv
set_option linter.unusedSectionVars false
set_option linter.unusedSimpArgs false
set_option linter.unusedVariables false
namespace Go.Proofs.Ytagmohpafjncfaa.Zn
open Go.RowKit Lmb
variable [Zone]
set_option maxHeartbeats 1000000 in
theorem choose_calls (n k : Nat) (w : World) (hN : Zone.N ≤ w.heap.size) (hn : n ≤ 1024) (hk : k ≤ 1024) :
    Calls Try.prog 36 #[.int .i64 (n : Int), .int .i64 (k : Int)] w (RetNat (binom n k) w) := by
  by_cases hlt : n < k
  · have hc := binom_gt n k hlt
    have HC := Lib.hid hc
    clear hc
    go_enter Try.func36, Try.ntmps36
    go_wp2
    go_ret2
    rw [HC.out]
    exact ⟨_, rfl, ⟨[], Rd.nil _ _ hN, Dig.nil⟩, Below.refl _ _⟩
  · go_enter Try.func36, Try.ntmps36
    go_wp2
    have hlit : NatAt (w.alloc (.cells #[.int .i64 1] 3)) (.slice (some ⟨w.heap.size, 0, none⟩) 1 1) (binom n 0) := by
      rw [binom_zero]; exact lit_nat w hN 1 1 rfl (by omega) (by omega)
    have hbel0 : Below w.heap.size w (w.alloc (.cells #[.int .i64 1] 3)) := (Below.refl _ _).alloc (Nat.le_refl _) _
    have HLIT := Lib.hid hlit
    clear hlit
    go_loopg [29, 6] k (fun m i v wr => ∃ j : Nat, i = .int .i64 j ∧ j + m = k ∧ NatAt wr v (binom n j) ∧ Below w.heap.size w wr)
    case atStart => exact ⟨0, rfl, by omega, HLIT.out, hbel0⟩
    case round =>
      obtain ⟨j, rfl, hj, hv, hbel⟩ := hrel
      have HV := Lib.hid hv
      clear hv hbel0
      cases gk with
      | zero =>
        obtain rfl : j = k := by omega
        go_wp2
        go_ret2
        exact ⟨_, rfl, HV.out, hbel⟩
      | succ m =>
        go_wp2_with fail
        have hl := lit_nat (e := 3) wr HV.out.zone ((n : Int) - (j : Int)) (n - j) (by omega) (by omega) (by omega)
        have hb1 : Below wr.heap.size wr (wr.alloc (.cells #[.int .i64 ((n : Int) - (j : Int))] 3)) := (Below.refl _ _).alloc (Nat.le_refl _) _
        refine (mul_nat (HV.out.below hb1) hl (binom_pw hn j) (lt_pw (a := 10) (by omega) (by decide)) (binom_mul_pw hn j (n - j) (by omega))).mono ?_
        rintro e w2 ⟨v2, rfl, hv2, hb2⟩
        go_wp2_with fail
        refine (small_nat (c := j + 1) hv2 (binom_mul_pw hn j (n - j) (by omega)) (by omega) (by omega) (by omega)).mono ?_
        rintro e w3 ⟨v3, rfl, hv3, hb3⟩
        rw [binom_div] at hv3
        have HV3 := Lib.hid hv3
        have HB := Lib.hid (Below.next (Below.next (Below.next hbel hb1) hb2) hb3)
        clear hv3
        go_wp2
        go_roundg m
        case measure => omega
        case rel => exact ⟨j + 1, by go_num, by omega, HV3.out, HB.out⟩
end Go.Proofs.Ytagmohpafjncfaa.Zn

/- natural.Add and natural.Mul where the result has too many limbs: the error. -/
set_option linter.unusedSectionVars false
set_option linter.unusedSimpArgs false
set_option linter.unusedVariables false
namespace Go.Proofs.Ytagmohpafjncfaa.Zn
open Go.RowKit Lmb
variable [Zone]
def RetLong (w : World) (e : Ending) (w' : World) : Prop := e = .returned (.tuple #[.slice none 0 0, .int .i64 5]) ∧ Below w.heap.size w w'
attribute [local go_sem] and_limb
set_option maxHeartbeats 1000000 in
theorem mul_long_lists (a b : Value) (xs ys : List Int) (w : World) (ha : Rd .i64 w a xs) (hb : Rd .i64 w b ys) (lx : Limbs xs) (ly : Limbs ys) (sx : xs.length ≤ 65536) (sy : ys.length ≤ 65536)
    (hok : ∀ os, MulOut xs ys os xs.length → 256 < (trim os).length) :
    Calls Try.prog 62 #[a, b] w (RetLong w) := by
  have HOK := Lib.hid hok
  clear hok
  obtain ⟨aa, ca, rfl, a1, a2, a3⟩ := ha
  obtain ⟨ab, cb, rfl, b1, b2, b3⟩ := hb
  obtain ⟨i0, hi, hz0, hz1, hz2⟩ := info_parts Try.infoInt
  unfold maxLen at a2 b2
  go_enter Try.func62, Try.ntmps62
  go_wp2_with (at_make; go_must (refine wpList_make_full _ rfl (.tmp 17) (.tmp 17) 28 rfl w.heap.size 3 i0 (.int .i64 0) 1 Try.underlying28 hi hz0 hz1 .i64 .i64 _ _ (xs.length + ys.length) rfl rfl (by omega) (by omega) ?b2 ?b3 (Nat.le_refl _) ?_))
  case b2 => rw [hz2]; omega
  case b3 => unfold maxLen; omega
  intro w1 hown hgrow
  have own1 := own_made hown a2.2.1
  have bel1 : Below w.heap.size w w1 := (Below.refl _ _).grown hgrow (Nat.le_refl _) (by simp)
  have hsz : w.heap.size < w1.heap.size := own1.lt.2
  clear hown hgrow
  go_wp2
  go_loopg [21] xs.length (fun m i wr => ∃ j : Nat, i = .int .i64 j ∧ j + m = xs.length ∧ ∃ os, MulOut xs ys os j ∧ Own .i64 3 w.heap.size wr w.heap.size (xs.length + ys.length) os ∧ Below w.heap.size w wr)
  case atStart => exact ⟨0, rfl, by omega, _, MulOut.start xs ys, own1, bel1⟩
  case round =>
    obtain ⟨j, rfl, hj, os, hmo, hown, hbel⟩ := hrel
    have hMO := Lib.hid hmo
    clear hmo own1
    cases gk with
    | zero =>
      obtain rfl : j = xs.length := by omega
      go_wp2_with fail
      refine (result_rd_long hown.rd (HOK.out os hMO.out)).mono ?_
      rintro e w' ⟨rfl, rfl⟩
      go_wp2
      go_ret2
      exact ⟨rfl, hbel⟩
    | succ m =>
      have hlt : j < xs.length := by omega
      obtain ⟨ba, oa, rfl, hba, hca⟩ : ∃ b off, aa = some ⟨b, off, none⟩ ∧ b < w.heap.size ∧ ∀ i, i < xs.length → w.cell? ⟨b, off + i, none⟩ = some (.int .i64 (xs.getD i 0)) := by
        rcases a3 with a3 | a3
        · omega
        · exact a3
      have hcx := (hbel.cell (p := ⟨ba, oa + j, none⟩) hba).trans (hca j hlt)
      have bx := limbs_getD lx j
      obtain ⟨x, hx⟩ : ∃ x, xs.getD j 0 = x := ⟨_, rfl⟩
      rw [hx] at hcx bx
      have HX := Lib.hid hx
      clear hca a3 hx
      obtain ⟨wo, rfl⟩ : ∃ wo : World, wo = wr := ⟨_, rfl⟩
      go_wp2
      go_loopg [28, 9] ys.length (fun m i c wr => ∃ k : Nat, i = .int .i64 k ∧ k + m = ys.length ∧ ∃ (q : Int) (qs : List Int), c = .int .i64 q ∧ MulIn xs ys os qs j k q ∧ Own .i64 3 w.heap.size wr w.heap.size (xs.length + ys.length) qs ∧ Below w.heap.size w wr)
      case atStart => exact ⟨0, rfl, by omega, 0, os, rfl, MulIn.start hMO.out, hown, hbel⟩
      case round =>
        obtain ⟨k, rfl, hk, q, qs, rfl, hmi, hown2, hbel2⟩ := hrel
        have hq0 := hmi.c0
        have hq1 := hmi.c1
        have hMI := Lib.hid hmi
        clear hmi hown hbel hcx
        cases gk with
        | zero =>
          obtain rfl : k = ys.length := by omega
          have hfr := hown2.frozen (j + ys.length)
          have hcell := hown2.cell (j + ys.length) (by omega)
          go_wp2
          go_roundg m
          case measure => omega
          case rel => exact ⟨j + 1, by go_num, by omega, _, hMI.out.done hMO.out hlt, hown2.store _ _, hbel2.setCell (Nat.le_refl _) _⟩
        | succ m2 =>
          have hlt2 : k < ys.length := by omega
          obtain ⟨bb, ob, rfl, hbb, hcb⟩ : ∃ b off, ab = some ⟨b, off, none⟩ ∧ b < w.heap.size ∧ ∀ i, i < ys.length → w.cell? ⟨b, off + i, none⟩ = some (.int .i64 (ys.getD i 0)) := by
            rcases b3 with b3 | b3
            · omega
            · exact b3
          have hcy := (hbel2.cell (p := ⟨bb, ob + k, none⟩) hbb).trans (hcb k hlt2)
          have bY := limbs_getD ly k
          have hco := hown2.cell (j + k) (by omega)
          have bo := limbs_getD hMI.out.limbs (j + k)
          have hfr := hown2.frozen (j + k)
          have hst := hMI.out.step lx ly hlt hlt2
          rw [HX.out] at hst
          obtain ⟨y, hy⟩ : ∃ y, ys.getD k 0 = y := ⟨_, rfl⟩
          obtain ⟨o, ho⟩ : ∃ o, qs.getD (j + k) 0 = o := ⟨_, rfl⟩
          rw [hy] at hcy bY hst
          rw [ho] at hco bo hst
          have bp := limb_prod bx bY
          have hST := Lib.hid hst
          clear hcb b3 hy ho hst
          go_wp2
          go_roundg m2
          case measure => omega
          case rel => exact ⟨k + 1, by go_num, by omega, _, _, rfl, hST.out, hown2.store _ _, hbel2.setCell (Nat.le_refl _) _⟩
set_option maxHeartbeats 1000000 in
theorem add_long_lists (a b : Value) (xs ys : List Int) (w : World) (m n : Nat) (ha : Rd .i64 w a xs) (hb : Rd .i64 w b ys) (lx : Limbs xs) (ly : Limbs ys) (sx : xs.length ≤ 65536) (sy : ys.length ≤ 65536)
    (dx : val xs = m) (dy : val ys = n) (hok : ∀ zs, Dig zs (m + n) → 256 < zs.length) :
    Calls Try.prog 61 #[a, b] w (RetLong w) := by
  have HOK := Lib.hid hok
  have DX := Lib.hid dx
  have DY := Lib.hid dy
  clear hok dx dy
  have ra := ha
  have rb := hb
  obtain ⟨aa, ca, rfl, a1, a2, a3⟩ := ha
  obtain ⟨ab, cb, rfl, b1, b2, b3⟩ := hb
  obtain ⟨i0, hi, hz0, hz1, hz2⟩ := info_parts Try.infoInt
  unfold maxLen at a2 b2
  clear a3 b3
  obtain ⟨k, hk⟩ : ∃ k, k = max xs.length ys.length := ⟨_, rfl⟩
  have hkx : xs.length ≤ k := by omega
  have hky : ys.length ≤ k := by omega
  have hk2 : k ≤ 65536 := by omega
  have hc : (xs.length < ys.length ∧ k = ys.length) ∨ (ys.length ≤ xs.length ∧ k = xs.length) := by omega
  have HKX := Lib.hid hkx
  have HKY := Lib.hid hky
  clear hk hkx hky
  generalize xs.length = n1 at ra a1 sx hc ⊢
  generalize ys.length = n2 at rb b1 sy hc ⊢
  rcases hc with ⟨hle, rfl⟩ | ⟨hle, rfl⟩
  all_goals
    go_enter Try.func61, Try.ntmps61
    go_wp2_with (at_make; go_must (refine wpList_make_full _ rfl (.tmp 17) (.tmp 17) 28 rfl w.heap.size 3 i0 (.int .i64 0) 1 Try.underlying28 hi hz0 hz1 .i64 .i64 _ _ (k + 1) rfl rfl (by omega) (by omega) ?b2 ?b3 (Nat.le_refl _) ?_))
    case b2 => rw [hz2]; omega
    case b3 => unfold maxLen; omega
    intro w1 hown hgrow
    have own1 := own_made hown a2.2.1
    have bel1 : Below w.heap.size w w1 := (Below.refl _ _).grown hgrow (Nat.le_refl _) (by simp)
    have hsz : w.heap.size < w1.heap.size := own1.lt.2
    clear hown hgrow
    go_wp2
    go_loopg [20, 8] k (fun m i c wr => ∃ j : Nat, i = .int .i64 j ∧ j + m = k ∧ ∃ (q : Int) (os : List Int), c = .int .i64 q ∧ AddInv xs ys os k j q ∧ Own .i64 3 w.heap.size wr w.heap.size (k + 1) os ∧ Below w.heap.size w wr)
    case atStart => exact ⟨0, rfl, by omega, 0, _, rfl, AddInv.start xs ys k, own1, bel1⟩
    case round =>
      obtain ⟨j, rfl, hj, q, os, rfl, hai, hown, hbel⟩ := hrel
      have hq0 := hai.c0
      have hq1 := hai.c1
      have hAI := Lib.hid hai
      clear hai own1
      cases gk with
      | zero =>
        obtain rfl : j = k := by omega
        have hfr := hown.frozen j
        have hcell := hown.cell j (by omega)
        have hs := (hown.store j q).rd
        have hd := hAI.out.done DX.out DY.out HKX.out HKY.out
        have hl := HOK.out _ hd
        have HL := Lib.hid hl
        have HS := Lib.hid hs
        clear hd hl hs
        go_wp2_with fail
        refine (result_rd_long HS.out HL.out).mono ?_
        rintro e w' ⟨rfl, rfl⟩
        go_wp2
        go_ret2
        exact ⟨rfl, hbel.setCell (Nat.le_refl _) _⟩
      | succ m =>
        have bx := limbs_getD lx j
        have bY := limbs_getD ly j
        have hst := hAI.out.step lx ly (show j < k by omega)
        have hcell := hown.cell j (by omega)
        have hfr := hown.frozen j
        have RA := Lib.hid (at_calls _ j xs _ (ra.below hbel))
        have RB := Lib.hid (at_calls _ j ys _ (rb.below hbel))
        obtain ⟨x, hx⟩ : ∃ x, xs.getD j 0 = x := ⟨_, rfl⟩
        obtain ⟨y, hy⟩ : ∃ y, ys.getD j 0 = y := ⟨_, rfl⟩
        rw [hx] at RA bx hst
        rw [hy] at RB bY hst
        have hST := Lib.hid hst
        clear hst hx hy
        go_wp2_with fail
        refine RA.out.mono ?_
        rintro e w' ⟨rfl, rfl⟩
        go_wp2_with fail
        refine RB.out.mono ?_
        rintro e w' ⟨rfl, rfl⟩
        go_wp2
        go_roundg m
        case measure => omega
        case rel => exact ⟨j + 1, by go_num, by omega, _, _, rfl, hST.out, hown.store _ _, hbel.setCell (Nat.le_refl _) _⟩
theorem Dig.long {xs : List Int} {n : Nat} (h : Dig xs n) (hn : pw 256 ≤ (n : Int)) : 256 < xs.length := by
  rcases Nat.lt_or_ge 256 xs.length with h' | h'
  · exact h'
  · have := (h.len_le 256).1 h'
    omega
theorem mul_long {a b : Value} {m n : Nat} {w : World} (ha : NatAt w a m) (hb : NatAt w b n) (hm : (m : Int) < pw 256) (hn : (n : Int) < pw 256) (hmn : pw 256 ≤ ((m * n : Nat) : Int)) :
    Calls Try.prog 62 #[a, b] w (RetLong w) := by
  obtain ⟨xs, r1, d1⟩ := ha
  obtain ⟨ys, r2, d2⟩ := hb
  have s1 := Dig.short d1 hm
  have s2 := Dig.short d2 hn
  exact mul_long_lists a b xs ys w r1 r2 d1.limbs d2.limbs (by omega) (by omega) fun os h => Dig.long (h.done d1.val d2.val) hmn
theorem add_long {a b : Value} {m n : Nat} {w : World} (ha : NatAt w a m) (hb : NatAt w b n) (hm : (m : Int) < pw 256) (hn : (n : Int) < pw 256) (hmn : pw 256 ≤ ((m + n : Nat) : Int)) :
    Calls Try.prog 61 #[a, b] w (RetLong w) := by
  obtain ⟨xs, r1, d1⟩ := ha
  obtain ⟨ys, r2, d2⟩ := hb
  have s1 := Dig.short d1 hm
  have s2 := Dig.short d2 hn
  exact add_long_lists a b xs ys w m n r1 r2 d1.limbs d2.limbs (by omega) (by omega) d1.val d2.val fun zs h => Dig.long h hmn
end Go.Proofs.Ytagmohpafjncfaa.Zn

/- natural.Pow: the power, or the error that it is too long. -/
set_option linter.unusedSectionVars false
set_option linter.unusedSimpArgs false
set_option linter.unusedVariables false
namespace Go.Proofs.Ytagmohpafjncfaa.Zn
open Go.RowKit Lmb
variable [Zone]
omit [Zone] in
theorem and_one (n : Int) : bits .and .i64 n 1 = n % 2 := by
  show IntKind.i64.wrap ((BitVec.ofInt 64 n &&& BitVec.ofInt 64 1).toNat : Int) = _
  have e : (BitVec.ofInt 64 n &&& BitVec.ofInt 64 1).toNat = (n % 18446744073709551616).toNat % 2 := by
    rw [BitVec.toNat_and, BitVec.toNat_ofInt]
    exact Nat.and_two_pow_sub_one_eq_mod _ 1
  rw [e, IntKind.wrap_i64]
  omega
attribute [local go_sem] and_one
def RetLim (n : Nat) (w : World) (e : Ending) (w' : World) : Prop := ((n : Int) < pw 256 ∧ RetNat n w e w') ∨ (pw 256 ≤ (n : Int) ∧ RetLong w e w')
theorem pow_ge_self {o s r : Nat} (hs : 1 ≤ s) (hr : 1 ≤ r) : o * s ≤ o * s ^ r := by
  refine Nat.mul_le_mul_left o ?_
  have : s ^ 1 ≤ s ^ r := Nat.pow_le_pow_right hs hr
  rwa [Nat.pow_one] at this
theorem pow_ge_square {o s r : Nat} (ho : 1 ≤ o) (hs : 1 ≤ s) (hr : 2 ≤ r) : s * s ≤ o * s ^ r := by
  have h1 : s ^ 2 ≤ s ^ r := Nat.pow_le_pow_right hs hr
  have h2 : 1 * s ^ r ≤ o * s ^ r := Nat.mul_le_mul_right _ ho
  rw [Nat.pow_two] at h1
  omega
theorem pow_half {s r : Nat} : (s * s) ^ (r / 2) = s ^ (2 * (r / 2)) := by
  rw [Nat.pow_mul, Nat.pow_two]
theorem pow_odd {o s q : Nat} (h : (q + 1) % 2 = 1) : o * s * s ^ (2 * ((q + 1) / 2)) = o * s ^ (q + 1) := by
  have e : q + 1 = 2 * ((q + 1) / 2) + 1 := by omega
  conv => rhs; rw [e]
  rw [Nat.pow_succ, Nat.mul_assoc, Nat.mul_comm s]
theorem pow_even {o s q : Nat} (h : ¬ (q + 1) % 2 = 1) : o * s ^ (2 * ((q + 1) / 2)) = o * s ^ (q + 1) := by
  have e : 2 * ((q + 1) / 2) = q + 1 := by omega
  rw [e]
set_option maxHeartbeats 2000000 in
theorem pow_calls (a : Value) (m k : Nat) (kz : Int) (w : World) (ha : NatAt w a m) (hm1 : 1 ≤ m) (hm : (m : Int) < pw 256) (hkz : kz = (k : Int)) (hk : k ≤ 65536) :
    Calls Try.prog 56 #[a, .int .i64 kz] w (RetLim (m ^ k) w) := by
  subst hkz
  go_enter Try.func56, Try.ntmps56
  go_wp2_with fail
  have hb1 : Below w.heap.size w (w.alloc (.cells #[.int .i64 1] 3)) := (Below.refl _ _).alloc (Nat.le_refl _) _
  have hlit := lit_nat (e := 3) w ha.zone 1 1 rfl (by omega) (by omega)
  refine (clone_nat (ha.below hb1) hm).mono ?_
  rintro e w1 ⟨sv, rfl, hsv, hb2⟩
  have HL := Lib.hid (hlit.below hb2)
  have hB := Below.next hb1 hb2
  have h1p : ((1 : Nat) : Int) < pw 256 := by
    have := pw_mono (show 1 ≤ 256 by omega)
    rw [pw_succ, pw_zero] at this
    omega
  clear hlit hb1 hb2 ha
  go_wp2
  go_loopg [1, 6, 7] k (fun r kv ov sv wr => kv = .int .i64 (r : Int) ∧ r ≤ 65536 ∧ ∃ o s : Nat, NatAt wr ov o ∧ NatAt wr sv s ∧ 1 ≤ o ∧ 1 ≤ s ∧ (o : Int) < pw 256 ∧ (s : Int) < pw 256 ∧ o * s ^ r = m ^ k ∧ Below w.heap.size w wr)
  case atStart => exact ⟨rfl, hk, 1, m, HL.out, hsv, by omega, hm1, h1p, hm, by rw [Nat.one_mul], hB⟩
  case round =>
    obtain ⟨rfl, hr, o, s, hov, hsv', ho, hs, hop, hsp, hpow, hbel⟩ := hrel
    have HP := Lib.hid hpow
    have HOV := Lib.hid hov
    have HSV := Lib.hid hsv'
    clear hpow hov hsv' hsv HL hB h1p
    cases gk with
    | zero =>
      have hd : decide ((0 : Nat) < 0) = false := rfl
      go_wp2
      go_ret2
      have he : o = m ^ k := by have := HP.out; rwa [Nat.pow_zero, Nat.mul_one] at this
      rw [← he]
      exact .inl ⟨hop, _, rfl, HOV.out, hbel⟩
    | succ q =>
      by_cases hodd : (q + 1) % 2 = 1
      · have hbt : (((q : Int) + 1) % 2 == 1) = true := by rw [beq_iff_eq]; omega
        by_cases hfit : ((o * s : Nat) : Int) < pw 256
        · go_wp2_with fail
          refine (mul_nat HOV.out HSV.out hop hsp hfit).mono ?_
          rintro e w2 ⟨ov2, rfl, hov2, hb2⟩
          have HOV2 := Lib.hid hov2
          have HSV2 := Lib.hid (HSV.out.below hb2)
          have hbel2 := Below.next hbel hb2
          clear hov2 hb2 hbel
          by_cases hq : q = 0
          · subst hq
            go_wp2
            go_roundg 0
            case measure => omega
            case rel => exact ⟨rfl, by omega, o * s, s, HOV2.out, HSV2.out, Nat.mul_pos ho hs, hs, hfit, hsp, by rw [← HP.out, Nat.pow_zero, Nat.mul_one, Nat.zero_add, Nat.pow_one], hbel2⟩
          · have hq1 : 0 < q := by omega
            by_cases hsq : ((s * s : Nat) : Int) < pw 256
            · go_wp2_with fail
              refine (mul_nat HSV2.out HSV2.out hsp hsp hsq).mono ?_
              rintro e w3 ⟨sv3, rfl, hsv3, hb3⟩
              have HSV3 := Lib.hid hsv3
              have HOV3 := Lib.hid (HOV2.out.below hb3)
              have hbel3 := Below.next hbel2 hb3
              clear hsv3 hb3
              go_wp2
              go_roundg ((q + 1) / 2)
              case measure => omega
              case rel => exact ⟨by go_num, by omega, o * s, s * s, HOV3.out, HSV3.out, Nat.mul_pos ho hs, Nat.mul_pos hs hs, hfit, hsq, by rw [← HP.out, pow_half]; exact pow_odd hodd, hbel3⟩
            · go_wp2_with fail
              refine (mul_long HSV2.out HSV2.out hsp hsp (by omega)).mono ?_
              rintro e w3 ⟨rfl, hb3⟩
              have hbel3 := Below.next hbel2 hb3
              clear hb3
              go_wp2
              go_ret2
              refine .inr ⟨?_, rfl, hbel3⟩
              rw [← HP.out]
              have hge : s * s ≤ o * s ^ (q + 1) := pow_ge_square ho hs (by omega)
              omega
        · go_wp2_with fail
          refine (mul_long HOV.out HSV.out hop hsp (by omega)).mono ?_
          rintro e w2 ⟨rfl, hb2⟩
          have hbel2 := Below.next hbel hb2
          clear hb2
          go_wp2
          go_ret2
          refine .inr ⟨?_, rfl, hbel2⟩
          rw [← HP.out]
          have hge : o * s ≤ o * s ^ (q + 1) := pow_ge_self hs (by omega)
          omega
      · have hbt : (((q : Int) + 1) % 2 == 1) = false := by rw [beq_eq_false_iff_ne]; omega
        have hq1 : 0 < q := by omega
        by_cases hsq : ((s * s : Nat) : Int) < pw 256
        · go_wp2_with fail
          refine (mul_nat HSV.out HSV.out hsp hsp hsq).mono ?_
          rintro e w3 ⟨sv3, rfl, hsv3, hb3⟩
          have HSV3 := Lib.hid hsv3
          have HOV3 := Lib.hid (HOV.out.below hb3)
          have hbel3 := Below.next hbel hb3
          clear hsv3 hb3
          go_wp2
          go_roundg ((q + 1) / 2)
          case measure => omega
          case rel => exact ⟨by go_num, by omega, o, s * s, HOV3.out, HSV3.out, ho, Nat.mul_pos hs hs, hop, hsq, by rw [← HP.out, pow_half]; exact pow_even hodd, hbel3⟩
        · go_wp2_with fail
          refine (mul_long HSV.out HSV.out hsp hsp (by omega)).mono ?_
          rintro e w3 ⟨rfl, hb3⟩
          have hbel3 := Below.next hbel hb3
          clear hb3
          go_wp2
          go_ret2
          refine .inr ⟨?_, rfl, hbel3⟩
          rw [← HP.out]
          have hge : s * s ≤ o * s ^ (q + 1) := pow_ge_square ho hs (by omega)
          omega
end Go.Proofs.Ytagmohpafjncfaa.Zn

/- Package natural, for the evaluator: Choose, Pow. -/
set_option linter.unusedSimpArgs false
set_option linter.unusedVariables false
namespace Go.Proofs.Ytagmohpafjncfaa
open Eng Lmb Go.RowKit
section
variable (F : Frm) {sa sb : SV} {m n : Nat}
theorem chooseC (m n : Nat) (hm : m ≤ 1024) (hn : n ≤ 1024) : Contract F Try.prog 36 [.i .i64 m, .i .i64 n] (natRes (binom m n)) := by
  refine ofCalls Try.func36 rfl (by kernel_rfl) fun R w hargs hR => ?_
  refine (@Zn.choose_calls (zoneOf R w) m n w (Nat.le_refl _) hm hn).mono ?_
  rintro e w' ⟨v, rfl, hv, hbel⟩
  obtain ⟨s, rfl, hs, hok⟩ := nat_from hv
  exact ⟨tupL [s, .i .i64 0], rfl, ⟨s, rfl, hs⟩, tup2_ok hok trivial, hbel⟩
theorem powC {kz : Int} (k : Nat) (ha : Nats sa m) (h1 : 1 ≤ m) (hm : (m : Int) < pw 256) (hkz : kz = k) (hk : k ≤ 65536) (h : ((m ^ k : Nat) : Int) < pw 256) : Contract F Try.prog 56 [sa, .i .i64 kz] (natRes (m ^ k)) := by
  refine ofCalls Try.func56 rfl (by kernel_rfl) fun R w hargs hR => ?_
  refine (@Zn.pow_calls (zoneOf R w) _ m k kz w (nat_to (hargs sa (by simp)) ha hR) h1 hm hkz hk).mono ?_
  rintro e w' (⟨_, v, rfl, hv, hbel⟩ | ⟨hge, _⟩)
  · obtain ⟨s, rfl, hs, hok⟩ := nat_from hv
    exact ⟨tupL [s, .i .i64 0], rfl, ⟨s, rfl, hs⟩, tup2_ok hok trivial, hbel⟩
  · omega
end
end Go.Proofs.Ytagmohpafjncfaa

/- Package stopping, by the evaluator: the small functions over numbers. -/
set_option linter.unusedSimpArgs false
set_option linter.unusedVariables false
namespace Go.Proofs.Ytagmohpafjncfaa
open Eng Lmb
set_option maxRecDepth 100000 in
theorem stSmallC (F : Frm) (n : Nat) (hn : n < 9223372036854775808) : Contract F Try.prog 48 [.i .i64 n] (fun r => Nats r n) := by
  refine contract_of Try.func48 rfl (by kernel_rfl) ?_
  simp only [Try.ntmps48, argEnv]
  (repeat refine Sat.seq ?_)
  (refine Sat.region_k fun k hk => ?_; simp -implicitDefEqProofs only [evr, id, reduceCtorEq, reduceIte, Nat.reduceMul, Nat.reduceAdd, Nat.reduceLT, Nat.reduceLeDiff, Nat.reduceEqDiff, Int.reduceLT, Int.reduceBEq, Int.reduceBNe, Nat.reduceBEq, List.append_nil, Int.toNat_zero, Nat.sub_self]; refine hk _ ?_; clear hk k; try show Sat _ _ _ _ _)
  (repeat refine Sat.seq ?_)
  (refine Sat.region_k fun k hk => ?_; simp -implicitDefEqProofs only [evr, id, reduceCtorEq, reduceIte, Nat.reduceMul, Nat.reduceAdd, Nat.reduceLT, Nat.reduceLeDiff, Nat.reduceEqDiff, Int.reduceLT, Int.reduceBEq, Int.reduceBNe, Nat.reduceBEq, List.append_nil, Int.toNat_zero, Nat.sub_self])
  refine wcall_slice (fromC F n hn) rfl rfl ?_
  rintro r ⟨s, rfl, hs⟩
  have hs' := hs
  obtain ⟨a, cap, sz, rd, xs, rfl, _⟩ := hs
  simp -implicitDefEqProofs only [evr, id, reduceCtorEq, reduceIte, Nat.reduceMul, Nat.reduceAdd, Nat.reduceLT, Nat.reduceLeDiff, Nat.reduceEqDiff, Int.reduceLT, Int.reduceBEq, Int.reduceBNe, Nat.reduceBEq, List.append_nil, Int.toNat_zero, Nat.sub_self]
  (refine hk _ ?_; clear hk k; try show Sat _ _ _ _ _)
  (repeat refine Sat.seq ?_)
  (refine Sat.region_k fun k hk => ?_; simp -implicitDefEqProofs only [evr, id, reduceCtorEq, reduceIte, Nat.reduceMul, Nat.reduceAdd, Nat.reduceLT, Nat.reduceLeDiff, Nat.reduceEqDiff, Int.reduceLT, Int.reduceBEq, Int.reduceBNe, Nat.reduceBEq, List.append_nil, Int.toNat_zero, Nat.sub_self]; refine hk _ ?_; clear hk k; try show Sat _ _ _ _ _)
  refine Sat.ret ?_
  simp only [Try.results48, evr, id, reduceCtorEq, reduceIte, Nat.reduceMul, Nat.reduceAdd, Nat.reduceLT, Nat.reduceLeDiff, Nat.reduceEqDiff, Int.reduceLT, Int.reduceBEq, Int.reduceBNe, Nat.reduceBEq, List.append_nil, Int.toNat_zero, Nat.sub_self]
  exact hs'
section
variable (F : Frm) {sa sb : SV} {m n : Nat}
set_option maxRecDepth 100000 in
theorem stTimesC (ha : Nats sa m) (hb : Nats sb n) (hm : (m : Int) < pw 256) (hn : (n : Int) < pw 256) (h : ((m * n : Nat) : Int) < pw 256) : Contract F Try.prog 37 [sa, sb] (fun r => Nats r (m * n)) := by
  have ha' := ha
  have hb' := hb
  obtain ⟨a1, c1, z1, r1, x1, rfl, _⟩ := ha
  obtain ⟨a2, c2, z2, r2, x2, rfl, _⟩ := hb
  refine contract_of Try.func37 rfl (by kernel_rfl) ?_
  simp only [Try.ntmps37, argEnv]
  (repeat refine Sat.seq ?_)
  (refine Sat.region_k fun k hk => ?_; simp -implicitDefEqProofs only [evr, id, reduceCtorEq, reduceIte, Nat.reduceMul, Nat.reduceAdd, Nat.reduceLT, Nat.reduceLeDiff, Nat.reduceEqDiff, Int.reduceLT, Int.reduceBEq, Int.reduceBNe, Nat.reduceBEq, List.append_nil, Int.toNat_zero, Nat.sub_self]; refine hk _ ?_; clear hk k; try show Sat _ _ _ _ _)
  (repeat refine Sat.seq ?_)
  (refine Sat.region_k fun k hk => ?_; simp -implicitDefEqProofs only [evr, id, reduceCtorEq, reduceIte, Nat.reduceMul, Nat.reduceAdd, Nat.reduceLT, Nat.reduceLeDiff, Nat.reduceEqDiff, Int.reduceLT, Int.reduceBEq, Int.reduceBNe, Nat.reduceBEq, List.append_nil, Int.toNat_zero, Nat.sub_self])
  refine wcall_slice (mulC F ha' hb' hm hn h) rfl rfl ?_
  rintro r ⟨s, rfl, hs⟩
  have hs' := hs
  obtain ⟨a, cap, sz, rd, xs, rfl, _⟩ := hs
  simp -implicitDefEqProofs only [evr, id, reduceCtorEq, reduceIte, Nat.reduceMul, Nat.reduceAdd, Nat.reduceLT, Nat.reduceLeDiff, Nat.reduceEqDiff, Int.reduceLT, Int.reduceBEq, Int.reduceBNe, Nat.reduceBEq, List.append_nil, Int.toNat_zero, Nat.sub_self]
  (refine hk _ ?_; clear hk k; try show Sat _ _ _ _ _)
  (repeat refine Sat.seq ?_)
  (refine Sat.region_k fun k hk => ?_; simp -implicitDefEqProofs only [evr, id, reduceCtorEq, reduceIte, Nat.reduceMul, Nat.reduceAdd, Nat.reduceLT, Nat.reduceLeDiff, Nat.reduceEqDiff, Int.reduceLT, Int.reduceBEq, Int.reduceBNe, Nat.reduceBEq, List.append_nil, Int.toNat_zero, Nat.sub_self]; refine hk _ ?_; clear hk k; try show Sat _ _ _ _ _)
  refine Sat.ret ?_
  simp only [Try.results37, evr, id, reduceCtorEq, reduceIte, Nat.reduceMul, Nat.reduceAdd, Nat.reduceLT, Nat.reduceLeDiff, Nat.reduceEqDiff, Int.reduceLT, Int.reduceBEq, Int.reduceBNe, Nat.reduceBEq, List.append_nil, Int.toNat_zero, Nat.sub_self]
  exact hs'
set_option maxRecDepth 100000 in
theorem stPlusC (ha : Nats sa m) (hb : Nats sb n) (h : ((m + n : Nat) : Int) < pw 256) : Contract F Try.prog 38 [sa, sb] (fun r => Nats r (m + n)) := by
  have ha' := ha
  have hb' := hb
  obtain ⟨a1, c1, z1, r1, x1, rfl, _⟩ := ha
  obtain ⟨a2, c2, z2, r2, x2, rfl, _⟩ := hb
  refine contract_of Try.func38 rfl (by kernel_rfl) ?_
  simp only [Try.ntmps38, argEnv]
  (repeat refine Sat.seq ?_)
  (refine Sat.region_k fun k hk => ?_; simp -implicitDefEqProofs only [evr, id, reduceCtorEq, reduceIte, Nat.reduceMul, Nat.reduceAdd, Nat.reduceLT, Nat.reduceLeDiff, Nat.reduceEqDiff, Int.reduceLT, Int.reduceBEq, Int.reduceBNe, Nat.reduceBEq, List.append_nil, Int.toNat_zero, Nat.sub_self]; refine hk _ ?_; clear hk k; try show Sat _ _ _ _ _)
  (repeat refine Sat.seq ?_)
  (refine Sat.region_k fun k hk => ?_; simp -implicitDefEqProofs only [evr, id, reduceCtorEq, reduceIte, Nat.reduceMul, Nat.reduceAdd, Nat.reduceLT, Nat.reduceLeDiff, Nat.reduceEqDiff, Int.reduceLT, Int.reduceBEq, Int.reduceBNe, Nat.reduceBEq, List.append_nil, Int.toNat_zero, Nat.sub_self])
  refine wcall_slice (addC F ha' hb' h) rfl rfl ?_
  rintro r ⟨s, rfl, hs⟩
  have hs' := hs
  obtain ⟨a, cap, sz, rd, xs, rfl, _⟩ := hs
  simp -implicitDefEqProofs only [evr, id, reduceCtorEq, reduceIte, Nat.reduceMul, Nat.reduceAdd, Nat.reduceLT, Nat.reduceLeDiff, Nat.reduceEqDiff, Int.reduceLT, Int.reduceBEq, Int.reduceBNe, Nat.reduceBEq, List.append_nil, Int.toNat_zero, Nat.sub_self]
  (refine hk _ ?_; clear hk k; try show Sat _ _ _ _ _)
  (repeat refine Sat.seq ?_)
  (refine Sat.region_k fun k hk => ?_; simp -implicitDefEqProofs only [evr, id, reduceCtorEq, reduceIte, Nat.reduceMul, Nat.reduceAdd, Nat.reduceLT, Nat.reduceLeDiff, Nat.reduceEqDiff, Int.reduceLT, Int.reduceBEq, Int.reduceBNe, Nat.reduceBEq, List.append_nil, Int.toNat_zero, Nat.sub_self]; refine hk _ ?_; clear hk k; try show Sat _ _ _ _ _)
  refine Sat.ret ?_
  simp only [Try.results38, evr, id, reduceCtorEq, reduceIte, Nat.reduceMul, Nat.reduceAdd, Nat.reduceLT, Nat.reduceLeDiff, Nat.reduceEqDiff, Int.reduceLT, Int.reduceBEq, Int.reduceBNe, Nat.reduceBEq, List.append_nil, Int.toNat_zero, Nat.sub_self]
  exact hs'
end
end Go.Proofs.Ytagmohpafjncfaa

/- Fractions, by the evaluator: package stopping's below, chance, power. -/
set_option linter.unusedSimpArgs false
set_option linter.unusedVariables false
namespace Go.Proofs.Ytagmohpafjncfaa
open Eng Lmb
set_option maxRecDepth 100000 in
theorem stBelowC (F : Frm) (na nb : Bool) {sp sq sr ss : SV} {p q r s : Nat} (hp : Nats sp p) (hq : Nats sq q) (hr : Nats sr r) (hs : Nats ss s)
    (b1 : (p : Int) < pw 256) (b2 : (q : Int) < pw 256) (b3 : (r : Int) < pw 256) (b4 : (s : Int) < pw 256) (b5 : ((p * s : Nat) : Int) < pw 256) (b6 : ((r * q : Nat) : Int) < pw 256) (b7 : ((p * s + r * q : Nat) : Int) < pw 256) :
    Contract F Try.prog 30 [frS na sp sq, frS nb sr ss] (fun x => x = .b (decide (cmpV na p q nb r s < 0))) := by
  have hp' := hp
  have hq' := hq
  have hr' := hr
  have hs' := hs
  obtain ⟨a1, c1, z1, r1, x1, rfl, _⟩ := hp
  obtain ⟨a2, c2, z2, r2, x2, rfl, _⟩ := hq
  obtain ⟨a3, c3, z3, r3, x3, rfl, _⟩ := hr
  obtain ⟨a4, c4, z4, r4, x4, rfl, _⟩ := hs
  refine contract_of Try.func30 rfl (by kernel_rfl) ?_
  simp only [Try.ntmps30, argEnv, frS]
  (repeat refine Sat.seq ?_)
  (refine Sat.region_k fun k hk => ?_; simp -implicitDefEqProofs only [evr, id, reduceCtorEq, reduceIte, Nat.reduceMul, Nat.reduceAdd, Nat.reduceLT, Nat.reduceLeDiff, Nat.reduceEqDiff, Int.reduceLT, Int.reduceBEq, Int.reduceBNe, Nat.reduceBEq, List.append_nil, Int.toNat_zero, Nat.sub_self, frS])
  intro k1 k2
  (refine hk _ ?_; clear hk k; try show Sat _ _ _ _ _)
  (repeat refine Sat.seq ?_)
  (refine Sat.region_k fun k hk => ?_; simp -implicitDefEqProofs only [evr, id, reduceCtorEq, reduceIte, Nat.reduceMul, Nat.reduceAdd, Nat.reduceLT, Nat.reduceLeDiff, Nat.reduceEqDiff, Int.reduceLT, Int.reduceBEq, Int.reduceBNe, Nat.reduceBEq, List.append_nil, Int.toNat_zero, Nat.sub_self, frS])
  refine wcall_plain (fractionCompareC F na nb hp' hq' hr' hs' b1 b2 b3 b4 b5 b6 b7) (by simp -implicitDefEqProofs only [evr, id, reduceCtorEq, reduceIte, Nat.reduceMul, Nat.reduceAdd, Nat.reduceLT, Nat.reduceLeDiff, Nat.reduceEqDiff, Int.reduceLT, Int.reduceBEq, Int.reduceBNe, Nat.reduceBEq, List.append_nil, Int.toNat_zero, Nat.sub_self, frS]; try rfl) (by rintro _ rfl; exact ok_tupL rfl) ?_
  rintro y rfl
  simp -implicitDefEqProofs only [evr, id, reduceCtorEq, reduceIte, Nat.reduceMul, Nat.reduceAdd, Nat.reduceLT, Nat.reduceLeDiff, Nat.reduceEqDiff, Int.reduceLT, Int.reduceBEq, Int.reduceBNe, Nat.reduceBEq, List.append_nil, Int.toNat_zero, Nat.sub_self, frS]
  (refine hk _ ?_; clear hk k; try show Sat _ _ _ _ _)
  (repeat refine Sat.seq ?_)
  (refine Sat.region_k fun k hk => ?_; simp -implicitDefEqProofs only [evr, id, reduceCtorEq, reduceIte, Nat.reduceMul, Nat.reduceAdd, Nat.reduceLT, Nat.reduceLeDiff, Nat.reduceEqDiff, Int.reduceLT, Int.reduceBEq, Int.reduceBNe, Nat.reduceBEq, List.append_nil, Int.toNat_zero, Nat.sub_self, frS]; refine hk _ ?_; clear hk k; try show Sat _ _ _ _ _)
  refine Sat.ret ?_
  simp only [Try.results30, evr, id, reduceCtorEq, reduceIte, Nat.reduceMul, Nat.reduceAdd, Nat.reduceLT, Nat.reduceLeDiff, Nat.reduceEqDiff, Int.reduceLT, Int.reduceBEq, Int.reduceBNe, Nat.reduceBEq, List.append_nil, Int.toNat_zero, Nat.sub_self, frS]
theorem pw_one : (1 : Int) < pw 256 := by
  have := pw_mono (show 1 ≤ 256 by omega)
  rw [pw_succ, pw_zero] at this
  omega
set_option maxRecDepth 100000 in
theorem stChanceC (F : Frm) {sp sq : SV} {p q : Nat} (hp : Nats sp p) (hq : Nats sq q) (h0 : 0 < p) (h1 : p < q) (b1 : ((2 * q : Nat) : Int) < pw 256) :
    Contract F Try.prog 29 [frS false sp sq] (fun x => x = .b true) := by
  have hp' := hp
  have hq' := hq
  obtain ⟨a1, c1, z1, r1, x1, rfl, _⟩ := hp
  obtain ⟨a2, c2, z2, r2, x2, rfl, _⟩ := hq
  have e1 : 0 < (x1.length : Int) := by rw [hp'.len]; exact h0
  have e2 : 0 < (x2.length : Int) := by rw [hq'.len]; omega
  refine contract_of Try.func29 rfl (by kernel_rfl) ?_
  simp only [Try.ntmps29, argEnv, frS]
  (repeat refine Sat.seq ?_)
  (refine Sat.region_k fun k hk => ?_; simp -implicitDefEqProofs only [evr, id, reduceCtorEq, reduceIte, Nat.reduceMul, Nat.reduceAdd, Nat.reduceLT, Nat.reduceLeDiff, Nat.reduceEqDiff, Int.reduceLT, Int.reduceBEq, Int.reduceBNe, Nat.reduceBEq, List.append_nil, Int.toNat_zero, Nat.sub_self, frS])
  intro k1
  (refine hk _ ?_; clear hk k; try show Sat _ _ _ _ _)
  (repeat refine Sat.seq ?_)
  (refine Sat.region_k fun k hk => ?_; simp -implicitDefEqProofs only [evr, id, reduceCtorEq, reduceIte, Nat.reduceMul, Nat.reduceAdd, Nat.reduceLT, Nat.reduceLeDiff, Nat.reduceEqDiff, Int.reduceLT, Int.reduceBEq, Int.reduceBNe, Nat.reduceBEq, List.append_nil, Int.toNat_zero, Nat.sub_self, frS])
  refine wcall_slice (stSmallC F 1 (by decide)) rfl rfl ?_
  intro y hy
  have hy1 := hy
  obtain ⟨a3, c3, z3, r3, x3, rfl, _⟩ := hy
  simp -implicitDefEqProofs only [evr, id, reduceCtorEq, reduceIte, Nat.reduceMul, Nat.reduceAdd, Nat.reduceLT, Nat.reduceLeDiff, Nat.reduceEqDiff, Int.reduceLT, Int.reduceBEq, Int.reduceBNe, Nat.reduceBEq, List.append_nil, Int.toNat_zero, Nat.sub_self, frS]
  refine wcall_slice (stSmallC F 1 (by decide)) rfl rfl ?_
  intro y hy
  have hy2 := hy
  obtain ⟨a4, c4, z4, r4, x4, rfl, _⟩ := hy
  simp -implicitDefEqProofs only [evr, id, reduceCtorEq, reduceIte, Nat.reduceMul, Nat.reduceAdd, Nat.reduceLT, Nat.reduceLeDiff, Nat.reduceEqDiff, Int.reduceLT, Int.reduceBEq, Int.reduceBNe, Nat.reduceBEq, List.append_nil, Int.toNat_zero, Nat.sub_self, frS]
  intro k2
  (refine hk _ ?_; clear hk k; try show Sat _ _ _ _ _)
  (repeat refine Sat.seq ?_)
  (refine Sat.region_k fun k hk => ?_; simp -implicitDefEqProofs only [evr, id, reduceCtorEq, reduceIte, Nat.reduceMul, Nat.reduceAdd, Nat.reduceLT, Nat.reduceLeDiff, Nat.reduceEqDiff, Int.reduceLT, Int.reduceBEq, Int.reduceBNe, Nat.reduceBEq, List.append_nil, Int.toNat_zero, Nat.sub_self, frS])
  refine ⟨fun _ => ⟨fun _ => ?_, fun h => absurd e2 h⟩, fun h => absurd e1 h⟩
  refine wcall_plain (stBelowC F false false hp' hq' hy1 hy2 (by omega) (by omega) pw_one pw_one (by rw [Nat.mul_one]; omega) (by rw [Nat.one_mul]; omega) (by rw [Nat.mul_one, Nat.one_mul]; omega)) (by simp -implicitDefEqProofs only [evr, id, reduceCtorEq, reduceIte, Nat.reduceMul, Nat.reduceAdd, Nat.reduceLT, Nat.reduceLeDiff, Nat.reduceEqDiff, Int.reduceLT, Int.reduceBEq, Int.reduceBNe, Nat.reduceBEq, List.append_nil, Int.toNat_zero, Nat.sub_self, frS]; try rfl) (by rintro _ rfl; exact ok_plain rfl) ?_
  rintro y rfl
  have ed : decide (cmpV false p q false 1 1 < 0) = true := by
    rw [cmpV_pos, Nat.mul_one, Nat.one_mul, cmpI_lt (by omega)]
    rfl
  simp -implicitDefEqProofs only [evr, id, reduceCtorEq, reduceIte, Nat.reduceMul, Nat.reduceAdd, Nat.reduceLT, Nat.reduceLeDiff, Nat.reduceEqDiff, Int.reduceLT, Int.reduceBEq, Int.reduceBNe, Nat.reduceBEq, List.append_nil, Int.toNat_zero, Nat.sub_self, frS, ed]
  (refine hk _ ?_; clear hk k; try show Sat _ _ _ _ _)
  refine Sat.ret ?_
  simp only [Try.results29, evr, id, reduceCtorEq, reduceIte, Nat.reduceMul, Nat.reduceAdd, Nat.reduceLT, Nat.reduceLeDiff, Nat.reduceEqDiff, Int.reduceLT, Int.reduceBEq, Int.reduceBNe, Nat.reduceBEq, List.append_nil, Int.toNat_zero, Nat.sub_self, frS]
end Go.Proofs.Ytagmohpafjncfaa

/- Tables of flows in which each of some successors has a flow: counts and their laws. No program is in sight. -/
set_option linter.unusedSimpArgs false
namespace Go.Proofs.Ytagmohpafjncfaa
open Lmb
def cnt (k : Nat) : Nat → Nat → Nat
  | 0, j => if j = 0 then 1 else 0
  | n + 1, j => (k - j) * cnt k n j + j * cnt k n (j - 1)
theorem cnt_mono (k n : Nat) : ∀ j, j + 1 ≤ k → cnt k n (j + 1) ≤ cnt k n j := by
  induction n with
  | zero => intro j _; simp [cnt]
  | succ n ih =>
    intro j hj
    simp only [cnt, Nat.add_sub_cancel]
    have h1 := ih j hj
    have h2 : (k - (j + 1)) * cnt k n (j + 1) ≤ (k - (j + 1)) * cnt k n j := Nat.mul_le_mul_left _ h1
    have h3 : j * cnt k n j ≤ j * cnt k n (j - 1) := by
      cases j with
      | zero => simp
      | succ j => exact Nat.mul_le_mul_left _ (ih j (by omega))
    have e1 : (k - j) * cnt k n j = (k - (j + 1)) * cnt k n j + cnt k n j := by
      have : k - j = (k - (j + 1)) + 1 := by omega
      rw [this, Nat.add_mul, Nat.one_mul]
    have e2 : (j + 1) * cnt k n j = j * cnt k n j + cnt k n j := by rw [Nat.add_mul, Nat.one_mul]
    omega
theorem cnt_le (k n : Nat) : ∀ j, j ≤ k → cnt k n j ≤ k ^ n := by
  have h0 : ∀ n, cnt k n 0 = k ^ n := by
    intro n
    induction n with
    | zero => rfl
    | succ n ih => simp [cnt, ih, Nat.pow_succ, Nat.mul_comm]
  intro j
  induction j with
  | zero => intro _; rw [h0]; exact Nat.le_refl _
  | succ j ih => intro h; exact Nat.le_trans (cnt_mono k n j h) (ih (by omega))
theorem cnt_cross (k n : Nat) : ∀ j, j ≤ k → cnt (k + 1) n j * k ^ n ≤ cnt k n j * (k + 1) ^ n := by
  induction n with
  | zero => intro j _; simp [cnt]
  | succ n ih =>
    intro j hj
    have hA := ih j hj
    have hB := ih (j - 1) (by omega)
    have hm : j * cnt k n j ≤ j * cnt k n (j - 1) := by
      cases j with
      | zero => simp
      | succ j => exact Nat.mul_le_mul_left _ (cnt_mono k n j hj)
    simp only [cnt, Nat.pow_succ]
    generalize cnt (k + 1) n j = A' at *
    generalize cnt (k + 1) n (j - 1) = B' at *
    generalize cnt k n j = A at *
    generalize cnt k n (j - 1) = B at *
    generalize k ^ n = x at *
    generalize (k + 1) ^ n = y at *
    obtain ⟨d, rfl⟩ := Nat.exists_eq_add_of_le hj
    have e1 : j + d + 1 - j = d + 1 := by omega
    have e2 : j + d - j = d := by omega
    rw [e1, e2]
    have s1 : ((d + 1) * A' + j * B') * (x * (j + d)) = (j + d) * ((d + 1) * (A' * x) + j * (B' * x)) := by
      simp only [Nat.add_mul, Nat.mul_add, Nat.mul_assoc, Nat.mul_comm, Nat.mul_left_comm]
    have s2 : (j + d) * ((d + 1) * (A' * x) + j * (B' * x)) ≤ (j + d) * ((d + 1) * (A * y) + j * (B * y)) :=
      Nat.mul_le_mul_left _ (Nat.add_le_add (Nat.mul_le_mul_left _ hA) (Nat.mul_le_mul_left _ hB))
    have s3 : (j + d) * ((d + 1) * (A * y) + j * (B * y)) + j * B * y = (d * A + j * B) * (y * (j + d + 1)) + j * A * y := by
      simp only [Nat.add_mul, Nat.mul_add, Nat.mul_assoc, Nat.mul_comm, Nat.mul_left_comm, Nat.one_mul, Nat.mul_one]
      omega
    have s4 : j * A * y ≤ j * B * y := Nat.mul_le_mul_right _ hm
    omega
theorem miss_more {k n p q : Nat} (hk : 1 ≤ k) (h : p * k ^ n < (k ^ n - cnt k n k) * q) : p * (k + 1) ^ n < ((k + 1) ^ n - cnt (k + 1) n (k + 1)) * q := by
  have h1 := cnt_mono (k + 1) n k (Nat.le_refl _)
  have h2 := cnt_cross k n k (Nat.le_refl _)
  have h3 := cnt_le k n k (Nat.le_refl _)
  have h4 := cnt_le (k + 1) n (k + 1) (Nat.le_refl _)
  have hx : 0 < k ^ n := Nat.pow_pos (by omega)
  have hy : 0 < (k + 1) ^ n := Nat.pow_pos (by omega)
  generalize cnt (k + 1) n (k + 1) = G1 at *
  generalize cnt (k + 1) n k = G2 at *
  generalize cnt k n k = G at *
  generalize k ^ n = x at *
  generalize (k + 1) ^ n = y at *
  have a1 : G1 * x ≤ G * y := Nat.le_trans (Nat.mul_le_mul_right _ h1) h2
  have a2 : (p * x) * y < ((x - G) * q) * y := Nat.mul_lt_mul_of_pos_right h hy
  have a3 : ((x - G) * q) * y ≤ ((y - G1) * q) * x := by
    have e1 : ((x - G) * q) * y = q * ((x - G) * y) := by rw [Nat.mul_comm (x - G), Nat.mul_assoc]
    have e2 : ((y - G1) * q) * x = q * ((y - G1) * x) := by rw [Nat.mul_comm (y - G1), Nat.mul_assoc]
    rw [e1, e2]
    refine Nat.mul_le_mul_left _ ?_
    rw [Nat.sub_mul, Nat.sub_mul, Nat.mul_comm y x]
    omega
  have a4 : (p * x) * y = (p * y) * x := by rw [Nat.mul_assoc, Nat.mul_assoc, Nat.mul_comm x y]
  rw [a4] at a2
  exact Nat.lt_of_mul_lt_mul_right (Nat.lt_of_lt_of_le a2 a3)
theorem cnt_more {k : Nat} (n : Nat) (hk : 1 ≤ k) : cnt k n k * k ≤ cnt k (n + 1) k := by
  simp only [cnt, Nat.sub_self, Nat.zero_mul, Nat.zero_add]
  obtain ⟨d, rfl⟩ := Nat.exists_eq_add_of_le hk
  rw [Nat.mul_comm]
  refine Nat.mul_le_mul_left _ ?_
  have := cnt_mono (1 + d) n d (by omega)
  rw [Nat.add_comm 1 d] at *
  simpa using this
/-! the sum with alternating signs -/
def altI (f : Nat → Int) : Nat → Int
  | 0 => 0
  | m + 1 => altI f m + if m % 2 = 0 then f m else - f m
def sumE (f : Nat → Nat) : Nat → Nat
  | 0 => 0
  | m + 1 => sumE f m + if m % 2 = 0 then f m else 0
def sumO (f : Nat → Nat) : Nat → Nat
  | 0 => 0
  | m + 1 => sumO f m + if m % 2 = 0 then 0 else f m
theorem sum_alt (f : Nat → Nat) : ∀ m, (sumE f m : Int) - sumO f m = altI (fun i => (f i : Int)) m
  | 0 => rfl
  | m + 1 => by
    have := sum_alt f m
    simp only [sumE, sumO, altI]
    split <;> simp <;> omega
theorem altI_congr {f g : Nat → Int} : ∀ m, (∀ i, i < m → f i = g i) → altI f m = altI g m
  | 0, _ => rfl
  | m + 1, h => by simp only [altI]; rw [altI_congr m fun i hi => h i (by omega), h m (by omega)]
theorem altI_lin (a b : Int) (f g : Nat → Int) : ∀ m, altI (fun i => a * f i + b * g i) m = a * altI f m + b * altI g m
  | 0 => by simp [altI]
  | m + 1 => by
    simp only [altI]
    rw [altI_lin a b f g m]
    split
    · rw [Int.mul_add, Int.mul_add]; omega
    · rw [Int.mul_add, Int.mul_add, Int.mul_neg, Int.mul_neg]; omega
theorem altI_binom (j : Nat) : ∀ m, altI (fun i => (binom (j + 1) i : Int)) (m + 1) = if m % 2 = 0 then (binom j m : Int) else - (binom j m : Int)
  | 0 => by simp [altI, binom_zero]
  | m + 1 => by
    have := altI_binom j m
    rw [altI, this]
    have e : binom (j + 1) (m + 1) = binom j m + binom j (m + 1) := rfl
    rw [e]
    rcases Nat.mod_two_eq_zero_or_one m with h | h
    · have h2 : (m + 1) % 2 = 1 := by omega
      simp [h, h2]; omega
    · have h2 : (m + 1) % 2 = 0 := by omega
      simp [h, h2]
      omega
theorem binom_less (j : Nat) : ∀ i, i ≤ j + 1 → (j + 1 - i) * binom (j + 1) i = (j + 1) * binom j i
  | 0, _ => by simp [binom_zero]
  | i + 1, h => by
    have hs := binom_step j i
    have e : binom (j + 1) (i + 1) = binom j i + binom j (i + 1) := rfl
    obtain ⟨d, rfl⟩ := Nat.exists_eq_add_of_le (show i ≤ j by omega)
    have e1 : i + d + 1 - (i + 1) = d := by omega
    have e2 : i + d - i = d := by omega
    rw [e2] at hs
    rw [e, e1, Nat.mul_add, Nat.mul_comm d (binom (i + d) i), ← hs]
    generalize binom (i + d) (i + 1) = z
    rw [Nat.mul_comm z, ← Nat.add_mul]
    congr 1
    omega
theorem alt_cnt (k n : Nat) : ∀ j, j ≤ k → altI (fun i => ((binom j i * (k - i) ^ n : Nat) : Int)) (j + 1) = cnt k n j := by
  induction n with
  | zero =>
    intro j _
    have e : altI (fun i => ((binom j i * (k - i) ^ 0 : Nat) : Int)) (j + 1) = altI (fun i => (binom j i : Int)) (j + 1) := altI_congr _ fun i _ => by simp
    rw [e]
    cases j with
    | zero => simp [altI, cnt, binom_zero]
    | succ j =>
      rw [altI_binom, binom_gt j (j + 1) (by omega)]
      simp [cnt]
  | succ n ih =>
    intro j hj
    cases j with
    | zero =>
      have := ih 0 (by omega)
      simp only [altI, binom_zero, Nat.one_mul, Nat.sub_zero, Nat.zero_mod, if_true, Int.zero_add] at this ⊢
      simp only [cnt, Nat.sub_zero, Nat.zero_mul, Nat.add_zero, Nat.pow_succ]
      rw [Int.natCast_mul, this, Int.natCast_mul, Int.mul_comm]
    | succ j =>
      have h1 := ih (j + 1) hj
      have h2 := ih j (by omega)
      have e : altI (fun i => ((binom (j + 1) i * (k - i) ^ (n + 1) : Nat) : Int)) (j + 1 + 1) = altI (fun i => ((k - (j + 1) : Nat) : Int) * ((binom (j + 1) i * (k - i) ^ n : Nat) : Int) + ((j + 1 : Nat) : Int) * ((binom j i * (k - i) ^ n : Nat) : Int)) (j + 1 + 1) := by
        refine altI_congr _ fun i hi => ?_
        rw [← Int.natCast_mul, ← Int.natCast_mul, ← Int.natCast_add]
        congr 1
        have hb := binom_less j i (by omega)
        have ek : k - i = (k - (j + 1)) + (j + 1 - i) := by omega
        have e1 : binom (j + 1) i * (k - i) ^ (n + 1) = ((k - i) * binom (j + 1) i) * (k - i) ^ n := by
          rw [Nat.pow_succ, Nat.mul_comm ((k - i) ^ n), ← Nat.mul_assoc, Nat.mul_comm (binom (j + 1) i)]
        have e2 : (k - i) * binom (j + 1) i = (k - (j + 1)) * binom (j + 1) i + (j + 1) * binom j i := by
          rw [← hb, ← Nat.add_mul, ← ek]
        rw [e1, e2, Nat.add_mul, Nat.mul_assoc, Nat.mul_assoc]
      rw [e, altI_lin, h1]
      have e3 : altI (fun i => ((binom j i * (k - i) ^ n : Nat) : Int)) (j + 1 + 1) = cnt k n j := by
        rw [altI, h2, binom_gt j (j + 1) (by omega)]
        simp
      rw [e3]
      simp only [cnt, Nat.add_sub_cancel, Int.natCast_add, Int.natCast_mul]
theorem onto_sum (n k : Nat) : sumO (fun i => binom k i * (k - i) ^ n) (k + 1) ≤ sumE (fun i => binom k i * (k - i) ^ n) (k + 1) ∧
    sumE (fun i => binom k i * (k - i) ^ n) (k + 1) - sumO (fun i => binom k i * (k - i) ^ n) (k + 1) = cnt k n k := by
  have h1 := sum_alt (fun i => binom k i * (k - i) ^ n) (k + 1)
  have h2 := alt_cnt k n k (Nat.le_refl _)
  rw [h2] at h1
  omega
end Go.Proofs.Ytagmohpafjncfaa

/- Package stopping, by the evaluator: power, Onto, Missing. -/
set_option linter.unusedSimpArgs false
set_option linter.unusedVariables false
namespace Go.Proofs.Ytagmohpafjncfaa
open Eng Lmb
theorem zero_pow_step {o r k : Nat} (h : o * 0 ^ r = 0 ^ k) (hr : 0 < r) : 0 ^ k = 0 := by
  obtain ⟨q, rfl⟩ : ∃ q, r = q + 1 := ⟨r - 1, by omega⟩
  rw [Nat.pow_succ, Nat.mul_zero, Nat.mul_zero] at h
  exact h.symm
theorem half_e (r : Nat) : ((r : Int)).fdiv (2 ^ min (Int.toNat 1) IntKind.i64.bits) = ((r / 2 : Nat) : Int) := by
  have e1 : ((2 : Int) ^ min (Int.toNat 1) IntKind.i64.bits) = 2 := by decide
  rw [e1, Int.fdiv_eq_ediv_of_nonneg _ (by decide)]
  omega
set_option maxRecDepth 100000 in
theorem pow0C (F : Frm) {sa : SV} (k0 : Nat) (ha : Nats sa 0) (hk0 : k0 ≤ 65536) : Contract F Try.prog 56 [sa, .i .i64 k0] (natRes (0 ^ k0)) := by
  have ha' := ha
  obtain ⟨a1, c1, z1, r1, x1, rfl, _⟩ := ha
  refine contract_of Try.func56 rfl (by kernel_rfl) ?_
  simp only [Try.ntmps56, argEnv]
  (repeat refine Sat.seq ?_)
  (refine Sat.region_k fun k hk => ?_; simp -implicitDefEqProofs only [evr, id, reduceCtorEq, reduceIte, Nat.reduceMul, Nat.reduceAdd, Nat.reduceLT, Nat.reduceLeDiff, Nat.reduceEqDiff, Int.reduceLT, Int.reduceBEq, Int.reduceBNe, Nat.reduceBEq, List.append_nil, Int.toNat_zero, Nat.sub_self, frS]; refine hk _ ?_; clear hk k; try show Sat _ _ _ _ _)
  (repeat refine Sat.seq ?_)
  refine Sat.region_at ⟨46, [(14, .b false), (0, .sl a1 x1.length c1 z1 r1), (1, .i .i64 k0)], []⟩ (fun k hk => ?_) ?_
  · simp -implicitDefEqProofs only [evr, id, reduceCtorEq, reduceIte, Nat.reduceMul, Nat.reduceAdd, Nat.reduceLT, Nat.reduceLeDiff, Nat.reduceEqDiff, Int.reduceLT, Int.reduceBEq, Int.reduceBNe, Nat.reduceBEq, List.append_nil, Int.toNat_zero, Nat.sub_self, frS]
    refine ⟨fun h => ?_, fun h => ?_⟩
    · omega
    · refine hk _ ?_
      have e : decide (65536 < (k0 : Int)) = false := by simp; omega
      simp only [e]
      simp -implicitDefEqProofs only [evr, id, reduceCtorEq, reduceIte, Nat.reduceMul, Nat.reduceAdd, Nat.reduceLT, Nat.reduceLeDiff, Nat.reduceEqDiff, Int.reduceLT, Int.reduceBEq, Int.reduceBNe, Nat.reduceBEq, List.append_nil, Int.toNat_zero, Nat.sub_self, frS, evl]
  simp only [thenK]
  refine Sat.cond_b rfl (fun h => by cases h) (fun h => ?_)
  refine Sat.skip ?_
  simp only [thenK]
  (repeat refine Sat.seq ?_)
  (refine Sat.region_k fun k hk => ?_; simp -implicitDefEqProofs only [evr, id, reduceCtorEq, reduceIte, Nat.reduceMul, Nat.reduceAdd, Nat.reduceLT, Nat.reduceLeDiff, Nat.reduceEqDiff, Int.reduceLT, Int.reduceBEq, Int.reduceBNe, Nat.reduceBEq, List.append_nil, Int.toNat_zero, Nat.sub_self, frS])
  intro blk
  refine wcall_slice (cloneNatC F ha' (by have := pw_one; omega)) rfl rfl ?_
  intro y hy
  have hy1 := hy
  obtain ⟨a2, c2, z2, r2, x2, rfl, _⟩ := hy
  simp -implicitDefEqProofs only [evr, id, reduceCtorEq, reduceIte, Nat.reduceMul, Nat.reduceAdd, Nat.reduceLT, Nat.reduceLeDiff, Nat.reduceEqDiff, Int.reduceLT, Int.reduceBEq, Int.reduceBNe, Nat.reduceBEq, List.append_nil, Int.toNat_zero, Nat.sub_self, frS]
  (refine hk _ ?_; clear hk k; try show Sat _ _ _ _ _)
  have h1s : Nats (.sl (some ⟨blk, 0, none⟩) 1 1 1 (rdL [.i .i64 1] 1)) 1 := nats_of (xs := [1]) rfl (fun p hp => by have hp0 : p = 0 := by omega
                                                                                                                     subst hp0; rfl) (dig_one (x := 1) (by omega) (by omega))
  refine Sat.settle2 6 rfl rfl ?_
  simp -implicitDefEqProofs only [evr, id, reduceCtorEq, reduceIte, Nat.reduceMul, Nat.reduceAdd, Nat.reduceLT, Nat.reduceLeDiff, Nat.reduceEqDiff, Int.reduceLT, Int.reduceBEq, Int.reduceBNe, Nat.reduceBEq, List.append_nil, Int.toNat_zero, Nat.sub_self, frS]
  (repeat refine Sat.seq ?_)
  refine Sat.block ?_
  (repeat refine Sat.seq ?_)
  refine Sat.loop (ι := Nat × SV × SV) (fun x => ⟨46, [(1, .i .i64 x.1), (6, x.2.1), (7, x.2.2)], []⟩)
    (fun x => x.1 ≤ 65536 ∧ (∃ o, Nats x.2.1 o ∧ o ≤ 1 ∧ o * 0 ^ x.1 = 0 ^ k0) ∧ Nats x.2.2 0) (fun x => x.1) (k0, .sl (some ⟨blk, 0, none⟩) 1 1 1 (rdL [.i .i64 1] 1), .sl a2 x2.length c2 z2 r2) ⟨hk0, ⟨1, h1s, by omega, Nat.one_mul _⟩, hy1⟩ (by simp -implicitDefEqProofs only [evr, id, reduceCtorEq, reduceIte, Nat.reduceMul, Nat.reduceAdd, Nat.reduceLT, Nat.reduceLeDiff, Nat.reduceEqDiff, Int.reduceLT, Int.reduceBEq, Int.reduceBNe, Nat.reduceBEq, List.append_nil, Int.toNat_zero, Nat.sub_self, frS, evl]; try rfl) ?_
  rintro ⟨r, so, sq⟩ ⟨hr, ⟨o, ho, ho1, hoe⟩, hs⟩
  simp only at hr ho ho1 hoe hs ⊢
  have ho' := ho
  have hs0 := hs
  obtain ⟨a3, c3, z3, r3, x3, rfl, _⟩ := ho
  obtain ⟨a4, c4, z4, r4, x4, rfl, _⟩ := hs
  (repeat refine Sat.seq ?_)
  (refine Sat.region_k fun k hk => ?_; simp -implicitDefEqProofs only [evr, id, reduceCtorEq, reduceIte, Nat.reduceMul, Nat.reduceAdd, Nat.reduceLT, Nat.reduceLeDiff, Nat.reduceEqDiff, Int.reduceLT, Int.reduceBEq, Int.reduceBNe, Nat.reduceBEq, List.append_nil, Int.toNat_zero, Nat.sub_self, frS]; refine hk _ ?_; clear hk k; try show Sat _ _ _ _ _)
  (repeat refine Sat.seq ?_)
  refine Sat.cond_b rfl (fun h => ?_) (fun h => ?_)
  · simp only [decide_eq_true_eq] at h
    have hr0 : 0 < r := by omega
    have hz := zero_pow_step hoe hr0
    refine Sat.skip ?_
    simp only [thenK]
    (repeat refine Sat.seq ?_)
    refine Sat.block ?_
    (repeat refine Sat.seq ?_)
    (refine Sat.region_k fun k hk => ?_; simp -implicitDefEqProofs only [evr, id, reduceCtorEq, reduceIte, Nat.reduceMul, Nat.reduceAdd, Nat.reduceLT, Nat.reduceLeDiff, Nat.reduceEqDiff, Int.reduceLT, Int.reduceBEq, Int.reduceBNe, Nat.reduceBEq, List.append_nil, Int.toNat_zero, Nat.sub_self, frS]; refine hk _ ?_; clear hk k; try show Sat _ _ _ _ _)
    (repeat refine Sat.seq ?_)
    refine Sat.region_k fun k hk => ?_
    simp -implicitDefEqProofs only [evr, id, reduceCtorEq, reduceIte, Nat.reduceMul, Nat.reduceAdd, Nat.reduceLT, Nat.reduceLeDiff, Nat.reduceEqDiff, Int.reduceLT, Int.reduceBEq, Int.reduceBNe, Nat.reduceBEq, List.append_nil, Int.toNat_zero, Nat.sub_self, frS, Zn.and_one]
    (refine hk _ ?_; clear hk k; try show Sat _ _ _ _ _)
    (repeat refine Sat.seq ?_)
    refine Sat.cond_b rfl (fun h5 => ?_) (fun h5 => ?_)
    · (repeat refine Sat.seq ?_)
      (refine Sat.region_k fun k hk => ?_; simp -implicitDefEqProofs only [evr, id, reduceCtorEq, reduceIte, Nat.reduceMul, Nat.reduceAdd, Nat.reduceLT, Nat.reduceLeDiff, Nat.reduceEqDiff, Int.reduceLT, Int.reduceBEq, Int.reduceBNe, Nat.reduceBEq, List.append_nil, Int.toNat_zero, Nat.sub_self, frS])
      refine wcall_slice (mulC F ho' hs0 (by have := pw_one; omega) (by have := pw_one; omega) (by have := pw_one; omega)) rfl rfl ?_
      rintro y ⟨s, rfl, hy⟩
      have hs5 := hy
      obtain ⟨a5, c5, z5, r5, x5, rfl, _⟩ := hy
      simp -implicitDefEqProofs only [evr, id, reduceCtorEq, reduceIte, Nat.reduceMul, Nat.reduceAdd, Nat.reduceLT, Nat.reduceLeDiff, Nat.reduceEqDiff, Int.reduceLT, Int.reduceBEq, Int.reduceBNe, Nat.reduceBEq, List.append_nil, Int.toNat_zero, Nat.sub_self, frS]
      (refine hk _ ?_; clear hk k; try show Sat _ _ _ _ _)
      (repeat refine Sat.seq ?_)
      (refine Sat.region_k fun k hk => ?_; simp -implicitDefEqProofs only [evr, id, reduceCtorEq, reduceIte, Nat.reduceMul, Nat.reduceAdd, Nat.reduceLT, Nat.reduceLeDiff, Nat.reduceEqDiff, Int.reduceLT, Int.reduceBEq, Int.reduceBNe, Nat.reduceBEq, List.append_nil, Int.toNat_zero, Nat.sub_self, frS]; refine hk _ ?_; clear hk k; try show Sat _ _ _ _ _)
      refine Sat.cond_b rfl (fun h => by cases h) (fun h => ?_)
      refine Sat.skip ?_
      simp only [thenK, blockK]
      (repeat refine Sat.seq ?_)
      (refine Sat.region_k fun k hk => ?_; simp -implicitDefEqProofs only [evr, id, reduceCtorEq, reduceIte, Nat.reduceMul, Nat.reduceAdd, Nat.reduceLT, Nat.reduceLeDiff, Nat.reduceEqDiff, Int.reduceLT, Int.reduceBEq, Int.reduceBNe, Nat.reduceBEq, List.append_nil, Int.toNat_zero, Nat.sub_self, frS]; refine hk _ ?_; clear hk k; try show Sat _ _ _ _ _)
      (repeat refine Sat.seq ?_)
      refine Sat.cond_b rfl (fun h => ?_) (fun h => ?_)
      · simp only [decide_eq_true_eq] at h
        (repeat refine Sat.seq ?_)
        (refine Sat.region_k fun k hk => ?_; simp -implicitDefEqProofs only [evr, id, reduceCtorEq, reduceIte, Nat.reduceMul, Nat.reduceAdd, Nat.reduceLT, Nat.reduceLeDiff, Nat.reduceEqDiff, Int.reduceLT, Int.reduceBEq, Int.reduceBNe, Nat.reduceBEq, List.append_nil, Int.toNat_zero, Nat.sub_self, frS])
        refine wcall_slice (mulC F hs0 hs0 (by have := pw_one; omega) (by have := pw_one; omega) (by have := pw_one; omega)) rfl rfl ?_
        rintro y ⟨s, rfl, hy⟩
        have hs1 := hy
        obtain ⟨a7, c7, z7, r7, x7, rfl, _⟩ := hy
        simp -implicitDefEqProofs only [evr, id, reduceCtorEq, reduceIte, Nat.reduceMul, Nat.reduceAdd, Nat.reduceLT, Nat.reduceLeDiff, Nat.reduceEqDiff, Int.reduceLT, Int.reduceBEq, Int.reduceBNe, Nat.reduceBEq, List.append_nil, Int.toNat_zero, Nat.sub_self, frS]
        (refine hk _ ?_; clear hk k; try show Sat _ _ _ _ _)
        (repeat refine Sat.seq ?_)
        (refine Sat.region_k fun k hk => ?_; simp -implicitDefEqProofs only [evr, id, reduceCtorEq, reduceIte, Nat.reduceMul, Nat.reduceAdd, Nat.reduceLT, Nat.reduceLeDiff, Nat.reduceEqDiff, Int.reduceLT, Int.reduceBEq, Int.reduceBNe, Nat.reduceBEq, List.append_nil, Int.toNat_zero, Nat.sub_self, frS]; refine hk _ ?_; clear hk k; try show Sat _ _ _ _ _)
        refine Sat.cond_b rfl (fun h => by cases h) (fun h => ?_)
        refine Sat.skip ?_
        simp only [thenK, blockK]
        (repeat refine Sat.seq ?_)
        (refine Sat.region_k fun k hk => ?_; simp -implicitDefEqProofs only [evr, id, reduceCtorEq, reduceIte, Nat.reduceMul, Nat.reduceAdd, Nat.reduceLT, Nat.reduceLeDiff, Nat.reduceEqDiff, Int.reduceLT, Int.reduceBEq, Int.reduceBNe, Nat.reduceBEq, List.append_nil, Int.toNat_zero, Nat.sub_self, frS])
        refine ⟨by decide, ?_⟩
        refine hk _ ?_
        simp only [thenK, blockK]
        refine ⟨(r / 2, _, _), ⟨by show r / 2 ≤ 65536; omega, ⟨0, hs5, by omega, by rw [hz, Nat.zero_mul]⟩, hs1⟩, by show r / 2 < r; omega, ?_⟩
        simp -implicitDefEqProofs only [evr, id, reduceCtorEq, reduceIte, Nat.reduceMul, Nat.reduceAdd, Nat.reduceLT, Nat.reduceLeDiff, Nat.reduceEqDiff, Int.reduceLT, Int.reduceBEq, Int.reduceBNe, Nat.reduceBEq, List.append_nil, Int.toNat_zero, Nat.sub_self, frS, evl]
        try exact half_e r
      · simp only [decide_eq_false_iff_not] at h
        refine Sat.skip ?_
        simp only [thenK, blockK]
        (repeat refine Sat.seq ?_)
        (refine Sat.region_k fun k hk => ?_; simp -implicitDefEqProofs only [evr, id, reduceCtorEq, reduceIte, Nat.reduceMul, Nat.reduceAdd, Nat.reduceLT, Nat.reduceLeDiff, Nat.reduceEqDiff, Int.reduceLT, Int.reduceBEq, Int.reduceBNe, Nat.reduceBEq, List.append_nil, Int.toNat_zero, Nat.sub_self, frS])
        refine ⟨by decide, ?_⟩
        refine hk _ ?_
        simp only [thenK, blockK]
        refine ⟨(r / 2, _, _), ⟨by show r / 2 ≤ 65536; omega, ⟨0, hs5, by omega, by rw [hz, Nat.zero_mul]⟩, hs0⟩, by show r / 2 < r; omega, ?_⟩
        simp -implicitDefEqProofs only [evr, id, reduceCtorEq, reduceIte, Nat.reduceMul, Nat.reduceAdd, Nat.reduceLT, Nat.reduceLeDiff, Nat.reduceEqDiff, Int.reduceLT, Int.reduceBEq, Int.reduceBNe, Nat.reduceBEq, List.append_nil, Int.toNat_zero, Nat.sub_self, frS, evl]
        try exact half_e r
    · refine Sat.skip ?_
      simp only [thenK, blockK]
      have h6 : r % 2 = 0 := by simp only [beq_eq_false_iff_ne] at h5; omega
      have h7 : o * 0 ^ (r / 2) = 0 ^ k0 := by
        obtain ⟨q, hq⟩ : ∃ q, r / 2 = q + 1 := ⟨r / 2 - 1, by omega⟩
        rw [hq, Nat.pow_succ, Nat.mul_zero, Nat.mul_zero, hz]
      (repeat refine Sat.seq ?_)
      (refine Sat.region_k fun k hk => ?_; simp -implicitDefEqProofs only [evr, id, reduceCtorEq, reduceIte, Nat.reduceMul, Nat.reduceAdd, Nat.reduceLT, Nat.reduceLeDiff, Nat.reduceEqDiff, Int.reduceLT, Int.reduceBEq, Int.reduceBNe, Nat.reduceBEq, List.append_nil, Int.toNat_zero, Nat.sub_self, frS]; refine hk _ ?_; clear hk k; try show Sat _ _ _ _ _)
      (repeat refine Sat.seq ?_)
      refine Sat.cond_b rfl (fun h => ?_) (fun h => ?_)
      · simp only [decide_eq_true_eq] at h
        (repeat refine Sat.seq ?_)
        (refine Sat.region_k fun k hk => ?_; simp -implicitDefEqProofs only [evr, id, reduceCtorEq, reduceIte, Nat.reduceMul, Nat.reduceAdd, Nat.reduceLT, Nat.reduceLeDiff, Nat.reduceEqDiff, Int.reduceLT, Int.reduceBEq, Int.reduceBNe, Nat.reduceBEq, List.append_nil, Int.toNat_zero, Nat.sub_self, frS])
        refine wcall_slice (mulC F hs0 hs0 (by have := pw_one; omega) (by have := pw_one; omega) (by have := pw_one; omega)) rfl rfl ?_
        rintro y ⟨s, rfl, hy⟩
        have hs1 := hy
        obtain ⟨a7, c7, z7, r7, x7, rfl, _⟩ := hy
        simp -implicitDefEqProofs only [evr, id, reduceCtorEq, reduceIte, Nat.reduceMul, Nat.reduceAdd, Nat.reduceLT, Nat.reduceLeDiff, Nat.reduceEqDiff, Int.reduceLT, Int.reduceBEq, Int.reduceBNe, Nat.reduceBEq, List.append_nil, Int.toNat_zero, Nat.sub_self, frS]
        (refine hk _ ?_; clear hk k; try show Sat _ _ _ _ _)
        (repeat refine Sat.seq ?_)
        (refine Sat.region_k fun k hk => ?_; simp -implicitDefEqProofs only [evr, id, reduceCtorEq, reduceIte, Nat.reduceMul, Nat.reduceAdd, Nat.reduceLT, Nat.reduceLeDiff, Nat.reduceEqDiff, Int.reduceLT, Int.reduceBEq, Int.reduceBNe, Nat.reduceBEq, List.append_nil, Int.toNat_zero, Nat.sub_self, frS]; refine hk _ ?_; clear hk k; try show Sat _ _ _ _ _)
        refine Sat.cond_b rfl (fun h => by cases h) (fun h => ?_)
        refine Sat.skip ?_
        simp only [thenK, blockK]
        (repeat refine Sat.seq ?_)
        (refine Sat.region_k fun k hk => ?_; simp -implicitDefEqProofs only [evr, id, reduceCtorEq, reduceIte, Nat.reduceMul, Nat.reduceAdd, Nat.reduceLT, Nat.reduceLeDiff, Nat.reduceEqDiff, Int.reduceLT, Int.reduceBEq, Int.reduceBNe, Nat.reduceBEq, List.append_nil, Int.toNat_zero, Nat.sub_self, frS])
        refine ⟨by decide, ?_⟩
        refine hk _ ?_
        simp only [thenK, blockK]
        refine ⟨(r / 2, _, _), ⟨by show r / 2 ≤ 65536; omega, ⟨o, ho', ho1, h7⟩, hs1⟩, by show r / 2 < r; omega, ?_⟩
        simp -implicitDefEqProofs only [evr, id, reduceCtorEq, reduceIte, Nat.reduceMul, Nat.reduceAdd, Nat.reduceLT, Nat.reduceLeDiff, Nat.reduceEqDiff, Int.reduceLT, Int.reduceBEq, Int.reduceBNe, Nat.reduceBEq, List.append_nil, Int.toNat_zero, Nat.sub_self, frS, evl]
        try exact half_e r
      · simp only [decide_eq_false_iff_not] at h
        refine Sat.skip ?_
        simp only [thenK, blockK]
        (repeat refine Sat.seq ?_)
        (refine Sat.region_k fun k hk => ?_; simp -implicitDefEqProofs only [evr, id, reduceCtorEq, reduceIte, Nat.reduceMul, Nat.reduceAdd, Nat.reduceLT, Nat.reduceLeDiff, Nat.reduceEqDiff, Int.reduceLT, Int.reduceBEq, Int.reduceBNe, Nat.reduceBEq, List.append_nil, Int.toNat_zero, Nat.sub_self, frS])
        refine ⟨by decide, ?_⟩
        refine hk _ ?_
        simp only [thenK, blockK]
        refine ⟨(r / 2, _, _), ⟨by show r / 2 ≤ 65536; omega, ⟨o, ho', ho1, h7⟩, hs0⟩, by show r / 2 < r; omega, ?_⟩
        simp -implicitDefEqProofs only [evr, id, reduceCtorEq, reduceIte, Nat.reduceMul, Nat.reduceAdd, Nat.reduceLT, Nat.reduceLeDiff, Nat.reduceEqDiff, Int.reduceLT, Int.reduceBEq, Int.reduceBNe, Nat.reduceBEq, List.append_nil, Int.toNat_zero, Nat.sub_self, frS, evl]
        try exact half_e r
  · simp only [decide_eq_false_iff_not] at h
    obtain rfl : r = 0 := by omega
    refine Sat.exit ?_
    simp only [thenK, blockK, reduceIte]
    (repeat refine Sat.seq ?_)
    (refine Sat.region_k fun k hk => ?_; simp -implicitDefEqProofs only [evr, id, reduceCtorEq, reduceIte, Nat.reduceMul, Nat.reduceAdd, Nat.reduceLT, Nat.reduceLeDiff, Nat.reduceEqDiff, Int.reduceLT, Int.reduceBEq, Int.reduceBNe, Nat.reduceBEq, List.append_nil, Int.toNat_zero, Nat.sub_self, frS]; refine hk _ ?_; clear hk k; try show Sat _ _ _ _ _)
    refine Sat.ret ?_
    simp only [Try.results56, evr, id, reduceCtorEq, reduceIte, Nat.reduceMul, Nat.reduceAdd, Nat.reduceLT, Nat.reduceLeDiff, Nat.reduceEqDiff, Int.reduceLT, Int.reduceBEq, Int.reduceBNe, Nat.reduceBEq, List.append_nil, Int.toNat_zero, Nat.sub_self, frS]
    rw [Nat.pow_zero, Nat.mul_one] at hoe
    exact ⟨_, rfl, by rw [← hoe]; exact ho'⟩
def xb : Nat := 512
theorem xb_eq : xb = 512 := rfl
attribute [irreducible] xb
theorem pow_bits (a n : Nat) : (2 ^ a) ^ n = 2 ^ (a * n) := (Nat.pow_mul 2 a n).symm
theorem kn_le {k n : Nat} (hk : k ≤ 16) (hn : n ≤ 128) : k ^ n ≤ 2 ^ xb := by
  have h1 : k ^ n ≤ (2 ^ 4) ^ n := Nat.pow_le_pow_left (show k ≤ 2 ^ 4 from hk) n
  rw [pow_bits] at h1
  exact Nat.le_trans h1 (Nat.pow_le_pow_right (by decide) (by rw [xb_eq]; omega))
theorem lt_pw_add {x y a b : Nat} (hx : x ≤ 2 ^ a) (hy : y ≤ 2 ^ b) (h : a + b + 1 < 30 * 256) : ((x + y : Nat) : Int) < pw 256 := by
  refine lt_pw (a := a + b + 1) ?_ h
  have h1 : 2 ^ a ≤ 2 ^ (a + b) := Nat.pow_le_pow_right (by decide) (by omega)
  have h2 : 2 ^ b ≤ 2 ^ (a + b) := Nat.pow_le_pow_right (by decide) (by omega)
  rw [Nat.pow_succ]
  omega
theorem kn_pw {k n : Nat} (hk : k ≤ 16) (hn : n ≤ 128) : ((k ^ n : Nat) : Int) < pw 256 := lt_pw (kn_le hk hn) (by rw [xb_eq]; decide)
set_option maxRecDepth 100000 in
theorem stPowerC (F : Frm) (m n : Nat) (hk0 : m ≤ 16) (hn : n ≤ 128) : Contract F Try.prog 31 [.i .i64 m, .i .i64 n] (fun r => Nats r (m ^ n)) := by
  refine contract_of Try.func31 rfl (by kernel_rfl) ?_
  simp only [Try.ntmps31, argEnv]
  (repeat refine Sat.seq ?_)
  (refine Sat.region_k fun k hk => ?_; simp -implicitDefEqProofs only [evr, id, reduceCtorEq, reduceIte, Nat.reduceMul, Nat.reduceAdd, Nat.reduceLT, Nat.reduceLeDiff, Nat.reduceEqDiff, Int.reduceLT, Int.reduceBEq, Int.reduceBNe, Nat.reduceBEq, List.append_nil, Int.toNat_zero, Nat.sub_self, frS]; refine hk _ ?_; clear hk k; try show Sat _ _ _ _ _)
  (repeat refine Sat.seq ?_)
  (refine Sat.region_k fun k hk => ?_; simp -implicitDefEqProofs only [evr, id, reduceCtorEq, reduceIte, Nat.reduceMul, Nat.reduceAdd, Nat.reduceLT, Nat.reduceLeDiff, Nat.reduceEqDiff, Int.reduceLT, Int.reduceBEq, Int.reduceBNe, Nat.reduceBEq, List.append_nil, Int.toNat_zero, Nat.sub_self, frS])
  refine wcall_slice (stSmallC F m (by omega)) rfl rfl ?_
  intro y hy
  have hy1 := hy
  obtain ⟨a2, c2, z2, r2, x2, rfl, _⟩ := hy
  simp -implicitDefEqProofs only [evr, id, reduceCtorEq, reduceIte, Nat.reduceMul, Nat.reduceAdd, Nat.reduceLT, Nat.reduceLeDiff, Nat.reduceEqDiff, Int.reduceLT, Int.reduceBEq, Int.reduceBNe, Nat.reduceBEq, List.append_nil, Int.toNat_zero, Nat.sub_self, frS]
  have hc : Contract F Try.prog 56 [.sl a2 x2.length c2 z2 r2, .i .i64 n] (natRes (m ^ n)) := by
    rcases Nat.eq_zero_or_pos m with rfl | h0
    · exact pow0C F n hy1 (by omega)
    · exact powC F n hy1 h0 (lt_pw (a := 4) (by omega) (by decide)) rfl (by omega) (kn_pw hk0 hn)
  refine wcall_slice hc rfl rfl ?_
  rintro y ⟨s, rfl, hy⟩
  have hs5 := hy
  obtain ⟨a5, c5, z5, r5, x5, rfl, _⟩ := hy
  simp -implicitDefEqProofs only [evr, id, reduceCtorEq, reduceIte, Nat.reduceMul, Nat.reduceAdd, Nat.reduceLT, Nat.reduceLeDiff, Nat.reduceEqDiff, Int.reduceLT, Int.reduceBEq, Int.reduceBNe, Nat.reduceBEq, List.append_nil, Int.toNat_zero, Nat.sub_self, frS]
  (refine hk _ ?_; clear hk k; try show Sat _ _ _ _ _)
  (repeat refine Sat.seq ?_)
  (refine Sat.region_k fun k hk => ?_; simp -implicitDefEqProofs only [evr, id, reduceCtorEq, reduceIte, Nat.reduceMul, Nat.reduceAdd, Nat.reduceLT, Nat.reduceLeDiff, Nat.reduceEqDiff, Int.reduceLT, Int.reduceBEq, Int.reduceBNe, Nat.reduceBEq, List.append_nil, Int.toNat_zero, Nat.sub_self, frS]; refine hk _ ?_; clear hk k; try show Sat _ _ _ _ _)
  refine Sat.ret ?_
  simp only [Try.results31, evr, id, reduceCtorEq, reduceIte, Nat.reduceMul, Nat.reduceAdd, Nat.reduceLT, Nat.reduceLeDiff, Nat.reduceEqDiff, Int.reduceLT, Int.reduceBEq, Int.reduceBNe, Nat.reduceBEq, List.append_nil, Int.toNat_zero, Nat.sub_self, frS]
  exact hs5
def ontoT (n k i : Nat) : Nat := binom k i * (k - i) ^ n
theorem ontoT_le {n k : Nat} (hk : k ≤ 16) (hn : n ≤ 128) (i : Nat) : ontoT n k i ≤ 2 ^ (16 + xb) := by
  unfold ontoT
  have h1 := binom_le k i
  have h2 : (2 : Nat) ^ k ≤ 2 ^ 16 := Nat.pow_le_pow_right (by decide) hk
  exact mul_two (a := 16) (b := xb) (Nat.le_trans h1 h2) (kn_le (by omega) hn)
theorem sumE_le {f : Nat → Nat} {B : Nat} (h : ∀ i, f i ≤ B) : ∀ m, sumE f m ≤ m * B
  | 0 => by simp [sumE]
  | m + 1 => by
    have := sumE_le h m
    have := h m
    simp only [sumE, Nat.add_mul, Nat.one_mul]
    split <;> omega
theorem sumO_le {f : Nat → Nat} {B : Nat} (h : ∀ i, f i ≤ B) : ∀ m, sumO f m ≤ m * B
  | 0 => by simp [sumO]
  | m + 1 => by
    have := sumO_le h m
    have := h m
    simp only [sumO, Nat.add_mul, Nat.one_mul]
    split <;> omega
theorem sumE_pw {n k : Nat} (hk : k ≤ 16) (hn : n ≤ 128) {m : Nat} (hm : m ≤ 18) : ((sumE (ontoT n k) m : Nat) : Int) < pw 256 := by
  refine lt_pw (a := 12 + (16 + xb)) (Nat.le_trans (sumE_le (ontoT_le hk hn) m) ?_) (by rw [xb_eq]; decide)
  exact mul_two (a := 12) (b := 16 + xb) (Nat.le_trans hm (by decide)) (Nat.le_refl _)
theorem sumO_pw {n k : Nat} (hk : k ≤ 16) (hn : n ≤ 128) {m : Nat} (hm : m ≤ 18) : ((sumO (ontoT n k) m : Nat) : Int) < pw 256 := by
  refine lt_pw (a := 12 + (16 + xb)) (Nat.le_trans (sumO_le (ontoT_le hk hn) m) ?_) (by rw [xb_eq]; decide)
  exact mul_two (a := 12) (b := 16 + xb) (Nat.le_trans hm (by decide)) (Nat.le_refl _)
theorem onto_cnt (n k : Nat) : sumO (ontoT n k) (k + 1) ≤ sumE (ontoT n k) (k + 1) ∧ sumE (ontoT n k) (k + 1) - sumO (ontoT n k) (k + 1) = cnt k n k := onto_sum n k
set_option maxRecDepth 100000 in
theorem stOntoC (F : Frm) (n m : Nat) (hn : n ≤ 128) (hk0 : m ≤ 16) : Contract F Try.prog 16 [.i .i64 n, .i .i64 m] (natRes (cnt m n m)) := by
  refine contract_of Try.func16 rfl (by kernel_rfl) ?_
  simp only [Try.ntmps16, argEnv]
  have ek : IntKind.i64.wrap ((m : Int) + 1) = ((m + 1 : Nat) : Int) := by rw [w64 (by omega)]; omega
  (repeat refine Sat.seq ?_)
  (refine Sat.region_k fun k hk => ?_; simp -implicitDefEqProofs only [evr, id, reduceCtorEq, reduceIte, Nat.reduceMul, Nat.reduceAdd, Nat.reduceLT, Nat.reduceLeDiff, Nat.reduceEqDiff, Int.reduceLT, Int.reduceBEq, Int.reduceBNe, Nat.reduceBEq, List.append_nil, Int.toNat_zero, Nat.sub_self, frS]; refine hk _ ?_; clear hk k; try show Sat _ _ _ _ _)
  (repeat refine Sat.seq ?_)
  refine Sat.region_at ⟨63, [(27, .b false), (0, .i .i64 n), (1, .i .i64 m)], []⟩ (fun k' hk => ?_) ?_
  · simp -implicitDefEqProofs only [evr, id, reduceCtorEq, reduceIte, Nat.reduceMul, Nat.reduceAdd, Nat.reduceLT, Nat.reduceLeDiff, Nat.reduceEqDiff, Int.reduceLT, Int.reduceBEq, Int.reduceBNe, Nat.reduceBEq, List.append_nil, Int.toNat_zero, Nat.sub_self, frS]
    refine ⟨fun h => by omega, fun h => ⟨fun h => by omega, fun h => ⟨fun h => by omega, fun h => ?_⟩⟩⟩
    refine hk _ ?_
    have e : decide (16 < (m : Int)) = false := by simp; omega
    simp only [e]
    simp -implicitDefEqProofs only [evr, id, reduceCtorEq, reduceIte, Nat.reduceMul, Nat.reduceAdd, Nat.reduceLT, Nat.reduceLeDiff, Nat.reduceEqDiff, Int.reduceLT, Int.reduceBEq, Int.reduceBNe, Nat.reduceBEq, List.append_nil, Int.toNat_zero, Nat.sub_self, frS, evl]
  simp only [thenK]
  refine Sat.cond_b rfl (fun h => by cases h) (fun h => ?_)
  refine Sat.skip ?_
  simp only [thenK]
  (repeat refine Sat.seq ?_)
  (refine Sat.region_k fun k hk => ?_; simp -implicitDefEqProofs only [evr, id, reduceCtorEq, reduceIte, Nat.reduceMul, Nat.reduceAdd, Nat.reduceLT, Nat.reduceLeDiff, Nat.reduceEqDiff, Int.reduceLT, Int.reduceBEq, Int.reduceBNe, Nat.reduceBEq, List.append_nil, Int.toNat_zero, Nat.sub_self, frS]; refine hk _ ?_; clear hk k; try show Sat _ _ _ _ _)
  (repeat refine Sat.seq ?_)
  refine Sat.region_k fun k' hk => ?_
  simp -implicitDefEqProofs only [evr, id, reduceCtorEq, reduceIte, Nat.reduceMul, Nat.reduceAdd, Nat.reduceLT, Nat.reduceLeDiff, Nat.reduceEqDiff, Int.reduceLT, Int.reduceBEq, Int.reduceBNe, Nat.reduceBEq, List.append_nil, Int.toNat_zero, Nat.sub_self, frS, ek]
  refine hk _ ?_
  clear hk k'
  (repeat refine Sat.seq ?_)
  refine Sat.block ?_
  (repeat refine Sat.seq ?_)
  refine Sat.loop (ι := Nat × SV × SV) (fun x => ⟨63, [(30, .i .i64 x.1), (29, .i .i64 (m + 1 : Nat)), (0, .i .i64 n), (1, .i .i64 m), (6, x.2.1), (7, x.2.2)], []⟩)
    (fun x => x.1 ≤ m + 1 ∧ Nats x.2.1 (sumE (ontoT n m) x.1) ∧ Nats x.2.2 (sumO (ontoT n m) x.1)) (fun x => m + 1 - x.1) (0, .sl none 0 0 0 (fun _ _ => .v undef), .sl none 0 0 0 (fun _ _ => .v undef)) ⟨by omega, Nats.nil, Nats.nil⟩ (by simp -implicitDefEqProofs only [evr, id, reduceCtorEq, reduceIte, Nat.reduceMul, Nat.reduceAdd, Nat.reduceLT, Nat.reduceLeDiff, Nat.reduceEqDiff, Int.reduceLT, Int.reduceBEq, Int.reduceBNe, Nat.reduceBEq, List.append_nil, Int.toNat_zero, Nat.sub_self, frS, evl]; try rfl) ?_
  rintro ⟨i, se, so⟩ ⟨hi, he, ho⟩
  simp only at hi he ho ⊢
  have he' := he
  have ho' := ho
  obtain ⟨a3, c3, z3, r3, x3, rfl, _⟩ := he
  obtain ⟨a4, c4, z4, r4, x4, rfl, _⟩ := ho
  (repeat refine Sat.seq ?_)
  (refine Sat.region_k fun k hk => ?_; simp -implicitDefEqProofs only [evr, id, reduceCtorEq, reduceIte, Nat.reduceMul, Nat.reduceAdd, Nat.reduceLT, Nat.reduceLeDiff, Nat.reduceEqDiff, Int.reduceLT, Int.reduceBEq, Int.reduceBNe, Nat.reduceBEq, List.append_nil, Int.toNat_zero, Nat.sub_self, frS]; refine hk _ ?_; clear hk k; try show Sat _ _ _ _ _)
  (repeat refine Sat.seq ?_)
  refine Sat.cond_b rfl (fun h => ?_) (fun h => ?_)
  · simp only [decide_eq_true_eq] at h
    have hik : i ≤ m := by omega
    have ei : IntKind.i64.wrap ((m : Int) - (i : Int)) = ((m - i : Nat) : Int) := by rw [w64 (by omega)]; omega
    have ei1 : IntKind.i64.wrap ((i : Int) + 1) = ((i + 1 : Nat) : Int) := by rw [w64 (by omega)]; omega
    have em : (((i : Int).tmod 2) == 0) = decide (i % 2 = 0) := by
      rw [Int.tmod_eq_emod_of_nonneg (by omega)]
      by_cases h9 : i % 2 = 0
      · rw [decide_eq_true h9, beq_iff_eq]; omega
      · rw [decide_eq_false h9, beq_eq_false_iff_ne]; omega
    refine Sat.skip ?_
    simp only [thenK]
    (repeat refine Sat.seq ?_)
    refine Sat.block ?_
    (repeat refine Sat.seq ?_)
    (refine Sat.region_k fun k hk => ?_; simp -implicitDefEqProofs only [evr, id, reduceCtorEq, reduceIte, Nat.reduceMul, Nat.reduceAdd, Nat.reduceLT, Nat.reduceLeDiff, Nat.reduceEqDiff, Int.reduceLT, Int.reduceBEq, Int.reduceBNe, Nat.reduceBEq, List.append_nil, Int.toNat_zero, Nat.sub_self, frS]; refine hk _ ?_; clear hk k; try show Sat _ _ _ _ _)
    (repeat refine Sat.seq ?_)
    (refine Sat.region_k fun k hk => ?_; simp -implicitDefEqProofs only [evr, id, reduceCtorEq, reduceIte, Nat.reduceMul, Nat.reduceAdd, Nat.reduceLT, Nat.reduceLeDiff, Nat.reduceEqDiff, Int.reduceLT, Int.reduceBEq, Int.reduceBNe, Nat.reduceBEq, List.append_nil, Int.toNat_zero, Nat.sub_self, frS])
    refine wcall_slice (chooseC F m i (by omega) (by omega)) rfl rfl ?_
    rintro y ⟨s, rfl, hy⟩
    have hs5 := hy
    obtain ⟨a5, c5, z5, r5, x5, rfl, _⟩ := hy
    simp -implicitDefEqProofs only [evr, id, reduceCtorEq, reduceIte, Nat.reduceMul, Nat.reduceAdd, Nat.reduceLT, Nat.reduceLeDiff, Nat.reduceEqDiff, Int.reduceLT, Int.reduceBEq, Int.reduceBNe, Nat.reduceBEq, List.append_nil, Int.toNat_zero, Nat.sub_self, frS]
    (refine hk _ ?_; clear hk k; try show Sat _ _ _ _ _)
    (repeat refine Sat.seq ?_)
    refine Sat.region_k fun k' hk => ?_
    simp -implicitDefEqProofs only [evr, id, reduceCtorEq, reduceIte, Nat.reduceMul, Nat.reduceAdd, Nat.reduceLT, Nat.reduceLeDiff, Nat.reduceEqDiff, Int.reduceLT, Int.reduceBEq, Int.reduceBNe, Nat.reduceBEq, List.append_nil, Int.toNat_zero, Nat.sub_self, frS, ei]
    refine wcall_slice (stPowerC F (m - i) n (by omega) hn) rfl rfl ?_
    intro y hy
    have hs6 := hy
    obtain ⟨a6, c6, z6, r6, x6, rfl, _⟩ := hy
    simp -implicitDefEqProofs only [evr, id, reduceCtorEq, reduceIte, Nat.reduceMul, Nat.reduceAdd, Nat.reduceLT, Nat.reduceLeDiff, Nat.reduceEqDiff, Int.reduceLT, Int.reduceBEq, Int.reduceBNe, Nat.reduceBEq, List.append_nil, Int.toNat_zero, Nat.sub_self, frS]
    refine wcall_slice (stTimesC F hs5 hs6 (Zn.binom_pw (by omega) i) (kn_pw (by omega) hn) (lt_pw (ontoT_le hk0 hn i) (by rw [xb_eq]; decide))) rfl rfl ?_
    intro y hy
    have hs7 : Nats y (ontoT n m i) := hy
    obtain ⟨a7, c7, z7, r7, x7, rfl, _⟩ := hy
    simp -implicitDefEqProofs only [evr, id, reduceCtorEq, reduceIte, Nat.reduceMul, Nat.reduceAdd, Nat.reduceLT, Nat.reduceLeDiff, Nat.reduceEqDiff, Int.reduceLT, Int.reduceBEq, Int.reduceBNe, Nat.reduceBEq, List.append_nil, Int.toNat_zero, Nat.sub_self, frS]
    refine hk _ ?_
    clear hk k'
    try show Sat _ _ _ _ _
    (repeat refine Sat.seq ?_)
    refine Sat.region_k fun k' hk => ?_
    simp -implicitDefEqProofs only [evr, id, reduceCtorEq, reduceIte, Nat.reduceMul, Nat.reduceAdd, Nat.reduceLT, Nat.reduceLeDiff, Nat.reduceEqDiff, Int.reduceLT, Int.reduceBEq, Int.reduceBNe, Nat.reduceBEq, List.append_nil, Int.toNat_zero, Nat.sub_self, frS, em]
    refine ⟨by decide, ?_⟩
    refine hk _ ?_
    clear hk k'
    try show Sat _ _ _ _ _
    have s1 : sumE (ontoT n m) (i + 1) = sumE (ontoT n m) i + if i % 2 = 0 then ontoT n m i else 0 := rfl
    have s2 : sumO (ontoT n m) (i + 1) = sumO (ontoT n m) i + if i % 2 = 0 then 0 else ontoT n m i := rfl
    have p1 := sumE_pw hk0 hn (show i + 1 ≤ 18 by omega)
    have p2 := sumO_pw hk0 hn (show i + 1 ≤ 18 by omega)
    (repeat refine Sat.seq ?_)
    refine Sat.cond_b rfl (fun h5 => ?_) (fun h5 => ?_)
    · have h6 := of_decide_eq_true h5
      rw [if_pos h6] at s1 s2
      (repeat refine Sat.seq ?_)
      (refine Sat.region_k fun k hk => ?_; simp -implicitDefEqProofs only [evr, id, reduceCtorEq, reduceIte, Nat.reduceMul, Nat.reduceAdd, Nat.reduceLT, Nat.reduceLeDiff, Nat.reduceEqDiff, Int.reduceLT, Int.reduceBEq, Int.reduceBNe, Nat.reduceBEq, List.append_nil, Int.toNat_zero, Nat.sub_self, frS])
      refine wcall_slice (stPlusC F he' hs7 (by rw [← s1]; exact p1)) rfl rfl ?_
      intro y hy
      have hs8 := hy
      obtain ⟨a8, c8, z8, r8, x8, rfl, _⟩ := hy
      simp -implicitDefEqProofs only [evr, id, reduceCtorEq, reduceIte, Nat.reduceMul, Nat.reduceAdd, Nat.reduceLT, Nat.reduceLeDiff, Nat.reduceEqDiff, Int.reduceLT, Int.reduceBEq, Int.reduceBNe, Nat.reduceBEq, List.append_nil, Int.toNat_zero, Nat.sub_self, frS]
      refine hk _ ?_
      clear hk k
      simp only [thenK, blockK]
      (repeat refine Sat.seq ?_)
      refine Sat.region_k fun k' hk => ?_
      simp -implicitDefEqProofs only [evr, id, reduceCtorEq, reduceIte, Nat.reduceMul, Nat.reduceAdd, Nat.reduceLT, Nat.reduceLeDiff, Nat.reduceEqDiff, Int.reduceLT, Int.reduceBEq, Int.reduceBNe, Nat.reduceBEq, List.append_nil, Int.toNat_zero, Nat.sub_self, frS, ei1]
      refine hk _ ?_
      simp only [thenK, blockK]
      refine ⟨(i + 1, _, _), ⟨by show i + 1 ≤ m + 1; omega, by rw [s1]; exact hs8, by rw [s2, Nat.add_zero]; exact ho'⟩, by show m + 1 - (i + 1) < m + 1 - i; omega, ?_⟩
      simp -implicitDefEqProofs only [evr, id, reduceCtorEq, reduceIte, Nat.reduceMul, Nat.reduceAdd, Nat.reduceLT, Nat.reduceLeDiff, Nat.reduceEqDiff, Int.reduceLT, Int.reduceBEq, Int.reduceBNe, Nat.reduceBEq, List.append_nil, Int.toNat_zero, Nat.sub_self, frS, evl]
    · have h6 := of_decide_eq_false h5
      rw [if_neg h6] at s1 s2
      (repeat refine Sat.seq ?_)
      (refine Sat.region_k fun k hk => ?_; simp -implicitDefEqProofs only [evr, id, reduceCtorEq, reduceIte, Nat.reduceMul, Nat.reduceAdd, Nat.reduceLT, Nat.reduceLeDiff, Nat.reduceEqDiff, Int.reduceLT, Int.reduceBEq, Int.reduceBNe, Nat.reduceBEq, List.append_nil, Int.toNat_zero, Nat.sub_self, frS])
      refine wcall_slice (stPlusC F ho' hs7 (by rw [← s2]; exact p2)) rfl rfl ?_
      intro y hy
      have hs8 := hy
      obtain ⟨a8, c8, z8, r8, x8, rfl, _⟩ := hy
      simp -implicitDefEqProofs only [evr, id, reduceCtorEq, reduceIte, Nat.reduceMul, Nat.reduceAdd, Nat.reduceLT, Nat.reduceLeDiff, Nat.reduceEqDiff, Int.reduceLT, Int.reduceBEq, Int.reduceBNe, Nat.reduceBEq, List.append_nil, Int.toNat_zero, Nat.sub_self, frS]
      refine hk _ ?_
      clear hk k
      simp only [thenK, blockK]
      (repeat refine Sat.seq ?_)
      refine Sat.region_k fun k' hk => ?_
      simp -implicitDefEqProofs only [evr, id, reduceCtorEq, reduceIte, Nat.reduceMul, Nat.reduceAdd, Nat.reduceLT, Nat.reduceLeDiff, Nat.reduceEqDiff, Int.reduceLT, Int.reduceBEq, Int.reduceBNe, Nat.reduceBEq, List.append_nil, Int.toNat_zero, Nat.sub_self, frS, ei1]
      refine hk _ ?_
      simp only [thenK, blockK]
      refine ⟨(i + 1, _, _), ⟨by show i + 1 ≤ m + 1; omega, by rw [s1, Nat.add_zero]; exact he', by rw [s2]; exact hs8⟩, by show m + 1 - (i + 1) < m + 1 - i; omega, ?_⟩
      simp -implicitDefEqProofs only [evr, id, reduceCtorEq, reduceIte, Nat.reduceMul, Nat.reduceAdd, Nat.reduceLT, Nat.reduceLeDiff, Nat.reduceEqDiff, Int.reduceLT, Int.reduceBEq, Int.reduceBNe, Nat.reduceBEq, List.append_nil, Int.toNat_zero, Nat.sub_self, frS, evl]
  · simp only [decide_eq_false_iff_not] at h
    have hi2 : i = m + 1 := by omega
    subst hi2
    obtain ⟨o1, o2⟩ := onto_cnt n m
    refine Sat.exit ?_
    simp only [thenK, blockK, reduceIte]
    (repeat refine Sat.seq ?_)
    (refine Sat.region_k fun k hk => ?_; simp -implicitDefEqProofs only [evr, id, reduceCtorEq, reduceIte, Nat.reduceMul, Nat.reduceAdd, Nat.reduceLT, Nat.reduceLeDiff, Nat.reduceEqDiff, Int.reduceLT, Int.reduceBEq, Int.reduceBNe, Nat.reduceBEq, List.append_nil, Int.toNat_zero, Nat.sub_self, frS])
    refine wcall_slice (subC F he' ho' (sumE_pw hk0 hn (by omega)) o1) rfl rfl ?_
    rintro y ⟨s, rfl, hy⟩
    rw [o2] at hy
    have hs8 := hy
    obtain ⟨a8, c8, z8, r8, x8, rfl, _⟩ := hy
    simp -implicitDefEqProofs only [evr, id, reduceCtorEq, reduceIte, Nat.reduceMul, Nat.reduceAdd, Nat.reduceLT, Nat.reduceLeDiff, Nat.reduceEqDiff, Int.reduceLT, Int.reduceBEq, Int.reduceBNe, Nat.reduceBEq, List.append_nil, Int.toNat_zero, Nat.sub_self, frS]
    (refine hk _ ?_; clear hk k; try show Sat _ _ _ _ _)
    (repeat refine Sat.seq ?_)
    (refine Sat.region_k fun k hk => ?_; simp -implicitDefEqProofs only [evr, id, reduceCtorEq, reduceIte, Nat.reduceMul, Nat.reduceAdd, Nat.reduceLT, Nat.reduceLeDiff, Nat.reduceEqDiff, Int.reduceLT, Int.reduceBEq, Int.reduceBNe, Nat.reduceBEq, List.append_nil, Int.toNat_zero, Nat.sub_self, frS]; refine hk _ ?_; clear hk k; try show Sat _ _ _ _ _)
    refine Sat.ret ?_
    simp only [Try.results16, evr, id, reduceCtorEq, reduceIte, Nat.reduceMul, Nat.reduceAdd, Nat.reduceLT, Nat.reduceLeDiff, Nat.reduceEqDiff, Int.reduceLT, Int.reduceBEq, Int.reduceBNe, Nat.reduceBEq, List.append_nil, Int.toNat_zero, Nat.sub_self, frS]
    exact ⟨_, rfl, hs8⟩
end Go.Proofs.Ytagmohpafjncfaa

/- Package stopping, by the evaluator: Missing, Needed. -/
set_option linter.unusedSimpArgs false
set_option linter.unusedVariables false
namespace Go.Proofs.Ytagmohpafjncfaa
open Eng Lmb
def misG (n m : Nat) : Nat := Nat.gcd (m ^ n - cnt m n m) (m ^ n)
def misP (n m : Nat) : Nat := (m ^ n - cnt m n m) / misG n m
def misQ (n m : Nat) : Nat := m ^ n / misG n m
theorem misG_pos {n m : Nat} (hm : 1 ≤ m) : 0 < misG n m := Nat.gcd_pos_of_pos_right _ (Nat.pow_pos hm)
theorem misP_eq (n m : Nat) : misP n m * misG n m = m ^ n - cnt m n m := Nat.div_mul_cancel (Nat.gcd_dvd_left _ _)
theorem misQ_eq (n m : Nat) : misQ n m * misG n m = m ^ n := Nat.div_mul_cancel (Nat.gcd_dvd_right _ _)
theorem misP_le (n m : Nat) : misP n m ≤ m ^ n := Nat.le_trans (Nat.div_le_self _ _) (Nat.sub_le _ _)
theorem misQ_le (n m : Nat) : misQ n m ≤ m ^ n := Nat.div_le_self _ _
def missed (n m p q : Nat) : Prop := p * m ^ n < (m ^ n - cnt m n m) * q
theorem missed_iff {n m p q : Nat} (hm : 1 ≤ m) : missed n m p q ↔ p * misQ n m < misP n m * q := by
  unfold missed
  have e1 : p * m ^ n = p * misQ n m * misG n m := by rw [Nat.mul_assoc, misQ_eq]
  have e2 : (m ^ n - cnt m n m) * q = misP n m * q * misG n m := by rw [← misP_eq, Nat.mul_assoc, Nat.mul_comm (misG n m), ← Nat.mul_assoc]
  rw [e1, e2]
  exact Nat.mul_lt_mul_right (misG_pos hm)
set_option maxRecDepth 100000 in
theorem stMissingC (F : Frm) (n m : Nat) (hn : n ≤ 128) (hm : m ≤ 16) (hm1 : 1 ≤ m) : Contract F Try.prog 13 [.i .i64 n, .i .i64 m] (fun r => ∃ f, r = tupL [f, .i .i64 0] ∧ FrS f false (misP n m) (misQ n m)) := by
  refine contract_of Try.func13 rfl (by kernel_rfl) ?_
  simp only [Try.ntmps13, argEnv]
  have hpow := kn_pw hm hn
  have hcl := cnt_le m n m (Nat.le_refl _)
  have h0 : 0 < m ^ n := Nat.pow_pos hm1
  (repeat refine Sat.seq ?_)
  (refine Sat.region_k fun k hk => ?_; simp -implicitDefEqProofs only [evr, id, reduceCtorEq, reduceIte, Nat.reduceMul, Nat.reduceAdd, Nat.reduceLT, Nat.reduceLeDiff, Nat.reduceEqDiff, Int.reduceLT, Int.reduceBEq, Int.reduceBNe, Nat.reduceBEq, List.append_nil, Int.toNat_zero, Nat.sub_self, frS])
  intro b4
  (refine hk _ ?_; clear hk k; try show Sat _ _ _ _ _)
  (repeat refine Sat.seq ?_)
  refine Sat.region_at ⟨45, [(24, .b false), (4, .op 0 b4 0), (0, .i .i64 n), (1, .i .i64 m)], [.box b4 30 [.b false, .sl none 0 0 0 (fun _ _ => .v undef), .sl none 0 0 0 (fun _ _ => .v undef)]]⟩ (fun k hk => ?_) ?_
  · simp -implicitDefEqProofs only [evr, id, reduceCtorEq, reduceIte, Nat.reduceMul, Nat.reduceAdd, Nat.reduceLT, Nat.reduceLeDiff, Nat.reduceEqDiff, Int.reduceLT, Int.reduceBEq, Int.reduceBNe, Nat.reduceBEq, List.append_nil, Int.toNat_zero, Nat.sub_self, frS]
    refine ⟨fun h => by omega, fun h => ⟨fun h => by omega, fun h => ⟨fun h => by omega, fun h => ?_⟩⟩⟩
    refine hk _ ?_
    have e : decide (16 < (m : Int)) = false := by simp; omega
    simp only [e]
    simp -implicitDefEqProofs only [evr, id, reduceCtorEq, reduceIte, Nat.reduceMul, Nat.reduceAdd, Nat.reduceLT, Nat.reduceLeDiff, Nat.reduceEqDiff, Int.reduceLT, Int.reduceBEq, Int.reduceBNe, Nat.reduceBEq, List.append_nil, Int.toNat_zero, Nat.sub_self, frS, evl]
    try rfl
  simp only [thenK]
  refine Sat.cond_b rfl (fun h => by cases h) (fun h => ?_)
  refine Sat.skip ?_
  simp only [thenK]
  (repeat refine Sat.seq ?_)
  (refine Sat.region_k fun k hk => ?_; simp -implicitDefEqProofs only [evr, id, reduceCtorEq, reduceIte, Nat.reduceMul, Nat.reduceAdd, Nat.reduceLT, Nat.reduceLeDiff, Nat.reduceEqDiff, Int.reduceLT, Int.reduceBEq, Int.reduceBNe, Nat.reduceBEq, List.append_nil, Int.toNat_zero, Nat.sub_self, frS])
  refine wcall_slice (stPowerC F m n hm hn) rfl rfl ?_
  intro y hy
  have hs1 := hy
  obtain ⟨a1, c1, z1, r1, x1, rfl, _⟩ := hy
  simp -implicitDefEqProofs only [evr, id, reduceCtorEq, reduceIte, Nat.reduceMul, Nat.reduceAdd, Nat.reduceLT, Nat.reduceLeDiff, Nat.reduceEqDiff, Int.reduceLT, Int.reduceBEq, Int.reduceBNe, Nat.reduceBEq, List.append_nil, Int.toNat_zero, Nat.sub_self, frS]
  (refine hk _ ?_; clear hk k; try show Sat _ _ _ _ _)
  (repeat refine Sat.seq ?_)
  (refine Sat.region_k fun k hk => ?_; simp -implicitDefEqProofs only [evr, id, reduceCtorEq, reduceIte, Nat.reduceMul, Nat.reduceAdd, Nat.reduceLT, Nat.reduceLeDiff, Nat.reduceEqDiff, Int.reduceLT, Int.reduceBEq, Int.reduceBNe, Nat.reduceBEq, List.append_nil, Int.toNat_zero, Nat.sub_self, frS])
  refine wcall_slice (stOntoC F n m hn hm) rfl rfl ?_
  rintro y ⟨s, rfl, hy⟩
  have hs2 := hy
  obtain ⟨a2, c2, z2, r2, x2, rfl, _⟩ := hy
  simp -implicitDefEqProofs only [evr, id, reduceCtorEq, reduceIte, Nat.reduceMul, Nat.reduceAdd, Nat.reduceLT, Nat.reduceLeDiff, Nat.reduceEqDiff, Int.reduceLT, Int.reduceBEq, Int.reduceBNe, Nat.reduceBEq, List.append_nil, Int.toNat_zero, Nat.sub_self, frS]
  (refine hk _ ?_; clear hk k; try show Sat _ _ _ _ _)
  (repeat refine Sat.seq ?_)
  (refine Sat.region_k fun k hk => ?_; simp -implicitDefEqProofs only [evr, id, reduceCtorEq, reduceIte, Nat.reduceMul, Nat.reduceAdd, Nat.reduceLT, Nat.reduceLeDiff, Nat.reduceEqDiff, Int.reduceLT, Int.reduceBEq, Int.reduceBNe, Nat.reduceBEq, List.append_nil, Int.toNat_zero, Nat.sub_self, frS])
  refine wcall_slice (subC F hs1 hs2 hpow hcl) rfl rfl ?_
  rintro y ⟨s, rfl, hy⟩
  have hs3 := hy
  obtain ⟨a3, c3, z3, r3, x3, rfl, _⟩ := hy
  simp -implicitDefEqProofs only [evr, id, reduceCtorEq, reduceIte, Nat.reduceMul, Nat.reduceAdd, Nat.reduceLT, Nat.reduceLeDiff, Nat.reduceEqDiff, Int.reduceLT, Int.reduceBEq, Int.reduceBNe, Nat.reduceBEq, List.append_nil, Int.toNat_zero, Nat.sub_self, frS]
  (refine hk _ ?_; clear hk k; try show Sat _ _ _ _ _)
  (repeat refine Sat.seq ?_)
  (refine Sat.region_k fun k hk => ?_; simp -implicitDefEqProofs only [evr, id, reduceCtorEq, reduceIte, Nat.reduceMul, Nat.reduceAdd, Nat.reduceLT, Nat.reduceLeDiff, Nat.reduceEqDiff, Int.reduceLT, Int.reduceBEq, Int.reduceBNe, Nat.reduceBEq, List.append_nil, Int.toNat_zero, Nat.sub_self, frS])
  refine wcall_slice (fractionReduceC F false hs3 hs1 (by omega) hpow h0) rfl (by simp -implicitDefEqProofs only [evr, id, reduceCtorEq, reduceIte, Nat.reduceMul, Nat.reduceAdd, Nat.reduceLT, Nat.reduceLeDiff, Nat.reduceEqDiff, Int.reduceLT, Int.reduceBEq, Int.reduceBNe, Nat.reduceBEq, List.append_nil, Int.toNat_zero, Nat.sub_self, frS]; try rfl) ?_
  rintro y ⟨sp, sq, rfl, hp, hq⟩
  have hp' : Nats sp (misP n m) := hp
  have hq' : Nats sq (misQ n m) := hq
  obtain ⟨a5, c5, z5, r5, x5, rfl, _⟩ := hp
  obtain ⟨a6, c6, z6, r6, x6, rfl, _⟩ := hq
  simp -implicitDefEqProofs only [evr, id, reduceCtorEq, reduceIte, Nat.reduceMul, Nat.reduceAdd, Nat.reduceLT, Nat.reduceLeDiff, Nat.reduceEqDiff, Int.reduceLT, Int.reduceBEq, Int.reduceBNe, Nat.reduceBEq, List.append_nil, Int.toNat_zero, Nat.sub_self, frS, Bool.false_and]
  (refine hk _ ?_; clear hk k; try show Sat _ _ _ _ _)
  refine Sat.ret ?_
  simp only [Try.results13, evr, id, reduceCtorEq, reduceIte, Nat.reduceMul, Nat.reduceAdd, Nat.reduceLT, Nat.reduceLeDiff, Nat.reduceEqDiff, Int.reduceLT, Int.reduceBEq, Int.reduceBNe, Nat.reduceBEq, List.append_nil, Int.toNat_zero, Nat.sub_self, frS]
  exact ⟨_, rfl, _, _, rfl, hp', hq'⟩
def NeedPost (m p q : Nat) (r : SV) : Prop := (∃ n, n ≤ 128 ∧ r = tupL [.i .i64 (n : Nat), .i .i64 0] ∧ ¬ missed n (m + 1) p q ∧ ∀ j, j < n → missed j (m + 1) p q) ∨ (r = tupL [.i .i64 0, .i .i64 5] ∧ ∀ j, j ≤ 128 → missed j (m + 1) p q)
theorem q_pw {q : Nat} (h : q < 1073741824) : (q : Int) < pw 256 := lt_pw (a := 30) (Nat.le_of_lt h) (by decide)
set_option maxRecDepth 100000 in
theorem stNeededC (F : Frm) (m : Nat) (hm : m ≤ 15) (hm1 : 1 ≤ m) {sp sq : SV} {p q : Nat} (hp : Nats sp p) (hq : Nats sq q) (h0 : 0 < p) (h1 : p < q) (h2 : q < 1073741824) :
    Contract F Try.prog 12 [.i .i64 m, frS false sp sq] (NeedPost m p q) := by
  have hp' := hp
  have hq' := hq
  obtain ⟨a1, c1, z1, r1, x1, rfl, _⟩ := hp
  obtain ⟨a2, c2, z2, r2, x2, rfl, _⟩ := hq
  refine contract_of Try.func12 rfl (by kernel_rfl) ?_
  simp only [Try.ntmps12, argEnv, frS]
  (repeat refine Sat.seq ?_)
  (refine Sat.region_k fun k hk => ?_; simp -implicitDefEqProofs only [evr, id, reduceCtorEq, reduceIte, Nat.reduceMul, Nat.reduceAdd, Nat.reduceLT, Nat.reduceLeDiff, Nat.reduceEqDiff, Int.reduceLT, Int.reduceBEq, Int.reduceBNe, Nat.reduceBEq, List.append_nil, Int.toNat_zero, Nat.sub_self, frS])
  intro b3
  (refine hk _ ?_; clear hk k; try show Sat _ _ _ _ _)
  (repeat refine Sat.seq ?_)
  refine Sat.region_at ⟨36, [(19, .b false), (3, .op 0 b3 0), (0, .i .i64 m)], [.box b3 30 [.b false, .sl a1 x1.length c1 z1 r1, .sl a2 x2.length c2 z2 r2]]⟩ (fun k hk => ?_) ?_
  · simp -implicitDefEqProofs only [evr, id, reduceCtorEq, reduceIte, Nat.reduceMul, Nat.reduceAdd, Nat.reduceLT, Nat.reduceLeDiff, Nat.reduceEqDiff, Int.reduceLT, Int.reduceBEq, Int.reduceBNe, Nat.reduceBEq, List.append_nil, Int.toNat_zero, Nat.sub_self, frS]
    refine ⟨fun h => by omega, fun h => ⟨fun h => by omega, fun h => ?_⟩⟩
    refine wcall_plain (stChanceC F hp' hq' h0 h1 (lt_pw (a := 31) (by omega) (by decide))) (by simp -implicitDefEqProofs only [evr, id, reduceCtorEq, reduceIte, Nat.reduceMul, Nat.reduceAdd, Nat.reduceLT, Nat.reduceLeDiff, Nat.reduceEqDiff, Int.reduceLT, Int.reduceBEq, Int.reduceBNe, Nat.reduceBEq, List.append_nil, Int.toNat_zero, Nat.sub_self, frS]; try rfl) (by rintro _ rfl; exact ok_plain rfl) ?_
    rintro y rfl
    simp -implicitDefEqProofs only [evr, id, reduceCtorEq, reduceIte, Nat.reduceMul, Nat.reduceAdd, Nat.reduceLT, Nat.reduceLeDiff, Nat.reduceEqDiff, Int.reduceLT, Int.reduceBEq, Int.reduceBNe, Nat.reduceBEq, List.append_nil, Int.toNat_zero, Nat.sub_self, frS]
    refine hk _ ?_
    simp -implicitDefEqProofs only [evr, id, reduceCtorEq, reduceIte, Nat.reduceMul, Nat.reduceAdd, Nat.reduceLT, Nat.reduceLeDiff, Nat.reduceEqDiff, Int.reduceLT, Int.reduceBEq, Int.reduceBNe, Nat.reduceBEq, List.append_nil, Int.toNat_zero, Nat.sub_self, frS, evl]
    try rfl
  simp only [thenK]
  refine Sat.cond_b rfl (fun h => by cases h) (fun h => ?_)
  refine Sat.skip ?_
  simp only [thenK]
  (repeat refine Sat.seq ?_)
  (refine Sat.region_k fun k hk => ?_; simp -implicitDefEqProofs only [evr, id, reduceCtorEq, reduceIte, Nat.reduceMul, Nat.reduceAdd, Nat.reduceLT, Nat.reduceLeDiff, Nat.reduceEqDiff, Int.reduceLT, Int.reduceBEq, Int.reduceBNe, Nat.reduceBEq, List.append_nil, Int.toNat_zero, Nat.sub_self, frS]; refine hk _ ?_; clear hk k; try show Sat _ _ _ _ _)
  (repeat refine Sat.seq ?_)
  refine Sat.block ?_
  (repeat refine Sat.seq ?_)
  refine Sat.loop (ι := Nat) (fun i => ⟨36, [(20, .i .i64 i), (3, .op 0 b3 0), (0, .i .i64 m)], [.box b3 30 [.b false, .sl a1 x1.length c1 z1 r1, .sl a2 x2.length c2 z2 r2]]⟩)
    (fun i => i ≤ 129 ∧ ∀ j, j < i → missed j (m + 1) p q) (fun i => 129 - i) 0 ⟨by omega, fun j hj => absurd hj (Nat.not_lt_zero _)⟩ (by simp -implicitDefEqProofs only [evr, id, reduceCtorEq, reduceIte, Nat.reduceMul, Nat.reduceAdd, Nat.reduceLT, Nat.reduceLeDiff, Nat.reduceEqDiff, Int.reduceLT, Int.reduceBEq, Int.reduceBNe, Nat.reduceBEq, List.append_nil, Int.toNat_zero, Nat.sub_self, frS, evl]; try rfl) ?_
  rintro i ⟨hi, hmis⟩
  (repeat refine Sat.seq ?_)
  (refine Sat.region_k fun k hk => ?_; simp -implicitDefEqProofs only [evr, id, reduceCtorEq, reduceIte, Nat.reduceMul, Nat.reduceAdd, Nat.reduceLT, Nat.reduceLeDiff, Nat.reduceEqDiff, Int.reduceLT, Int.reduceBEq, Int.reduceBNe, Nat.reduceBEq, List.append_nil, Int.toNat_zero, Nat.sub_self, frS]; refine hk _ ?_; clear hk k; try show Sat _ _ _ _ _)
  (repeat refine Sat.seq ?_)
  refine Sat.cond_b rfl (fun h => ?_) (fun h => ?_)
  · simp only [decide_eq_true_eq] at h
    have hin : i ≤ 128 := by omega
    have em : IntKind.i64.wrap ((m : Int) + 1) = ((m + 1 : Nat) : Int) := by rw [w64 (by omega)]; omega
    have ei1 : IntKind.i64.wrap ((i : Int) + 1) = ((i + 1 : Nat) : Int) := by rw [w64 (by omega)]; omega
    have bP := Nat.le_trans (misP_le i (m + 1)) (kn_le (k := m + 1) (by omega) hin)
    have bQ := Nat.le_trans (misQ_le i (m + 1)) (kn_le (k := m + 1) (by omega) hin)
    refine Sat.skip ?_
    simp only [thenK]
    (repeat refine Sat.seq ?_)
    refine Sat.block ?_
    (repeat refine Sat.seq ?_)
    (refine Sat.region_k fun k hk => ?_; simp -implicitDefEqProofs only [evr, id, reduceCtorEq, reduceIte, Nat.reduceMul, Nat.reduceAdd, Nat.reduceLT, Nat.reduceLeDiff, Nat.reduceEqDiff, Int.reduceLT, Int.reduceBEq, Int.reduceBNe, Nat.reduceBEq, List.append_nil, Int.toNat_zero, Nat.sub_self, frS]; refine hk _ ?_; clear hk k; try show Sat _ _ _ _ _)
    (repeat refine Sat.seq ?_)
    refine Sat.region_k fun k hk => ?_
    simp -implicitDefEqProofs only [evr, id, reduceCtorEq, reduceIte, Nat.reduceMul, Nat.reduceAdd, Nat.reduceLT, Nat.reduceLeDiff, Nat.reduceEqDiff, Int.reduceLT, Int.reduceBEq, Int.reduceBNe, Nat.reduceBEq, List.append_nil, Int.toNat_zero, Nat.sub_self, frS, em]
    refine wcall_slice (stMissingC F i (m + 1) hin (by omega) (by omega)) rfl rfl ?_
    rintro y ⟨f, rfl, sr, ss, rfl, hr, hs⟩
    have hr' := hr
    have hs' := hs
    obtain ⟨a3, c3, z3, r3, x3, rfl, _⟩ := hr
    obtain ⟨a4, c4, z4, r4, x4, rfl, _⟩ := hs
    simp -implicitDefEqProofs only [evr, id, reduceCtorEq, reduceIte, Nat.reduceMul, Nat.reduceAdd, Nat.reduceLT, Nat.reduceLeDiff, Nat.reduceEqDiff, Int.reduceLT, Int.reduceBEq, Int.reduceBNe, Nat.reduceBEq, List.append_nil, Int.toNat_zero, Nat.sub_self, frS]
    intro b7
    refine hk _ ?_
    clear hk k
    try show Sat _ _ _ _ _
    (repeat refine Sat.seq ?_)
    (refine Sat.region_k fun k hk => ?_; simp -implicitDefEqProofs only [evr, id, reduceCtorEq, reduceIte, Nat.reduceMul, Nat.reduceAdd, Nat.reduceLT, Nat.reduceLeDiff, Nat.reduceEqDiff, Int.reduceLT, Int.reduceBEq, Int.reduceBNe, Nat.reduceBEq, List.append_nil, Int.toNat_zero, Nat.sub_self, frS])
    have bq : q ≤ 2 ^ 30 := Nat.le_of_lt h2
    have bp : p ≤ 2 ^ 30 := by omega
    have bpQ := mul_two bp bQ
    have bPq := mul_two bP bq
    refine wcall_plain (stBelowC F false false hp' hq' hr' hs' (q_pw (by omega)) (q_pw h2) (lt_pw bP (by rw [xb_eq]; decide)) (lt_pw bQ (by rw [xb_eq]; decide)) (lt_pw bpQ (by rw [xb_eq]; decide)) (lt_pw bPq (by rw [xb_eq]; decide)) (lt_pw_add bpQ bPq (by rw [xb_eq]; decide))) (by simp -implicitDefEqProofs only [evr, id, reduceCtorEq, reduceIte, Nat.reduceMul, Nat.reduceAdd, Nat.reduceLT, Nat.reduceLeDiff, Nat.reduceEqDiff, Int.reduceLT, Int.reduceBEq, Int.reduceBNe, Nat.reduceBEq, List.append_nil, Int.toNat_zero, Nat.sub_self, frS]; try rfl) (by rintro _ rfl; exact ok_plain rfl) ?_
    rintro y rfl
    rw [cmpV_pos]
    simp -implicitDefEqProofs only [evr, id, reduceCtorEq, reduceIte, Nat.reduceMul, Nat.reduceAdd, Nat.reduceLT, Nat.reduceLeDiff, Nat.reduceEqDiff, Int.reduceLT, Int.reduceBEq, Int.reduceBNe, Nat.reduceBEq, List.append_nil, Int.toNat_zero, Nat.sub_self, frS]
    (refine hk _ ?_; clear hk k; try show Sat _ _ _ _ _)
    have hmi := missed_iff (n := i) (m := m + 1) (p := p) (q := q) (by omega)
    refine Sat.cond_b rfl (fun h5 => ?_) (fun h5 => ?_)
    · have h6 : ¬ missed i (m + 1) p q := by
        intro h7
        have := hmi.1 h7
        rw [cmpI_lt (by omega)] at h5
        revert h5
        decide
      (repeat refine Sat.seq ?_)
      (refine Sat.region_k fun k hk => ?_; simp -implicitDefEqProofs only [evr, id, reduceCtorEq, reduceIte, Nat.reduceMul, Nat.reduceAdd, Nat.reduceLT, Nat.reduceLeDiff, Nat.reduceEqDiff, Int.reduceLT, Int.reduceBEq, Int.reduceBNe, Nat.reduceBEq, List.append_nil, Int.toNat_zero, Nat.sub_self, frS]; refine hk _ ?_; clear hk k; try show Sat _ _ _ _ _)
      refine Sat.ret ?_
      simp only [thenK, blockK, Try.results12, evr, id, reduceCtorEq, reduceIte, Nat.reduceMul, Nat.reduceAdd, Nat.reduceLT, Nat.reduceLeDiff, Nat.reduceEqDiff, Int.reduceLT, Int.reduceBEq, Int.reduceBNe, Nat.reduceBEq, List.append_nil, Int.toNat_zero, Nat.sub_self, frS]
      exact .inl ⟨i, hin, rfl, h6, hmis⟩
    · have h6 : missed i (m + 1) p q := by
        refine hmi.2 ?_
        by_cases h8 : p * misQ i (m + 1) < misP i (m + 1) * q
        · exact h8
        exfalso
        by_cases h9 : misP i (m + 1) * q < p * misQ i (m + 1)
        · rw [cmpI_gt (by omega)] at h5
          revert h5
          decide
        · rw [cmpI_eq (by omega)] at h5
          revert h5
          decide
      refine Sat.skip ?_
      simp only [thenK, blockK]
      (repeat refine Sat.seq ?_)
      refine Sat.region_k fun k hk => ?_
      simp -implicitDefEqProofs only [evr, id, reduceCtorEq, reduceIte, Nat.reduceMul, Nat.reduceAdd, Nat.reduceLT, Nat.reduceLeDiff, Nat.reduceEqDiff, Int.reduceLT, Int.reduceBEq, Int.reduceBNe, Nat.reduceBEq, List.append_nil, Int.toNat_zero, Nat.sub_self, frS, ei1]
      refine hk _ ?_
      simp only [thenK, blockK]
      refine ⟨i + 1, ⟨by show i + 1 ≤ 129; omega, fun j hj => ?_⟩, by show 129 - (i + 1) < 129 - i; omega, ?_⟩
      · rcases (show j < i ∨ j = i by omega) with h7 | rfl
        · exact hmis j h7
        · exact h6
      simp -implicitDefEqProofs only [evr, id, reduceCtorEq, reduceIte, Nat.reduceMul, Nat.reduceAdd, Nat.reduceLT, Nat.reduceLeDiff, Nat.reduceEqDiff, Int.reduceLT, Int.reduceBEq, Int.reduceBNe, Nat.reduceBEq, List.append_nil, Int.toNat_zero, Nat.sub_self, frS, evl]
  · simp only [decide_eq_false_iff_not] at h
    have hi2 : i = 129 := by omega
    refine Sat.exit ?_
    simp only [thenK, blockK, reduceIte]
    (repeat refine Sat.seq ?_)
    (refine Sat.region_k fun k hk => ?_; simp -implicitDefEqProofs only [evr, id, reduceCtorEq, reduceIte, Nat.reduceMul, Nat.reduceAdd, Nat.reduceLT, Nat.reduceLeDiff, Nat.reduceEqDiff, Int.reduceLT, Int.reduceBEq, Int.reduceBNe, Nat.reduceBEq, List.append_nil, Int.toNat_zero, Nat.sub_self, frS]; refine hk _ ?_; clear hk k; try show Sat _ _ _ _ _)
    refine Sat.ret ?_
    simp only [Try.results12, evr, id, reduceCtorEq, reduceIte, Nat.reduceMul, Nat.reduceAdd, Nat.reduceLT, Nat.reduceLeDiff, Nat.reduceEqDiff, Int.reduceLT, Int.reduceBEq, Int.reduceBNe, Nat.reduceBEq, List.append_nil, Int.toNat_zero, Nat.sub_self, frS]
    exact .inr ⟨rfl, fun j hj => hmis j (by omega)⟩
end Go.Proofs.Ytagmohpafjncfaa

/- Reference 02, Pow and Choose; reference 23, power, onto, Onto, Missing, between: by the evaluator. -/
set_option linter.unusedSimpArgs false
set_option linter.unusedVariables false
namespace Go.Proofs.Ytagmohpafjncfaa
open Eng Lmb Go.RowKit
theorem natLen {a : Option Addr} {len cap sz n : Nat} {rd : Nat → Nat → SV} (h : Nats (.sl a len cap sz rd) n) (hb : (n : Int) < pw 256) : len ≤ 256 := by
  obtain ⟨xs, ⟨a', c', z', r', e, _, _⟩, hd⟩ := h.ints
  simp only [SV.sl.injEq] at e
  obtain ⟨_, rfl, _⟩ := e
  exact (hd.len_le 256).2 hb
theorem cmpI_zero {x y : Int} : (cmpI x y == 0) = decide (x = y) := by
  by_cases h : x < y
  · rw [cmpI_lt h, decide_eq_false (by omega)]; rfl
  · by_cases h2 : y < x
    · rw [cmpI_gt h2, decide_eq_false (by omega)]; rfl
    · rw [cmpI_eq (by omega), decide_eq_true (by omega)]; rfl
set_option maxRecDepth 100000 in
theorem refPowC (F : Frm) {sa : SV} {a k : Nat} (ha : Nats sa a) (ha2 : (a : Int) < pw 256) (hk : k ≤ 65536) (b : ∀ i, i ≤ k → ((a ^ i : Nat) : Int) < pw 256) : Contract F Try.prog 68 [sa, .i .i64 k] (natRes (a ^ k)) := by
  have ha' := ha
  obtain ⟨a1, c1, z1, r1, x1, rfl, _⟩ := ha
  have h256 : pw 256 ≤ pw 512 := pw_mono (by omega)
  refine contract_of Try.func68 rfl (by kernel_rfl) ?_
  simp only [Try.ntmps68, argEnv]
  (repeat refine Sat.seq ?_)
  (refine Sat.region_k fun k hk => ?_; simp -implicitDefEqProofs only [evr, id, reduceCtorEq, reduceIte, Nat.reduceMul, Nat.reduceAdd, Nat.reduceLT, Nat.reduceLeDiff, Nat.reduceEqDiff, Int.reduceLT, Int.reduceBEq, Int.reduceBNe, Nat.reduceBEq, List.append_nil, Int.toNat_zero, Nat.sub_self, frS]; refine hk _ ?_; clear hk k; try show Sat _ _ _ _ _)
  (repeat refine Sat.seq ?_)
  refine Sat.region_at ⟨41, [(13, .b false), (0, .sl a1 x1.length c1 z1 r1), (1, .i .i64 k)], []⟩ (fun k' hk' => ?_) ?_
  · simp -implicitDefEqProofs only [evr, id, reduceCtorEq, reduceIte, Nat.reduceMul, Nat.reduceAdd, Nat.reduceLT, Nat.reduceLeDiff, Nat.reduceEqDiff, Int.reduceLT, Int.reduceBEq, Int.reduceBNe, Nat.reduceBEq, List.append_nil, Int.toNat_zero, Nat.sub_self, frS]
    refine ⟨fun h => by omega, fun h => hk' _ ?_⟩
    have e : decide (65536 < (k : Int)) = false := by simp; omega
    simp only [e]
    simp -implicitDefEqProofs only [evr, id, reduceCtorEq, reduceIte, Nat.reduceMul, Nat.reduceAdd, Nat.reduceLT, Nat.reduceLeDiff, Nat.reduceEqDiff, Int.reduceLT, Int.reduceBEq, Int.reduceBNe, Nat.reduceBEq, List.append_nil, Int.toNat_zero, Nat.sub_self, frS, evl]
  simp only [thenK]
  refine Sat.cond_b rfl (fun h => by cases h) (fun _ => ?_)
  refine Sat.skip ?_
  simp only [thenK]
  (repeat refine Sat.seq ?_)
  refine Sat.region_at ⟨41, [(26, .b (decide (0 < k) && (decide (a = 0) || decide (a = 1)))), (0, .sl a1 x1.length c1 z1 r1), (1, .i .i64 k)], []⟩ (fun k' hk' => ?_) ?_
  · simp -implicitDefEqProofs only [evr, id, reduceCtorEq, reduceIte, Nat.reduceMul, Nat.reduceAdd, Nat.reduceLT, Nat.reduceLeDiff, Nat.reduceEqDiff, Int.reduceLT, Int.reduceBEq, Int.reduceBNe, Nat.reduceBEq, List.append_nil, Int.toNat_zero, Nat.sub_self, frS]
    refine ⟨fun h => ?_, fun h => ?_⟩
    · have h1 : decide (0 < k) = true := by rw [decide_eq_true_eq]; omega
      refine ⟨fun h2 => ?_, fun h2 => ?_⟩
      · rw [ha'.len0] at h2
        refine hk' _ ?_
        simp only [h1, h2, Bool.true_and, Bool.true_or]
        simp -implicitDefEqProofs only [evr, id, reduceCtorEq, reduceIte, Nat.reduceMul, Nat.reduceAdd, Nat.reduceLT, Nat.reduceLeDiff, Nat.reduceEqDiff, Int.reduceLT, Int.reduceBEq, Int.reduceBNe, Nat.reduceBEq, List.append_nil, Int.toNat_zero, Nat.sub_self, frS, evl]
        try simp [ha'.len0, h2]
      · rw [ha'.len0] at h2
        intro az
        refine wcall_plain (refCompareC F ha' (nats_one (a := some ⟨az, 0, none⟩) (cap := 1) (x := 1) (by omega) (by omega)) (by omega)) (by simp -implicitDefEqProofs only [evr, id, reduceCtorEq, reduceIte, Nat.reduceMul, Nat.reduceAdd, Nat.reduceLT, Nat.reduceLeDiff, Nat.reduceEqDiff, Int.reduceLT, Int.reduceBEq, Int.reduceBNe, Nat.reduceBEq, List.append_nil, Int.toNat_zero, Nat.sub_self, frS]; try rfl) (by rintro _ rfl; exact ok_plain rfl) ?_
        rintro r rfl
        simp -implicitDefEqProofs only [evr, id, reduceCtorEq, reduceIte, Nat.reduceMul, Nat.reduceAdd, Nat.reduceLT, Nat.reduceLeDiff, Nat.reduceEqDiff, Int.reduceLT, Int.reduceBEq, Int.reduceBNe, Nat.reduceBEq, List.append_nil, Int.toNat_zero, Nat.sub_self, frS, cmpI_zero]
        refine hk' _ ?_
        have e3 : decide ((a : Int) = ((1 : Nat) : Int)) = decide (a = 1) := by
          by_cases h9 : a = 1
          · subst h9; rw [decide_eq_true rfl, decide_eq_true rfl]
          · rw [decide_eq_false h9, decide_eq_false (by omega)]
        simp only [h1, h2, e3, Bool.true_and, Bool.false_or]
        simp -implicitDefEqProofs only [evr, id, reduceCtorEq, reduceIte, Nat.reduceMul, Nat.reduceAdd, Nat.reduceLT, Nat.reduceLeDiff, Nat.reduceEqDiff, Int.reduceLT, Int.reduceBEq, Int.reduceBNe, Nat.reduceBEq, List.append_nil, Int.toNat_zero, Nat.sub_self, frS, evl]
        try simp [ha'.len0, h2]
    · have h1 : decide (0 < k) = false := by rw [decide_eq_false_iff_not]; omega
      refine hk' _ ?_
      simp only [h1, Bool.false_and]
      simp -implicitDefEqProofs only [evr, id, reduceCtorEq, reduceIte, Nat.reduceMul, Nat.reduceAdd, Nat.reduceLT, Nat.reduceLeDiff, Nat.reduceEqDiff, Int.reduceLT, Int.reduceBEq, Int.reduceBNe, Nat.reduceBEq, List.append_nil, Int.toNat_zero, Nat.sub_self, frS, evl]
      try simp [h]
  simp only [thenK]
  refine Sat.cond_b rfl (fun h => ?_) (fun h => ?_)
  · have e : a ^ k = a := by
      simp only [Bool.and_eq_true, Bool.or_eq_true, decide_eq_true_eq] at h
      obtain ⟨h1, rfl | rfl⟩ := h
      · exact Nat.zero_pow h1
      · exact Nat.one_pow k
    (repeat refine Sat.seq ?_)
    (refine Sat.region_k fun k hk => ?_; simp -implicitDefEqProofs only [evr, id, reduceCtorEq, reduceIte, Nat.reduceMul, Nat.reduceAdd, Nat.reduceLT, Nat.reduceLeDiff, Nat.reduceEqDiff, Int.reduceLT, Int.reduceBEq, Int.reduceBNe, Nat.reduceBEq, List.append_nil, Int.toNat_zero, Nat.sub_self, frS]; refine hk _ ?_; clear hk k; try show Sat _ _ _ _ _)
    refine Sat.ret ?_
    simp only [Try.results68, evr, id, reduceCtorEq, reduceIte, Nat.reduceMul, Nat.reduceAdd, Nat.reduceLT, Nat.reduceLeDiff, Nat.reduceEqDiff, Int.reduceLT, Int.reduceBEq, Int.reduceBNe, Nat.reduceBEq, List.append_nil, Int.toNat_zero, Nat.sub_self, frS]
    exact ⟨_, rfl, by rw [e]; exact ha'⟩
  refine Sat.skip ?_
  simp only [thenK]
  (repeat refine Sat.seq ?_)
  (refine Sat.region_k fun k hk => ?_; simp -implicitDefEqProofs only [evr, id, reduceCtorEq, reduceIte, Nat.reduceMul, Nat.reduceAdd, Nat.reduceLT, Nat.reduceLeDiff, Nat.reduceEqDiff, Int.reduceLT, Int.reduceBEq, Int.reduceBNe, Nat.reduceBEq, List.append_nil, Int.toNat_zero, Nat.sub_self, frS])
  intro az
  (refine hk _ ?_; clear hk k; try show Sat _ _ _ _ _)
  refine Sat.settle2 6 rfl rfl ?_
  simp -implicitDefEqProofs only [evr, id, reduceCtorEq, reduceIte, Nat.reduceMul, Nat.reduceAdd, Nat.reduceLT, Nat.reduceLeDiff, Nat.reduceEqDiff, Int.reduceLT, Int.reduceBEq, Int.reduceBNe, Nat.reduceBEq, List.append_nil, Int.toNat_zero, Nat.sub_self, frS]
  (repeat refine Sat.seq ?_)
  (refine Sat.region_k fun k hk => ?_; simp -implicitDefEqProofs only [evr, id, reduceCtorEq, reduceIte, Nat.reduceMul, Nat.reduceAdd, Nat.reduceLT, Nat.reduceLeDiff, Nat.reduceEqDiff, Int.reduceLT, Int.reduceBEq, Int.reduceBNe, Nat.reduceBEq, List.append_nil, Int.toNat_zero, Nat.sub_self, frS]; refine hk _ ?_; clear hk k; try show Sat _ _ _ _ _)
  (repeat refine Sat.seq ?_)
  refine Sat.block ?_
  refine Sat.loop (ι := Nat × SV) (fun x => ⟨41, [(7, .i .i64 x.1), (6, x.2), (0, .sl a1 x1.length c1 z1 r1), (1, .i .i64 k)], []⟩)
    (fun x => x.1 ≤ k ∧ Nats x.2 (a ^ x.1)) (fun x => k - x.1) (0, .sl (some ⟨az, 0, none⟩) 1 1 1 (rdL [SV.i .i64 1] 1)) ⟨Nat.zero_le _, nats_one (x := 1) (by omega) (by omega)⟩ (by simp -implicitDefEqProofs only [evr, id, reduceCtorEq, reduceIte, Nat.reduceMul, Nat.reduceAdd, Nat.reduceLT, Nat.reduceLeDiff, Nat.reduceEqDiff, Int.reduceLT, Int.reduceBEq, Int.reduceBNe, Nat.reduceBEq, List.append_nil, Int.toNat_zero, Nat.sub_self, frS, evl]; try rfl) ?_
  rintro ⟨i, so⟩ ⟨hi, hso⟩
  simp only at hi hso ⊢
  have hso' := hso
  obtain ⟨a3, c3, z3, r3, x3, rfl, _⟩ := hso
  (repeat refine Sat.seq ?_)
  (refine Sat.region_k fun k hk => ?_; simp -implicitDefEqProofs only [evr, id, reduceCtorEq, reduceIte, Nat.reduceMul, Nat.reduceAdd, Nat.reduceLT, Nat.reduceLeDiff, Nat.reduceEqDiff, Int.reduceLT, Int.reduceBEq, Int.reduceBNe, Nat.reduceBEq, List.append_nil, Int.toNat_zero, Nat.sub_self, frS]; refine hk _ ?_; clear hk k; try show Sat _ _ _ _ _)
  (repeat refine Sat.seq ?_)
  refine Sat.cond_b rfl (fun h => ?_) (fun h => ?_)
  · simp only [decide_eq_true_eq] at h
    have hik : i < k := by omega
    have ei1 : IntKind.i64.wrap ((i : Int) + 1) = ((i + 1 : Nat) : Int) := by rw [w64 (by omega)]; omega
    have bi := b i (by omega)
    have bj := b (i + 1) (by omega)
    refine Sat.skip ?_
    simp only [thenK]
    (repeat refine Sat.seq ?_)
    refine Sat.block ?_
    (repeat refine Sat.seq ?_)
    (refine Sat.region_k fun k hk => ?_; simp -implicitDefEqProofs only [evr, id, reduceCtorEq, reduceIte, Nat.reduceMul, Nat.reduceAdd, Nat.reduceLT, Nat.reduceLeDiff, Nat.reduceEqDiff, Int.reduceLT, Int.reduceBEq, Int.reduceBNe, Nat.reduceBEq, List.append_nil, Int.toNat_zero, Nat.sub_self, frS])
    refine wcall_slice (refTimesC F hso' ha' (by omega) (by omega)) rfl rfl ?_
    intro y hy
    rw [← Nat.pow_succ] at hy
    have hs5 := hy
    obtain ⟨a5, c5, z5, r5, x5, rfl, _⟩ := hy
    have hlen := natLen hs5 bj
    have elen : decide (256 < (x5.length : Int)) = false := by rw [decide_eq_false_iff_not]; omega
    simp -implicitDefEqProofs only [evr, id, reduceCtorEq, reduceIte, Nat.reduceMul, Nat.reduceAdd, Nat.reduceLT, Nat.reduceLeDiff, Nat.reduceEqDiff, Int.reduceLT, Int.reduceBEq, Int.reduceBNe, Nat.reduceBEq, List.append_nil, Int.toNat_zero, Nat.sub_self, frS]
    (refine hk _ ?_; clear hk k; try show Sat _ _ _ _ _)
    (repeat refine Sat.seq ?_)
    refine Sat.region_k fun k' hk' => ?_
    simp -implicitDefEqProofs only [evr, id, reduceCtorEq, reduceIte, Nat.reduceMul, Nat.reduceAdd, Nat.reduceLT, Nat.reduceLeDiff, Nat.reduceEqDiff, Int.reduceLT, Int.reduceBEq, Int.reduceBNe, Nat.reduceBEq, List.append_nil, Int.toNat_zero, Nat.sub_self, frS, elen]
    refine hk' _ ?_
    clear hk' k'
    try show Sat _ _ _ _ _
    refine Sat.cond_b rfl (fun h => by cases h) (fun _ => ?_)
    refine Sat.skip ?_
    simp only [thenK, blockK]
    (repeat refine Sat.seq ?_)
    refine Sat.region_k fun k' hk' => ?_
    simp -implicitDefEqProofs only [evr, id, reduceCtorEq, reduceIte, Nat.reduceMul, Nat.reduceAdd, Nat.reduceLT, Nat.reduceLeDiff, Nat.reduceEqDiff, Int.reduceLT, Int.reduceBEq, Int.reduceBNe, Nat.reduceBEq, List.append_nil, Int.toNat_zero, Nat.sub_self, frS, ei1]
    refine hk' _ ?_
    simp only [thenK, blockK]
    refine ⟨(i + 1, _), ⟨by show i + 1 ≤ k; omega, hs5⟩, by show k - (i + 1) < k - i; omega, ?_⟩
    simp -implicitDefEqProofs only [evr, id, reduceCtorEq, reduceIte, Nat.reduceMul, Nat.reduceAdd, Nat.reduceLT, Nat.reduceLeDiff, Nat.reduceEqDiff, Int.reduceLT, Int.reduceBEq, Int.reduceBNe, Nat.reduceBEq, List.append_nil, Int.toNat_zero, Nat.sub_self, frS, evl]
  · simp only [decide_eq_false_iff_not] at h
    obtain rfl : i = k := by omega
    refine Sat.exit ?_
    simp only [thenK, blockK, reduceIte]
    (repeat refine Sat.seq ?_)
    (refine Sat.region_k fun k hk => ?_; simp -implicitDefEqProofs only [evr, id, reduceCtorEq, reduceIte, Nat.reduceMul, Nat.reduceAdd, Nat.reduceLT, Nat.reduceLeDiff, Nat.reduceEqDiff, Int.reduceLT, Int.reduceBEq, Int.reduceBNe, Nat.reduceBEq, List.append_nil, Int.toNat_zero, Nat.sub_self, frS]; refine hk _ ?_; clear hk k; try show Sat _ _ _ _ _)
    refine Sat.ret ?_
    simp only [Try.results68, evr, id, reduceCtorEq, reduceIte, Nat.reduceMul, Nat.reduceAdd, Nat.reduceLT, Nat.reduceLeDiff, Nat.reduceEqDiff, Int.reduceLT, Int.reduceBEq, Int.reduceBNe, Nat.reduceBEq, List.append_nil, Int.toNat_zero, Nat.sub_self, frS]
    exact ⟨_, rfl, hso'⟩
theorem nats_lit {a : Option Addr} {cap : Nat} {z : Int} {x : Nat} (e : z = x) (h1 : x < 1073741824) (h0 : 0 < x) : Nats (.sl a 1 cap 1 (rdL [SV.i .i64 z] 1)) x := by subst e; exact nats_one h0 h1
set_option maxRecDepth 100000 in
theorem refChooseC (F : Frm) (n k : Nat) (hn : n ≤ 100) (hk : k ≤ 100) : Contract F Try.prog 67 [.i .i64 n, .i .i64 k] (natRes (binom n k)) := by
  have h256 : pw 256 ≤ pw 512 := pw_mono (by omega)
  refine contract_of Try.func67 rfl (by kernel_rfl) ?_
  simp only [Try.ntmps67, argEnv]
  (repeat refine Sat.seq ?_)
  (refine Sat.region_k fun k hk => ?_; simp -implicitDefEqProofs only [evr, id, reduceCtorEq, reduceIte, Nat.reduceMul, Nat.reduceAdd, Nat.reduceLT, Nat.reduceLeDiff, Nat.reduceEqDiff, Int.reduceLT, Int.reduceBEq, Int.reduceBNe, Nat.reduceBEq, List.append_nil, Int.toNat_zero, Nat.sub_self, frS]; refine hk _ ?_; clear hk k; try show Sat _ _ _ _ _)
  (repeat refine Sat.seq ?_)
  refine Sat.region_at ⟨45, [(21, .b false), (0, .i .i64 n), (1, .i .i64 k)], []⟩ (fun k' hk' => ?_) ?_
  · simp -implicitDefEqProofs only [evr, id, reduceCtorEq, reduceIte, Nat.reduceMul, Nat.reduceAdd, Nat.reduceLT, Nat.reduceLeDiff, Nat.reduceEqDiff, Int.reduceLT, Int.reduceBEq, Int.reduceBNe, Nat.reduceBEq, List.append_nil, Int.toNat_zero, Nat.sub_self, frS]
    refine ⟨fun h => by omega, fun h => ⟨fun h => by omega, fun h => ⟨fun h => by omega, fun h => hk' _ ?_⟩⟩⟩
    have e : decide (1024 < (k : Int)) = false := by simp; omega
    simp only [e]
    simp -implicitDefEqProofs only [evr, id, reduceCtorEq, reduceIte, Nat.reduceMul, Nat.reduceAdd, Nat.reduceLT, Nat.reduceLeDiff, Nat.reduceEqDiff, Int.reduceLT, Int.reduceBEq, Int.reduceBNe, Nat.reduceBEq, List.append_nil, Int.toNat_zero, Nat.sub_self, frS, evl]
  simp only [thenK]
  refine Sat.cond_b rfl (fun h => by cases h) (fun _ => ?_)
  refine Sat.skip ?_
  simp only [thenK]
  (repeat refine Sat.seq ?_)
  (refine Sat.region_k fun k hk => ?_; simp -implicitDefEqProofs only [evr, id, reduceCtorEq, reduceIte, Nat.reduceMul, Nat.reduceAdd, Nat.reduceLT, Nat.reduceLeDiff, Nat.reduceEqDiff, Int.reduceLT, Int.reduceBEq, Int.reduceBNe, Nat.reduceBEq, List.append_nil, Int.toNat_zero, Nat.sub_self, frS]; refine hk _ ?_; clear hk k; try show Sat _ _ _ _ _)
  (repeat refine Sat.seq ?_)
  refine Sat.cond_b rfl (fun h => ?_) (fun h => ?_)
  · have e : binom n k = 0 := binom_gt n k (by simp only [decide_eq_true_eq] at h; omega)
    (repeat refine Sat.seq ?_)
    (refine Sat.region_k fun k hk => ?_; simp -implicitDefEqProofs only [evr, id, reduceCtorEq, reduceIte, Nat.reduceMul, Nat.reduceAdd, Nat.reduceLT, Nat.reduceLeDiff, Nat.reduceEqDiff, Int.reduceLT, Int.reduceBEq, Int.reduceBNe, Nat.reduceBEq, List.append_nil, Int.toNat_zero, Nat.sub_self, frS]; refine hk _ ?_; clear hk k; try show Sat _ _ _ _ _)
    refine Sat.ret ?_
    simp only [Try.results67, evr, id, reduceCtorEq, reduceIte, Nat.reduceMul, Nat.reduceAdd, Nat.reduceLT, Nat.reduceLeDiff, Nat.reduceEqDiff, Int.reduceLT, Int.reduceBEq, Int.reduceBNe, Nat.reduceBEq, List.append_nil, Int.toNat_zero, Nat.sub_self, frS]
    exact ⟨_, rfl, by rw [e]; exact Nats.nil⟩
  have hkn : k ≤ n := by simp only [decide_eq_false_iff_not] at h; omega
  refine Sat.skip ?_
  simp only [thenK]
  (repeat refine Sat.seq ?_)
  (refine Sat.region_k fun k hk => ?_; simp -implicitDefEqProofs only [evr, id, reduceCtorEq, reduceIte, Nat.reduceMul, Nat.reduceAdd, Nat.reduceLT, Nat.reduceLeDiff, Nat.reduceEqDiff, Int.reduceLT, Int.reduceBEq, Int.reduceBNe, Nat.reduceBEq, List.append_nil, Int.toNat_zero, Nat.sub_self, frS])
  intro az
  (refine hk _ ?_; clear hk k; try show Sat _ _ _ _ _)
  refine Sat.settle2 6 rfl rfl ?_
  simp -implicitDefEqProofs only [evr, id, reduceCtorEq, reduceIte, Nat.reduceMul, Nat.reduceAdd, Nat.reduceLT, Nat.reduceLeDiff, Nat.reduceEqDiff, Int.reduceLT, Int.reduceBEq, Int.reduceBNe, Nat.reduceBEq, List.append_nil, Int.toNat_zero, Nat.sub_self, frS]
  (repeat refine Sat.seq ?_)
  (refine Sat.region_k fun k hk => ?_; simp -implicitDefEqProofs only [evr, id, reduceCtorEq, reduceIte, Nat.reduceMul, Nat.reduceAdd, Nat.reduceLT, Nat.reduceLeDiff, Nat.reduceEqDiff, Int.reduceLT, Int.reduceBEq, Int.reduceBNe, Nat.reduceBEq, List.append_nil, Int.toNat_zero, Nat.sub_self, frS]; refine hk _ ?_; clear hk k; try show Sat _ _ _ _ _)
  (repeat refine Sat.seq ?_)
  refine Sat.block ?_
  refine Sat.loop (ι := Nat × SV) (fun x => ⟨45, [(7, .i .i64 x.1), (6, x.2), (0, .i .i64 n), (1, .i .i64 k)], []⟩)
    (fun x => x.1 ≤ k ∧ Nats x.2 (binom n x.1)) (fun x => k - x.1) (0, .sl (some ⟨az, 0, none⟩) 1 1 1 (rdL [SV.i .i64 1] 1)) ⟨Nat.zero_le _, by rw [show binom n 0 = 1 by cases n <;> rfl]; exact nats_one (x := 1) (by omega) (by omega)⟩ (by simp -implicitDefEqProofs only [evr, id, reduceCtorEq, reduceIte, Nat.reduceMul, Nat.reduceAdd, Nat.reduceLT, Nat.reduceLeDiff, Nat.reduceEqDiff, Int.reduceLT, Int.reduceBEq, Int.reduceBNe, Nat.reduceBEq, List.append_nil, Int.toNat_zero, Nat.sub_self, frS, evl]; try rfl) ?_
  rintro ⟨i, so⟩ ⟨hi, hso⟩
  simp only at hi hso ⊢
  have hso' := hso
  obtain ⟨a3, c3, z3, r3, x3, rfl, _⟩ := hso
  (repeat refine Sat.seq ?_)
  (refine Sat.region_k fun k hk => ?_; simp -implicitDefEqProofs only [evr, id, reduceCtorEq, reduceIte, Nat.reduceMul, Nat.reduceAdd, Nat.reduceLT, Nat.reduceLeDiff, Nat.reduceEqDiff, Int.reduceLT, Int.reduceBEq, Int.reduceBNe, Nat.reduceBEq, List.append_nil, Int.toNat_zero, Nat.sub_self, frS]; refine hk _ ?_; clear hk k; try show Sat _ _ _ _ _)
  (repeat refine Sat.seq ?_)
  refine Sat.cond_b rfl (fun h => ?_) (fun h => ?_)
  · simp only [decide_eq_true_eq] at h
    have hik : i < k := by omega
    have ei1 : IntKind.i64.wrap ((i : Int) + 1) = ((i + 1 : Nat) : Int) := by rw [w64 (by omega)]; omega
    have ei : IntKind.i64.wrap ((n : Int) - (i : Int)) = ((n - i : Nat) : Int) := by rw [w64 (by omega)]; omega
    have b1 := Zn.binom_pw (n := n) (by omega) i
    have b2 := Zn.binom_mul_pw (n := n) (by omega) i (n - i) (by omega)
    refine Sat.skip ?_
    simp only [thenK]
    (repeat refine Sat.seq ?_)
    refine Sat.block ?_
    refine Sat.region_k fun k' hk' => ?_
    simp -implicitDefEqProofs only [evr, id, reduceCtorEq, reduceIte, Nat.reduceMul, Nat.reduceAdd, Nat.reduceLT, Nat.reduceLeDiff, Nat.reduceEqDiff, Int.reduceLT, Int.reduceBEq, Int.reduceBNe, Nat.reduceBEq, List.append_nil, Int.toNat_zero, Nat.sub_self, frS, ei, ei1]
    intro bz
    refine wcall_slice (refTimesC F hso' (nats_lit (a := some ⟨bz, 0, none⟩) (cap := 1) rfl (show n - i < 1073741824 by omega) (by omega)) (by omega) (lt_pw (a := 10) (by omega) (by decide))) rfl (by simp -implicitDefEqProofs only [evr, id, reduceCtorEq, reduceIte, Nat.reduceMul, Nat.reduceAdd, Nat.reduceLT, Nat.reduceLeDiff, Nat.reduceEqDiff, Int.reduceLT, Int.reduceBEq, Int.reduceBNe, Nat.reduceBEq, List.append_nil, Int.toNat_zero, Nat.sub_self, frS]; try rfl) ?_
    intro y hy
    have hs5 := hy
    obtain ⟨a5, c5, z5, r5, x5, rfl, _⟩ := hy
    simp -implicitDefEqProofs only [evr, id, reduceCtorEq, reduceIte, Nat.reduceMul, Nat.reduceAdd, Nat.reduceLT, Nat.reduceLeDiff, Nat.reduceEqDiff, Int.reduceLT, Int.reduceBEq, Int.reduceBNe, Nat.reduceBEq, List.append_nil, Int.toNat_zero, Nat.sub_self, frS]
    intro dz
    refine wcall_slice (refSplitC F hs5 (nats_lit (a := some ⟨dz, 0, none⟩) (cap := 1) rfl (show i + 1 < 1073741824 by omega) (by omega)) b2 (lt_pw (a := 10) (by omega) (by decide)) (by omega)) rfl (by simp -implicitDefEqProofs only [evr, id, reduceCtorEq, reduceIte, Nat.reduceMul, Nat.reduceAdd, Nat.reduceLT, Nat.reduceLeDiff, Nat.reduceEqDiff, Int.reduceLT, Int.reduceBEq, Int.reduceBNe, Nat.reduceBEq, List.append_nil, Int.toNat_zero, Nat.sub_self, frS, ei1]) ?_
    rintro r ⟨s, t, rfl, hs, ht⟩
    rw [Zn.binom_div] at hs
    have hs6 := hs
    obtain ⟨a6, c6, z6, r6, x6, rfl, _⟩ := hs
    obtain ⟨a7, c7, z7, r7, x7, rfl, _⟩ := ht
    simp -implicitDefEqProofs only [evr, id, reduceCtorEq, reduceIte, Nat.reduceMul, Nat.reduceAdd, Nat.reduceLT, Nat.reduceLeDiff, Nat.reduceEqDiff, Int.reduceLT, Int.reduceBEq, Int.reduceBNe, Nat.reduceBEq, List.append_nil, Int.toNat_zero, Nat.sub_self, frS]
    refine hk' _ ?_
    clear hk' k'
    simp only [thenK, blockK]
    (repeat refine Sat.seq ?_)
    refine Sat.region_k fun k' hk' => ?_
    simp -implicitDefEqProofs only [evr, id, reduceCtorEq, reduceIte, Nat.reduceMul, Nat.reduceAdd, Nat.reduceLT, Nat.reduceLeDiff, Nat.reduceEqDiff, Int.reduceLT, Int.reduceBEq, Int.reduceBNe, Nat.reduceBEq, List.append_nil, Int.toNat_zero, Nat.sub_self, frS, ei1]
    refine hk' _ ?_
    simp only [thenK, blockK]
    refine ⟨(i + 1, _), ⟨by show i + 1 ≤ k; omega, hs6⟩, by show k - (i + 1) < k - i; omega, ?_⟩
    simp -implicitDefEqProofs only [evr, id, reduceCtorEq, reduceIte, Nat.reduceMul, Nat.reduceAdd, Nat.reduceLT, Nat.reduceLeDiff, Nat.reduceEqDiff, Int.reduceLT, Int.reduceBEq, Int.reduceBNe, Nat.reduceBEq, List.append_nil, Int.toNat_zero, Nat.sub_self, frS, evl]
  · simp only [decide_eq_false_iff_not] at h
    obtain rfl : i = k := by omega
    refine Sat.exit ?_
    simp only [thenK, blockK, reduceIte]
    (repeat refine Sat.seq ?_)
    (refine Sat.region_k fun k hk => ?_; simp -implicitDefEqProofs only [evr, id, reduceCtorEq, reduceIte, Nat.reduceMul, Nat.reduceAdd, Nat.reduceLT, Nat.reduceLeDiff, Nat.reduceEqDiff, Int.reduceLT, Int.reduceBEq, Int.reduceBNe, Nat.reduceBEq, List.append_nil, Int.toNat_zero, Nat.sub_self, frS]; refine hk _ ?_; clear hk k; try show Sat _ _ _ _ _)
    refine Sat.ret ?_
    simp only [Try.results67, evr, id, reduceCtorEq, reduceIte, Nat.reduceMul, Nat.reduceAdd, Nat.reduceLT, Nat.reduceLeDiff, Nat.reduceEqDiff, Int.reduceLT, Int.reduceBEq, Int.reduceBNe, Nat.reduceBEq, List.append_nil, Int.toNat_zero, Nat.sub_self, frS]
    exact ⟨_, rfl, hso'⟩
end Go.Proofs.Ytagmohpafjncfaa

/- The reference of package natural, by the evaluator: Word. -/
set_option linter.unusedSimpArgs false
set_option linter.unusedVariables false
namespace Go.Proofs.Ytagmohpafjncfaa
open Eng Lmb Go.RowKit
set_option maxRecDepth 100000 in
theorem refWordC (F : Frm) (n : Nat) (hn : n < 18446744073709551616) : Contract F Try.prog 52 [.i .u64 n] (fun r => Nats r n) := by
  refine contract_of Try.func52 rfl (by kernel_rfl) ?_
  simp only [Try.ntmps52, argEnv]
  (repeat refine Sat.seq ?_)
  (refine Sat.region_k fun k hk => ?_; simp -implicitDefEqProofs only [evr, id, reduceCtorEq, reduceIte, Nat.reduceMul, Nat.reduceAdd, Nat.reduceLT, Nat.reduceLeDiff, Nat.reduceEqDiff, Int.reduceLT, Int.reduceBEq, Int.reduceBNe, Nat.reduceBEq, List.append_nil, Int.toNat_zero, Nat.sub_self]; refine hk _ ?_; clear hk k; try show Sat _ _ _ _ _)
  (repeat refine Sat.seq ?_)
  (refine Sat.region_k fun k hk => ?_; simp -implicitDefEqProofs only [evr, id, reduceCtorEq, reduceIte, Nat.reduceMul, Nat.reduceAdd, Nat.reduceLT, Nat.reduceLeDiff, Nat.reduceEqDiff, Int.reduceLT, Int.reduceBEq, Int.reduceBNe, Nat.reduceBEq, List.append_nil, Int.toNat_zero, Nat.sub_self]; refine hk _ ?_; clear hk k; try show Sat _ _ _ _ _)
  (repeat refine Sat.seq ?_)
  refine Sat.block ?_
  refine Sat.adopt 3 3 1 (fun p _ => .i .i64 (limbN n p)) rfl ?_
  refine Sat.loop (ι := Nat × Option Addr × Nat) (fun x => ⟨15, [(0, .i .u64 (n / 1073741824 ^ x.1 : Nat)), (3, .os 0 x.2.1 x.1 x.2.2)], [.row x.2.1 3 x.1 x.2.2 1 (fun p _ => .i .i64 (limbN n p))]⟩)
    (fun x => x.1 ≤ 3 ∧ (x.1 = 0 ∨ 0 < n / 1073741824 ^ (x.1 - 1))) (fun x => 3 - x.1) (0, none, 0) ⟨by omega, .inl rfl⟩ (by simp only [Nat.pow_zero, Nat.div_one]; simp -implicitDefEqProofs only [evr, id, reduceCtorEq, reduceIte, Nat.reduceMul, Nat.reduceAdd, Nat.reduceLT, Nat.reduceLeDiff, Nat.reduceEqDiff, Int.reduceLT, Int.reduceBEq, Int.reduceBNe, Nat.reduceBEq, List.append_nil, Int.toNat_zero, Nat.sub_self, evl]) ?_
  rintro ⟨i, a, c⟩ ⟨hi, hpos⟩
  simp only at hi hpos ⊢
  (repeat refine Sat.seq ?_)
  (refine Sat.region_k fun k hk => ?_; simp -implicitDefEqProofs only [evr, id, reduceCtorEq, reduceIte, Nat.reduceMul, Nat.reduceAdd, Nat.reduceLT, Nat.reduceLeDiff, Nat.reduceEqDiff, Int.reduceLT, Int.reduceBEq, Int.reduceBNe, Nat.reduceBEq, List.append_nil, Int.toNat_zero, Nat.sub_self]; refine hk _ ?_; clear hk k; try show Sat _ _ _ _ _)
  (repeat refine Sat.seq ?_)
  refine Sat.cond_b rfl (fun h => ?_) (fun h => ?_)
  · simp only [decide_eq_true_eq] at h
    have hi3 : i < 3 := by
      rcases (show i < 3 ∨ i = 3 by omega) with h3 | h3
      · exact h3
      · subst h3
        have : n / 1073741824 ^ 3 = 0 := Nat.div_eq_of_lt (Nat.lt_trans hn (by decide))
        omega
    have ew : (n / 1073741824 ^ i : Nat) < 18446744073709551616 := Nat.lt_of_le_of_lt (Nat.div_le_self _ _) hn
    have hp : 0 < n / 1073741824 ^ i := by generalize n / 1073741824 ^ i = q at h; omega
    have e1 : IntKind.i64.wrap (((n / 1073741824 ^ i : Nat) : Int).tmod 1073741824) = limbN n i := by
      unfold limbN
      generalize n / 1073741824 ^ i = q
      rw [Int.tmod_eq_emod_of_nonneg (by omega), w64 (by omega)]
      omega
    have e2 : IntKind.u64.wrap (((n / 1073741824 ^ i : Nat) : Int).tdiv 1073741824) = ((n / 1073741824 ^ (i + 1) : Nat) : Int) := by
      rw [Nat.pow_succ, ← Nat.div_div_eq_div_mul]
      generalize n / 1073741824 ^ i = q at *
      rw [Int.tdiv_eq_ediv_of_nonneg (by omega)]
      have hw : ∀ z : Int, IntKind.u64.wrap z = z % 18446744073709551616 := fun z => by unfold IntKind.wrap; simp [IntKind.bits, IntKind.signed]
      rw [hw]
      omega
    refine Sat.skip ?_
    simp only [thenK]
    (repeat refine Sat.seq ?_)
    refine Sat.block ?_
    (repeat refine Sat.seq ?_)
    refine Sat.region_k fun k hk => ?_
    simp -implicitDefEqProofs only [evr, id, reduceCtorEq, reduceIte, Nat.reduceMul, Nat.reduceAdd, Nat.reduceLT, Nat.reduceLeDiff, Nat.reduceEqDiff, Int.reduceLT, Int.reduceBEq, Int.reduceBNe, Nat.reduceBEq, List.append_nil, Int.toNat_zero, Nat.sub_self, e1]
    refine ⟨by decide, fun blk => ?_⟩
    refine ⟨⟨by unfold maxLen; omega, by omega⟩, fun a2 cap2 => ?_⟩
    (refine hk _ ?_; clear hk k; try show Sat _ _ _ _ _)
    (repeat refine Sat.seq ?_)
    refine Sat.region_k fun k hk => ?_
    simp -implicitDefEqProofs only [evr, id, reduceCtorEq, reduceIte, Nat.reduceMul, Nat.reduceAdd, Nat.reduceLT, Nat.reduceLeDiff, Nat.reduceEqDiff, Int.reduceLT, Int.reduceBEq, Int.reduceBNe, Nat.reduceBEq, List.append_nil, Int.toNat_zero, Nat.sub_self, e2]
    refine ⟨by decide, ?_⟩
    refine hk _ ?_
    simp only [thenK, blockK]
    refine ⟨(i + 1, a2, cap2), ⟨by show i + 1 ≤ 3; omega, .inr (by show 0 < n / 1073741824 ^ (i + 1 - 1); rw [Nat.add_sub_cancel]; exact hp)⟩, by show 3 - (i + 1) < 3 - i; omega, ?_⟩
    simp -implicitDefEqProofs only [evr, id, reduceCtorEq, reduceIte, Nat.reduceMul, Nat.reduceAdd, Nat.reduceLT, Nat.reduceLeDiff, Nat.reduceEqDiff, Int.reduceLT, Int.reduceBEq, Int.reduceBNe, Nat.reduceBEq, List.append_nil, Int.toNat_zero, Nat.sub_self, evl]
    exact rdEq_one (rdEq_refl _ _ _) rfl
  · simp only [decide_eq_false_iff_not] at h
    refine Sat.exit ?_
    simp only [thenK, blockK, reduceIte]
    (repeat refine Sat.seq ?_)
    (refine Sat.region_k fun k hk => ?_; simp -implicitDefEqProofs only [evr, id, reduceCtorEq, reduceIte, Nat.reduceMul, Nat.reduceAdd, Nat.reduceLT, Nat.reduceLeDiff, Nat.reduceEqDiff, Int.reduceLT, Int.reduceBEq, Int.reduceBNe, Nat.reduceBEq, List.append_nil, Int.toNat_zero, Nat.sub_self]; refine hk _ ?_; clear hk k; try show Sat _ _ _ _ _)
    refine Sat.ret ?_
    simp only [Try.results52, evr, id, reduceCtorEq, reduceIte, Nat.reduceMul, Nat.reduceAdd, Nat.reduceLT, Nat.reduceLeDiff, Nat.reduceEqDiff, Int.reduceLT, Int.reduceBEq, Int.reduceBNe, Nat.reduceBEq, List.append_nil, Int.toNat_zero, Nat.sub_self]
    exact nats_limbN (fun p _ => rfl) (by generalize n / 1073741824 ^ i = q at h; omega) hpos
end Go.Proofs.Ytagmohpafjncfaa

/- natural.Int; the reference's Same: what each gives. -/
set_option linter.unusedSimpArgs false
set_option linter.unusedVariables false
namespace Go.Proofs.Ytagmohpafjncfaa
open Eng Lmb Go.RowKit
theorem val_drop_le {xs : List Int} (h : Limbs xs) : ∀ q, val (xs.drop q) ≤ val xs
  | 0 => by simp
  | q + 1 => by
    refine Int.le_trans ?_ (val_drop_le h q)
    by_cases hq : q < xs.length
    · rw [val_drop xs q hq]
      have := limbs_getD h q
      have h2 : 0 ≤ val (xs.drop (q + 1)) := val_nonneg fun x hx => h x (List.mem_of_mem_drop hx)
      omega
    · rw [List.drop_eq_nil_of_le (by omega), List.drop_eq_nil_of_le (by omega)]
      exact Int.le_refl _
def intV (n : Nat) : Int := if n ≤ 4611686018427387904 then n else 0
def intE (n : Nat) : Int := if n ≤ 4611686018427387904 then 0 else 1
set_option maxRecDepth 100000 in
theorem natIntC (F : Frm) {s : SV} {n : Nat} (hs : Nats s n) (hb : (n : Int) < pw 512) : Contract F Try.prog 17 [s] (fun r => r = tupL [.i .i64 (intV n), .i .i64 (intE n)]) := by
  obtain ⟨xs, hi1, d1⟩ := hs.ints
  have l1 := (d1.len_le 512).2 hb
  obtain ⟨a1, c1, z1, r1, rfl, hz1, hr1⟩ := hi1
  refine contract_of Try.func17 rfl (by kernel_rfl) ?_
  simp only [Try.ntmps17, argEnv]
  have e0 : IntKind.i64.wrap ((xs.length : Int) - 1) = (xs.length : Int) - 1 := w64 (by omega)
  (repeat refine Sat.seq ?_)
  (refine Sat.region_k fun k hk => ?_; simp -implicitDefEqProofs only [evr, id, reduceCtorEq, reduceIte, Nat.reduceMul, Nat.reduceAdd, Nat.reduceLT, Nat.reduceLeDiff, Nat.reduceEqDiff, Int.reduceLT, Int.reduceBEq, Int.reduceBNe, Nat.reduceBEq, List.append_nil, Int.toNat_zero, Nat.sub_self, frS]; refine hk _ ?_; clear hk k; try show Sat _ _ _ _ _)
  (repeat refine Sat.seq ?_)
  (refine Sat.region_k fun k hk => ?_; simp -implicitDefEqProofs only [evr, id, reduceCtorEq, reduceIte, Nat.reduceMul, Nat.reduceAdd, Nat.reduceLT, Nat.reduceLeDiff, Nat.reduceEqDiff, Int.reduceLT, Int.reduceBEq, Int.reduceBNe, Nat.reduceBEq, List.append_nil, Int.toNat_zero, Nat.sub_self, frS]; refine hk _ ?_; clear hk k; try show Sat _ _ _ _ _)
  (repeat refine Sat.seq ?_)
  refine Sat.region_k fun k hk => ?_
  simp -implicitDefEqProofs only [evr, id, reduceCtorEq, reduceIte, Nat.reduceMul, Nat.reduceAdd, Nat.reduceLT, Nat.reduceLeDiff, Nat.reduceEqDiff, Int.reduceLT, Int.reduceBEq, Int.reduceBNe, Nat.reduceBEq, List.append_nil, Int.toNat_zero, Nat.sub_self, frS, e0]
  (refine hk _ ?_; clear hk k; try show Sat _ _ _ _ _)
  (repeat refine Sat.seq ?_)
  refine Sat.block ?_
  (repeat refine Sat.seq ?_)
  refine Sat.loop (ι := Nat) (fun q => ⟨29, [(5, .i .i64 ((q : Int) - 1)), (4, .i .i64 (val (xs.drop q))), (0, .sl a1 xs.length c1 z1 r1)], []⟩)
    (fun q => q ≤ xs.length ∧ val (xs.drop q) ≤ 4611686018427387904) (fun q => q) xs.length ⟨Nat.le_refl _, by rw [List.drop_length]; decide⟩ (by rw [List.drop_length]; simp -implicitDefEqProofs only [evr, id, reduceCtorEq, reduceIte, Nat.reduceMul, Nat.reduceAdd, Nat.reduceLT, Nat.reduceLeDiff, Nat.reduceEqDiff, Int.reduceLT, Int.reduceBEq, Int.reduceBNe, Nat.reduceBEq, List.append_nil, Int.toNat_zero, Nat.sub_self, frS, evl]; try rfl) ?_
  rintro q ⟨hq, hv⟩
  have hv0 : 0 ≤ val (xs.drop q) := val_nonneg fun x hx => d1.limbs x (List.mem_of_mem_drop hx)
  (repeat refine Sat.seq ?_)
  (refine Sat.region_k fun k hk => ?_; simp -implicitDefEqProofs only [evr, id, reduceCtorEq, reduceIte, Nat.reduceMul, Nat.reduceAdd, Nat.reduceLT, Nat.reduceLeDiff, Nat.reduceEqDiff, Int.reduceLT, Int.reduceBEq, Int.reduceBNe, Nat.reduceBEq, List.append_nil, Int.toNat_zero, Nat.sub_self, frS]; refine hk _ ?_; clear hk k; try show Sat _ _ _ _ _)
  (repeat refine Sat.seq ?_)
  refine Sat.cond_b rfl (fun h => ?_) (fun h => ?_)
  · simp only [decide_eq_true_eq] at h
    obtain ⟨j, rfl⟩ : ∃ j, q = j + 1 := ⟨q - 1, by omega⟩
    have hj : j < xs.length := by omega
    have ej : (((j + 1 : Nat) : Int) - 1) = (j : Int) := by omega
    have ej2 : IntKind.i64.wrap ((j : Int) - 1) = (j : Int) - 1 := w64 (by omega)
    have hsz1 : z1 = 1 := by
      rcases hz1 with hz | hz
      · omega
      · exact hz
    subst hsz1
    have g1 := hr1 j hj
    have bx := limbs_getD d1.limbs j
    have hd := val_drop xs j hj
    have hle := val_drop_le d1.limbs j
    rw [d1.val] at hle
    generalize val (xs.drop (j + 1)) = v at hv hv0 hd
    generalize hx : xs.getD j 0 = x at g1 bx hd
    have w1 : IntKind.i64.wrap (4611686018427387904 - x) = 4611686018427387904 - x := w64 (by omega)
    have p30 : ((2 : Int) ^ min (Int.toNat 30) IntKind.i64.bits) = 1073741824 := by decide
    have w2 : (4611686018427387904 - x).fdiv 1073741824 = (4611686018427387904 - x) / 1073741824 := Int.fdiv_eq_ediv_of_nonneg _ (by decide)
    refine Sat.skip ?_
    simp only [thenK, ej]
    (repeat refine Sat.seq ?_)
    refine Sat.block ?_
    (repeat refine Sat.seq ?_)
    refine Sat.region_k fun k hk => ?_
    simp -implicitDefEqProofs only [evr, id, reduceCtorEq, reduceIte, Nat.reduceMul, Nat.reduceAdd, Nat.reduceLT, Nat.reduceLeDiff, Nat.reduceEqDiff, Int.reduceLT, Int.reduceBEq, Int.reduceBNe, Nat.reduceBEq, List.append_nil, Int.toNat_zero, Nat.sub_self, frS]
    refine ⟨by omega, ?_⟩
    rw [g1]
    simp -implicitDefEqProofs only [evr, id, reduceCtorEq, reduceIte, Nat.reduceMul, Nat.reduceAdd, Nat.reduceLT, Nat.reduceLeDiff, Nat.reduceEqDiff, Int.reduceLT, Int.reduceBEq, Int.reduceBNe, Nat.reduceBEq, List.append_nil, Int.toNat_zero, Nat.sub_self, frS, w1, p30, w2]
    refine ⟨by decide, ?_⟩
    (refine hk _ ?_; clear hk k; try show Sat _ _ _ _ _)
    refine Sat.cond_b rfl (fun h9 => ?_) (fun h9 => ?_)
    · have h10 := of_decide_eq_true h9
      have hbig : ¬ n ≤ 4611686018427387904 := by omega
      (repeat refine Sat.seq ?_)
      (refine Sat.region_k fun k hk => ?_; simp -implicitDefEqProofs only [evr, id, reduceCtorEq, reduceIte, Nat.reduceMul, Nat.reduceAdd, Nat.reduceLT, Nat.reduceLeDiff, Nat.reduceEqDiff, Int.reduceLT, Int.reduceBEq, Int.reduceBNe, Nat.reduceBEq, List.append_nil, Int.toNat_zero, Nat.sub_self, frS]; refine hk _ ?_; clear hk k; try show Sat _ _ _ _ _)
      refine Sat.ret ?_
      simp only [thenK, blockK, Try.results17, evr, id, reduceCtorEq, reduceIte, Nat.reduceMul, Nat.reduceAdd, Nat.reduceLT, Nat.reduceLeDiff, Nat.reduceEqDiff, Int.reduceLT, Int.reduceBEq, Int.reduceBNe, Nat.reduceBEq, List.append_nil, Int.toNat_zero, Nat.sub_self, frS]
      unfold intV intE
      rw [if_neg hbig, if_neg hbig]
    · have h10 := of_decide_eq_false h9
      have w3 : IntKind.i64.wrap (v * 1073741824) = v * 1073741824 := w64 (by omega)
      have w4 : bits .or .i64 (v * 1073741824) x = v * 1073741824 + x := Zn.or_limb v x hv0 (by omega) bx.1 bx.2
      refine Sat.skip ?_
      simp only [thenK]
      (repeat refine Sat.seq ?_)
      refine Sat.region_k fun k hk => ?_
      simp -implicitDefEqProofs only [evr, id, reduceCtorEq, reduceIte, Nat.reduceMul, Nat.reduceAdd, Nat.reduceLT, Nat.reduceLeDiff, Nat.reduceEqDiff, Int.reduceLT, Int.reduceBEq, Int.reduceBNe, Nat.reduceBEq, List.append_nil, Int.toNat_zero, Nat.sub_self, frS, p30, w3]
      refine ⟨by decide, by omega, ?_⟩
      rw [g1]
      simp -implicitDefEqProofs only [evr, id, reduceCtorEq, reduceIte, Nat.reduceMul, Nat.reduceAdd, Nat.reduceLT, Nat.reduceLeDiff, Nat.reduceEqDiff, Int.reduceLT, Int.reduceBEq, Int.reduceBNe, Nat.reduceBEq, List.append_nil, Int.toNat_zero, Nat.sub_self, frS, w4]
      refine hk _ ?_
      clear hk k
      simp only [thenK, blockK]
      (repeat refine Sat.seq ?_)
      refine Sat.region_k fun k hk => ?_
      simp -implicitDefEqProofs only [evr, id, reduceCtorEq, reduceIte, Nat.reduceMul, Nat.reduceAdd, Nat.reduceLT, Nat.reduceLeDiff, Nat.reduceEqDiff, Int.reduceLT, Int.reduceBEq, Int.reduceBNe, Nat.reduceBEq, List.append_nil, Int.toNat_zero, Nat.sub_self, frS, ej2]
      refine hk _ ?_
      simp only [thenK, blockK]
      refine ⟨j, ⟨by omega, by rw [hd]; omega⟩, by omega, ?_⟩
      simp -implicitDefEqProofs only [evr, id, reduceCtorEq, reduceIte, Nat.reduceMul, Nat.reduceAdd, Nat.reduceLT, Nat.reduceLeDiff, Nat.reduceEqDiff, Int.reduceLT, Int.reduceBEq, Int.reduceBNe, Nat.reduceBEq, List.append_nil, Int.toNat_zero, Nat.sub_self, frS, evl]
      omega
  · simp only [decide_eq_false_iff_not] at h
    obtain rfl : q = 0 := by omega
    rw [List.drop_zero, d1.val] at hv
    have hsm : n ≤ 4611686018427387904 := by omega
    refine Sat.exit ?_
    simp only [thenK, blockK, reduceIte]
    (repeat refine Sat.seq ?_)
    (refine Sat.region_k fun k hk => ?_; simp -implicitDefEqProofs only [evr, id, reduceCtorEq, reduceIte, Nat.reduceMul, Nat.reduceAdd, Nat.reduceLT, Nat.reduceLeDiff, Nat.reduceEqDiff, Int.reduceLT, Int.reduceBEq, Int.reduceBNe, Nat.reduceBEq, List.append_nil, Int.toNat_zero, Nat.sub_self, frS]; refine hk _ ?_; clear hk k; try show Sat _ _ _ _ _)
    refine Sat.ret ?_
    simp only [Try.results17, evr, id, reduceCtorEq, reduceIte, Nat.reduceMul, Nat.reduceAdd, Nat.reduceLT, Nat.reduceLeDiff, Nat.reduceEqDiff, Int.reduceLT, Int.reduceBEq, Int.reduceBNe, Nat.reduceBEq, List.append_nil, Int.toNat_zero, Nat.sub_self, frS]
    unfold intV intE
    rw [if_pos hsm, if_pos hsm, d1.val]
set_option maxRecDepth 100000 in
theorem refSameC (F : Frm) {sa sb : SV} {m n : Nat} (ha : Nats sa m) (hb : Nats sb n) (b1 : (m : Int) < pw 512) (b2 : (n : Int) < pw 512) : Contract F Try.prog 24 [sa, sb] (fun r => r = .b (decide (m = n))) := by
  obtain ⟨xs, hi1, d1⟩ := ha.ints
  obtain ⟨ys, hi2, d2⟩ := hb.ints
  have l1 := (d1.len_le 512).2 b1
  have l2 := (d2.len_le 512).2 b2
  obtain ⟨a1, c1, z1, r1, rfl, hz1, hr1⟩ := hi1
  obtain ⟨a2, c2, z2, r2, rfl, hz2, hr2⟩ := hi2
  have hxy : xs = ys ↔ m = n := d1.inj d2
  refine contract_of Try.func24 rfl (by kernel_rfl) ?_
  simp only [Try.ntmps24, argEnv]
  (repeat refine Sat.seq ?_)
  (refine Sat.region_k fun k hk => ?_; simp -implicitDefEqProofs only [evr, id, reduceCtorEq, reduceIte, Nat.reduceMul, Nat.reduceAdd, Nat.reduceLT, Nat.reduceLeDiff, Nat.reduceEqDiff, Int.reduceLT, Int.reduceBEq, Int.reduceBNe, Nat.reduceBEq, List.append_nil, Int.toNat_zero, Nat.sub_self, frS]; refine hk _ ?_; clear hk k; try show Sat _ _ _ _ _)
  (repeat refine Sat.seq ?_)
  (refine Sat.region_k fun k hk => ?_; simp -implicitDefEqProofs only [evr, id, reduceCtorEq, reduceIte, Nat.reduceMul, Nat.reduceAdd, Nat.reduceLT, Nat.reduceLeDiff, Nat.reduceEqDiff, Int.reduceLT, Int.reduceBEq, Int.reduceBNe, Nat.reduceBEq, List.append_nil, Int.toNat_zero, Nat.sub_self, frS]; refine hk _ ?_; clear hk k; try show Sat _ _ _ _ _)
  refine Sat.cond_b rfl (fun h => ?_) (fun h => ?_)
  · have hne : xs.length ≠ ys.length := by
      simp only [bne_iff_ne] at h
      omega
    (repeat refine Sat.seq ?_)
    (refine Sat.region_k fun k hk => ?_; simp -implicitDefEqProofs only [evr, id, reduceCtorEq, reduceIte, Nat.reduceMul, Nat.reduceAdd, Nat.reduceLT, Nat.reduceLeDiff, Nat.reduceEqDiff, Int.reduceLT, Int.reduceBEq, Int.reduceBNe, Nat.reduceBEq, List.append_nil, Int.toNat_zero, Nat.sub_self, frS]; refine hk _ ?_; clear hk k; try show Sat _ _ _ _ _)
    refine Sat.ret ?_
    simp only [Try.results24, evr, id, reduceCtorEq, reduceIte, Nat.reduceMul, Nat.reduceAdd, Nat.reduceLT, Nat.reduceLeDiff, Nat.reduceEqDiff, Int.reduceLT, Int.reduceBEq, Int.reduceBNe, Nat.reduceBEq, List.append_nil, Int.toNat_zero, Nat.sub_self, frS]
    rw [decide_eq_false fun h9 => hne (by rw [hxy.2 h9])]
  have hlen : ys.length = xs.length := by
    have h9 : ¬ ((xs.length : Int) ≠ ys.length) := by
      intro h9
      rw [bne_iff_ne.2 h9] at h
      cases h
    omega
  refine Sat.skip ?_
  simp only [thenK]
  (repeat refine Sat.seq ?_)
  (refine Sat.region_k fun k hk => ?_; simp -implicitDefEqProofs only [evr, id, reduceCtorEq, reduceIte, Nat.reduceMul, Nat.reduceAdd, Nat.reduceLT, Nat.reduceLeDiff, Nat.reduceEqDiff, Int.reduceLT, Int.reduceBEq, Int.reduceBNe, Nat.reduceBEq, List.append_nil, Int.toNat_zero, Nat.sub_self, frS]; refine hk _ ?_; clear hk k; try show Sat _ _ _ _ _)
  (repeat refine Sat.seq ?_)
  refine Sat.block ?_
  (repeat refine Sat.seq ?_)
  refine Sat.loop (ι := Nat) (fun q => ⟨26, [(5, .i .i64 (q : Int)), (0, .sl a1 xs.length c1 z1 r1), (1, .sl a2 ys.length c2 z2 r2)], []⟩)
    (fun q => q ≤ xs.length ∧ ∀ i, i < q → xs.getD i 0 = ys.getD i 0) (fun q => xs.length - q) 0 ⟨Nat.zero_le _, fun i hi => by omega⟩ (by simp -implicitDefEqProofs only [evr, id, reduceCtorEq, reduceIte, Nat.reduceMul, Nat.reduceAdd, Nat.reduceLT, Nat.reduceLeDiff, Nat.reduceEqDiff, Int.reduceLT, Int.reduceBEq, Int.reduceBNe, Nat.reduceBEq, List.append_nil, Int.toNat_zero, Nat.sub_self, frS, evl]; try rfl) ?_
  rintro q ⟨hq, heq⟩
  (repeat refine Sat.seq ?_)
  (refine Sat.region_k fun k hk => ?_; simp -implicitDefEqProofs only [evr, id, reduceCtorEq, reduceIte, Nat.reduceMul, Nat.reduceAdd, Nat.reduceLT, Nat.reduceLeDiff, Nat.reduceEqDiff, Int.reduceLT, Int.reduceBEq, Int.reduceBNe, Nat.reduceBEq, List.append_nil, Int.toNat_zero, Nat.sub_self, frS]; refine hk _ ?_; clear hk k; try show Sat _ _ _ _ _)
  (repeat refine Sat.seq ?_)
  refine Sat.cond_b rfl (fun h => ?_) (fun h => ?_)
  · simp only [decide_eq_true_eq] at h
    have hj : q < xs.length := by omega
    have hsz1 : z1 = 1 := hz1.resolve_left (by omega)
    have hsz2 : z2 = 1 := hz2.resolve_left (by omega)
    subst hsz1 hsz2
    have g1 := hr1 q hj
    have g2 := hr2 q (by omega)
    have ej1 : IntKind.i64.wrap ((q : Int) + 1) = ((q + 1 : Nat) : Int) := by rw [w64 (by omega)]; omega
    refine Sat.skip ?_
    simp only [thenK]
    (repeat refine Sat.seq ?_)
    refine Sat.block ?_
    (repeat refine Sat.seq ?_)
    refine Sat.region_qk (by kernel_rfl) (by kernel_rfl) fun k hk => ?_
    simp -implicitDefEqProofs only [evr, id, reduceCtorEq, reduceIte, Nat.reduceMul, Nat.reduceAdd, Nat.reduceLT, Nat.reduceLeDiff, Nat.reduceEqDiff, Int.reduceLT, Int.reduceBEq, Int.reduceBNe, Nat.reduceBEq, List.append_nil, Int.toNat_zero, Nat.sub_self, frS]
    refine ⟨by omega, by omega, ?_⟩
    rw [g1, g2]
    simp -implicitDefEqProofs only [evr, id, reduceCtorEq, reduceIte, Nat.reduceMul, Nat.reduceAdd, Nat.reduceLT, Nat.reduceLeDiff, Nat.reduceEqDiff, Int.reduceLT, Int.reduceBEq, Int.reduceBNe, Nat.reduceBEq, List.append_nil, Int.toNat_zero, Nat.sub_self, frS]
    (refine hk _ ?_; clear hk k; try show Sat _ _ _ _ _)
    refine Sat.cond_b rfl (fun h9 => ?_) (fun h9 => ?_)
    · have hne : xs ≠ ys := fun h10 => by
        subst h10
        rw [bne_self_eq_false] at h9
        cases h9
      (repeat refine Sat.seq ?_)
      (refine Sat.region_k fun k hk => ?_; simp -implicitDefEqProofs only [evr, id, reduceCtorEq, reduceIte, Nat.reduceMul, Nat.reduceAdd, Nat.reduceLT, Nat.reduceLeDiff, Nat.reduceEqDiff, Int.reduceLT, Int.reduceBEq, Int.reduceBNe, Nat.reduceBEq, List.append_nil, Int.toNat_zero, Nat.sub_self, frS]; refine hk _ ?_; clear hk k; try show Sat _ _ _ _ _)
      refine Sat.ret ?_
      simp only [thenK, blockK, Try.results24, evr, id, reduceCtorEq, reduceIte, Nat.reduceMul, Nat.reduceAdd, Nat.reduceLT, Nat.reduceLeDiff, Nat.reduceEqDiff, Int.reduceLT, Int.reduceBEq, Int.reduceBNe, Nat.reduceBEq, List.append_nil, Int.toNat_zero, Nat.sub_self, frS]
      rw [decide_eq_false fun h10 => hne (hxy.2 h10)]
    · have hee : xs.getD q 0 = ys.getD q 0 := by
        by_cases h10 : xs.getD q 0 = ys.getD q 0
        · exact h10
        · rw [bne_iff_ne.2 h10] at h9; cases h9
      refine Sat.skip ?_
      simp only [thenK, blockK]
      (repeat refine Sat.seq ?_)
      refine Sat.region_k fun k hk => ?_
      simp -implicitDefEqProofs only [evr, id, reduceCtorEq, reduceIte, Nat.reduceMul, Nat.reduceAdd, Nat.reduceLT, Nat.reduceLeDiff, Nat.reduceEqDiff, Int.reduceLT, Int.reduceBEq, Int.reduceBNe, Nat.reduceBEq, List.append_nil, Int.toNat_zero, Nat.sub_self, frS, ej1]
      refine hk _ ?_
      simp only [thenK, blockK]
      refine ⟨q + 1, ⟨by omega, fun i hi => ?_⟩, by omega, ?_⟩
      · rcases (show i < q ∨ i = q by omega) with h10 | rfl
        · exact heq i h10
        · exact hee
      simp -implicitDefEqProofs only [evr, id, reduceCtorEq, reduceIte, Nat.reduceMul, Nat.reduceAdd, Nat.reduceLT, Nat.reduceLeDiff, Nat.reduceEqDiff, Int.reduceLT, Int.reduceBEq, Int.reduceBNe, Nat.reduceBEq, List.append_nil, Int.toNat_zero, Nat.sub_self, frS, evl]
  · simp only [decide_eq_false_iff_not] at h
    have hq2 : q = xs.length := by omega
    have hxs : xs = ys := by
      apply List.ext_getElem hlen.symm
      intro i h1 h2
      have := heq i (by omega)
      simpa [List.getD, h1, h2] using this
    refine Sat.exit ?_
    simp only [thenK, blockK, reduceIte]
    (repeat refine Sat.seq ?_)
    (refine Sat.region_k fun k hk => ?_; simp -implicitDefEqProofs only [evr, id, reduceCtorEq, reduceIte, Nat.reduceMul, Nat.reduceAdd, Nat.reduceLT, Nat.reduceLeDiff, Nat.reduceEqDiff, Int.reduceLT, Int.reduceBEq, Int.reduceBNe, Nat.reduceBEq, List.append_nil, Int.toNat_zero, Nat.sub_self, frS]; refine hk _ ?_; clear hk k; try show Sat _ _ _ _ _)
    refine Sat.ret ?_
    simp only [Try.results24, evr, id, reduceCtorEq, reduceIte, Nat.reduceMul, Nat.reduceAdd, Nat.reduceLT, Nat.reduceLeDiff, Nat.reduceEqDiff, Int.reduceLT, Int.reduceBEq, Int.reduceBNe, Nat.reduceBEq, List.append_nil, Int.toNat_zero, Nat.sub_self, frS]
    rw [decide_eq_true (hxy.1 hxs)]
set_option maxRecDepth 100000 in
theorem refSame3C (F : Frm) (na nb : Bool) {sp sq sr ss : SV} {p q r s : Nat} (hp : Nats sp p) (hq : Nats sq q) (hr : Nats sr r) (hs : Nats ss s) (b1 : (p : Int) < pw 512) (b2 : (q : Int) < pw 512) (b3 : (r : Int) < pw 512) (b4 : (s : Int) < pw 512) :
    Contract F Try.prog 19 [frS na sp sq, frS nb sr ss] (fun x => x = .b (decide (na = nb ∧ p = r ∧ q = s))) := by
  have hp' := hp
  have hq' := hq
  have hr' := hr
  have hs' := hs
  obtain ⟨a1, c1, z1, r1, x1, rfl, _⟩ := hp
  obtain ⟨a2, c2, z2, r2, x2, rfl, _⟩ := hq
  obtain ⟨a3, c3, z3, r3, x3, rfl, _⟩ := hr
  obtain ⟨a4, c4, z4, r4, x4, rfl, _⟩ := hs
  refine contract_of Try.func19 rfl (by kernel_rfl) ?_
  simp only [Try.ntmps19, argEnv, frS]
  (repeat refine Sat.seq ?_)
  (refine Sat.region_k fun k hk => ?_; simp -implicitDefEqProofs only [evr, id, reduceCtorEq, reduceIte, Nat.reduceMul, Nat.reduceAdd, Nat.reduceLT, Nat.reduceLeDiff, Nat.reduceEqDiff, Int.reduceLT, Int.reduceBEq, Int.reduceBNe, Nat.reduceBEq, List.append_nil, Int.toNat_zero, Nat.sub_self, frS])
  intro blk1 blk2
  (refine hk _ ?_; clear hk k; try show Sat _ _ _ _ _)
  (repeat refine Sat.seq ?_)
  refine Sat.region_at ⟨24, [(4, .b (decide (na = nb ∧ p = r ∧ q = s)))], []⟩ (fun k hk => ?_) ?_
  · simp -implicitDefEqProofs only [evr, id, reduceCtorEq, reduceIte, Nat.reduceMul, Nat.reduceAdd, Nat.reduceLT, Nat.reduceLeDiff, Nat.reduceEqDiff, Int.reduceLT, Int.reduceBEq, Int.reduceBNe, Nat.reduceBEq, List.append_nil, Int.toNat_zero, Nat.sub_self, frS]
    refine ⟨fun h => ?_, fun h => ?_⟩
    · have hn : na = nb := by simpa using h
      refine wcall_plain (refSameC F hp' hr' b1 b3) rfl (by rintro _ rfl; exact ok_plain rfl) ?_
      rintro y rfl
      simp -implicitDefEqProofs only [evr, id, reduceCtorEq, reduceIte, Nat.reduceMul, Nat.reduceAdd, Nat.reduceLT, Nat.reduceLeDiff, Nat.reduceEqDiff, Int.reduceLT, Int.reduceBEq, Int.reduceBNe, Nat.reduceBEq, List.append_nil, Int.toNat_zero, Nat.sub_self, frS]
      refine ⟨fun h2 => ?_, fun h2 => ?_⟩
      · refine wcall_plain (refSameC F hq' hs' b2 b4) rfl (by rintro _ rfl; exact ok_plain rfl) ?_
        rintro y rfl
        simp -implicitDefEqProofs only [evr, id, reduceCtorEq, reduceIte, Nat.reduceMul, Nat.reduceAdd, Nat.reduceLT, Nat.reduceLeDiff, Nat.reduceEqDiff, Int.reduceLT, Int.reduceBEq, Int.reduceBNe, Nat.reduceBEq, List.append_nil, Int.toNat_zero, Nat.sub_self, frS]
        refine hk _ ?_
        have e : decide (na = nb ∧ p = r ∧ q = s) = decide (q = s) := by simp [hn, h2]
        rw [e]
        simp -implicitDefEqProofs only [evr, id, reduceCtorEq, reduceIte, Nat.reduceMul, Nat.reduceAdd, Nat.reduceLT, Nat.reduceLeDiff, Nat.reduceEqDiff, Int.reduceLT, Int.reduceBEq, Int.reduceBNe, Nat.reduceBEq, List.append_nil, Int.toNat_zero, Nat.sub_self, frS, evl]
      · refine hk _ ?_
        have e : decide (na = nb ∧ p = r ∧ q = s) = false := by simp [h2]
        rw [e]
        simp -implicitDefEqProofs only [evr, id, reduceCtorEq, reduceIte, Nat.reduceMul, Nat.reduceAdd, Nat.reduceLT, Nat.reduceLeDiff, Nat.reduceEqDiff, Int.reduceLT, Int.reduceBEq, Int.reduceBNe, Nat.reduceBEq, List.append_nil, Int.toNat_zero, Nat.sub_self, frS, evl]
        try exact h2
    · have hn : ¬ na = nb := by simpa using h
      refine hk _ ?_
      have e : decide (na = nb ∧ p = r ∧ q = s) = false := by simp [hn]
      rw [e]
      simp -implicitDefEqProofs only [evr, id, reduceCtorEq, reduceIte, Nat.reduceMul, Nat.reduceAdd, Nat.reduceLT, Nat.reduceLeDiff, Nat.reduceEqDiff, Int.reduceLT, Int.reduceBEq, Int.reduceBNe, Nat.reduceBEq, List.append_nil, Int.toNat_zero, Nat.sub_self, frS, evl]
      try exact h
  simp only [thenK]
  refine Sat.ret ?_
  simp only [Try.results19, evr, id, reduceCtorEq, reduceIte, Nat.reduceMul, Nat.reduceAdd, Nat.reduceLT, Nat.reduceLeDiff, Nat.reduceEqDiff, Int.reduceLT, Int.reduceBEq, Int.reduceBNe, Nat.reduceBEq, List.append_nil, Int.toNat_zero, Nat.sub_self, frS]
end Go.Proofs.Ytagmohpafjncfaa

/- Package fraction: Valid, checked, Add: what each gives. -/
set_option linter.unusedSimpArgs false
set_option linter.unusedVariables false
namespace Go.Proofs.Ytagmohpafjncfaa
open Eng Lmb Go.RowKit
theorem norm_last {xs : List Int} (h : Norm xs) (h0 : 0 < xs.length) : xs.getD (xs.length - 1) 0 ≠ 0 := by
  induction xs with
  | nil => simp at h0
  | cons x t ih =>
    cases t with
    | nil => rw [norm_one] at h; simpa using h
    | cons y t =>
      have h2 : Norm (y :: t) := by rwa [norm_cons] at h
      have := ih h2 (by simp)
      simpa using this
set_option maxRecDepth 100000 in
theorem natValidC (F : Frm) {s : SV} {n : Nat} (hs : Nats s n) (hb : (n : Int) < pw 512) : Contract F Try.prog 87 [s] (fun r => r = .b (decide ((n : Int) < pw 256))) := by
  obtain ⟨xs, hi1, d1⟩ := hs.ints
  have l1 := (d1.len_le 512).2 hb
  have l2 := d1.len_le 256
  obtain ⟨a1, c1, z1, r1, rfl, hz1, hr1⟩ := hi1
  refine contract_of Try.func87 rfl (by kernel_rfl) ?_
  simp only [Try.ntmps87, argEnv]
  (repeat refine Sat.seq ?_)
  (refine Sat.region_k fun k hk => ?_; simp -implicitDefEqProofs only [evr, id, reduceCtorEq, reduceIte, Nat.reduceMul, Nat.reduceAdd, Nat.reduceLT, Nat.reduceLeDiff, Nat.reduceEqDiff, Int.reduceLT, Int.reduceBEq, Int.reduceBNe, Nat.reduceBEq, List.append_nil, Int.toNat_zero, Nat.sub_self, frS]; refine hk _ ?_; clear hk k; try show Sat _ _ _ _ _)
  (repeat refine Sat.seq ?_)
  (refine Sat.region_k fun k hk => ?_; simp -implicitDefEqProofs only [evr, id, reduceCtorEq, reduceIte, Nat.reduceMul, Nat.reduceAdd, Nat.reduceLT, Nat.reduceLeDiff, Nat.reduceEqDiff, Int.reduceLT, Int.reduceBEq, Int.reduceBNe, Nat.reduceBEq, List.append_nil, Int.toNat_zero, Nat.sub_self, frS]; refine hk _ ?_; clear hk k; try show Sat _ _ _ _ _)
  (repeat refine Sat.seq ?_)
  refine Sat.block ?_
  (repeat refine Sat.seq ?_)
  refine Sat.loop (ι := Nat) (fun q => ⟨35, [(7, .i .i64 (q : Int)), (6, .i .i64 (xs.length : Nat)), (5, .sl a1 xs.length c1 z1 r1), (0, .sl a1 xs.length c1 z1 r1)], []⟩)
    (fun q => q ≤ xs.length) (fun q => xs.length - q) 0 (Nat.zero_le _) (by simp -implicitDefEqProofs only [evr, id, reduceCtorEq, reduceIte, Nat.reduceMul, Nat.reduceAdd, Nat.reduceLT, Nat.reduceLeDiff, Nat.reduceEqDiff, Int.reduceLT, Int.reduceBEq, Int.reduceBNe, Nat.reduceBEq, List.append_nil, Int.toNat_zero, Nat.sub_self, frS, evl]; try rfl) ?_
  rintro q hq
  (repeat refine Sat.seq ?_)
  (refine Sat.region_k fun k hk => ?_; simp -implicitDefEqProofs only [evr, id, reduceCtorEq, reduceIte, Nat.reduceMul, Nat.reduceAdd, Nat.reduceLT, Nat.reduceLeDiff, Nat.reduceEqDiff, Int.reduceLT, Int.reduceBEq, Int.reduceBNe, Nat.reduceBEq, List.append_nil, Int.toNat_zero, Nat.sub_self, frS]; refine hk _ ?_; clear hk k; try show Sat _ _ _ _ _)
  (repeat refine Sat.seq ?_)
  refine Sat.cond_b rfl (fun h => ?_) (fun h => ?_)
  · simp only [decide_eq_true_eq] at h
    have hj : q < xs.length := by omega
    have hsz1 : z1 = 1 := hz1.resolve_left (by omega)
    subst hsz1
    have g1 := hr1 q hj
    have bx := limbs_getD d1.limbs q
    have ej1 : IntKind.i64.wrap ((q : Int) + 1) = ((q + 1 : Nat) : Int) := by rw [w64 (by omega)]; omega
    refine Sat.skip ?_
    simp only [thenK]
    (repeat refine Sat.seq ?_)
    refine Sat.block ?_
    (repeat refine Sat.seq ?_)
    (refine Sat.region_k fun k hk => ?_; simp -implicitDefEqProofs only [evr, id, reduceCtorEq, reduceIte, Nat.reduceMul, Nat.reduceAdd, Nat.reduceLT, Nat.reduceLeDiff, Nat.reduceEqDiff, Int.reduceLT, Int.reduceBEq, Int.reduceBNe, Nat.reduceBEq, List.append_nil, Int.toNat_zero, Nat.sub_self, frS])
    refine ⟨by omega, ?_⟩
    rw [g1]
    (refine hk _ ?_; clear hk k; try show Sat _ _ _ _ _)
    (repeat refine Sat.seq ?_)
    refine Sat.region_at ⟨35, [(16, .b false), (7, .i .i64 (q : Int)), (6, .i .i64 (xs.length : Nat)), (5, .sl a1 xs.length c1 1 r1), (0, .sl a1 xs.length c1 1 r1)], []⟩ (fun k hk => ?_) ?_
    · simp -implicitDefEqProofs only [evr, id, reduceCtorEq, reduceIte, Nat.reduceMul, Nat.reduceAdd, Nat.reduceLT, Nat.reduceLeDiff, Nat.reduceEqDiff, Int.reduceLT, Int.reduceBEq, Int.reduceBNe, Nat.reduceBEq, List.append_nil, Int.toNat_zero, Nat.sub_self, frS]
      refine ⟨fun h9 => by omega, fun h9 => ?_⟩
      refine hk _ ?_
      rw [decide_eq_false (by omega)]
      simp -implicitDefEqProofs only [evr, id, reduceCtorEq, reduceIte, Nat.reduceMul, Nat.reduceAdd, Nat.reduceLT, Nat.reduceLeDiff, Nat.reduceEqDiff, Int.reduceLT, Int.reduceBEq, Int.reduceBNe, Nat.reduceBEq, List.append_nil, Int.toNat_zero, Nat.sub_self, frS, evl]
    simp only [thenK]
    refine Sat.cond_b rfl (fun h => by cases h) (fun h => ?_)
    refine Sat.skip ?_
    simp only [thenK, blockK]
    (repeat refine Sat.seq ?_)
    refine Sat.region_k fun k hk => ?_
    simp -implicitDefEqProofs only [evr, id, reduceCtorEq, reduceIte, Nat.reduceMul, Nat.reduceAdd, Nat.reduceLT, Nat.reduceLeDiff, Nat.reduceEqDiff, Int.reduceLT, Int.reduceBEq, Int.reduceBNe, Nat.reduceBEq, List.append_nil, Int.toNat_zero, Nat.sub_self, frS, ej1]
    refine hk _ ?_
    simp only [thenK, blockK]
    refine ⟨q + 1, by show q + 1 ≤ xs.length; omega, by omega, ?_⟩
    simp -implicitDefEqProofs only [evr, id, reduceCtorEq, reduceIte, Nat.reduceMul, Nat.reduceAdd, Nat.reduceLT, Nat.reduceLeDiff, Nat.reduceEqDiff, Int.reduceLT, Int.reduceBEq, Int.reduceBNe, Nat.reduceBEq, List.append_nil, Int.toNat_zero, Nat.sub_self, frS, evl]
  · refine Sat.exit ?_
    simp only [thenK, blockK, reduceIte]
    (repeat refine Sat.seq ?_)
    refine Sat.region_at ⟨35, [(2, .b (decide ((n : Int) < pw 256)))], []⟩ (fun k hk => ?_) ?_
    · simp -implicitDefEqProofs only [evr, id, reduceCtorEq, reduceIte, Nat.reduceMul, Nat.reduceAdd, Nat.reduceLT, Nat.reduceLeDiff, Nat.reduceEqDiff, Int.reduceLT, Int.reduceBEq, Int.reduceBNe, Nat.reduceBEq, List.append_nil, Int.toNat_zero, Nat.sub_self, frS]
      refine ⟨fun h9 => ⟨fun h8 => ?_, fun h8 => ?_⟩, fun h9 => ?_⟩
      · refine hk _ ?_
        have e : decide ((n : Int) < pw 256) = true := decide_eq_true (l2.1 (by omega))
        rw [e]
        simp -implicitDefEqProofs only [evr, id, reduceCtorEq, reduceIte, Nat.reduceMul, Nat.reduceAdd, Nat.reduceLT, Nat.reduceLeDiff, Nat.reduceEqDiff, Int.reduceLT, Int.reduceBEq, Int.reduceBNe, Nat.reduceBEq, List.append_nil, Int.toNat_zero, Nat.sub_self, frS, evl]
        try exact h8
      · have h7 : ¬ (xs.length : Int) = 0 := by
          intro h6
          rw [h6] at h8
          cases h8
        have hsz1 : z1 = 1 := hz1.resolve_left (by omega)
        subst hsz1
        have e1 : IntKind.i64.wrap ((xs.length : Int) - 1) = ((xs.length - 1 : Nat) : Int) := by rw [w64 (by omega)]; omega
        rw [e1]
        refine ⟨by omega, ?_⟩
        rw [Int.toNat_natCast, hr1 _ (by omega)]
        simp -implicitDefEqProofs only [evr, id, reduceCtorEq, reduceIte, Nat.reduceMul, Nat.reduceAdd, Nat.reduceLT, Nat.reduceLeDiff, Nat.reduceEqDiff, Int.reduceLT, Int.reduceBEq, Int.reduceBNe, Nat.reduceBEq, List.append_nil, Int.toNat_zero, Nat.sub_self, frS]
        refine hk _ ?_
        have e : decide ((n : Int) < pw 256) = true := decide_eq_true (l2.1 (by omega))
        rw [e, bne_iff_ne.2 (norm_last d1.norm (by omega))]
        simp -implicitDefEqProofs only [evr, id, reduceCtorEq, reduceIte, Nat.reduceMul, Nat.reduceAdd, Nat.reduceLT, Nat.reduceLeDiff, Nat.reduceEqDiff, Int.reduceLT, Int.reduceBEq, Int.reduceBNe, Nat.reduceBEq, List.append_nil, Int.toNat_zero, Nat.sub_self, frS, evl]
      · refine hk _ ?_
        have e : decide ((n : Int) < pw 256) = false := decide_eq_false (fun h6 => h9 (by have := l2.2 h6; omega))
        rw [e]
        simp -implicitDefEqProofs only [evr, id, reduceCtorEq, reduceIte, Nat.reduceMul, Nat.reduceAdd, Nat.reduceLT, Nat.reduceLeDiff, Nat.reduceEqDiff, Int.reduceLT, Int.reduceBEq, Int.reduceBNe, Nat.reduceBEq, List.append_nil, Int.toNat_zero, Nat.sub_self, frS, evl]
        try exact h9
    simp only [thenK]
    refine Sat.ret ?_
    simp only [Try.results87, evr, id, reduceCtorEq, reduceIte, Nat.reduceMul, Nat.reduceAdd, Nat.reduceLT, Nat.reduceLeDiff, Nat.reduceEqDiff, Int.reduceLT, Int.reduceBEq, Int.reduceBNe, Nat.reduceBEq, List.append_nil, Int.toNat_zero, Nat.sub_self, frS]
set_option maxRecDepth 100000 in
theorem fracTermC (F : Frm) {s : SV} {n : Nat} (hs : Nats s n) (hb : (n : Int) < pw 512) : Contract F Try.prog 86 [s] (fun r => r = .b (decide ((n : Int) < pw 64))) := by
  have hs' := hs
  obtain ⟨xs, hi1, d1⟩ := hs.ints
  have l2 := d1.len_le 64
  obtain ⟨a1, c1, z1, r1, rfl, hz1, hr1⟩ := hi1
  refine contract_of Try.func86 rfl (by kernel_rfl) ?_
  simp only [Try.ntmps86, argEnv]
  (repeat refine Sat.seq ?_)
  (refine Sat.region_k fun k hk => ?_; simp -implicitDefEqProofs only [evr, id, reduceCtorEq, reduceIte, Nat.reduceMul, Nat.reduceAdd, Nat.reduceLT, Nat.reduceLeDiff, Nat.reduceEqDiff, Int.reduceLT, Int.reduceBEq, Int.reduceBNe, Nat.reduceBEq, List.append_nil, Int.toNat_zero, Nat.sub_self, frS]; refine hk _ ?_; clear hk k; try show Sat _ _ _ _ _)
  (repeat refine Sat.seq ?_)
  refine Sat.region_at ⟨10, [(2, .b (decide ((n : Int) < pw 64)))], []⟩ (fun k hk => ?_) ?_
  · simp -implicitDefEqProofs only [evr, id, reduceCtorEq, reduceIte, Nat.reduceMul, Nat.reduceAdd, Nat.reduceLT, Nat.reduceLeDiff, Nat.reduceEqDiff, Int.reduceLT, Int.reduceBEq, Int.reduceBNe, Nat.reduceBEq, List.append_nil, Int.toNat_zero, Nat.sub_self, frS]
    refine wcall_plain (natValidC F hs' hb) rfl (by rintro _ rfl; exact ok_plain rfl) ?_
    rintro y rfl
    simp -implicitDefEqProofs only [evr, id, reduceCtorEq, reduceIte, Nat.reduceMul, Nat.reduceAdd, Nat.reduceLT, Nat.reduceLeDiff, Nat.reduceEqDiff, Int.reduceLT, Int.reduceBEq, Int.reduceBNe, Nat.reduceBEq, List.append_nil, Int.toNat_zero, Nat.sub_self, frS]
    refine ⟨fun h9 => ?_, fun h9 => ?_⟩
    · refine hk _ ?_
      have e : decide ((n : Int) < pw 64) = decide ((xs.length : Int) ≤ 64) := by
        congr 1
        apply propext
        rw [← l2]
        omega
      rw [e]
      simp -implicitDefEqProofs only [evr, id, reduceCtorEq, reduceIte, Nat.reduceMul, Nat.reduceAdd, Nat.reduceLT, Nat.reduceLeDiff, Nat.reduceEqDiff, Int.reduceLT, Int.reduceBEq, Int.reduceBNe, Nat.reduceBEq, List.append_nil, Int.toNat_zero, Nat.sub_self, frS, evl]
    · refine hk _ ?_
      have e : decide ((n : Int) < pw 64) = false := decide_eq_false fun h8 => h9 (by have := pw_mono (show 64 ≤ 256 by omega); omega)
      rw [e]
      simp -implicitDefEqProofs only [evr, id, reduceCtorEq, reduceIte, Nat.reduceMul, Nat.reduceAdd, Nat.reduceLT, Nat.reduceLeDiff, Nat.reduceEqDiff, Int.reduceLT, Int.reduceBEq, Int.reduceBNe, Nat.reduceBEq, List.append_nil, Int.toNat_zero, Nat.sub_self, frS, evl]
      try exact decide_eq_false h9
  simp only [thenK]
  refine Sat.ret ?_
  simp only [Try.results86, evr, id, reduceCtorEq, reduceIte, Nat.reduceMul, Nat.reduceAdd, Nat.reduceLT, Nat.reduceLeDiff, Nat.reduceEqDiff, Int.reduceLT, Int.reduceBEq, Int.reduceBNe, Nat.reduceBEq, List.append_nil, Int.toNat_zero, Nat.sub_self, frS]
def frOk (neg : Bool) (p q : Nat) : Bool := decide ((p : Int) < pw 64) && (decide ((q : Int) < pw 64) && (decide (0 < q) && !(neg && decide (p = 0))))
set_option maxRecDepth 100000 in
theorem fractionValidC (F : Frm) (neg : Bool) {sp sq : SV} {p q : Nat} (hp : Nats sp p) (hq : Nats sq q) (b1 : (p : Int) < pw 512) (b2 : (q : Int) < pw 512) : Contract F Try.prog 81 [frS neg sp sq] (fun r => r = .b (frOk neg p q)) := by
  have hp' := hp
  have hq' := hq
  obtain ⟨a1, c1, z1, r1, x1, rfl, _⟩ := hp
  obtain ⟨a2, c2, z2, r2, x2, rfl, _⟩ := hq
  have hl1 := hp'.len0
  have hl2 := hq'.len
  refine contract_of Try.func81 rfl (by kernel_rfl) ?_
  simp only [Try.ntmps81, argEnv, frS]
  (repeat refine Sat.seq ?_)
  (refine Sat.region_k fun k hk => ?_; simp -implicitDefEqProofs only [evr, id, reduceCtorEq, reduceIte, Nat.reduceMul, Nat.reduceAdd, Nat.reduceLT, Nat.reduceLeDiff, Nat.reduceEqDiff, Int.reduceLT, Int.reduceBEq, Int.reduceBNe, Nat.reduceBEq, List.append_nil, Int.toNat_zero, Nat.sub_self, frS])
  intro blk1
  (refine hk _ ?_; clear hk k; try show Sat _ _ _ _ _)
  (repeat refine Sat.seq ?_)
  (refine Sat.region_k fun k hk => ?_; simp -implicitDefEqProofs only [evr, id, reduceCtorEq, reduceIte, Nat.reduceMul, Nat.reduceAdd, Nat.reduceLT, Nat.reduceLeDiff, Nat.reduceEqDiff, Int.reduceLT, Int.reduceBEq, Int.reduceBNe, Nat.reduceBEq, List.append_nil, Int.toNat_zero, Nat.sub_self, frS]; refine hk _ ?_; clear hk k; try show Sat _ _ _ _ _)
  (repeat refine Sat.seq ?_)
  refine Sat.region_at ⟨31, [(2, .b (frOk neg p q))], []⟩ (fun k hk => ?_) ?_
  · simp -implicitDefEqProofs only [evr, id, reduceCtorEq, reduceIte, Nat.reduceMul, Nat.reduceAdd, Nat.reduceLT, Nat.reduceLeDiff, Nat.reduceEqDiff, Int.reduceLT, Int.reduceBEq, Int.reduceBNe, Nat.reduceBEq, List.append_nil, Int.toNat_zero, Nat.sub_self, frS]
    refine wcall_plain (fracTermC F hp' b1) rfl (by rintro _ rfl; exact ok_plain rfl) ?_
    rintro y rfl
    simp -implicitDefEqProofs only [evr, id, reduceCtorEq, reduceIte, Nat.reduceMul, Nat.reduceAdd, Nat.reduceLT, Nat.reduceLeDiff, Nat.reduceEqDiff, Int.reduceLT, Int.reduceBEq, Int.reduceBNe, Nat.reduceBEq, List.append_nil, Int.toNat_zero, Nat.sub_self, frS]
    unfold frOk at hk
    refine ⟨fun h9 => ?_, fun h9 => ?_⟩
    · rw [decide_eq_true h9, Bool.true_and] at hk
      refine wcall_plain (fracTermC F hq' b2) rfl (by rintro _ rfl; exact ok_plain rfl) ?_
      rintro y rfl
      simp -implicitDefEqProofs only [evr, id, reduceCtorEq, reduceIte, Nat.reduceMul, Nat.reduceAdd, Nat.reduceLT, Nat.reduceLeDiff, Nat.reduceEqDiff, Int.reduceLT, Int.reduceBEq, Int.reduceBNe, Nat.reduceBEq, List.append_nil, Int.toNat_zero, Nat.sub_self, frS, hl1, hl2]
      refine ⟨fun h8 => ?_, fun h8 => ?_⟩
      · rw [decide_eq_true h8, Bool.true_and] at hk
        refine ⟨fun h7 => ?_, fun h7 => ?_⟩
        · rw [decide_eq_true h7, Bool.true_and] at hk
          refine ⟨fun h6 => ?_, fun h6 => ?_⟩
          · refine hk _ ?_
            subst h6
            simp -implicitDefEqProofs only [evr, id, reduceCtorEq, reduceIte, Nat.reduceMul, Nat.reduceAdd, Nat.reduceLT, Nat.reduceLeDiff, Nat.reduceEqDiff, Int.reduceLT, Int.reduceBEq, Int.reduceBNe, Nat.reduceBEq, List.append_nil, Int.toNat_zero, Nat.sub_self, frS, evl]
          · refine hk _ ?_
            subst h6
            simp -implicitDefEqProofs only [evr, id, reduceCtorEq, reduceIte, Nat.reduceMul, Nat.reduceAdd, Nat.reduceLT, Nat.reduceLeDiff, Nat.reduceEqDiff, Int.reduceLT, Int.reduceBEq, Int.reduceBNe, Nat.reduceBEq, List.append_nil, Int.toNat_zero, Nat.sub_self, frS, evl]
            rfl
        · rw [decide_eq_false h7, Bool.false_and] at hk
          refine hk _ ?_
          simp -implicitDefEqProofs only [evr, id, reduceCtorEq, reduceIte, Nat.reduceMul, Nat.reduceAdd, Nat.reduceLT, Nat.reduceLeDiff, Nat.reduceEqDiff, Int.reduceLT, Int.reduceBEq, Int.reduceBNe, Nat.reduceBEq, List.append_nil, Int.toNat_zero, Nat.sub_self, frS, evl]
          try exact decide_eq_false h7
      · rw [decide_eq_false h8, Bool.false_and] at hk
        refine hk _ ?_
        simp -implicitDefEqProofs only [evr, id, reduceCtorEq, reduceIte, Nat.reduceMul, Nat.reduceAdd, Nat.reduceLT, Nat.reduceLeDiff, Nat.reduceEqDiff, Int.reduceLT, Int.reduceBEq, Int.reduceBNe, Nat.reduceBEq, List.append_nil, Int.toNat_zero, Nat.sub_self, frS, evl]
        try exact decide_eq_false h8
    · rw [decide_eq_false h9, Bool.false_and] at hk
      refine hk _ ?_
      simp -implicitDefEqProofs only [evr, id, reduceCtorEq, reduceIte, Nat.reduceMul, Nat.reduceAdd, Nat.reduceLT, Nat.reduceLeDiff, Nat.reduceEqDiff, Int.reduceLT, Int.reduceBEq, Int.reduceBNe, Nat.reduceBEq, List.append_nil, Int.toNat_zero, Nat.sub_self, frS, evl]
      try exact decide_eq_false h9
  simp only [thenK]
  refine Sat.ret ?_
  simp only [Try.results81, evr, id, reduceCtorEq, reduceIte, Nat.reduceMul, Nat.reduceAdd, Nat.reduceLT, Nat.reduceLeDiff, Nat.reduceEqDiff, Int.reduceLT, Int.reduceBEq, Int.reduceBNe, Nat.reduceBEq, List.append_nil, Int.toNat_zero, Nat.sub_self, frS]
set_option maxRecDepth 100000 in
theorem checkedC (F : Frm) (neg : Bool) {sp sq : SV} {p q : Nat} (hp : Nats sp p) (hq : Nats sq q) (b1 : (p : Int) < pw 512) (b2 : (q : Int) < pw 512) : Contract F Try.prog 72 [frS neg sp sq]
    (fun r => (frOk neg p q = true ∧ ∃ f, r = tupL [f, .i .i64 0] ∧ FrS f neg p q) ∨ (frOk neg p q = false ∧ ∃ f, r = tupL [f, .i .i64 5] ∧ FrS f false 0 0)) := by
  have hp' := hp
  have hq' := hq
  obtain ⟨a1, c1, z1, r1, x1, rfl, _⟩ := hp
  obtain ⟨a2, c2, z2, r2, x2, rfl, _⟩ := hq
  refine contract_of Try.func72 rfl (by kernel_rfl) ?_
  simp only [Try.ntmps72, argEnv, frS]
  (repeat refine Sat.seq ?_)
  (refine Sat.region_k fun k hk => ?_; simp -implicitDefEqProofs only [evr, id, reduceCtorEq, reduceIte, Nat.reduceMul, Nat.reduceAdd, Nat.reduceLT, Nat.reduceLeDiff, Nat.reduceEqDiff, Int.reduceLT, Int.reduceBEq, Int.reduceBNe, Nat.reduceBEq, List.append_nil, Int.toNat_zero, Nat.sub_self, frS])
  intro blk1 blk2
  (refine hk _ ?_; clear hk k; try show Sat _ _ _ _ _)
  (repeat refine Sat.seq ?_)
  (refine Sat.region_k fun k hk => ?_; simp -implicitDefEqProofs only [evr, id, reduceCtorEq, reduceIte, Nat.reduceMul, Nat.reduceAdd, Nat.reduceLT, Nat.reduceLeDiff, Nat.reduceEqDiff, Int.reduceLT, Int.reduceBEq, Int.reduceBNe, Nat.reduceBEq, List.append_nil, Int.toNat_zero, Nat.sub_self, frS])
  refine wcall_plain (fractionValidC F neg hp' hq' b1 b2) (by simp -implicitDefEqProofs only [evr, id, reduceCtorEq, reduceIte, Nat.reduceMul, Nat.reduceAdd, Nat.reduceLT, Nat.reduceLeDiff, Nat.reduceEqDiff, Int.reduceLT, Int.reduceBEq, Int.reduceBNe, Nat.reduceBEq, List.append_nil, Int.toNat_zero, Nat.sub_self, frS]; try rfl) (by rintro _ rfl; exact ok_plain rfl) ?_
  rintro y rfl
  simp -implicitDefEqProofs only [evr, id, reduceCtorEq, reduceIte, Nat.reduceMul, Nat.reduceAdd, Nat.reduceLT, Nat.reduceLeDiff, Nat.reduceEqDiff, Int.reduceLT, Int.reduceBEq, Int.reduceBNe, Nat.reduceBEq, List.append_nil, Int.toNat_zero, Nat.sub_self, frS]
  (refine hk _ ?_; clear hk k; try show Sat _ _ _ _ _)
  refine Sat.cond_b rfl (fun h => ?_) (fun h => ?_)
  · have h0 : frOk neg p q = false := by simpa using h
    (repeat refine Sat.seq ?_)
    (refine Sat.region_k fun k hk => ?_; simp -implicitDefEqProofs only [evr, id, reduceCtorEq, reduceIte, Nat.reduceMul, Nat.reduceAdd, Nat.reduceLT, Nat.reduceLeDiff, Nat.reduceEqDiff, Int.reduceLT, Int.reduceBEq, Int.reduceBNe, Nat.reduceBEq, List.append_nil, Int.toNat_zero, Nat.sub_self, frS]; refine hk _ ?_; clear hk k; try show Sat _ _ _ _ _)
    refine Sat.ret ?_
    simp only [Try.results72, evr, id, reduceCtorEq, reduceIte, Nat.reduceMul, Nat.reduceAdd, Nat.reduceLT, Nat.reduceLeDiff, Nat.reduceEqDiff, Int.reduceLT, Int.reduceBEq, Int.reduceBNe, Nat.reduceBEq, List.append_nil, Int.toNat_zero, Nat.sub_self, frS]
    exact .inr ⟨h0, _, rfl, _, _, rfl, Nats.nil, Nats.nil⟩
  · have h0 : frOk neg p q = true := by simpa using h
    refine Sat.skip ?_
    simp only [thenK]
    (repeat refine Sat.seq ?_)
    (refine Sat.region_k fun k hk => ?_; simp -implicitDefEqProofs only [evr, id, reduceCtorEq, reduceIte, Nat.reduceMul, Nat.reduceAdd, Nat.reduceLT, Nat.reduceLeDiff, Nat.reduceEqDiff, Int.reduceLT, Int.reduceBEq, Int.reduceBNe, Nat.reduceBEq, List.append_nil, Int.toNat_zero, Nat.sub_self, frS]; refine hk _ ?_; clear hk k; try show Sat _ _ _ _ _)
    refine Sat.ret ?_
    simp only [Try.results72, evr, id, reduceCtorEq, reduceIte, Nat.reduceMul, Nat.reduceAdd, Nat.reduceLT, Nat.reduceLeDiff, Nat.reduceEqDiff, Int.reduceLT, Int.reduceBEq, Int.reduceBNe, Nat.reduceBEq, List.append_nil, Int.toNat_zero, Nat.sub_self, frS]
    exact .inl ⟨h0, _, rfl, _, _, rfl, hp', hq'⟩
def addG (na : Bool) (p q : Nat) (nb : Bool) (r s : Nat) : Nat := Nat.gcd (sumV na (p * s) nb (r * q)).2 (q * s)
def addP (na : Bool) (p q : Nat) (nb : Bool) (r s : Nat) : Nat := (sumV na (p * s) nb (r * q)).2 / addG na p q nb r s
def addQ (na : Bool) (p q : Nat) (nb : Bool) (r s : Nat) : Nat := q * s / addG na p q nb r s
def addN (na : Bool) (p q : Nat) (nb : Bool) (r s : Nat) : Bool := (sumV na (p * s) nb (r * q)).1 && decide (0 < addP na p q nb r s)
theorem sumV_le (na : Bool) (a : Nat) (nb : Bool) (b : Nat) : (sumV na a nb b).2 ≤ a + b := by
  unfold sumV
  split
  · exact Nat.le_refl _
  · split <;> simp <;> omega
set_option maxRecDepth 100000 in
theorem fractionAddC (F : Frm) (na nb : Bool) {sp sq sr ss : SV} {p q r s : Nat} (hp : Nats sp p) (hq : Nats sq q) (hr : Nats sr r) (hs : Nats ss s)
    (b1 : (p : Int) < pw 256) (b2 : (q : Int) < pw 256) (b3 : (r : Int) < pw 256) (b4 : (s : Int) < pw 256) (b5 : ((p * s : Nat) : Int) < pw 256) (b6 : ((r * q : Nat) : Int) < pw 256) (b7 : ((p * s + r * q : Nat) : Int) < pw 256) (b8 : ((q * s : Nat) : Int) < pw 256) (hq0 : 0 < q) (hs0 : 0 < s) :
    Contract F Try.prog 49 [frS na sp sq, frS nb sr ss]
      (fun x => (frOk (addN na p q nb r s) (addP na p q nb r s) (addQ na p q nb r s) = true ∧ ∃ f, x = tupL [f, .i .i64 0] ∧ FrS f (addN na p q nb r s) (addP na p q nb r s) (addQ na p q nb r s)) ∨ (frOk (addN na p q nb r s) (addP na p q nb r s) (addQ na p q nb r s) = false ∧ ∃ f, x = tupL [f, .i .i64 5] ∧ FrS f false 0 0)) := by
  have hp' := hp
  have hq' := hq
  have hr' := hr
  have hs' := hs
  have up : ∀ x : Nat, (x : Int) < pw 256 → (x : Int) < pw 512 := fun x hx => by have := pw_mono (show 256 ≤ 512 by omega); omega
  obtain ⟨a1, c1, z1, r1, x1, rfl, _⟩ := hp
  obtain ⟨a2, c2, z2, r2, x2, rfl, _⟩ := hq
  obtain ⟨a3, c3, z3, r3, x3, rfl, _⟩ := hr
  obtain ⟨a4, c4, z4, r4, x4, rfl, _⟩ := hs
  refine contract_of Try.func49 rfl (by kernel_rfl) ?_
  simp only [Try.ntmps49, argEnv, frS]
  (repeat refine Sat.seq ?_)
  (refine Sat.region_k fun k hk => ?_; simp -implicitDefEqProofs only [evr, id, reduceCtorEq, reduceIte, Nat.reduceMul, Nat.reduceAdd, Nat.reduceLT, Nat.reduceLeDiff, Nat.reduceEqDiff, Int.reduceLT, Int.reduceBEq, Int.reduceBNe, Nat.reduceBEq, List.append_nil, Int.toNat_zero, Nat.sub_self, frS])
  intro k1 k2 k3
  (refine hk _ ?_; clear hk k; try show Sat _ _ _ _ _)
  (repeat refine Sat.seq ?_)
  (refine Sat.region_rows [⟨0, 10, 4, 0⟩, ⟨1, 11, 512, 1⟩, ⟨0, 12, 4, 0⟩, ⟨4, 13, 2048, 1⟩, ⟨0, 14, 8, 0⟩, ⟨16, 15, 8192, 1⟩, ⟨40, 16, 20480, 2⟩, ⟨0, 17, 8, 0⟩, ⟨128, 18, 65536, 1⟩, ⟨0, 19, 8, 0⟩, ⟨512, 20, 262144, 1⟩, ⟨0, 21, 4, 0⟩, ⟨2048, 22, 1048576, 1⟩, ⟨5184, 23, 2621440, 2⟩, ⟨8514, 24, 4359168, 2⟩, ⟨16384, 9, 8388608, 0⟩, ⟨32768, 25, 256, 0⟩, ⟨32768, 26, 256, 0⟩, ⟨131071, 7, 16777216, 0⟩, ⟨524287, 8, 33554432, 0⟩] [0, 2, 4, 7, 9, 11, 1, 3, 5, 8, 10, 12] [(6, false), (13, false), (14, false), (15, false), (16, true), (17, true), (18, false), (19, false)] [6, 13] (by kernel_rfl) (by kernel_rfl) (fun _ _ h => h) fun k hk => ?_; simp only [List.map_cons, List.map_nil, List.getD_cons_zero, List.getD_cons_succ, btseq_cons, btseq_free, btseq_nil]; simp -implicitDefEqProofs only [evr, id, reduceCtorEq, reduceIte, Nat.reduceMul, Nat.reduceAdd, Nat.reduceLT, Nat.reduceLeDiff, Nat.reduceEqDiff, Int.reduceLT, Int.reduceBEq, Int.reduceBNe, Nat.reduceBEq, List.append_nil, Int.toNat_zero, Nat.sub_self, frS])
  refine wcall_slice (fractionProductC F hp' hs' b1 b4 b5) rfl (by simp -implicitDefEqProofs only [evr, id, reduceCtorEq, reduceIte, Nat.reduceMul, Nat.reduceAdd, Nat.reduceLT, Nat.reduceLeDiff, Nat.reduceEqDiff, Int.reduceLT, Int.reduceBEq, Int.reduceBNe, Nat.reduceBEq, List.append_nil, Int.toNat_zero, Nat.sub_self, frS]; try rfl) ?_
  intro y hy
  have hy1 := hy
  obtain ⟨a5, c5, z5, r5, x5, rfl, _⟩ := hy
  simp -implicitDefEqProofs only [evr, id, reduceCtorEq, reduceIte, Nat.reduceMul, Nat.reduceAdd, Nat.reduceLT, Nat.reduceLeDiff, Nat.reduceEqDiff, Int.reduceLT, Int.reduceBEq, Int.reduceBNe, Nat.reduceBEq, List.append_nil, Int.toNat_zero, Nat.sub_self, frS]
  refine wcall_slice (fractionProductC F hr' hq' b3 b2 b6) rfl (by simp -implicitDefEqProofs only [evr, id, reduceCtorEq, reduceIte, Nat.reduceMul, Nat.reduceAdd, Nat.reduceLT, Nat.reduceLeDiff, Nat.reduceEqDiff, Int.reduceLT, Int.reduceBEq, Int.reduceBNe, Nat.reduceBEq, List.append_nil, Int.toNat_zero, Nat.sub_self, frS]; try rfl) ?_
  intro y hy
  have hy2 := hy
  obtain ⟨a6, c6, z6, r6, x6, rfl, _⟩ := hy
  simp -implicitDefEqProofs only [evr, id, reduceCtorEq, reduceIte, Nat.reduceMul, Nat.reduceAdd, Nat.reduceLT, Nat.reduceLeDiff, Nat.reduceEqDiff, Int.reduceLT, Int.reduceBEq, Int.reduceBNe, Nat.reduceBEq, List.append_nil, Int.toNat_zero, Nat.sub_self, frS]
  refine wcall_slice (fractionSumC F na nb hy1 hy2 b5 b6 b7) rfl (by simp -implicitDefEqProofs only [evr, id, reduceCtorEq, reduceIte, Nat.reduceMul, Nat.reduceAdd, Nat.reduceLT, Nat.reduceLeDiff, Nat.reduceEqDiff, Int.reduceLT, Int.reduceBEq, Int.reduceBNe, Nat.reduceBEq, List.append_nil, Int.toNat_zero, Nat.sub_self, frS]; try rfl) ?_
  rintro y ⟨sv, rfl, hy⟩
  have hy3 := hy
  obtain ⟨a7, c7, z7, r7, x7, rfl, _⟩ := hy
  simp -implicitDefEqProofs only [evr, id, reduceCtorEq, reduceIte, Nat.reduceMul, Nat.reduceAdd, Nat.reduceLT, Nat.reduceLeDiff, Nat.reduceEqDiff, Int.reduceLT, Int.reduceBEq, Int.reduceBNe, Nat.reduceBEq, List.append_nil, Int.toNat_zero, Nat.sub_self, frS]
  (refine hk _ ?_; clear hk k; try show Sat _ _ _ _ _)
  have bs : (((sumV na (p * s) nb (r * q)).2 : Nat) : Int) < pw 256 := by have := sumV_le na (p * s) nb (r * q); omega
  have bP : ((addP na p q nb r s : Nat) : Int) < pw 512 := up _ (by have : addP na p q nb r s ≤ (sumV na (p * s) nb (r * q)).2 := Nat.div_le_self _ _; omega)
  have bQ : ((addQ na p q nb r s : Nat) : Int) < pw 512 := up _ (by have : addQ na p q nb r s ≤ q * s := Nat.div_le_self _ _; omega)
  (repeat refine Sat.seq ?_)
  (refine Sat.region_k fun k hk => ?_; simp -implicitDefEqProofs only [evr, id, reduceCtorEq, reduceIte, Nat.reduceMul, Nat.reduceAdd, Nat.reduceLT, Nat.reduceLeDiff, Nat.reduceEqDiff, Int.reduceLT, Int.reduceBEq, Int.reduceBNe, Nat.reduceBEq, List.append_nil, Int.toNat_zero, Nat.sub_self, frS])
  refine wcall_slice (fractionProductC F hq' hs' b2 b4 b8) rfl (by simp -implicitDefEqProofs only [evr, id, reduceCtorEq, reduceIte, Nat.reduceMul, Nat.reduceAdd, Nat.reduceLT, Nat.reduceLeDiff, Nat.reduceEqDiff, Int.reduceLT, Int.reduceBEq, Int.reduceBNe, Nat.reduceBEq, List.append_nil, Int.toNat_zero, Nat.sub_self, frS]; try rfl) ?_
  intro y hy
  have hy4 := hy
  obtain ⟨a8, c8, z8, r8, x8, rfl, _⟩ := hy
  simp -implicitDefEqProofs only [evr, id, reduceCtorEq, reduceIte, Nat.reduceMul, Nat.reduceAdd, Nat.reduceLT, Nat.reduceLeDiff, Nat.reduceEqDiff, Int.reduceLT, Int.reduceBEq, Int.reduceBNe, Nat.reduceBEq, List.append_nil, Int.toNat_zero, Nat.sub_self, frS]
  refine wcall_slice (fractionReducedC F _ hy3 hy4 bs b8 (Nat.mul_pos hq0 hs0)) rfl (by simp -implicitDefEqProofs only [evr, id, reduceCtorEq, reduceIte, Nat.reduceMul, Nat.reduceAdd, Nat.reduceLT, Nat.reduceLeDiff, Nat.reduceEqDiff, Int.reduceLT, Int.reduceBEq, Int.reduceBNe, Nat.reduceBEq, List.append_nil, Int.toNat_zero, Nat.sub_self, frS]; try rfl) ?_
  rintro y ⟨sp3, sq3, rfl, h3, h4⟩
  have h3' : Nats sp3 (addP na p q nb r s) := h3
  have h4' : Nats sq3 (addQ na p q nb r s) := h4
  have h3b := h3'
  have h4b := h4'
  clear h3 h4
  obtain ⟨a9, c9, z9, r9, x9, rfl, _⟩ := h3b
  obtain ⟨a10, c10, z10, r10, x10, rfl, _⟩ := h4b
  simp only [frS, evr, id, reduceCtorEq, reduceIte, Nat.reduceMul, Nat.reduceAdd, Nat.reduceLT, Nat.reduceLeDiff, Nat.reduceEqDiff, Int.reduceLT, Int.reduceBEq, Int.reduceBNe, Nat.reduceBEq, List.append_nil, Int.toNat_zero, Nat.sub_self, frS]
  refine wcall_slice (checkedC F (addN na p q nb r s) h3' h4' bP bQ) rfl (by simp -implicitDefEqProofs only [evr, id, reduceCtorEq, reduceIte, Nat.reduceMul, Nat.reduceAdd, Nat.reduceLT, Nat.reduceLeDiff, Nat.reduceEqDiff, Int.reduceLT, Int.reduceBEq, Int.reduceBNe, Nat.reduceBEq, List.append_nil, Int.toNat_zero, Nat.sub_self, frS]; try rfl) ?_
  rintro y (⟨hok, f, rfl, sp5, sq5, rfl, h5, h6⟩ | ⟨hok, f, rfl, sp5, sq5, rfl, h5, h6⟩)
  · have h5' := h5
    have h6' := h6
    obtain ⟨a11, c11, z11, r11, x11, rfl, _⟩ := h5
    obtain ⟨a12, c12, z12, r12, x12, rfl, _⟩ := h6
    simp only [frS, evr, id, reduceCtorEq, reduceIte, Nat.reduceMul, Nat.reduceAdd, Nat.reduceLT, Nat.reduceLeDiff, Nat.reduceEqDiff, Int.reduceLT, Int.reduceBEq, Int.reduceBNe, Nat.reduceBEq, List.append_nil, Int.toNat_zero, Nat.sub_self, frS]
    (refine hk _ ?_; clear hk k; try show Sat _ _ _ _ _)
    refine Sat.ret ?_
    simp only [Try.results49, evr, id, reduceCtorEq, reduceIte, Nat.reduceMul, Nat.reduceAdd, Nat.reduceLT, Nat.reduceLeDiff, Nat.reduceEqDiff, Int.reduceLT, Int.reduceBEq, Int.reduceBNe, Nat.reduceBEq, List.append_nil, Int.toNat_zero, Nat.sub_self, frS]
    exact .inl ⟨hok, _, rfl, _, _, rfl, h5', h6'⟩
  · have h5' := h5
    have h6' := h6
    obtain ⟨a11, c11, z11, r11, x11, rfl, _⟩ := h5
    obtain ⟨a12, c12, z12, r12, x12, rfl, _⟩ := h6
    simp only [frS, evr, id, reduceCtorEq, reduceIte, Nat.reduceMul, Nat.reduceAdd, Nat.reduceLT, Nat.reduceLeDiff, Nat.reduceEqDiff, Int.reduceLT, Int.reduceBEq, Int.reduceBNe, Nat.reduceBEq, List.append_nil, Int.toNat_zero, Nat.sub_self, frS]
    (refine hk _ ?_; clear hk k; try show Sat _ _ _ _ _)
    refine Sat.ret ?_
    simp only [Try.results49, evr, id, reduceCtorEq, reduceIte, Nat.reduceMul, Nat.reduceAdd, Nat.reduceLT, Nat.reduceLeDiff, Nat.reduceEqDiff, Int.reduceLT, Int.reduceBEq, Int.reduceBNe, Nat.reduceBEq, List.append_nil, Int.toNat_zero, Nat.sub_self, frS]
    exact .inr ⟨hok, _, rfl, _, _, rfl, h5', h6'⟩
end Go.Proofs.Ytagmohpafjncfaa

/- How a slice of integers reads in memory: 'Rd', and a row of integers of the call's own: 'Own'. -/
namespace Go.Proofs.Ytagmohpafjncfaa
open Go.RowKit
def Rd (k : IntKind) (w : World) (v : Value) (xs : List Int) : Prop :=
  ∃ ad cap, v = .slice ad xs.length cap ∧ xs.length ≤ cap ∧ cap ≤ maxLen ∧
    (xs.length = 0 ∨ ∃ b off, ad = some ⟨b, off, none⟩ ∧ b < w.heap.size ∧ ∀ i, i < xs.length → w.cell? ⟨b, off + i, none⟩ = some (.int k (xs.getD i 0)))
theorem Rd.nil (k : IntKind) (w : World) : Rd k w (.slice none 0 0) [] := ⟨none, 0, rfl, by simp, by simp [maxLen], .inl rfl⟩
theorem Rd.below {k : IntKind} {w w' : World} {v : Value} {xs : List Int} (h : Rd k w v xs) (hb : Below w.heap.size w w') : Rd k w' v xs := by
  obtain ⟨ad, cap, rfl, h1, h2, h3⟩ := h
  refine ⟨ad, cap, rfl, h1, h2, ?_⟩
  rcases h3 with h3 | ⟨b, off, rfl, hlt, hc⟩
  · exact .inl h3
  · exact .inr ⟨b, off, rfl, Nat.lt_of_lt_of_le hlt hb.size, fun i hi => (hb.cell (p := ⟨b, off + i, none⟩) hlt).trans (hc i hi)⟩
theorem Rd.take {k : IntKind} {w : World} {ad : Option Addr} {cap : Nat} {xs : List Int} (h : Rd k w (.slice ad xs.length cap) xs) (n : Nat) (hn : n ≤ xs.length) : Rd k w (.slice ad n cap) (xs.take n) := by
  obtain ⟨ad', cap', e, h1, h2, h3⟩ := h
  simp only [Value.slice.injEq] at e
  obtain ⟨rfl, _, rfl⟩ := e
  have hl : (xs.take n).length = n := by simp; omega
  refine ⟨ad, cap, by rw [hl], by omega, h2, ?_⟩
  rw [hl]
  rcases h3 with h3 | ⟨b, off, rfl, hlt, hc⟩
  · exact .inl (by omega)
  · refine .inr ⟨b, off, rfl, hlt, fun i hi => ?_⟩
    rw [hc i (by omega)]
    simp [List.getD, hi]
theorem rd_of_ints {k : IntKind} {w : World} {x : Addr} {l c : Nat} {zs : List Int} (hl : l ≤ c) (hm : c ≤ maxLen) (hz : zs.length = c) (hcell : ∀ i, i < zs.length → w.cell? (x.add i) = some (.int k (zs.getD i 0))) : Rd k w (.slice (some x) l c) (zs.take l) := by
  have hlen : (zs.take l).length = l := by simp; omega
  refine ⟨some x, c, by rw [hlen], by omega, hm, ?_⟩
  by_cases h0 : l = 0
  · exact .inl (by omega)
  · obtain ⟨b, off, spot⟩ := x
    have hc := hcell 0 (by omega)
    have hspot : spot = none := by simpa [Addr.add] using World.cell?_spot hc
    subst hspot
    refine .inr ⟨b, off, rfl, World.block_lt_of_cell? w _ hc, fun i hi => ?_⟩
    rw [hlen] at hi
    have := hcell i (by omega)
    rw [Addr.add_lit] at this
    rw [this]
    simp [List.getD, hi]
def Own (k : IntKind) (e : TypeId) (B : Nat) (w : World) (g n : Nat) (xs : List Int) : Prop :=
  w.ownsRow B e 1 (.slice (some ⟨g, 0, none⟩) n n) n (xs.map (Value.int k))
section
variable {k : IntKind} {e : TypeId} {B : Nat} {w : World} {g n : Nat} {xs : List Int}
theorem Own.len (h : Own k e B w g n xs) : xs.length = n := by have := h.1; simpa using this
theorem Own.lt (h : Own k e B w g n xs) : B ≤ g ∧ g < w.heap.size := World.ownsRow.lt h g rfl
theorem Own.cell (h : Own k e B w g n xs) (i : Nat) (hi : i < n) : w.cell? ⟨g, i, none⟩ = some (.int k (xs.getD i 0)) := by
  have hl := h.len
  rw [World.ownsRow.cellAt h i (by omega)]
  simp [List.getD, show i < xs.length by omega]
theorem Own.frozen (h : Own k e B w g n xs) (i : Nat) : w.frozen? ⟨g, i, none⟩ = false := World.ownsRow.frozenAt h i
theorem Own.store (h : Own k e B w g n xs) (i : Nat) (v : Int) : Own k e B (w.setCell ⟨g, i, none⟩ (.int k v)) g n (xs.set i v) := by
  have := (World.ownsRow.stored h i (.int k v)).1
  unfold Own
  rwa [List.map_set]
theorem Own.below {w' : World} (h : Own k e B w g n xs) (hb : Below w.heap.size w w') : Own k e B w' g n xs :=
  World.ownsRow.kept h ⟨hb.os, hb.tape, hb.output, hb.size, fun i hi _ => hb.block i hi⟩ (row := none) (.inr (by simp [Value.ownBlock]))
theorem Own.cap (h : Own k e B w g n xs) : n ≤ maxLen := by
  rcases h.2 with ⟨h, _⟩ | ⟨_, cap, _, h, _, _, hn, hc, _⟩
  · cases h
  · simp only [Value.slice.injEq] at h; omega
theorem Own.rd (h : Own k e B w g n xs) : Rd k w (.slice (some ⟨g, 0, none⟩) n n) xs := by
  have hl := h.len
  refine ⟨some ⟨g, 0, none⟩, n, by rw [hl], by omega, h.cap, ?_⟩
  by_cases h0 : n = 0
  · exact .inl (by omega)
  · exact .inr ⟨g, 0, rfl, h.lt.2, fun i hi => by rw [Nat.zero_add]; exact h.cell i (by omega)⟩
end
theorem bcell {W w1 : World} (hb : Below W.heap.size W w1) : (∀ b o, b < W.heap.size → w1.cell? ⟨b, o, none⟩ = W.cell? ⟨b, o, none⟩) ∧ (∀ b o, b < W.heap.size → w1.frozen? ⟨b, o, none⟩ = W.frozen? ⟨b, o, none⟩) :=
  ⟨fun b o h => hb.cell (p := ⟨b, o, none⟩) h, fun b o h => hb.frozen (p := ⟨b, o, none⟩) h⟩
theorem Below.drewN' (w : World) (n : Nat) : Below w.heap.size w (w.drewN n) := ⟨rfl, rfl, rfl, Nat.le_refl _, fun _ _ => rfl⟩
theorem ret_int {k : IntKind} {a b : Int} (h : a = b) : Ending.returned (.int k a) = .returned (.int k b) := by rw [h]
/-! bits at int -/
theorem ofInt_i64 (a : Nat) (ha : a < 9223372036854775808) : (BitVec.ofInt 64 (a : Int)).toNat = a := by
  rw [BitVec.ofInt_natCast, BitVec.toNat_ofNat]; exact Nat.mod_eq_of_lt (by omega)
theorem and_limb (n : Int) : bits .and .i64 n 1073741823 = n % 1073741824 := by
  show IntKind.i64.wrap ((BitVec.ofInt 64 n &&& BitVec.ofInt 64 1073741823).toNat : Int) = _
  have e : (BitVec.ofInt 64 n &&& BitVec.ofInt 64 1073741823).toNat = (n % 18446744073709551616).toNat % 1073741824 := by
    rw [BitVec.toNat_and, BitVec.toNat_ofInt]
    exact Nat.and_two_pow_sub_one_eq_mod _ 30
  rw [e, IntKind.wrap_i64]
  omega
theorem or_limb (a b : Int) (ha : 0 ≤ a) (ha' : a < 8589934592) (hb : 0 ≤ b) (hb' : b < 1073741824) : bits .or .i64 (a * 1073741824) b = a * 1073741824 + b := by
  obtain ⟨x, rfl⟩ := Int.eq_ofNat_of_zero_le ha
  obtain ⟨y, rfl⟩ := Int.eq_ofNat_of_zero_le hb
  show IntKind.i64.wrap ((BitVec.ofInt 64 ((x : Int) * 1073741824) ||| BitVec.ofInt 64 (y : Int)).toNat : Int) = _
  have e1 : ((x : Int) * 1073741824) = ((x * 1073741824 : Nat) : Int) := by simp
  rw [e1, BitVec.toNat_or, ofInt_i64 _ (by omega), ofInt_i64 _ (by omega)]
  have e2 : x * 1073741824 ||| y = x * 1073741824 + y := nat_join 30 _ _ (by omega) (by omega)
  rw [e2, IntKind.wrap_i64]
  omega
end Go.Proofs.Ytagmohpafjncfaa

/- routescopedraw.Codes: New makes choices; Next gives a number in its range, whatever the codes are. -/
namespace Go.Proofs.Ytagmohpafjncfaa
open Go.RowKit
def Codes (cb : Nat) (w : World) : Prop :=
  ∃ (ad : Option Addr) (n cap p : Nat), w.heap[cb]? = some (.cells #[.slice ad n cap, .int .i64 (p : Int)] 54 (0, 0)) ∧ n ≤ maxLen ∧ p ≤ n ∧
    (n = 0 ∨ ∃ b off, ad = some ⟨b, off, none⟩ ∧ b < cb ∧ ∀ i, i < n → ∃ x : Int, 0 ≤ x ∧ x < 256 ∧ w.cell? ⟨b, off + i, none⟩ = some (.int .u8 x))
theorem Codes.lt {cb : Nat} {w : World} (h : Codes cb w) : cb < w.heap.size := by
  obtain ⟨_, _, _, _, h, _⟩ := h
  exact (Array.getElem?_eq_some_iff.1 h).1
theorem Codes.kept {cb : Nat} {w w' : World} (h : Codes cb w) (hb : ∀ k, k ≤ cb → w'.heap[k]? = w.heap[k]?) : Codes cb w' := by
  obtain ⟨ad, n, cap, p, h1, h2, h3, h4⟩ := h
  refine ⟨ad, n, cap, p, (hb cb (Nat.le_refl _)).trans h1, h2, h3, ?_⟩
  rcases h4 with h4 | ⟨b, off, h5, h6, h8⟩
  · exact .inl h4
  · exact .inr ⟨b, off, h5, h6, fun i hi => let ⟨x, x0, x1, hx⟩ := h8 i hi; ⟨x, x0, x1, (World.cell?_of_block (w := w) (a := ⟨b, off + i, none⟩) (hb b (Nat.le_of_lt h6))).trans hx⟩⟩
theorem Codes.below {cb : Nat} {w w' : World} (h : Codes cb w) (hb : Below w.heap.size w w') : Codes cb w' :=
  h.kept fun k hk => hb.block k (Nat.lt_of_le_of_lt hk h.lt)
theorem Codes.grown {cb : Nat} {w w' : World} {row : Option Nat} (h : Codes cb w) (hg : w.grownBy w' row) (hr : ∀ k, row = some k → cb < k) : Codes cb w' :=
  h.kept fun k hk => hg.block k (Nat.lt_of_le_of_lt hk h.lt) fun e => by have := hr k e.symm; omega
theorem grown_trans {a b c : World} {row : Option Nat} (h : a.grownBy b row) (k : b.grownBy c row) : a.grownBy c row :=
  ⟨k.os.trans h.os, k.tape.trans h.tape, k.output.trans h.output, Nat.le_trans h.size k.size, fun i hi hne => (k.block i (Nat.lt_of_lt_of_le hi h.size) hne).trans (h.block i hi hne)⟩
theorem grown_of_below {a b : World} (h : Below a.heap.size a b) (row : Option Nat) : a.grownBy b row := ⟨h.os, h.tape, h.output, h.size, fun i hi _ => h.block i hi⟩
theorem grown_own {a b c : World} {row row' : Option Nat} (h : a.grownBy b row) (k : b.grownBy c row') (hr : ∀ i, row' = some i → a.heap.size ≤ i) : a.grownBy c row :=
  ⟨k.os.trans h.os, k.tape.trans h.tape, k.output.trans h.output, Nat.le_trans h.size k.size, fun i hi hne => (k.block i (Nat.lt_of_lt_of_le hi h.size) (fun e => by have := hr i e.symm; omega)).trans (h.block i hi hne)⟩
theorem grown_alloc {a b : World} {row : Option Nat} (h : a.grownBy b row) (o : Obj) : a.grownBy (b.alloc o) row := grown_trans h (World.grownBy_alloc b o row)
theorem own_kept {w w' : World} {B cb : Nat} {e : TypeId} {size : Nat} {v : Value} {n : Nat} {xs : List Value} (h : w.ownsRow B e size v n xs) (hg : w.grownBy w' (some cb)) (hcb : cb < B) : w'.ownsRow B e size v n xs := by
  refine h.kept hg ?_
  cases hv : v.ownBlock with
  | none => exact .inl rfl
  | some k => have := (h.lt k hv).1; exact .inr (fun e => by injection e; omega)
theorem grown_drewN {a b : World} {row : Option Nat} (h : a.grownBy b row) (n : Nat) : a.grownBy (b.drewN n) row := ⟨h.os, h.tape, h.output, h.size, h.block⟩
theorem grown_setCell (w : World) (cb o : Nat) (u : Value) : w.grownBy (w.setCell ⟨cb, o, none⟩ u) (some cb) :=
  ⟨rfl, rfl, rfl, by simp [World.setCell], fun i _ hne => Below.heap_setCell w ⟨cb, o, none⟩ u i (fun e => hne (by rw [e]))⟩
theorem Codes.advance {cb : Nat} {w : World} {ad : Option Addr} {n cap p : Nat} (h1 : w.heap[cb]? = some (.cells #[.slice ad n cap, .int .i64 (p : Int)] 54 (0, 0))) (h2 : n ≤ maxLen) (hp : p < n)
    (h4 : n = 0 ∨ ∃ b off, ad = some ⟨b, off, none⟩ ∧ b < cb ∧ ∀ i, i < n → ∃ x : Int, 0 ≤ x ∧ x < 256 ∧ w.cell? ⟨b, off + i, none⟩ = some (.int .u8 x)) :
    Codes cb (w.setCell ⟨cb, 1, none⟩ (.int .i64 ((p : Int) + 1))) := by
  refine ⟨ad, n, cap, p + 1, ?_, h2, hp, ?_⟩
  · rw [heap_setCell_same w cb 1 _ _ _ h1]; simp
  · rcases h4 with h4 | ⟨b, off, h5, h6, h8⟩
    · exact .inl h4
    · refine .inr ⟨b, off, h5, h6, fun i hi => ?_⟩
      obtain ⟨x, x0, x1, hx⟩ := h8 i hi
      refine ⟨x, x0, x1, ?_⟩
      rw [← hx]
      exact World.cell?_of_block (w := w) (Below.heap_setCell w ⟨cb, 1, none⟩ _ b (Nat.ne_of_lt h6))
def RetNext (cb : Nat) (n : Int) (w : World) (e : Ending) (w' : World) : Prop :=
  ∃ r : Int, e = .returned (.int .i64 r) ∧ 0 ≤ r ∧ (r < n ∨ r = 0) ∧ Codes cb w' ∧ w.grownBy w' (some cb)
set_option maxHeartbeats 1000000 in
theorem next_small (cb : Nat) (n : Int) (w : World) (h : Codes cb w) (hn : n ≤ 256) (hn0 : -9223372036854775808 ≤ n) :
    Calls Try.prog 10 #[.pointer (some ⟨cb, 0, none⟩), .int .i64 n] w (RetNext cb n w) := by
  have hcodes := Lib.hid h
  obtain ⟨ad, l, cap, p, h1, h2, h3, h4⟩ := h
  have h4 := Lib.hid h4
  have c0 : w.cell? ⟨cb, 0, none⟩ = some (.slice ad l cap) := by rw [cell_of_row w cb 0 _ _ _ h1]; rfl
  have c1 : w.cell? ⟨cb, 1, none⟩ = some (.int .i64 (p : Int)) := by rw [cell_of_row w cb 1 _ _ _ h1]; rfl
  have f1 : w.frozen? ⟨cb, 1, none⟩ = false := frozen_of_row w cb 1 _ _ h1
  have H1 := Lib.hid h1
  clear h1
  unfold maxLen at h2
  by_cases hp : l ≤ p
  · have hd : decide (l ≤ p) = true := by simpa using hp
    go_enter Try.func10, Try.ntmps10
    go_wp2
    go_quiet (fail)
    go_wp2
    go_ret
    exact ⟨0, rfl, by omega, .inr rfl, hcodes.out.below (Below.drewN' _ _), grown_of_below (Below.drewN' _ _) _⟩
  · have hd : decide (l ≤ p) = false := by simpa using hp
    by_cases hn1 : n < 1
    · go_enter Try.func10, Try.ntmps10
      go_wp2
      go_quiet (fail)
      go_wp2
      go_ret
      exact ⟨0, rfl, by omega, .inr rfl, hcodes.out.below (Below.drewN' _ _), grown_of_below (Below.drewN' _ _) _⟩
    · have hd1 : decide (n < 1) = false := by simpa using hn1
      obtain ⟨b, off, rfl, hlt, hc⟩ : ∃ b off, ad = some ⟨b, off, none⟩ ∧ b < cb ∧ ∀ i, i < l → ∃ x : Int, 0 ≤ x ∧ x < 256 ∧ w.cell? ⟨b, off + i, none⟩ = some (.int .u8 x) := by
        rcases h4.out with h | h
        · omega
        · exact h
      obtain ⟨x, x0, x1, hx⟩ := hc p (by omega)
      clear hc
      go_enter Try.func10, Try.ntmps10
      go_wp2
      go_quiet (fail)
      go_wp2
      go_quiet (fail)
      go_wp2
      go_ret
      exact ⟨_, rfl, Int.emod_nonneg _ (by omega), .inl (Int.emod_lt_of_pos _ (by omega)), (Codes.advance H1.out (by unfold maxLen; exact h2) (by omega) h4.out).below (Below.drewN' _ _), grown_drewN (grown_setCell _ _ _ _) _⟩
set_option maxHeartbeats 1000000 in
theorem next_calls (cb : Nat) (n : Int) (w : World) (h : Codes cb w) (hn0 : -9223372036854775808 ≤ n) (hn2 : n ≤ 9223372036854775807) :
    Calls Try.prog 10 #[.pointer (some ⟨cb, 0, none⟩), .int .i64 n] w (RetNext cb n w) := by
  by_cases hn : n ≤ 256
  · exact next_small cb n w h hn hn0
  have hcodes := Lib.hid h
  obtain ⟨ad, l, cap, p, h1, h2, h3, h4⟩ := h
  have h4 := Lib.hid h4
  have c0 : w.cell? ⟨cb, 0, none⟩ = some (.slice ad l cap) := by rw [cell_of_row w cb 0 _ _ _ h1]; rfl
  have c1 : w.cell? ⟨cb, 1, none⟩ = some (.int .i64 (p : Int)) := by rw [cell_of_row w cb 1 _ _ _ h1]; rfl
  have f1 : w.frozen? ⟨cb, 1, none⟩ = false := frozen_of_row w cb 1 _ _ h1
  have H1 := Lib.hid h1
  clear h1
  unfold maxLen at h2
  by_cases hp : l ≤ p
  · have hd : decide (l ≤ p) = true := by simpa using hp
    go_enter Try.func10, Try.ntmps10
    go_wp2
    go_quiet (fail)
    go_wp2
    go_ret
    exact ⟨0, rfl, by omega, .inr rfl, hcodes.out.below (Below.drewN' _ _), grown_of_below (Below.drewN' _ _) _⟩
  · have hd : decide (l ≤ p) = false := by simpa using hp
    have hd1 : decide (n < 1) = false := by simp; omega
    obtain ⟨b, off, rfl, hlt, hc⟩ : ∃ b off, ad = some ⟨b, off, none⟩ ∧ b < cb ∧ ∀ i, i < l → ∃ x : Int, 0 ≤ x ∧ x < 256 ∧ w.cell? ⟨b, off + i, none⟩ = some (.int .u8 x) := by
      rcases h4.out with h | h
      · omega
      · exact h
    obtain ⟨x, x0, x1, hx⟩ := hc p (by omega)
    clear hc
    go_enter Try.func10, Try.ntmps10
    go_wp2
    go_quiet (fail)
    go_wp2
    go_quiet (fail)
    go_wp2_with fail
    refine (next_small cb 256 _ ((Codes.advance H1.out (by unfold maxLen; exact h2) (by omega) h4.out).below (Below.drewN' _ _)) (by omega) (by omega)).mono ?_
    rintro e w' ⟨r, rfl, hr0, hr1, hc', hg⟩
    have hr2 : r < 256 := by omega
    clear hr1
    have hg' := grown_trans (grown_drewN (grown_setCell _ _ _ _) _) hg
    clear hg
    go_wp2
    go_ret
    exact ⟨_, rfl, Int.emod_nonneg _ (by omega), .inl (Int.emod_lt_of_pos _ (by omega)), hc', hg'⟩
set_option maxHeartbeats 1000000 in
theorem new_calls (a : Value) (z : List Int) (w : World) (most : Nat) (h : Rd .u8 w a z) (hz : ∀ n ∈ z, (Lit.int .u8 n).wf = true) (hm : most ≤ 65536) :
    Calls Try.prog 9 #[a, .int .i64 (most : Int)] w fun e w' => e = .returned (.pointer (some ⟨w.heap.size, 0, none⟩)) ∧ Codes w.heap.size w' ∧ Below w.heap.size w w' := by
  obtain ⟨ad, cap, rfl, h1, h2, h3⟩ := h
  have codes : ∀ n, n ≤ z.length → Codes w.heap.size (w.alloc (.cells #[.slice ad n cap, .int .i64 0] 54)) := by
    intro n hn
    refine ⟨ad, n, cap, 0, heap_alloc_new w _, by omega, Nat.zero_le _, ?_⟩
    rcases h3 with h3 | ⟨b, off, rfl, hlt, hc⟩
    · exact .inl (by omega)
    · refine .inr ⟨b, off, rfl, hlt, fun i hi => ⟨z.getD i 0, ?_, ?_, ?_⟩⟩
      · have := bounds_u8 (hz (z.getD i 0) (by simp [List.getD, show i < z.length by omega])); omega
      · have := bounds_u8 (hz (z.getD i 0) (by simp [List.getD, show i < z.length by omega])); omega
      · rw [← hc i (by omega)]
        exact World.cell?_of_block (w := w) (Below.heap_alloc w _ b hlt)
  have bel : ∀ o, Below w.heap.size w (w.alloc o) := fun o => (Below.refl _ _).alloc (Nat.le_refl _) _
  have CD := Lib.hid codes
  have BL := Lib.hid bel
  clear codes bel hz h3
  unfold maxLen at h2
  by_cases hl : (most : Nat) < z.length
  · go_enter Try.func9, Try.ntmps9
    go_wp2
    go_ret
    exact ⟨rfl, CD.out most (by omega), BL.out _⟩
  · go_enter Try.func9, Try.ntmps9
    go_wp2
    go_ret
    exact ⟨rfl, CD.out z.length (by omega), BL.out _⟩
end Go.Proofs.Ytagmohpafjncfaa

/- Choices, for the evaluator: Next as a contract, New as what makes them. -/
set_option linter.unusedSimpArgs false
set_option linter.unusedVariables false
namespace Go.Proofs.Ytagmohpafjncfaa
open Go.RowKit Eng
def Frm.codes (cb : Nat) : Frm := ⟨fun b => b = cb, fun b => b = cb, Codes cb, fun _ h => h, fun w b h e => by subst e; exact h.lt, fun w w' B h hB hw => h.kept fun k hk => hw k (Nat.lt_of_le_of_lt hk (hB cb rfl))⟩
def ptr (cb : Nat) : SV := .v (.pointer (some ⟨cb, 0, none⟩))
theorem enters_of {P : Program} {f : FuncId} {fn : Func} {c : Code} (hf : P.funcs[f]? = some fn) (hb : fn.body = some c) (hname : (fn.name == "runtime.NumGoroutine") = false) : ∀ vs w, (callFunc f vs).run P w = .ok (.enter f vs) w := by
  intro vs w
  have hn : ¬ fn.name = "runtime.NumGoroutine" := by simpa using hname
  simp [callFunc, hf, hn, hb]
theorem nextC (cb : Nat) (n : Int) (h1 : -9223372036854775808 ≤ n) (h2 : n ≤ 9223372036854775807) : Contract (Frm.codes cb) Try.prog 10 [ptr cb, .i .i64 n] (fun r => ∃ x : Int, r = .i .i64 x ∧ 0 ≤ x ∧ (x < n ∨ x = 0)) := by
  refine ⟨enters_of Try.func10 rfl (by kernel_rfl), fun R w hinv _ hR => ?_⟩
  refine (next_calls cb n w hinv h1 h2).mono ?_
  rintro e w' ⟨r, rfl, hr0, hr1, hc, hg⟩
  exact ⟨.i .i64 r, rfl, ⟨r, rfl, hr0, hr1⟩, trivial, ⟨hg.os, hg.tape, hg.output, hg.size, fun b hb hm => hg.block b hb (fun e => hm (show b = cb by simpa using e))⟩, hc⟩
def isBytes (s : SV) : Prop := ∃ a len cap rd, s = .sl a len cap 1 rd ∧ ∀ i, i < len → ∃ x : Int, 0 ≤ x ∧ x < 256 ∧ rd i 0 = .i .u8 x
theorem new_made (a : Option Addr) (len cap : Nat) (w : World) (most : Nat) (h1 : len ≤ cap) (h2 : cap ≤ maxLen) (hm : most ≤ 65536) :
    Calls Try.prog 9 #[.slice a len cap, .int .i64 (most : Int)] w fun e w' => e = .returned (.pointer (some ⟨w.heap.size, 0, none⟩)) ∧ ∃ n, n ≤ len ∧ w' = w.alloc (.cells #[.slice a n cap, .int .i64 0] 54) := by
  unfold maxLen at h2
  by_cases hl : (most : Nat) < len
  · go_enter Try.func9, Try.ntmps9
    go_wp2
    go_ret
    exact ⟨rfl, most, by omega, rfl⟩
  · go_enter Try.func9, Try.ntmps9
    go_wp2
    go_ret
    exact ⟨rfl, len, by omega, rfl⟩
theorem newRC (s : SV) (hs : isBytes s) (most : Nat) (hm : most ≤ 65536) : Makes Try.prog 9 [s, .i .i64 most] (fun cb w => Codes cb w) := by
  obtain ⟨a, len, cap, rd, rfl, hb⟩ := hs
  refine ⟨enters_of Try.func9 rfl (by kernel_rfl), fun R w hargs hR => ?_⟩
  obtain ⟨h1, h2, h3⟩ := hargs _ (List.mem_cons_self ..)
  refine (new_made a len cap w most h1 h2 hm).mono ?_
  rintro e w' ⟨rfl, n, hn, rfl⟩
  refine ⟨rfl, by simp, ⟨rfl, rfl, rfl, by simp, fun b hb _ => heap_alloc_old w _ hb⟩, fun w'' hw'' => ?_⟩
  refine ⟨a, n, cap, 0, (hw'' _ (.inr rfl)).trans (heap_alloc_new w _), by omega, Nat.zero_le _, ?_⟩
  rcases h3 with h3 | ⟨blk, off, rfl, hr, hc⟩
  · exact .inl (by omega)
  · have hlt := hR blk hr
    refine .inr ⟨blk, off, rfl, hlt, fun i hi => ?_⟩
    obtain ⟨x, hx0, hx1, hx⟩ := hb i (by omega)
    have h := (hc i 0 (by omega) (by omega)).1
    rw [hx, Nat.mul_one] at h
    exact ⟨x, hx0, hx1, by rw [World.cell?_of_block (w := w) (a := ⟨blk, off + i, none⟩) ((hw'' blk (.inl hr)).trans (heap_alloc_old w _ hlt))]; exact h⟩
end Go.Proofs.Ytagmohpafjncfaa

/- Choices as a variable of the call's own: New makes it, Next and Left turn it; what they give is known exactly. -/
set_option linter.unusedSimpArgs false
set_option linter.unusedVariables false
namespace Go.Proofs.Ytagmohpafjncfaa
open Go.RowKit Eng
namespace Eng
section
variable {P : Program} {F : Frm} {ds : List (Option Tmp)} {rest : List Oper} {dst : Option Tmp} {n : Nat} {env : List (Nat × SV)} {own : List Own} {k : St → Prop}
structure MakesB (P : Program) (f : FuncId) (args : List SV) (ty : TypeId) (post : List SV → Prop) : Prop where
  enters : ∀ vs w, (callFunc f vs).run P w = .ok (.enter f vs) w
  calls : ∀ (R : Nat → Prop) (w : World), (∀ s ∈ args, s.ok R w) → (∀ b, R b → b < w.heap.size) →
    Calls P f (args.map SV.den).toArray w fun e w' => e = .returned (.pointer (some ⟨w.heap.size, 0, none⟩)) ∧ ∃ cs, post cs ∧ Evo (fun _ => False) w w' ∧ w'.heap[w.heap.size]? = some (.cells (cs.map SV.den).toArray ty (0, 0)) ∧ ∀ c ∈ cs, c.den.oneCell' = true ∧ c.ok R w'
theorem wcall_box {f : FuncId} {args : List SV} {ty : TypeId} {post : List SV → Prop} (h : MakesB P f args ty post) (hk : ∀ (cb : Nat) (cs : List SV), post cs → WO P F ds rest (St.put ⟨n, env, own ++ [.box cb ty cs]⟩ dst (.op own.length cb 0)) k) : WCall P F ds rest dst ⟨n, env, own⟩ f (some args) k := by
  unfold WCall
  intro R0 w0 ob R a w hr hargs
  refine ⟨h.enters, ?_⟩
  refine (h.calls R w hargs (fun b hb => (hr.rr b hb).1)).mono ?_
  rintro e w' ⟨rfl, cs, hp, hevo, hcell, hok⟩
  have hg : w.grownBy w' none := ⟨hevo.os, hevo.tape, hevo.output, hevo.size, fun b hb _ => hevo.block b hb (fun h => h)⟩
  have hnew := hr.newRow (o := .box w.heap.size ty cs) hg (fun b hb => by simpa [Own.blk] using hb.symm) ⟨hr.obw, fun hc => by have := (hr.rr _ hc).1; omega, hcell, hok⟩
  exact ⟨.op own.length w.heap.size 0, _, R, rfl, hk w.heap.size cs hp, trivial, hnew, rfl⟩
theorem Sat.simBox {c : Code} {K : Exit → St → Prop} (id : Nat) {blk ty : Nat} {cs : List SV} (cs' : List SV) (hl : own[id]? = some (.box blk ty cs)) (hs : simA cs cs')
    (h : Sat P F c ⟨n, env, own.set id (.box blk ty cs')⟩ K) : Sat P F c ⟨n, env, own⟩ K := by
  rintro R0 w0 a w ⟨ob, R, hr⟩
  refine h R0 w0 a w ⟨ob, R, ?_⟩
  obtain ⟨h1, h2, h3, h4⟩ := hr.own id _ hl
  have key : ∀ (l l' : List SV), simA l l' → l'.map SV.den = l.map SV.den ∧ ∀ c' ∈ l', ∃ c ∈ l, sim c c' := by
    intro l
    induction l with
    | nil => intro l' h; cases l' with
      | nil => exact ⟨rfl, fun _ h => by cases h⟩
      | cons _ _ => exact h.elim
    | cons s t ih => intro l' h; cases l' with
      | nil => exact h.elim
      | cons s' t' =>
        obtain ⟨g1, g2⟩ := ih t' h.2
        refine ⟨by rw [List.map_cons, List.map_cons, g1, h.1.1], fun c' hc' => ?_⟩
        rcases List.mem_cons.1 hc' with rfl | hc'
        · exact ⟨s, by simp, h.1⟩
        · obtain ⟨c, hc, hcc⟩ := g2 c' hc'
          exact ⟨c, List.mem_cons_of_mem _ hc, hcc⟩
  obtain ⟨k1, k2⟩ := key cs cs' hs
  refine hr.setOwn (g := blk) hl rfl (fun b hb => by simpa [Own.blk] using hb.symm) rfl rfl rfl (Nat.le_refl _) (fun _ _ _ => rfl) ⟨h1, h2, by rw [k1]; exact h3, fun c' hc' => ?_⟩
  obtain ⟨c, hc, hcc⟩ := k2 c' hc'
  exact ⟨by rw [← hcc.1]; exact (h4 c hc).1, hcc.2 R w (h4 c hc).2⟩
theorem Sat.join {st : St} {K : Exit → St → Prop} {c y : Code} {ι : Type} (sh : ι → St) (J : ι → Prop) (h : Sat P F c st (thenK (fun st' => ∃ z, J z ∧ Le st' (sh z)) K)) (h2 : ∀ z, J z → Sat P F y (sh z) K) :
    Sat P F c st (thenK (fun st' => Sat P F y st' K) K) :=
  h.mono fun e st' hk => by
    cases e with
    | normal => obtain ⟨z, hz, hl⟩ := hk; exact (h2 z hz).le hl
    | _ => exact hk
theorem Sat.join2 {st : St} {K : Exit → St → Prop} {c y : Code} {ι : Type} (sh : ι → St) (J : ι → Prop) (h : (∀ z, J z → Sat P F y (sh z) K) → Sat P F c st (thenK (fun st' => Sat P F y st' K) K)) (h2 : ∀ z, J z → Sat P F y (sh z) K) :
    Sat P F c st (thenK (fun st' => Sat P F y st' K) K) := h h2
end
end Eng
def dbox (cb : Nat) (a : Option Addr) (l cap : Nat) (rd : Nat → Nat → SV) (p : Nat) : Eng.Own := .box cb 54 [.sl a l cap 1 rd, .i .i64 p]
theorem new_made2 (a : Option Addr) (len cap : Nat) (w : World) (most : Nat) (h1 : len ≤ cap) (h2 : cap ≤ maxLen) (hm : most ≤ 65536) :
    Calls Try.prog 9 #[.slice a len cap, .int .i64 (most : Int)] w fun e w' => e = .returned (.pointer (some ⟨w.heap.size, 0, none⟩)) ∧ ∃ n, n ≤ len ∧ n ≤ most ∧ w' = w.alloc (.cells #[.slice a n cap, .int .i64 0] 54) := by
  unfold maxLen at h2
  by_cases hl : (most : Nat) < len
  · go_enter Try.func9, Try.ntmps9
    go_wp2
    go_ret
    exact ⟨rfl, most, by omega, by omega, rfl⟩
  · go_enter Try.func9, Try.ntmps9
    go_wp2
    go_ret
    exact ⟨rfl, len, by omega, by omega, rfl⟩
theorem newB (s : SV) (hs : isBytes s) (most : Nat) (hm : most ≤ 65536) : MakesB Try.prog 9 [s, .i .i64 most] 54
    (fun cs => ∃ a l cap rd, l ≤ most ∧ l ≤ cap ∧ cap ≤ maxLen ∧ (∀ i, i < l → ∃ x : Int, 0 ≤ x ∧ x < 256 ∧ rd i 0 = .i .u8 x) ∧ cs = [.sl a l cap 1 rd, .i .i64 0]) := by
  obtain ⟨a, len, cap, rd, rfl, hb⟩ := hs
  refine ⟨enters_of Try.func9 rfl (by kernel_rfl), fun R w hargs hR => ?_⟩
  obtain ⟨h1, h2, h3⟩ := hargs _ (List.mem_cons_self ..)
  refine (new_made2 a len cap w most h1 h2 hm).mono ?_
  rintro e w' ⟨rfl, n, hn, hnm, rfl⟩
  have hold : ∀ b, R b → (w.alloc (.cells #[.slice a n cap, .int .i64 0] 54)).heap[b]? = w.heap[b]? := fun b hb => heap_alloc_old w _ (hR b hb)
  refine ⟨rfl, [.sl a n cap 1 rd, .i .i64 0], ⟨a, n, cap, rd, hnm, by omega, h2, fun i hi => hb i (by omega), rfl⟩, ⟨rfl, rfl, rfl, by simp, fun b hb _ => heap_alloc_old w _ hb⟩, heap_alloc_new w _, ?_⟩
  intro c hc
  simp only [List.mem_cons, List.not_mem_nil, or_false] at hc
  rcases hc with rfl | rfl
  · refine ⟨rfl, by omega, h2, ?_⟩
    rcases h3 with h3 | ⟨blk, off, rfl, hr, hc⟩
    · exact .inl (by omega)
    · refine .inr ⟨blk, off, rfl, hr, fun i j hi hj => ?_⟩
      obtain ⟨g1, g2, g3⟩ := hc i j (by omega) hj
      exact ⟨by rw [World.cell?_of_block (w := w) (a := ⟨blk, off + i * 1 + j, none⟩) (hold blk hr)]; exact g1, g2, SV.ok_mono (fun _ h => h) hold _ g3⟩
  · exact ⟨rfl, trivial⟩
set_option maxRecDepth 100000 in
theorem nextB (F : Frm) (cb : Nat) (a : Option Addr) (l cap : Nat) (rd : Nat → Nat → SV) (p : Nat) (hl : l ≤ 65536) (hb : ∀ i, i < l → ∃ x : Int, 0 ≤ x ∧ x < 256 ∧ rd i 0 = .i .u8 x) (n : Int) (h0 : 1 ≤ n) (h1 : n ≤ 256) :
    ContractM F Try.prog 10 [.op 0 cb 0, .i .i64 n] (dbox cb a l cap rd p) (fun r o1 => ∃ x : Int, r = .i .i64 x ∧ 0 ≤ x ∧ x < n ∧ o1 = dbox cb a l cap rd (if p < l then p + 1 else p)) := by
  refine contractM_of Try.func10 rfl (by kernel_rfl) (by rintro r o1 ⟨x, _, _, _, rfl⟩; rfl) ?_
  simp only [Try.ntmps10, argEnv, dbox]
  (repeat refine Sat.seq ?_)
  (refine Sat.region_k fun k hk => ?_; simp -implicitDefEqProofs only [evr, id, reduceCtorEq, reduceIte, Nat.reduceMul, Nat.reduceAdd, Nat.reduceLT, Nat.reduceLeDiff, Nat.reduceEqDiff, Int.reduceLT, Int.reduceBEq, Int.reduceBNe, Nat.reduceBEq, retM, retMK, dbox, List.cons_append, List.nil_append]; refine hk _ ?_; clear hk k; try show Sat _ _ _ _ _)
  by_cases hp : p < l
  · obtain ⟨x, hx0, hx1, hx⟩ := hb p hp
    have e1 : IntKind.i64.wrap ((p : Int) + 1) = ((p + 1 : Nat) : Int) := by rw [w64 (by omega)]; omega
    have e2 : IntKind.i64.wrap x = x := w64 (by omega)
    (repeat refine Sat.seq ?_)
    (refine Sat.region_qk (by kernel_rfl) (by kernel_rfl) fun k hk => ?_; simp -implicitDefEqProofs only [evr, id, reduceCtorEq, reduceIte, Nat.reduceMul, Nat.reduceAdd, Nat.reduceLT, Nat.reduceLeDiff, Nat.reduceEqDiff, Int.reduceLT, Int.reduceBEq, Int.reduceBNe, Nat.reduceBEq, retM, retMK, dbox, List.cons_append, List.nil_append])
    refine ⟨fun h => absurd h (by omega), fun _ => ?_⟩
    (refine hk _ ?_; clear hk k; try show Sat _ _ _ _ _)
    refine Sat.cond_b rfl (fun h => absurd h (by simp only [decide_eq_true_eq]; omega)) (fun _ => ?_)
    refine Sat.skip ?_
    simp only [thenK]
    (repeat refine Sat.seq ?_)
    refine Sat.region_qk (by kernel_rfl) (by kernel_rfl) fun k hk => ?_
    simp -implicitDefEqProofs only [evr, id, reduceCtorEq, reduceIte, Nat.reduceMul, Nat.reduceAdd, Nat.reduceLT, Nat.reduceLeDiff, Nat.reduceEqDiff, Int.reduceLT, Int.reduceBEq, Int.reduceBNe, Nat.reduceBEq, retM, retMK, dbox, List.cons_append, List.nil_append, Int.toNat_natCast, hx, e2]
    refine ⟨by omega, ?_⟩
    (refine hk _ ?_; clear hk k; try show Sat _ _ _ _ _)
    (repeat refine Sat.seq ?_)
    refine Sat.region_k fun k hk => ?_
    simp -implicitDefEqProofs only [evr, id, reduceCtorEq, reduceIte, Nat.reduceMul, Nat.reduceAdd, Nat.reduceLT, Nat.reduceLeDiff, Nat.reduceEqDiff, Int.reduceLT, Int.reduceBEq, Int.reduceBNe, Nat.reduceBEq, retM, retMK, dbox, List.cons_append, List.nil_append, e1]
    (refine hk _ ?_; clear hk k; try show Sat _ _ _ _ _)
    (repeat refine Sat.seq ?_)
    (refine Sat.region_k fun k hk => ?_; simp -implicitDefEqProofs only [evr, id, reduceCtorEq, reduceIte, Nat.reduceMul, Nat.reduceAdd, Nat.reduceLT, Nat.reduceLeDiff, Nat.reduceEqDiff, Int.reduceLT, Int.reduceBEq, Int.reduceBNe, Nat.reduceBEq, retM, retMK, dbox, List.cons_append, List.nil_append]; refine hk _ ?_; clear hk k; try show Sat _ _ _ _ _)
    (repeat refine Sat.seq ?_)
    refine Sat.cond_b rfl (fun h => absurd h (by simp only [decide_eq_true_eq]; omega)) (fun _ => ?_)
    refine Sat.skip ?_
    simp only [thenK]
    (repeat refine Sat.seq ?_)
    (refine Sat.region_k fun k hk => ?_; simp -implicitDefEqProofs only [evr, id, reduceCtorEq, reduceIte, Nat.reduceMul, Nat.reduceAdd, Nat.reduceLT, Nat.reduceLeDiff, Nat.reduceEqDiff, Int.reduceLT, Int.reduceBEq, Int.reduceBNe, Nat.reduceBEq, retM, retMK, dbox, List.cons_append, List.nil_append])
    refine ⟨by omega, ?_⟩
    (refine hk _ ?_; clear hk k; try show Sat _ _ _ _ _)
    refine Sat.ret ?_
    simp only [Try.results10, evr, id, reduceCtorEq, reduceIte, Nat.reduceMul, Nat.reduceAdd, Nat.reduceLT, Nat.reduceLeDiff, Nat.reduceEqDiff, Int.reduceLT, Int.reduceBEq, Int.reduceBNe, Nat.reduceBEq, retM, retMK, dbox, List.cons_append, List.nil_append]
    rw [if_pos hp]
    exact ⟨rfl, _, _, rfl, _, rfl, Int.tmod_nonneg _ hx0, Int.tmod_lt_of_pos _ (by omega), rfl⟩
  · (repeat refine Sat.seq ?_)
    (refine Sat.region_qk (by kernel_rfl) (by kernel_rfl) fun k hk => ?_; simp -implicitDefEqProofs only [evr, id, reduceCtorEq, reduceIte, Nat.reduceMul, Nat.reduceAdd, Nat.reduceLT, Nat.reduceLeDiff, Nat.reduceEqDiff, Int.reduceLT, Int.reduceBEq, Int.reduceBNe, Nat.reduceBEq, retM, retMK, dbox, List.cons_append, List.nil_append])
    refine ⟨fun _ => ?_, fun h => absurd (by omega) h⟩
    (refine hk _ ?_; clear hk k; try show Sat _ _ _ _ _)
    refine Sat.cond_tt rfl ?_
    (repeat refine Sat.seq ?_)
    (refine Sat.region_k fun k hk => ?_; simp -implicitDefEqProofs only [evr, id, reduceCtorEq, reduceIte, Nat.reduceMul, Nat.reduceAdd, Nat.reduceLT, Nat.reduceLeDiff, Nat.reduceEqDiff, Int.reduceLT, Int.reduceBEq, Int.reduceBNe, Nat.reduceBEq, retM, retMK, dbox, List.cons_append, List.nil_append]; refine hk _ ?_; clear hk k; try show Sat _ _ _ _ _)
    refine Sat.ret ?_
    simp only [Try.results10, evr, id, reduceCtorEq, reduceIte, Nat.reduceMul, Nat.reduceAdd, Nat.reduceLT, Nat.reduceLeDiff, Nat.reduceEqDiff, Int.reduceLT, Int.reduceBEq, Int.reduceBNe, Nat.reduceBEq, retM, retMK, dbox, List.cons_append, List.nil_append]
    rw [if_neg hp]
    exact ⟨rfl, _, _, rfl, 0, rfl, Int.le_refl _, by omega, rfl⟩
theorem nextB2 (F : Frm) (cb : Nat) (a : Option Addr) (l cap : Nat) (rd : Nat → Nat → SV) (p : Nat) (hl : l ≤ 65536) (hb : ∀ i, i < l → ∃ x : Int, 0 ≤ x ∧ x < 256 ∧ rd i 0 = .i .u8 x) (hp : p ≤ l) (n : Int) (h0 : 1 ≤ n) (h1 : n ≤ 256) :
    ContractM F Try.prog 10 [.op 0 cb 0, .i .i64 n] (dbox cb a l cap rd p) (fun r o1 => ∃ (x : Int) (p' : Nat), r = .i .i64 x ∧ 0 ≤ x ∧ x < n ∧ p ≤ p' ∧ p' ≤ l ∧ (p < l → p < p') ∧ o1 = dbox cb a l cap rd p') :=
  (nextB F cb a l cap rd p hl hb n h0 h1).mono fun r o1 ⟨x, h2, h3, h4, h5⟩ => ⟨x, _, h2, h3, h4, by split <;> omega, by split <;> omega, fun h => by rw [if_pos h]; omega, h5⟩
end Go.Proofs.Ytagmohpafjncfaa

/- The reference of fractions: Opposite, sum, Order: what each gives. -/
set_option linter.unusedSimpArgs false
set_option linter.unusedVariables false
namespace Go.Proofs.Ytagmohpafjncfaa
open Eng Lmb Go.RowKit
set_option maxRecDepth 100000 in
theorem refOppositeC (F : Frm) (neg : Bool) {sp sq : SV} {p q : Nat} (hp : Nats sp p) (hq : Nats sq q) : Contract F Try.prog 54 [frS neg sp sq] (fun r => FrS r (!neg && decide (0 < p)) p q) := by
  have hp' := hp
  have hq' := hq
  obtain ⟨a1, c1, z1, r1, x1, rfl, _⟩ := hp
  obtain ⟨a2, c2, z2, r2, x2, rfl, _⟩ := hq
  have hl := hp'.len
  refine contract_of Try.func54 rfl (by kernel_rfl) ?_
  simp only [Try.ntmps54, argEnv, frS]
  (repeat refine Sat.seq ?_)
  (refine Sat.region_k fun k hk => ?_; simp -implicitDefEqProofs only [evr, id, reduceCtorEq, reduceIte, Nat.reduceMul, Nat.reduceAdd, Nat.reduceLT, Nat.reduceLeDiff, Nat.reduceEqDiff, Int.reduceLT, Int.reduceBEq, Int.reduceBNe, Nat.reduceBEq, List.append_nil, Int.toNat_zero, Nat.sub_self, frS])
  intro b1 b2
  (refine hk _ ?_; clear hk k; try show Sat _ _ _ _ _)
  (repeat refine Sat.seq ?_)
  (refine Sat.region_k fun k hk => ?_; simp -implicitDefEqProofs only [evr, id, reduceCtorEq, reduceIte, Nat.reduceMul, Nat.reduceAdd, Nat.reduceLT, Nat.reduceLeDiff, Nat.reduceEqDiff, Int.reduceLT, Int.reduceBEq, Int.reduceBNe, Nat.reduceBEq, List.append_nil, Int.toNat_zero, Nat.sub_self, frS])
  simp only [hl]
  refine ⟨fun h => ?_, fun h => ?_⟩
  · (refine hk _ ?_; clear hk k; try show Sat _ _ _ _ _)
    (repeat refine Sat.seq ?_)
    (refine Sat.region_k fun k hk => ?_; simp -implicitDefEqProofs only [evr, id, reduceCtorEq, reduceIte, Nat.reduceMul, Nat.reduceAdd, Nat.reduceLT, Nat.reduceLeDiff, Nat.reduceEqDiff, Int.reduceLT, Int.reduceBEq, Int.reduceBNe, Nat.reduceBEq, List.append_nil, Int.toNat_zero, Nat.sub_self, frS]; refine hk _ ?_; clear hk k; try show Sat _ _ _ _ _)
    refine Sat.ret ?_
    simp only [Try.results54, evr, id, reduceCtorEq, reduceIte, Nat.reduceMul, Nat.reduceAdd, Nat.reduceLT, Nat.reduceLeDiff, Nat.reduceEqDiff, Int.reduceLT, Int.reduceBEq, Int.reduceBNe, Nat.reduceBEq, List.append_nil, Int.toNat_zero, Nat.sub_self, frS]
    rw [h, Bool.true_and]
    exact ⟨_, _, rfl, hp', hq'⟩
  · (refine hk _ ?_; clear hk k; try show Sat _ _ _ _ _)
    refine Sat.boxBools 0 rfl ?_
    simp only [roB, List.map_cons, List.map_nil, List.set_cons_zero]
    (repeat refine Sat.seq ?_)
    (refine Sat.region_k fun k hk => ?_; simp -implicitDefEqProofs only [evr, id, reduceCtorEq, reduceIte, Nat.reduceMul, Nat.reduceAdd, Nat.reduceLT, Nat.reduceLeDiff, Nat.reduceEqDiff, Int.reduceLT, Int.reduceBEq, Int.reduceBNe, Nat.reduceBEq, List.append_nil, Int.toNat_zero, Nat.sub_self, frS]; refine hk _ ?_; clear hk k; try show Sat _ _ _ _ _)
    refine Sat.ret ?_
    simp only [Try.results54, evr, id, reduceCtorEq, reduceIte, Nat.reduceMul, Nat.reduceAdd, Nat.reduceLT, Nat.reduceLeDiff, Nat.reduceEqDiff, Int.reduceLT, Int.reduceBEq, Int.reduceBNe, Nat.reduceBEq, List.append_nil, Int.toNat_zero, Nat.sub_self, frS]
    rw [h, Bool.false_and]
    exact ⟨_, _, rfl, hp', hq'⟩
def sumN (na : Bool) (p q : Nat) (nb : Bool) (r s : Nat) : Bool := (sumV na (p * s) nb (r * q)).1 && decide (0 < (sumV na (p * s) nb (r * q)).2)
set_option maxRecDepth 100000 in
theorem refSumC (F : Frm) (na nb : Bool) {sp sq sr ss : SV} {p q r s : Nat} (hp : Nats sp p) (hq : Nats sq q) (hr : Nats sr r) (hs : Nats ss s)
    (b1 : (p : Int) < pw 256) (b2 : (q : Int) < pw 256) (b3 : (r : Int) < pw 256) (b4 : (s : Int) < pw 256) (b7 : ((p * s + r * q : Nat) : Int) < pw 256) (b8 : ((q * s : Nat) : Int) < pw 256) (hq0 : 0 < q) (hs0 : 0 < s) :
    Contract F Try.prog 53 [frS na sp sq, frS nb sr ss] (fun x => FrS x (sumN na p q nb r s) (addP na p q nb r s) (addQ na p q nb r s)) := by
  have hp' := hp
  have hq' := hq
  have hr' := hr
  have hs' := hs
  have up : ∀ x : Nat, (x : Int) < pw 256 → (x : Int) < pw 512 := fun x hx => by have := pw_mono (show 256 ≤ 512 by omega); omega
  have hd0 : 0 < q * s := Nat.mul_pos hq0 hs0
  obtain ⟨a1, c1, z1, r1, x1, rfl, _⟩ := hp
  obtain ⟨a2, c2, z2, r2, x2, rfl, _⟩ := hq
  obtain ⟨a3, c3, z3, r3, x3, rfl, _⟩ := hr
  obtain ⟨a4, c4, z4, r4, x4, rfl, _⟩ := hs
  refine contract_of Try.func53 rfl (by kernel_rfl) ?_
  simp only [Try.ntmps53, argEnv, frS]
  (repeat refine Sat.seq ?_)
  (refine Sat.region_k fun k hk => ?_; simp -implicitDefEqProofs only [evr, id, reduceCtorEq, reduceIte, Nat.reduceMul, Nat.reduceAdd, Nat.reduceLT, Nat.reduceLeDiff, Nat.reduceEqDiff, Int.reduceLT, Int.reduceBEq, Int.reduceBNe, Nat.reduceBEq, List.append_nil, Int.toNat_zero, Nat.sub_self, frS])
  intro k1 k2 k3
  (refine hk _ ?_; clear hk k; try show Sat _ _ _ _ _)
  (repeat refine Sat.seq ?_)
  (refine Sat.region_rows [⟨0, 9, 4, 0⟩, ⟨1, 10, 256, 1⟩, ⟨0, 11, 8, 0⟩, ⟨4, 12, 1024, 1⟩, ⟨10, 13, 2560, 2⟩, ⟨0, 14, 8, 0⟩, ⟨32, 15, 8192, 1⟩, ⟨0, 16, 4, 0⟩, ⟨128, 17, 32768, 1⟩, ⟨336, 18, 81920, 2⟩, ⟨0, 19, 4, 0⟩, ⟨1024, 20, 262144, 1⟩, ⟨0, 21, 8, 0⟩, ⟨4096, 22, 1048576, 1⟩, ⟨10752, 23, 2621440, 2⟩, ⟨16415, 6, 4096, 0⟩, ⟨33791, 7, 131072, 0⟩, ⟨131071, 8, 4194304, 0⟩] [0, 2, 5, 7, 10, 12, 1, 3, 6, 8, 11, 13] [(4, false), (9, false), (14, false), (15, false), (16, false), (17, false)] [4, 9] (by kernel_rfl) (by kernel_rfl) (fun _ _ h => h) fun k hk => ?_; simp only [List.map_cons, List.map_nil, List.getD_cons_zero, List.getD_cons_succ, btseq_cons, btseq_free, btseq_nil]; simp -implicitDefEqProofs only [evr, id, reduceCtorEq, reduceIte, Nat.reduceMul, Nat.reduceAdd, Nat.reduceLT, Nat.reduceLeDiff, Nat.reduceEqDiff, Int.reduceLT, Int.reduceBEq, Int.reduceBNe, Nat.reduceBEq, List.append_nil, Int.toNat_zero, Nat.sub_self, frS])
  refine wcall_slice (refTimesC F hp' hs' (up _ b1) (up _ b4)) rfl (by simp -implicitDefEqProofs only [evr, id, reduceCtorEq, reduceIte, Nat.reduceMul, Nat.reduceAdd, Nat.reduceLT, Nat.reduceLeDiff, Nat.reduceEqDiff, Int.reduceLT, Int.reduceBEq, Int.reduceBNe, Nat.reduceBEq, List.append_nil, Int.toNat_zero, Nat.sub_self, frS]; try rfl) ?_
  intro y hy
  have hy1 := hy
  obtain ⟨a5, c5, z5, r5, x5, rfl, _⟩ := hy
  simp -implicitDefEqProofs only [evr, id, reduceCtorEq, reduceIte, Nat.reduceMul, Nat.reduceAdd, Nat.reduceLT, Nat.reduceLeDiff, Nat.reduceEqDiff, Int.reduceLT, Int.reduceBEq, Int.reduceBNe, Nat.reduceBEq, List.append_nil, Int.toNat_zero, Nat.sub_self, frS]
  refine wcall_slice (refTimesC F hr' hq' (up _ b3) (up _ b2)) rfl (by simp -implicitDefEqProofs only [evr, id, reduceCtorEq, reduceIte, Nat.reduceMul, Nat.reduceAdd, Nat.reduceLT, Nat.reduceLeDiff, Nat.reduceEqDiff, Int.reduceLT, Int.reduceBEq, Int.reduceBNe, Nat.reduceBEq, List.append_nil, Int.toNat_zero, Nat.sub_self, frS]; try rfl) ?_
  intro y hy
  have hy2 := hy
  obtain ⟨a6, c6, z6, r6, x6, rfl, _⟩ := hy
  simp -implicitDefEqProofs only [evr, id, reduceCtorEq, reduceIte, Nat.reduceMul, Nat.reduceAdd, Nat.reduceLT, Nat.reduceLeDiff, Nat.reduceEqDiff, Int.reduceLT, Int.reduceBEq, Int.reduceBNe, Nat.reduceBEq, List.append_nil, Int.toNat_zero, Nat.sub_self, frS]
  refine wcall_slice (refTimesC F hq' hs' (up _ b2) (up _ b4)) rfl (by simp -implicitDefEqProofs only [evr, id, reduceCtorEq, reduceIte, Nat.reduceMul, Nat.reduceAdd, Nat.reduceLT, Nat.reduceLeDiff, Nat.reduceEqDiff, Int.reduceLT, Int.reduceBEq, Int.reduceBNe, Nat.reduceBEq, List.append_nil, Int.toNat_zero, Nat.sub_self, frS]; try rfl) ?_
  intro y hy
  have hy3 := hy
  obtain ⟨a7, c7, z7, r7, x7, rfl, _⟩ := hy
  simp -implicitDefEqProofs only [evr, id, reduceCtorEq, reduceIte, Nat.reduceMul, Nat.reduceAdd, Nat.reduceLT, Nat.reduceLeDiff, Nat.reduceEqDiff, Int.reduceLT, Int.reduceBEq, Int.reduceBNe, Nat.reduceBEq, List.append_nil, Int.toNat_zero, Nat.sub_self, frS]
  (refine hk _ ?_; clear hk k; try show Sat _ _ _ _ _)
  (repeat refine Sat.seq ?_)
  (refine Sat.region_k fun k hk => ?_; simp -implicitDefEqProofs only [evr, id, reduceCtorEq, reduceIte, Nat.reduceMul, Nat.reduceAdd, Nat.reduceLT, Nat.reduceLeDiff, Nat.reduceEqDiff, Int.reduceLT, Int.reduceBEq, Int.reduceBNe, Nat.reduceBEq, List.append_nil, Int.toNat_zero, Nat.sub_self, frS])
  (refine hk _ ?_; clear hk k; try show Sat _ _ _ _ _)
  have c1b : ((p * s : Nat) : Int) < pw 512 := up _ (by omega)
  have c2b : ((r * q : Nat) : Int) < pw 512 := up _ (by omega)
  refine Sat.cond_b rfl (fun h => ?_) (fun h => ?_)
  · have hn : na = nb := by simpa using h
    (repeat refine Sat.seq ?_)
    (refine Sat.region_rows [⟨0, 29, 4, 0⟩, ⟨1, 30, 268435456, 1⟩, ⟨0, 31, 32, 0⟩, ⟨0, 32, 64, 0⟩, ⟨12, 33, 3221225472, 2⟩, ⟨0, 34, 128, 0⟩, ⟨50, 35, 13421772800, 2⟩, ⟨127, 0, 17179869200, 2⟩] [0, 2, 3, 5, 1] [(4, false), (6, false), (7, false)] [4] (by kernel_rfl) (by kernel_rfl) (fun _ _ h => h) fun k hk => ?_; simp only [List.map_cons, List.map_nil, List.getD_cons_zero, List.getD_cons_succ, btseq_cons, btseq_free, btseq_nil]; simp -implicitDefEqProofs only [evr, id, reduceCtorEq, reduceIte, Nat.reduceMul, Nat.reduceAdd, Nat.reduceLT, Nat.reduceLeDiff, Nat.reduceEqDiff, Int.reduceLT, Int.reduceBEq, Int.reduceBNe, Nat.reduceBEq, List.append_nil, Int.toNat_zero, Nat.sub_self, frS])
    refine wcall_slice (refPlusC F hy1 hy2 c1b c2b) rfl rfl ?_
    intro y hy
    have hy4 := hy
    obtain ⟨a8, c8, z8, r8, x8, rfl, _⟩ := hy
    simp -implicitDefEqProofs only [evr, id, reduceCtorEq, reduceIte, Nat.reduceMul, Nat.reduceAdd, Nat.reduceLT, Nat.reduceLeDiff, Nat.reduceEqDiff, Int.reduceLT, Int.reduceBEq, Int.reduceBNe, Nat.reduceBEq, List.append_nil, Int.toNat_zero, Nat.sub_self, frS]
    refine wcall_slice (refReducedC F na hy4 hy3 b7 b8 hd0) rfl (by simp -implicitDefEqProofs only [evr, id, reduceCtorEq, reduceIte, Nat.reduceMul, Nat.reduceAdd, Nat.reduceLT, Nat.reduceLeDiff, Nat.reduceEqDiff, Int.reduceLT, Int.reduceBEq, Int.reduceBNe, Nat.reduceBEq, List.append_nil, Int.toNat_zero, Nat.sub_self, frS]; try rfl) ?_
    rintro y ⟨sp3, sq3, rfl, h3, h4⟩
    have h3' := h3
    have h4' := h4
    obtain ⟨a9, c9, z9, r9, x9, rfl, _⟩ := h3
    obtain ⟨a10, c10, z10, r10, x10, rfl, _⟩ := h4
    simp only [frS, evr, id, reduceCtorEq, reduceIte, Nat.reduceMul, Nat.reduceAdd, Nat.reduceLT, Nat.reduceLeDiff, Nat.reduceEqDiff, Int.reduceLT, Int.reduceBEq, Int.reduceBNe, Nat.reduceBEq, List.append_nil, Int.toNat_zero, Nat.sub_self, frS]
    (refine hk _ ?_; clear hk k; try show Sat _ _ _ _ _)
    refine Sat.ret ?_
    simp only [Try.results53, evr, id, reduceCtorEq, reduceIte, Nat.reduceMul, Nat.reduceAdd, Nat.reduceLT, Nat.reduceLeDiff, Nat.reduceEqDiff, Int.reduceLT, Int.reduceBEq, Int.reduceBNe, Nat.reduceBEq, List.append_nil, Int.toNat_zero, Nat.sub_self, frS]
    have e : sumV na (p * s) nb (r * q) = (na, p * s + r * q) := by unfold sumV; rw [if_pos hn]
    unfold sumN addP addQ addG
    rw [e]
    exact ⟨_, _, rfl, h3', h4'⟩
  have hn : ¬ na = nb := by simpa using h
  refine Sat.skip ?_
  simp only [thenK]
  (repeat refine Sat.seq ?_)
  (refine Sat.region_k fun k hk => ?_; simp -implicitDefEqProofs only [evr, id, reduceCtorEq, reduceIte, Nat.reduceMul, Nat.reduceAdd, Nat.reduceLT, Nat.reduceLeDiff, Nat.reduceEqDiff, Int.reduceLT, Int.reduceBEq, Int.reduceBNe, Nat.reduceBEq, List.append_nil, Int.toNat_zero, Nat.sub_self, frS])
  refine wcall_plain (refCompareC F hy1 hy2 c1b) rfl (by rintro _ rfl; exact ok_plain rfl) ?_
  rintro y rfl
  simp -implicitDefEqProofs only [evr, id, reduceCtorEq, reduceIte, Nat.reduceMul, Nat.reduceAdd, Nat.reduceLT, Nat.reduceLeDiff, Nat.reduceEqDiff, Int.reduceLT, Int.reduceBEq, Int.reduceBNe, Nat.reduceBEq, List.append_nil, Int.toNat_zero, Nat.sub_self, frS]
  (refine hk _ ?_; clear hk k; try show Sat _ _ _ _ _)
  refine Sat.cond_b rfl (fun h => ?_) (fun h => ?_)
  · have hle : r * q ≤ p * s := by
      have h9 := of_decide_eq_true h
      by_cases h8 : p * s < r * q
      · rw [cmpI_lt (by omega)] at h9; omega
      · omega
    have e : sumV na (p * s) nb (r * q) = (na, p * s - r * q) := by unfold sumV; rw [if_neg hn, if_neg (by omega)]
    (repeat refine Sat.seq ?_)
    (refine Sat.region_rows [⟨0, 40, 4, 0⟩, ⟨1, 41, 549755813888, 1⟩, ⟨0, 42, 32, 0⟩, ⟨0, 43, 64, 0⟩, ⟨12, 44, 6597069766656, 2⟩, ⟨0, 45, 128, 0⟩, ⟨50, 46, 27487790694400, 2⟩, ⟨127, 0, 35184372088848, 2⟩] [0, 2, 3, 5, 1] [(4, false), (6, false), (7, false)] [4] (by kernel_rfl) (by kernel_rfl) (fun _ _ h => h) fun k hk => ?_; simp only [List.map_cons, List.map_nil, List.getD_cons_zero, List.getD_cons_succ, btseq_cons, btseq_free, btseq_nil]; simp -implicitDefEqProofs only [evr, id, reduceCtorEq, reduceIte, Nat.reduceMul, Nat.reduceAdd, Nat.reduceLT, Nat.reduceLeDiff, Nat.reduceEqDiff, Int.reduceLT, Int.reduceBEq, Int.reduceBNe, Nat.reduceBEq, List.append_nil, Int.toNat_zero, Nat.sub_self, frS])
    refine wcall_slice (refLessC F hy1 hy2 c1b hle) rfl rfl ?_
    intro y hy
    have hy4 := hy
    obtain ⟨a8, c8, z8, r8, x8, rfl, _⟩ := hy
    simp -implicitDefEqProofs only [evr, id, reduceCtorEq, reduceIte, Nat.reduceMul, Nat.reduceAdd, Nat.reduceLT, Nat.reduceLeDiff, Nat.reduceEqDiff, Int.reduceLT, Int.reduceBEq, Int.reduceBNe, Nat.reduceBEq, List.append_nil, Int.toNat_zero, Nat.sub_self, frS]
    refine wcall_slice (refReducedC F na hy4 hy3 (by omega) b8 hd0) rfl (by simp -implicitDefEqProofs only [evr, id, reduceCtorEq, reduceIte, Nat.reduceMul, Nat.reduceAdd, Nat.reduceLT, Nat.reduceLeDiff, Nat.reduceEqDiff, Int.reduceLT, Int.reduceBEq, Int.reduceBNe, Nat.reduceBEq, List.append_nil, Int.toNat_zero, Nat.sub_self, frS]; try rfl) ?_
    rintro y ⟨sp3, sq3, rfl, h3, h4⟩
    have h3' := h3
    have h4' := h4
    obtain ⟨a9, c9, z9, r9, x9, rfl, _⟩ := h3
    obtain ⟨a10, c10, z10, r10, x10, rfl, _⟩ := h4
    simp only [frS, evr, id, reduceCtorEq, reduceIte, Nat.reduceMul, Nat.reduceAdd, Nat.reduceLT, Nat.reduceLeDiff, Nat.reduceEqDiff, Int.reduceLT, Int.reduceBEq, Int.reduceBNe, Nat.reduceBEq, List.append_nil, Int.toNat_zero, Nat.sub_self, frS]
    (refine hk _ ?_; clear hk k; try show Sat _ _ _ _ _)
    refine Sat.ret ?_
    simp only [Try.results53, evr, id, reduceCtorEq, reduceIte, Nat.reduceMul, Nat.reduceAdd, Nat.reduceLT, Nat.reduceLeDiff, Nat.reduceEqDiff, Int.reduceLT, Int.reduceBEq, Int.reduceBNe, Nat.reduceBEq, List.append_nil, Int.toNat_zero, Nat.sub_self, frS]
    unfold sumN addP addQ addG
    rw [e]
    exact ⟨_, _, rfl, h3', h4'⟩
  · have hle : p * s < r * q := by
      have h9 := of_decide_eq_false h
      by_cases h8 : p * s < r * q
      · exact h8
      exfalso
      by_cases h7 : r * q < p * s
      · rw [cmpI_gt (by omega)] at h9; omega
      · rw [cmpI_eq (by omega)] at h9; omega
    have e : sumV na (p * s) nb (r * q) = (nb, r * q - p * s) := by unfold sumV; rw [if_neg hn, if_pos hle]
    refine Sat.skip ?_
    simp only [thenK]
    (repeat refine Sat.seq ?_)
    (refine Sat.region_rows [⟨0, 47, 8, 0⟩, ⟨1, 48, 70368744177664, 1⟩, ⟨0, 49, 64, 0⟩, ⟨0, 50, 32, 0⟩, ⟨12, 51, 844424930131968, 2⟩, ⟨0, 52, 128, 0⟩, ⟨50, 53, 3518437208883200, 2⟩, ⟨127, 0, 4503599627370512, 2⟩] [0, 2, 3, 5, 1] [(4, false), (6, false), (7, false)] [4] (by kernel_rfl) (by kernel_rfl) (fun _ _ h => h) fun k hk => ?_; simp only [List.map_cons, List.map_nil, List.getD_cons_zero, List.getD_cons_succ, btseq_cons, btseq_free, btseq_nil]; simp -implicitDefEqProofs only [evr, id, reduceCtorEq, reduceIte, Nat.reduceMul, Nat.reduceAdd, Nat.reduceLT, Nat.reduceLeDiff, Nat.reduceEqDiff, Int.reduceLT, Int.reduceBEq, Int.reduceBNe, Nat.reduceBEq, List.append_nil, Int.toNat_zero, Nat.sub_self, frS])
    refine wcall_slice (refLessC F hy2 hy1 c2b (Nat.le_of_lt hle)) rfl rfl ?_
    intro y hy
    have hy4 := hy
    obtain ⟨a8, c8, z8, r8, x8, rfl, _⟩ := hy
    simp -implicitDefEqProofs only [evr, id, reduceCtorEq, reduceIte, Nat.reduceMul, Nat.reduceAdd, Nat.reduceLT, Nat.reduceLeDiff, Nat.reduceEqDiff, Int.reduceLT, Int.reduceBEq, Int.reduceBNe, Nat.reduceBEq, List.append_nil, Int.toNat_zero, Nat.sub_self, frS]
    refine wcall_slice (refReducedC F nb hy4 hy3 (by omega) b8 hd0) rfl (by simp -implicitDefEqProofs only [evr, id, reduceCtorEq, reduceIte, Nat.reduceMul, Nat.reduceAdd, Nat.reduceLT, Nat.reduceLeDiff, Nat.reduceEqDiff, Int.reduceLT, Int.reduceBEq, Int.reduceBNe, Nat.reduceBEq, List.append_nil, Int.toNat_zero, Nat.sub_self, frS]; try rfl) ?_
    rintro y ⟨sp3, sq3, rfl, h3, h4⟩
    have h3' := h3
    have h4' := h4
    obtain ⟨a9, c9, z9, r9, x9, rfl, _⟩ := h3
    obtain ⟨a10, c10, z10, r10, x10, rfl, _⟩ := h4
    simp only [frS, evr, id, reduceCtorEq, reduceIte, Nat.reduceMul, Nat.reduceAdd, Nat.reduceLT, Nat.reduceLeDiff, Nat.reduceEqDiff, Int.reduceLT, Int.reduceBEq, Int.reduceBNe, Nat.reduceBEq, List.append_nil, Int.toNat_zero, Nat.sub_self, frS]
    (refine hk _ ?_; clear hk k; try show Sat _ _ _ _ _)
    refine Sat.ret ?_
    simp only [Try.results53, evr, id, reduceCtorEq, reduceIte, Nat.reduceMul, Nat.reduceAdd, Nat.reduceLT, Nat.reduceLeDiff, Nat.reduceEqDiff, Int.reduceLT, Int.reduceBEq, Int.reduceBNe, Nat.reduceBEq, List.append_nil, Int.toNat_zero, Nat.sub_self, frS]
    unfold sumN addP addQ addG
    rw [e]
    exact ⟨_, _, rfl, h3', h4'⟩
def ordV (na : Bool) (p q : Nat) (nb : Bool) (r s : Nat) : Int := if sumN na p q (!nb && decide (0 < r)) r s = true then -1 else if addP na p q (!nb && decide (0 < r)) r s = 0 then 0 else 1
set_option maxRecDepth 100000 in
theorem refOrder3C (F : Frm) (na nb : Bool) {sp sq sr ss : SV} {p q r s : Nat} (hp : Nats sp p) (hq : Nats sq q) (hr : Nats sr r) (hs : Nats ss s)
    (b1 : (p : Int) < pw 256) (b2 : (q : Int) < pw 256) (b3 : (r : Int) < pw 256) (b4 : (s : Int) < pw 256) (b7 : ((p * s + r * q : Nat) : Int) < pw 256) (b8 : ((q * s : Nat) : Int) < pw 256) (hq0 : 0 < q) (hs0 : 0 < s) :
    Contract F Try.prog 27 [frS na sp sq, frS nb sr ss] (fun x => x = .i .i64 (ordV na p q nb r s)) := by
  have hp' := hp
  have hq' := hq
  have hr' := hr
  have hs' := hs
  obtain ⟨a1, c1, z1, r1, x1, rfl, _⟩ := hp
  obtain ⟨a2, c2, z2, r2, x2, rfl, _⟩ := hq
  obtain ⟨a3, c3, z3, r3, x3, rfl, _⟩ := hr
  obtain ⟨a4, c4, z4, r4, x4, rfl, _⟩ := hs
  refine contract_of Try.func27 rfl (by kernel_rfl) ?_
  simp only [Try.ntmps27, argEnv, frS]
  (repeat refine Sat.seq ?_)
  (refine Sat.region_k fun k hk => ?_; simp -implicitDefEqProofs only [evr, id, reduceCtorEq, reduceIte, Nat.reduceMul, Nat.reduceAdd, Nat.reduceLT, Nat.reduceLeDiff, Nat.reduceEqDiff, Int.reduceLT, Int.reduceBEq, Int.reduceBNe, Nat.reduceBEq, List.append_nil, Int.toNat_zero, Nat.sub_self, frS])
  intro k1 k2
  (refine hk _ ?_; clear hk k; try show Sat _ _ _ _ _)
  (repeat refine Sat.seq ?_)
  refine Sat.join2 (ι := Nat × SV × SV) (fun z => ⟨16, [(5, .op 2 z.1 0)], [.box k1 30 [.b na, .sl a1 x1.length c1 z1 r1, .sl a2 x2.length c2 z2 r2], .box k2 30 [.b nb, .sl a3 x3.length c3 z3 r3, .sl a4 x4.length c4 z4 r4], .box z.1 30 [.b (sumN na p q (!nb && decide (0 < r)) r s), z.2.1, z.2.2]]⟩) (fun z => Nats z.2.1 (addP na p q (!nb && decide (0 < r)) r s) ∧ Nats z.2.2 (addQ na p q (!nb && decide (0 < r)) r s)) (fun hrest => ?_) ?_
  · (refine Sat.region_tree (.keep [0, 1] [2, 4] (.alt 2 (.alt 3 (.one 4 (.one 5 .done)) (.alt 4 (.one 3 (.one 5 .done)) .none)) (.alt 4 (.one 2 (.one 3 (.one 5 .done))) .none))) (by kernel_rfl) (by kernel_rfl) (fun _ _ h => h) fun k hk => ?_; simp only [WOT, List.map_cons, List.map_nil, List.getD_cons_zero, List.getD_cons_succ]; simp -implicitDefEqProofs only [evr, id, reduceCtorEq, reduceIte, Nat.reduceMul, Nat.reduceAdd, Nat.reduceLT, Nat.reduceLeDiff, Nat.reduceEqDiff, Int.reduceLT, Int.reduceBEq, Int.reduceBNe, Nat.reduceBEq, List.append_nil, Int.toNat_zero, Nat.sub_self, frS, WOT])
    repeat' (first
      | (refine And.intro ?_ ?_)
      | (refine wcall_slice (refOppositeC F nb hr' hs') rfl (by simp -implicitDefEqProofs only [evr, id, reduceCtorEq, reduceIte, Nat.reduceMul, Nat.reduceAdd, Nat.reduceLT, Nat.reduceLeDiff, Nat.reduceEqDiff, Int.reduceLT, Int.reduceBEq, Int.reduceBNe, Nat.reduceBEq, List.append_nil, Int.toNat_zero, Nat.sub_self, frS]; try rfl) ?_; rintro y ⟨sp3, sq3, rfl, h3, h4⟩; have h3' := h3; have h4' := h4; obtain ⟨a5, c5, z5, r5, x5, rfl, _⟩ := h3; obtain ⟨a6, c6, z6, r6, x6, rfl, _⟩ := h4; simp only [frS, evr, id, reduceCtorEq, reduceIte, Nat.reduceMul, Nat.reduceAdd, Nat.reduceLT, Nat.reduceLeDiff, Nat.reduceEqDiff, Int.reduceLT, Int.reduceBEq, Int.reduceBNe, Nat.reduceBEq, List.append_nil, Int.toNat_zero, Nat.sub_self, frS])
      | (refine wcall_slice (refSumC F na (!nb && decide (0 < r)) hp' hq' h3' h4' b1 b2 b3 b4 b7 b8 hq0 hs0) rfl (by simp -implicitDefEqProofs only [evr, id, reduceCtorEq, reduceIte, Nat.reduceMul, Nat.reduceAdd, Nat.reduceLT, Nat.reduceLeDiff, Nat.reduceEqDiff, Int.reduceLT, Int.reduceBEq, Int.reduceBNe, Nat.reduceBEq, List.append_nil, Int.toNat_zero, Nat.sub_self, frS]; try rfl) ?_; rintro y ⟨sp4, sq4, rfl, h5, h6⟩; have h5' := h5; have h6' := h6; obtain ⟨a7, c7, z7, r7, x7, rfl, _⟩ := h5; obtain ⟨a8, c8, z8, r8, x8, rfl, _⟩ := h6; simp only [frS, evr, id, reduceCtorEq, reduceIte, Nat.reduceMul, Nat.reduceAdd, Nat.reduceLT, Nat.reduceLeDiff, Nat.reduceEqDiff, Int.reduceLT, Int.reduceBEq, Int.reduceBNe, Nat.reduceBEq, List.append_nil, Int.toNat_zero, Nat.sub_self, frS])
      | (intro k5))
    all_goals
      refine hk _ ?_
      clear hk
      simp only [thenK]
      refine Sat.le (hrest (k5, _, _) ⟨h5', h6'⟩) ?_
      simp -implicitDefEqProofs only [evr, id, reduceCtorEq, reduceIte, Nat.reduceMul, Nat.reduceAdd, Nat.reduceLT, Nat.reduceLeDiff, Nat.reduceEqDiff, Int.reduceLT, Int.reduceBEq, Int.reduceBNe, Nat.reduceBEq, List.append_nil, Int.toNat_zero, Nat.sub_self, frS, evl]
  rintro ⟨k5, sp4, sq4⟩ ⟨h5, h6⟩
  simp only at h5 h6 ⊢
  have h5' := h5
  have h6' := h6
  obtain ⟨a7, c7, z7, r7, x7, rfl, _⟩ := h5
  obtain ⟨a8, c8, z8, r8, x8, rfl, _⟩ := h6
  (repeat refine Sat.seq ?_)
  (refine Sat.region_k fun k hk => ?_; simp -implicitDefEqProofs only [evr, id, reduceCtorEq, reduceIte, Nat.reduceMul, Nat.reduceAdd, Nat.reduceLT, Nat.reduceLeDiff, Nat.reduceEqDiff, Int.reduceLT, Int.reduceBEq, Int.reduceBNe, Nat.reduceBEq, List.append_nil, Int.toNat_zero, Nat.sub_self, frS])
  (refine hk _ ?_; clear hk k; try show Sat _ _ _ _ _)
  refine Sat.cond_b rfl (fun h => ?_) (fun h => ?_)
  · (repeat refine Sat.seq ?_)
    (refine Sat.region_k fun k hk => ?_; simp -implicitDefEqProofs only [evr, id, reduceCtorEq, reduceIte, Nat.reduceMul, Nat.reduceAdd, Nat.reduceLT, Nat.reduceLeDiff, Nat.reduceEqDiff, Int.reduceLT, Int.reduceBEq, Int.reduceBNe, Nat.reduceBEq, List.append_nil, Int.toNat_zero, Nat.sub_self, frS]; refine hk _ ?_; clear hk k; try show Sat _ _ _ _ _)
    refine Sat.ret ?_
    simp only [Try.results27, evr, id, reduceCtorEq, reduceIte, Nat.reduceMul, Nat.reduceAdd, Nat.reduceLT, Nat.reduceLeDiff, Nat.reduceEqDiff, Int.reduceLT, Int.reduceBEq, Int.reduceBNe, Nat.reduceBEq, List.append_nil, Int.toNat_zero, Nat.sub_self, frS]
    unfold ordV
    rw [if_pos h]
  · refine Sat.skip ?_
    simp only [thenK]
    (repeat refine Sat.seq ?_)
    (refine Sat.region_k fun k hk => ?_; simp -implicitDefEqProofs only [evr, id, reduceCtorEq, reduceIte, Nat.reduceMul, Nat.reduceAdd, Nat.reduceLT, Nat.reduceLeDiff, Nat.reduceEqDiff, Int.reduceLT, Int.reduceBEq, Int.reduceBNe, Nat.reduceBEq, List.append_nil, Int.toNat_zero, Nat.sub_self, frS])
    (refine hk _ ?_; clear hk k; try show Sat _ _ _ _ _)
    refine Sat.ret ?_
    simp only [Try.results27, evr, id, reduceCtorEq, reduceIte, Nat.reduceMul, Nat.reduceAdd, Nat.reduceLT, Nat.reduceLeDiff, Nat.reduceEqDiff, Int.reduceLT, Int.reduceBEq, Int.reduceBNe, Nat.reduceBEq, List.append_nil, Int.toNat_zero, Nat.sub_self, frS]
    have hl := h5'.len
    unfold ordV
    rw [if_neg (by rw [h]; decide)]
    by_cases h0 : addP na p q (!nb && decide (0 < r)) r s = 0
    · rw [if_pos h0]
      have h9 : ¬ (0 < (x7.length : Int)) := by rw [hl]; omega
      have h8 : x7.length = 0 := by omega
      rw [h8]
      rfl
    · rw [if_neg h0]
      have h9 : 0 < (x7.length : Int) := by rw [hl]; omega
      congr 1
      omega
theorem div_gcd_zero (x d : Nat) (hd : 0 < d) : x / Nat.gcd x d = 0 ↔ x = 0 := by
  have h1 := Nat.div_mul_cancel (Nat.gcd_dvd_left x d)
  constructor
  · intro h; rw [h] at h1; omega
  · rintro rfl; simp
theorem ordV_pos {p q r s : Nat} (hq : 0 < q) (hs : 0 < s) : ordV false p q false r s = cmpI (p * s : Nat) (r * q : Nat) := by
  have hd : 0 < q * s := Nat.mul_pos hq hs
  have hv : ∃ b z, sumV false (p * s) (!false && decide (0 < r)) (r * q) = (b, z) ∧ ((b = true ∧ p * s < r * q ∧ 0 < z) ∨ (b = false ∧ z = p * s - r * q ∧ r * q ≤ p * s)) := by
    rcases Nat.eq_zero_or_pos r with hr | hr
    · subst hr
      exact ⟨false, p * s + 0 * q, rfl, .inr ⟨rfl, by omega, by omega⟩⟩
    · have e : (!false && decide (0 < r)) = true := by simp [hr]
      rw [e]
      unfold sumV
      rw [if_neg (by decide)]
      by_cases h : p * s < r * q
      · rw [if_pos h]; exact ⟨_, _, rfl, .inl ⟨rfl, h, by omega⟩⟩
      · rw [if_neg h]; exact ⟨_, _, rfl, .inr ⟨rfl, rfl, by omega⟩⟩
  obtain ⟨b, z, e, hb⟩ := hv
  have hz := div_gcd_zero z (q * s) hd
  unfold ordV sumN addP addG
  simp only [e]
  rcases hb with ⟨rfl, h1, h2⟩ | ⟨rfl, h1, h2⟩
  · rw [cmpI_lt (by omega), decide_eq_true h2]
    rfl
  · simp only [Bool.false_and, Bool.false_eq_true, if_false]
    by_cases h0 : z / Nat.gcd z (q * s) = 0
    · rw [if_pos h0, cmpI_eq (by have := hz.1 h0; omega)]
    · rw [if_neg h0, cmpI_gt (by have : ¬ z = 0 := fun h => h0 (hz.2 h); omega)]
end Go.Proofs.Ytagmohpafjncfaa

/- Reference 23: power, onto, Onto, Missing, between, Needed: by the evaluator. -/
set_option linter.unusedSimpArgs false
set_option linter.unusedVariables false
namespace Go.Proofs.Ytagmohpafjncfaa
open Eng Lmb Go.RowKit
theorem wu64 {z : Int} (h0 : 0 ≤ z) (h1 : z < 18446744073709551616) : IntKind.u64.wrap z = z := by
  unfold IntKind.wrap
  simp [IntKind.bits, IntKind.signed]
  omega
set_option maxRecDepth 100000 in
theorem refPower23C (F : Frm) (m n : Nat) (hm : m ≤ 16) (hn : n ≤ 128) : Contract F Try.prog 44 [.i .i64 m, .i .i64 n] (fun r => Nats r (m ^ n)) := by
  have hw : IntKind.u64.wrap (m : Int) = (m : Int) := wu64 (by omega) (by omega)
  refine contract_of Try.func44 rfl (by kernel_rfl) ?_
  simp only [Try.ntmps44, argEnv]
  (repeat refine Sat.seq ?_)
  (refine Sat.region_k fun k hk => ?_; simp -implicitDefEqProofs only [evr, id, reduceCtorEq, reduceIte, Nat.reduceMul, Nat.reduceAdd, Nat.reduceLT, Nat.reduceLeDiff, Nat.reduceEqDiff, Int.reduceLT, Int.reduceBEq, Int.reduceBNe, Nat.reduceBEq, List.append_nil, Int.toNat_zero, Nat.sub_self, frS]; refine hk _ ?_; clear hk k; try show Sat _ _ _ _ _)
  (repeat refine Sat.seq ?_)
  refine Sat.region_k fun k hk => ?_
  simp -implicitDefEqProofs only [evr, id, reduceCtorEq, reduceIte, Nat.reduceMul, Nat.reduceAdd, Nat.reduceLT, Nat.reduceLeDiff, Nat.reduceEqDiff, Int.reduceLT, Int.reduceBEq, Int.reduceBNe, Nat.reduceBEq, List.append_nil, Int.toNat_zero, Nat.sub_self, frS, hw]
  refine wcall_slice (refWordC F m (by omega)) rfl rfl ?_
  intro y hy
  have hy1 := hy
  obtain ⟨a2, c2, z2, r2, x2, rfl, _⟩ := hy
  simp -implicitDefEqProofs only [evr, id, reduceCtorEq, reduceIte, Nat.reduceMul, Nat.reduceAdd, Nat.reduceLT, Nat.reduceLeDiff, Nat.reduceEqDiff, Int.reduceLT, Int.reduceBEq, Int.reduceBNe, Nat.reduceBEq, List.append_nil, Int.toNat_zero, Nat.sub_self, frS]
  refine wcall_slice (refPowC F hy1 (lt_pw (a := 4) (by omega) (by decide)) (by omega) (fun i hi => kn_pw hm (by omega))) rfl rfl ?_
  rintro r ⟨s, rfl, hs⟩
  have hs1 := hs
  obtain ⟨a3, c3, z3, r3, x3, rfl, _⟩ := hs
  simp -implicitDefEqProofs only [evr, id, reduceCtorEq, reduceIte, Nat.reduceMul, Nat.reduceAdd, Nat.reduceLT, Nat.reduceLeDiff, Nat.reduceEqDiff, Int.reduceLT, Int.reduceBEq, Int.reduceBNe, Nat.reduceBEq, List.append_nil, Int.toNat_zero, Nat.sub_self, frS]
  (refine hk _ ?_; clear hk k; try show Sat _ _ _ _ _)
  (repeat refine Sat.seq ?_)
  (refine Sat.region_k fun k hk => ?_; simp -implicitDefEqProofs only [evr, id, reduceCtorEq, reduceIte, Nat.reduceMul, Nat.reduceAdd, Nat.reduceLT, Nat.reduceLeDiff, Nat.reduceEqDiff, Int.reduceLT, Int.reduceBEq, Int.reduceBNe, Nat.reduceBEq, List.append_nil, Int.toNat_zero, Nat.sub_self, frS]; refine hk _ ?_; clear hk k; try show Sat _ _ _ _ _)
  refine Sat.ret ?_
  simp only [Try.results44, evr, id, reduceCtorEq, reduceIte, Nat.reduceMul, Nat.reduceAdd, Nat.reduceLT, Nat.reduceLeDiff, Nat.reduceEqDiff, Int.reduceLT, Int.reduceBEq, Int.reduceBNe, Nat.reduceBEq, List.append_nil, Int.toNat_zero, Nat.sub_self, frS]
  exact hs1
set_option maxRecDepth 100000 in
theorem refOnto0C (F : Frm) (n m : Nat) (hn : n ≤ 128) (hk0 : m ≤ 16) : Contract F Try.prog 43 [.i .i64 n, .i .i64 m] (fun r => Nats r (cnt m n m)) := by
  have h256 : pw 256 ≤ pw 512 := pw_mono (by omega)
  refine contract_of Try.func43 rfl (by kernel_rfl) ?_
  simp only [Try.ntmps43, argEnv]
  (repeat refine Sat.seq ?_)
  (refine Sat.region_k fun k hk => ?_; simp -implicitDefEqProofs only [evr, id, reduceCtorEq, reduceIte, Nat.reduceMul, Nat.reduceAdd, Nat.reduceLT, Nat.reduceLeDiff, Nat.reduceEqDiff, Int.reduceLT, Int.reduceBEq, Int.reduceBNe, Nat.reduceBEq, List.append_nil, Int.toNat_zero, Nat.sub_self, frS]; refine hk _ ?_; clear hk k; try show Sat _ _ _ _ _)
  (repeat refine Sat.seq ?_)
  (refine Sat.region_k fun k hk => ?_; simp -implicitDefEqProofs only [evr, id, reduceCtorEq, reduceIte, Nat.reduceMul, Nat.reduceAdd, Nat.reduceLT, Nat.reduceLeDiff, Nat.reduceEqDiff, Int.reduceLT, Int.reduceBEq, Int.reduceBNe, Nat.reduceBEq, List.append_nil, Int.toNat_zero, Nat.sub_self, frS]; refine hk _ ?_; clear hk k; try show Sat _ _ _ _ _)
  (repeat refine Sat.seq ?_)
  (refine Sat.region_k fun k hk => ?_; simp -implicitDefEqProofs only [evr, id, reduceCtorEq, reduceIte, Nat.reduceMul, Nat.reduceAdd, Nat.reduceLT, Nat.reduceLeDiff, Nat.reduceEqDiff, Int.reduceLT, Int.reduceBEq, Int.reduceBNe, Nat.reduceBEq, List.append_nil, Int.toNat_zero, Nat.sub_self, frS]; refine hk _ ?_; clear hk k; try show Sat _ _ _ _ _)
  (repeat refine Sat.seq ?_)
  refine Sat.block ?_
  refine Sat.loop (ι := Nat × SV × SV) (fun x => ⟨41, [(7, .i .i64 x.1), (0, .i .i64 n), (1, .i .i64 m), (5, x.2.1), (6, x.2.2)], []⟩)
    (fun x => x.1 ≤ m + 1 ∧ Nats x.2.1 (sumE (ontoT n m) x.1) ∧ Nats x.2.2 (sumO (ontoT n m) x.1)) (fun x => m + 1 - x.1) (0, .sl none 0 0 0 (fun _ _ => .v undef), .sl none 0 0 0 (fun _ _ => .v undef)) ⟨by omega, Nats.nil, Nats.nil⟩ (by simp -implicitDefEqProofs only [evr, id, reduceCtorEq, reduceIte, Nat.reduceMul, Nat.reduceAdd, Nat.reduceLT, Nat.reduceLeDiff, Nat.reduceEqDiff, Int.reduceLT, Int.reduceBEq, Int.reduceBNe, Nat.reduceBEq, List.append_nil, Int.toNat_zero, Nat.sub_self, frS, evl]; try rfl) ?_
  rintro ⟨i, se, so⟩ ⟨hi, he, ho⟩
  simp only at hi he ho ⊢
  have he' := he
  have ho' := ho
  obtain ⟨a3, c3, z3, r3, x3, rfl, _⟩ := he
  obtain ⟨a4, c4, z4, r4, x4, rfl, _⟩ := ho
  (repeat refine Sat.seq ?_)
  (refine Sat.region_k fun k hk => ?_; simp -implicitDefEqProofs only [evr, id, reduceCtorEq, reduceIte, Nat.reduceMul, Nat.reduceAdd, Nat.reduceLT, Nat.reduceLeDiff, Nat.reduceEqDiff, Int.reduceLT, Int.reduceBEq, Int.reduceBNe, Nat.reduceBEq, List.append_nil, Int.toNat_zero, Nat.sub_self, frS]; refine hk _ ?_; clear hk k; try show Sat _ _ _ _ _)
  (repeat refine Sat.seq ?_)
  refine Sat.cond_b rfl (fun h => ?_) (fun h => ?_)
  · simp only [decide_eq_true_eq] at h
    have hik : i ≤ m := by omega
    have ei : IntKind.i64.wrap ((m : Int) - (i : Int)) = ((m - i : Nat) : Int) := by rw [w64 (by omega)]; omega
    have ei1 : IntKind.i64.wrap ((i : Int) + 1) = ((i + 1 : Nat) : Int) := by rw [w64 (by omega)]; omega
    have em : (((i : Int).tmod 2) == 0) = decide (i % 2 = 0) := by
      rw [Int.tmod_eq_emod_of_nonneg (by omega)]
      by_cases h9 : i % 2 = 0
      · rw [decide_eq_true h9, beq_iff_eq]; omega
      · rw [decide_eq_false h9, beq_eq_false_iff_ne]; omega
    have s1 : sumE (ontoT n m) (i + 1) = sumE (ontoT n m) i + if i % 2 = 0 then ontoT n m i else 0 := rfl
    have s2 : sumO (ontoT n m) (i + 1) = sumO (ontoT n m) i + if i % 2 = 0 then 0 else ontoT n m i := rfl
    have p1 := sumE_pw hk0 hn (show i + 1 ≤ 18 by omega)
    have p2 := sumO_pw hk0 hn (show i + 1 ≤ 18 by omega)
    refine Sat.skip ?_
    simp only [thenK]
    (repeat refine Sat.seq ?_)
    refine Sat.block ?_
    (repeat refine Sat.seq ?_)
    (refine Sat.region_k fun k hk => ?_; simp -implicitDefEqProofs only [evr, id, reduceCtorEq, reduceIte, Nat.reduceMul, Nat.reduceAdd, Nat.reduceLT, Nat.reduceLeDiff, Nat.reduceEqDiff, Int.reduceLT, Int.reduceBEq, Int.reduceBNe, Nat.reduceBEq, List.append_nil, Int.toNat_zero, Nat.sub_self, frS])
    refine wcall_slice (refChooseC F m i (by omega) (by omega)) rfl rfl ?_
    rintro y ⟨s, rfl, hy⟩
    have hs5 := hy
    obtain ⟨a5, c5, z5, r5, x5, rfl, _⟩ := hy
    simp -implicitDefEqProofs only [evr, id, reduceCtorEq, reduceIte, Nat.reduceMul, Nat.reduceAdd, Nat.reduceLT, Nat.reduceLeDiff, Nat.reduceEqDiff, Int.reduceLT, Int.reduceBEq, Int.reduceBNe, Nat.reduceBEq, List.append_nil, Int.toNat_zero, Nat.sub_self, frS]
    (refine hk _ ?_; clear hk k; try show Sat _ _ _ _ _)
    (repeat refine Sat.seq ?_)
    refine Sat.region_k fun k' hk => ?_
    simp -implicitDefEqProofs only [evr, id, reduceCtorEq, reduceIte, Nat.reduceMul, Nat.reduceAdd, Nat.reduceLT, Nat.reduceLeDiff, Nat.reduceEqDiff, Int.reduceLT, Int.reduceBEq, Int.reduceBNe, Nat.reduceBEq, List.append_nil, Int.toNat_zero, Nat.sub_self, frS, ei]
    refine wcall_slice (refPower23C F (m - i) n (by omega) hn) rfl rfl ?_
    intro y hy
    have hs6 := hy
    obtain ⟨a6, c6, z6, r6, x6, rfl, _⟩ := hy
    simp -implicitDefEqProofs only [evr, id, reduceCtorEq, reduceIte, Nat.reduceMul, Nat.reduceAdd, Nat.reduceLT, Nat.reduceLeDiff, Nat.reduceEqDiff, Int.reduceLT, Int.reduceBEq, Int.reduceBNe, Nat.reduceBEq, List.append_nil, Int.toNat_zero, Nat.sub_self, frS]
    have bb := Zn.binom_pw (n := m) (by omega) i
    have bk := kn_pw (k := m - i) (n := n) (by omega) hn
    refine wcall_slice (refTimesC F hs5 hs6 (by omega) (by omega)) rfl rfl ?_
    intro y hy
    have hs7 : Nats y (ontoT n m i) := hy
    obtain ⟨a7, c7, z7, r7, x7, rfl, _⟩ := hy
    simp -implicitDefEqProofs only [evr, id, reduceCtorEq, reduceIte, Nat.reduceMul, Nat.reduceAdd, Nat.reduceLT, Nat.reduceLeDiff, Nat.reduceEqDiff, Int.reduceLT, Int.reduceBEq, Int.reduceBNe, Nat.reduceBEq, List.append_nil, Int.toNat_zero, Nat.sub_self, frS]
    refine hk _ ?_
    clear hk k'
    try show Sat _ _ _ _ _
    (repeat refine Sat.seq ?_)
    refine Sat.region_k fun k' hk => ?_
    simp -implicitDefEqProofs only [evr, id, reduceCtorEq, reduceIte, Nat.reduceMul, Nat.reduceAdd, Nat.reduceLT, Nat.reduceLeDiff, Nat.reduceEqDiff, Int.reduceLT, Int.reduceBEq, Int.reduceBNe, Nat.reduceBEq, List.append_nil, Int.toNat_zero, Nat.sub_self, frS, em]
    refine ⟨by decide, ?_⟩
    refine hk _ ?_
    clear hk k'
    try show Sat _ _ _ _ _
    refine Sat.cond_b rfl (fun h5 => ?_) (fun h5 => ?_)
    · have h6 := of_decide_eq_true h5
      rw [if_pos h6] at s1 s2
      (repeat refine Sat.seq ?_)
      (refine Sat.region_k fun k hk => ?_; simp -implicitDefEqProofs only [evr, id, reduceCtorEq, reduceIte, Nat.reduceMul, Nat.reduceAdd, Nat.reduceLT, Nat.reduceLeDiff, Nat.reduceEqDiff, Int.reduceLT, Int.reduceBEq, Int.reduceBNe, Nat.reduceBEq, List.append_nil, Int.toNat_zero, Nat.sub_self, frS])
      refine wcall_slice (refPlusC F he' hs7 (by omega) (by omega)) rfl rfl ?_
      intro y hy
      have hs8 := hy
      obtain ⟨a8, c8, z8, r8, x8, rfl, _⟩ := hy
      simp -implicitDefEqProofs only [evr, id, reduceCtorEq, reduceIte, Nat.reduceMul, Nat.reduceAdd, Nat.reduceLT, Nat.reduceLeDiff, Nat.reduceEqDiff, Int.reduceLT, Int.reduceBEq, Int.reduceBNe, Nat.reduceBEq, List.append_nil, Int.toNat_zero, Nat.sub_self, frS]
      refine hk _ ?_
      clear hk k
      simp only [thenK, blockK]
      (repeat refine Sat.seq ?_)
      refine Sat.region_k fun k' hk => ?_
      simp -implicitDefEqProofs only [evr, id, reduceCtorEq, reduceIte, Nat.reduceMul, Nat.reduceAdd, Nat.reduceLT, Nat.reduceLeDiff, Nat.reduceEqDiff, Int.reduceLT, Int.reduceBEq, Int.reduceBNe, Nat.reduceBEq, List.append_nil, Int.toNat_zero, Nat.sub_self, frS, ei1]
      refine hk _ ?_
      simp only [thenK, blockK]
      refine ⟨(i + 1, _, _), ⟨by show i + 1 ≤ m + 1; omega, by rw [s1]; exact hs8, by rw [s2, Nat.add_zero]; exact ho'⟩, by show m + 1 - (i + 1) < m + 1 - i; omega, ?_⟩
      simp -implicitDefEqProofs only [evr, id, reduceCtorEq, reduceIte, Nat.reduceMul, Nat.reduceAdd, Nat.reduceLT, Nat.reduceLeDiff, Nat.reduceEqDiff, Int.reduceLT, Int.reduceBEq, Int.reduceBNe, Nat.reduceBEq, List.append_nil, Int.toNat_zero, Nat.sub_self, frS, evl]
    · have h6 := of_decide_eq_false h5
      rw [if_neg h6] at s1 s2
      (repeat refine Sat.seq ?_)
      (refine Sat.region_k fun k hk => ?_; simp -implicitDefEqProofs only [evr, id, reduceCtorEq, reduceIte, Nat.reduceMul, Nat.reduceAdd, Nat.reduceLT, Nat.reduceLeDiff, Nat.reduceEqDiff, Int.reduceLT, Int.reduceBEq, Int.reduceBNe, Nat.reduceBEq, List.append_nil, Int.toNat_zero, Nat.sub_self, frS])
      refine wcall_slice (refPlusC F ho' hs7 (by omega) (by omega)) rfl rfl ?_
      intro y hy
      have hs8 := hy
      obtain ⟨a8, c8, z8, r8, x8, rfl, _⟩ := hy
      simp -implicitDefEqProofs only [evr, id, reduceCtorEq, reduceIte, Nat.reduceMul, Nat.reduceAdd, Nat.reduceLT, Nat.reduceLeDiff, Nat.reduceEqDiff, Int.reduceLT, Int.reduceBEq, Int.reduceBNe, Nat.reduceBEq, List.append_nil, Int.toNat_zero, Nat.sub_self, frS]
      refine hk _ ?_
      clear hk k
      simp only [thenK, blockK]
      (repeat refine Sat.seq ?_)
      refine Sat.region_k fun k' hk => ?_
      simp -implicitDefEqProofs only [evr, id, reduceCtorEq, reduceIte, Nat.reduceMul, Nat.reduceAdd, Nat.reduceLT, Nat.reduceLeDiff, Nat.reduceEqDiff, Int.reduceLT, Int.reduceBEq, Int.reduceBNe, Nat.reduceBEq, List.append_nil, Int.toNat_zero, Nat.sub_self, frS, ei1]
      refine hk _ ?_
      simp only [thenK, blockK]
      refine ⟨(i + 1, _, _), ⟨by show i + 1 ≤ m + 1; omega, by rw [s1, Nat.add_zero]; exact he', by rw [s2]; exact hs8⟩, by show m + 1 - (i + 1) < m + 1 - i; omega, ?_⟩
      simp -implicitDefEqProofs only [evr, id, reduceCtorEq, reduceIte, Nat.reduceMul, Nat.reduceAdd, Nat.reduceLT, Nat.reduceLeDiff, Nat.reduceEqDiff, Int.reduceLT, Int.reduceBEq, Int.reduceBNe, Nat.reduceBEq, List.append_nil, Int.toNat_zero, Nat.sub_self, frS, evl]
  · simp only [decide_eq_false_iff_not] at h
    have hi2 : i = m + 1 := by omega
    subst hi2
    obtain ⟨o1, o2⟩ := onto_cnt n m
    have p1 := sumE_pw hk0 hn (show m + 1 ≤ 18 by omega)
    refine Sat.exit ?_
    simp only [thenK, blockK, reduceIte]
    (repeat refine Sat.seq ?_)
    (refine Sat.region_k fun k hk => ?_; simp -implicitDefEqProofs only [evr, id, reduceCtorEq, reduceIte, Nat.reduceMul, Nat.reduceAdd, Nat.reduceLT, Nat.reduceLeDiff, Nat.reduceEqDiff, Int.reduceLT, Int.reduceBEq, Int.reduceBNe, Nat.reduceBEq, List.append_nil, Int.toNat_zero, Nat.sub_self, frS])
    refine wcall_slice (refLessC F he' ho' (by omega) o1) rfl rfl ?_
    intro y hy
    rw [o2] at hy
    have hs8 := hy
    obtain ⟨a8, c8, z8, r8, x8, rfl, _⟩ := hy
    simp -implicitDefEqProofs only [evr, id, reduceCtorEq, reduceIte, Nat.reduceMul, Nat.reduceAdd, Nat.reduceLT, Nat.reduceLeDiff, Nat.reduceEqDiff, Int.reduceLT, Int.reduceBEq, Int.reduceBNe, Nat.reduceBEq, List.append_nil, Int.toNat_zero, Nat.sub_self, frS]
    (refine hk _ ?_; clear hk k; try show Sat _ _ _ _ _)
    refine Sat.ret ?_
    simp only [Try.results43, evr, id, reduceCtorEq, reduceIte, Nat.reduceMul, Nat.reduceAdd, Nat.reduceLT, Nat.reduceLeDiff, Nat.reduceEqDiff, Int.reduceLT, Int.reduceBEq, Int.reduceBNe, Nat.reduceBEq, List.append_nil, Int.toNat_zero, Nat.sub_self, frS]
    exact hs8
def ontoIn (n m : Int) : Bool := decide (0 ≤ n ∧ n ≤ 128 ∧ 0 ≤ m ∧ m ≤ 16)
def OntoPost (n m : Int) (r : SV) : Prop := ∃ s, Nats s (if ontoIn n m then cnt m.toNat n.toNat m.toNat else 0) ∧ r = tupL [s, .i .i64 (if ontoIn n m then 0 else 1)]
theorem ontoIn_nat {n m : Int} (h : ontoIn n m = true) : ∃ a b : Nat, n = a ∧ m = b ∧ a ≤ 128 ∧ b ≤ 16 := by
  obtain ⟨h1, h2, h3, h4⟩ := of_decide_eq_true h
  exact ⟨n.toNat, m.toNat, by omega, by omega, by omega, by omega⟩
set_option maxRecDepth 100000 in
theorem refOntoC (F : Frm) (n m : Int) : Contract F Try.prog 21 [.i .i64 n, .i .i64 m] (OntoPost n m) := by
  refine contract_of Try.func21 rfl (by kernel_rfl) ?_
  simp only [Try.ntmps21, argEnv]
  (repeat refine Sat.seq ?_)
  (refine Sat.region_k fun k hk => ?_; simp -implicitDefEqProofs only [evr, id, reduceCtorEq, reduceIte, Nat.reduceMul, Nat.reduceAdd, Nat.reduceLT, Nat.reduceLeDiff, Nat.reduceEqDiff, Int.reduceLT, Int.reduceBEq, Int.reduceBNe, Nat.reduceBEq, List.append_nil, Int.toNat_zero, Nat.sub_self, frS]; refine hk _ ?_; clear hk k; try show Sat _ _ _ _ _)
  (repeat refine Sat.seq ?_)
  refine Sat.region_at ⟨23, [(19, .b (!ontoIn n m)), (0, .i .i64 n), (1, .i .i64 m), (4, .sl none 0 0 0 (fun _ _ => .v undef))], []⟩ (fun k' hk' => ?_) ?_
  · simp -implicitDefEqProofs only [evr, id, reduceCtorEq, reduceIte, Nat.reduceMul, Nat.reduceAdd, Nat.reduceLT, Nat.reduceLeDiff, Nat.reduceEqDiff, Int.reduceLT, Int.reduceBEq, Int.reduceBNe, Nat.reduceBEq, List.append_nil, Int.toNat_zero, Nat.sub_self, frS]
    refine ⟨fun h1 => ?_, fun h1 => ⟨fun h2 => ?_, fun h2 => ⟨fun h3 => ?_, fun h3 => ?_⟩⟩⟩ <;> refine hk' _ ?_
    · have e : ontoIn n m = false := decide_eq_false (by omega)
      simp only [e, Bool.not_false]
      simp -implicitDefEqProofs only [evr, id, reduceCtorEq, reduceIte, Nat.reduceMul, Nat.reduceAdd, Nat.reduceLT, Nat.reduceLeDiff, Nat.reduceEqDiff, Int.reduceLT, Int.reduceBEq, Int.reduceBNe, Nat.reduceBEq, List.append_nil, Int.toNat_zero, Nat.sub_self, frS, evl]
    · have e : ontoIn n m = false := decide_eq_false (by omega)
      simp only [e, Bool.not_false]
      simp -implicitDefEqProofs only [evr, id, reduceCtorEq, reduceIte, Nat.reduceMul, Nat.reduceAdd, Nat.reduceLT, Nat.reduceLeDiff, Nat.reduceEqDiff, Int.reduceLT, Int.reduceBEq, Int.reduceBNe, Nat.reduceBEq, List.append_nil, Int.toNat_zero, Nat.sub_self, frS, evl]
    · have e : ontoIn n m = false := decide_eq_false (by omega)
      simp only [e, Bool.not_false]
      simp -implicitDefEqProofs only [evr, id, reduceCtorEq, reduceIte, Nat.reduceMul, Nat.reduceAdd, Nat.reduceLT, Nat.reduceLeDiff, Nat.reduceEqDiff, Int.reduceLT, Int.reduceBEq, Int.reduceBNe, Nat.reduceBEq, List.append_nil, Int.toNat_zero, Nat.sub_self, frS, evl]
    · have e : decide (16 < m) = !ontoIn n m := by
        by_cases h9 : 16 < m
        · rw [decide_eq_true h9, show ontoIn n m = false from decide_eq_false (by omega)]; rfl
        · rw [decide_eq_false h9, show ontoIn n m = true from decide_eq_true (by omega)]; rfl
      simp only [e]
      simp -implicitDefEqProofs only [evr, id, reduceCtorEq, reduceIte, Nat.reduceMul, Nat.reduceAdd, Nat.reduceLT, Nat.reduceLeDiff, Nat.reduceEqDiff, Int.reduceLT, Int.reduceBEq, Int.reduceBNe, Nat.reduceBEq, List.append_nil, Int.toNat_zero, Nat.sub_self, frS, evl]
  simp only [thenK]
  refine Sat.cond_b rfl (fun h => ?_) (fun h => ?_)
  · have e : ontoIn n m = false := by simpa using h
    (repeat refine Sat.seq ?_)
    (refine Sat.region_k fun k hk => ?_; simp -implicitDefEqProofs only [evr, id, reduceCtorEq, reduceIte, Nat.reduceMul, Nat.reduceAdd, Nat.reduceLT, Nat.reduceLeDiff, Nat.reduceEqDiff, Int.reduceLT, Int.reduceBEq, Int.reduceBNe, Nat.reduceBEq, List.append_nil, Int.toNat_zero, Nat.sub_self, frS]; refine hk _ ?_; clear hk k; try show Sat _ _ _ _ _)
    refine Sat.ret ?_
    simp only [Try.results21, evr, id, reduceCtorEq, reduceIte, Nat.reduceMul, Nat.reduceAdd, Nat.reduceLT, Nat.reduceLeDiff, Nat.reduceEqDiff, Int.reduceLT, Int.reduceBEq, Int.reduceBNe, Nat.reduceBEq, List.append_nil, Int.toNat_zero, Nat.sub_self, frS]
    exact ⟨.sl none 0 0 0 (fun _ _ => .v undef), by rw [e]; exact Nats.nil, by rw [e]; rfl⟩
  · have e : ontoIn n m = true := by simpa using h
    obtain ⟨a, b, rfl, rfl, ha, hb⟩ := ontoIn_nat e
    refine Sat.skip ?_
    simp only [thenK]
    (repeat refine Sat.seq ?_)
    (refine Sat.region_k fun k hk => ?_; simp -implicitDefEqProofs only [evr, id, reduceCtorEq, reduceIte, Nat.reduceMul, Nat.reduceAdd, Nat.reduceLT, Nat.reduceLeDiff, Nat.reduceEqDiff, Int.reduceLT, Int.reduceBEq, Int.reduceBNe, Nat.reduceBEq, List.append_nil, Int.toNat_zero, Nat.sub_self, frS])
    refine wcall_slice (refOnto0C F a b ha hb) rfl rfl ?_
    intro y hy
    have hs8 := hy
    obtain ⟨a8, c8, z8, r8, x8, rfl, _⟩ := hy
    simp -implicitDefEqProofs only [evr, id, reduceCtorEq, reduceIte, Nat.reduceMul, Nat.reduceAdd, Nat.reduceLT, Nat.reduceLeDiff, Nat.reduceEqDiff, Int.reduceLT, Int.reduceBEq, Int.reduceBNe, Nat.reduceBEq, List.append_nil, Int.toNat_zero, Nat.sub_self, frS]
    (refine hk _ ?_; clear hk k; try show Sat _ _ _ _ _)
    refine Sat.ret ?_
    simp only [Try.results21, evr, id, reduceCtorEq, reduceIte, Nat.reduceMul, Nat.reduceAdd, Nat.reduceLT, Nat.reduceLeDiff, Nat.reduceEqDiff, Int.reduceLT, Int.reduceBEq, Int.reduceBNe, Nat.reduceBEq, List.append_nil, Int.toNat_zero, Nat.sub_self, frS]
    exact ⟨_, by rw [e]; exact hs8, by rw [e]; rfl⟩
def misIn (n m : Int) : Bool := decide (0 ≤ n ∧ n ≤ 128 ∧ 1 ≤ m ∧ m ≤ 16)
def MisPost (n m : Int) (r : SV) : Prop := ∃ f, FrS f false (if misIn n m then misP n.toNat m.toNat else 0) (if misIn n m then misQ n.toNat m.toNat else 0) ∧ r = tupL [f, .i .i64 (if misIn n m then 0 else 1)]
theorem misIn_nat {n m : Int} (h : misIn n m = true) : ∃ a b : Nat, n = a ∧ m = b ∧ a ≤ 128 ∧ b ≤ 16 ∧ 1 ≤ b := by
  obtain ⟨h1, h2, h3, h4⟩ := of_decide_eq_true h
  exact ⟨n.toNat, m.toNat, by omega, by omega, by omega, by omega, by omega⟩
set_option maxRecDepth 100000 in
theorem refMissingC (F : Frm) (n m : Int) : Contract F Try.prog 22 [.i .i64 n, .i .i64 m] (MisPost n m) := by
  refine contract_of Try.func22 rfl (by kernel_rfl) ?_
  simp only [Try.ntmps22, argEnv]
  (repeat refine Sat.seq ?_)
  (refine Sat.region_k fun k hk => ?_; simp -implicitDefEqProofs only [evr, id, reduceCtorEq, reduceIte, Nat.reduceMul, Nat.reduceAdd, Nat.reduceLT, Nat.reduceLeDiff, Nat.reduceEqDiff, Int.reduceLT, Int.reduceBEq, Int.reduceBNe, Nat.reduceBEq, List.append_nil, Int.toNat_zero, Nat.sub_self, frS])
  intro b4
  (refine hk _ ?_; clear hk k; try show Sat _ _ _ _ _)
  (repeat refine Sat.seq ?_)
  refine Sat.region_at ⟨33, [(20, .b (!misIn n m)), (0, .i .i64 n), (1, .i .i64 m), (4, .op 0 b4 0)], [.box b4 30 [.b false, .sl none 0 0 0 (fun _ _ => .v undef), .sl none 0 0 0 (fun _ _ => .v undef)]]⟩ (fun k' hk' => ?_) ?_
  · simp -implicitDefEqProofs only [evr, id, reduceCtorEq, reduceIte, Nat.reduceMul, Nat.reduceAdd, Nat.reduceLT, Nat.reduceLeDiff, Nat.reduceEqDiff, Int.reduceLT, Int.reduceBEq, Int.reduceBNe, Nat.reduceBEq, List.append_nil, Int.toNat_zero, Nat.sub_self, frS]
    refine ⟨fun h1 => ?_, fun h1 => ⟨fun h2 => ?_, fun h2 => ⟨fun h3 => ?_, fun h3 => ?_⟩⟩⟩ <;> refine hk' _ ?_
    · have e : misIn n m = false := decide_eq_false (by omega)
      simp only [e, Bool.not_false]
      simp -implicitDefEqProofs only [evr, id, reduceCtorEq, reduceIte, Nat.reduceMul, Nat.reduceAdd, Nat.reduceLT, Nat.reduceLeDiff, Nat.reduceEqDiff, Int.reduceLT, Int.reduceBEq, Int.reduceBNe, Nat.reduceBEq, List.append_nil, Int.toNat_zero, Nat.sub_self, frS, evl]
      try rfl
    · have e : misIn n m = false := decide_eq_false (by omega)
      simp only [e, Bool.not_false]
      simp -implicitDefEqProofs only [evr, id, reduceCtorEq, reduceIte, Nat.reduceMul, Nat.reduceAdd, Nat.reduceLT, Nat.reduceLeDiff, Nat.reduceEqDiff, Int.reduceLT, Int.reduceBEq, Int.reduceBNe, Nat.reduceBEq, List.append_nil, Int.toNat_zero, Nat.sub_self, frS, evl]
      try rfl
    · have e : misIn n m = false := decide_eq_false (by omega)
      simp only [e, Bool.not_false]
      simp -implicitDefEqProofs only [evr, id, reduceCtorEq, reduceIte, Nat.reduceMul, Nat.reduceAdd, Nat.reduceLT, Nat.reduceLeDiff, Nat.reduceEqDiff, Int.reduceLT, Int.reduceBEq, Int.reduceBNe, Nat.reduceBEq, List.append_nil, Int.toNat_zero, Nat.sub_self, frS, evl]
      try rfl
    · have e : decide (16 < m) = !misIn n m := by
        by_cases h9 : 16 < m
        · rw [decide_eq_true h9, show misIn n m = false from decide_eq_false (by omega)]; rfl
        · rw [decide_eq_false h9, show misIn n m = true from decide_eq_true (by omega)]; rfl
      simp only [e]
      simp -implicitDefEqProofs only [evr, id, reduceCtorEq, reduceIte, Nat.reduceMul, Nat.reduceAdd, Nat.reduceLT, Nat.reduceLeDiff, Nat.reduceEqDiff, Int.reduceLT, Int.reduceBEq, Int.reduceBNe, Nat.reduceBEq, List.append_nil, Int.toNat_zero, Nat.sub_self, frS, evl]
      try rfl
  simp only [thenK]
  refine Sat.cond_b rfl (fun h => ?_) (fun h => ?_)
  · have e : misIn n m = false := by simpa using h
    (repeat refine Sat.seq ?_)
    (refine Sat.region_k fun k hk => ?_; simp -implicitDefEqProofs only [evr, id, reduceCtorEq, reduceIte, Nat.reduceMul, Nat.reduceAdd, Nat.reduceLT, Nat.reduceLeDiff, Nat.reduceEqDiff, Int.reduceLT, Int.reduceBEq, Int.reduceBNe, Nat.reduceBEq, List.append_nil, Int.toNat_zero, Nat.sub_self, frS])
    (refine hk _ ?_; clear hk k; try show Sat _ _ _ _ _)
    refine Sat.ret ?_
    simp only [Try.results22, evr, id, reduceCtorEq, reduceIte, Nat.reduceMul, Nat.reduceAdd, Nat.reduceLT, Nat.reduceLeDiff, Nat.reduceEqDiff, Int.reduceLT, Int.reduceBEq, Int.reduceBNe, Nat.reduceBEq, List.append_nil, Int.toNat_zero, Nat.sub_self, frS]
    exact ⟨frS false (.sl none 0 0 0 (fun _ _ => .v undef)) (.sl none 0 0 0 (fun _ _ => .v undef)), by rw [e]; exact ⟨_, _, rfl, Nats.nil, Nats.nil⟩, by rw [e]; rfl⟩
  · have e : misIn n m = true := by simpa using h
    obtain ⟨a, b, rfl, rfl, ha, hb, hb1⟩ := misIn_nat e
    have h0 : 0 < b ^ a := Nat.pow_pos hb1
    have hpow := kn_pw hb ha
    have hcl := cnt_le b a b (Nat.le_refl _)
    have h256 : pw 256 ≤ pw 512 := pw_mono (by omega)
    refine Sat.skip ?_
    simp only [thenK]
    (repeat refine Sat.seq ?_)
    (refine Sat.region_k fun k hk => ?_; simp -implicitDefEqProofs only [evr, id, reduceCtorEq, reduceIte, Nat.reduceMul, Nat.reduceAdd, Nat.reduceLT, Nat.reduceLeDiff, Nat.reduceEqDiff, Int.reduceLT, Int.reduceBEq, Int.reduceBNe, Nat.reduceBEq, List.append_nil, Int.toNat_zero, Nat.sub_self, frS])
    refine wcall_slice (refPower23C F b a hb ha) rfl rfl ?_
    intro y hy
    have hs1 := hy
    obtain ⟨a1, c1, z1, r1, x1, rfl, _⟩ := hy
    simp -implicitDefEqProofs only [evr, id, reduceCtorEq, reduceIte, Nat.reduceMul, Nat.reduceAdd, Nat.reduceLT, Nat.reduceLeDiff, Nat.reduceEqDiff, Int.reduceLT, Int.reduceBEq, Int.reduceBNe, Nat.reduceBEq, List.append_nil, Int.toNat_zero, Nat.sub_self, frS]
    (refine hk _ ?_; clear hk k; try show Sat _ _ _ _ _)
    (repeat refine Sat.seq ?_)
    (refine Sat.region_k fun k hk => ?_; simp -implicitDefEqProofs only [evr, id, reduceCtorEq, reduceIte, Nat.reduceMul, Nat.reduceAdd, Nat.reduceLT, Nat.reduceLeDiff, Nat.reduceEqDiff, Int.reduceLT, Int.reduceBEq, Int.reduceBNe, Nat.reduceBEq, List.append_nil, Int.toNat_zero, Nat.sub_self, frS])
    refine wcall_slice (refOnto0C F a b ha hb) rfl rfl ?_
    intro y hy
    have hs2 := hy
    obtain ⟨a2, c2, z2, r2, x2, rfl, _⟩ := hy
    simp -implicitDefEqProofs only [evr, id, reduceCtorEq, reduceIte, Nat.reduceMul, Nat.reduceAdd, Nat.reduceLT, Nat.reduceLeDiff, Nat.reduceEqDiff, Int.reduceLT, Int.reduceBEq, Int.reduceBNe, Nat.reduceBEq, List.append_nil, Int.toNat_zero, Nat.sub_self, frS]
    refine wcall_slice (refLessC F hs1 hs2 (by omega) hcl) rfl rfl ?_
    intro y hy
    have hs3 := hy
    obtain ⟨a3, c3, z3, r3, x3, rfl, _⟩ := hy
    simp -implicitDefEqProofs only [evr, id, reduceCtorEq, reduceIte, Nat.reduceMul, Nat.reduceAdd, Nat.reduceLT, Nat.reduceLeDiff, Nat.reduceEqDiff, Int.reduceLT, Int.reduceBEq, Int.reduceBNe, Nat.reduceBEq, List.append_nil, Int.toNat_zero, Nat.sub_self, frS]
    refine wcall_slice (refReduceC F false hs3 hs1 (by omega) hpow h0) rfl (by simp -implicitDefEqProofs only [evr, id, reduceCtorEq, reduceIte, Nat.reduceMul, Nat.reduceAdd, Nat.reduceLT, Nat.reduceLeDiff, Nat.reduceEqDiff, Int.reduceLT, Int.reduceBEq, Int.reduceBNe, Nat.reduceBEq, List.append_nil, Int.toNat_zero, Nat.sub_self, frS]; try rfl) ?_
    rintro y ⟨sp, sq, rfl, hp, hq⟩
    have hp' : Nats sp (misP a b) := hp
    have hq' : Nats sq (misQ a b) := hq
    obtain ⟨a5, c5, z5, r5, x5, rfl, _⟩ := hp
    obtain ⟨a6, c6, z6, r6, x6, rfl, _⟩ := hq
    simp -implicitDefEqProofs only [evr, id, reduceCtorEq, reduceIte, Nat.reduceMul, Nat.reduceAdd, Nat.reduceLT, Nat.reduceLeDiff, Nat.reduceEqDiff, Int.reduceLT, Int.reduceBEq, Int.reduceBNe, Nat.reduceBEq, List.append_nil, Int.toNat_zero, Nat.sub_self, frS, Bool.false_and]
    (refine hk _ ?_; clear hk k; try show Sat _ _ _ _ _)
    refine Sat.ret ?_
    simp only [Try.results22, evr, id, reduceCtorEq, reduceIte, Nat.reduceMul, Nat.reduceAdd, Nat.reduceLT, Nat.reduceLeDiff, Nat.reduceEqDiff, Int.reduceLT, Int.reduceBEq, Int.reduceBNe, Nat.reduceBEq, List.append_nil, Int.toNat_zero, Nat.sub_self, frS]
    exact ⟨_, by rw [e]; exact ⟨_, _, rfl, hp', hq'⟩, by rw [e]; rfl⟩
end Go.Proofs.Ytagmohpafjncfaa
