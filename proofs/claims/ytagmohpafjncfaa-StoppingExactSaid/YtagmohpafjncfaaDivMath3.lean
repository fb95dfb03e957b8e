/- Long division: the beginning and the end. -/
import Derived.Test.YtagmohpafjncfaaShiftMath
namespace Go.Proofs.Ytagmohpafjncfaa.Lmb
theorem lead_room {y : Int} {L : Nat} (hy : y < 2 ^ L) (hL : L ≤ 30) : (y + 1) * 2 ^ (30 - L) ≤ 1073741824 := by
  have e : (2 : Int) ^ L * 2 ^ (30 - L) = 1073741824 := by
    rw [← Int.pow_add]
    have : L + (30 - L) = 30 := by omega
    rw [this]; decide
  have hp : 0 < (2 : Int) ^ (30 - L) := Int.pow_pos (by decide)
  rw [← e]
  exact Int.mul_le_mul_of_nonneg_right (by omega) (by omega)
theorem divisor_of {ys vs : List Int} {s n : Nat} (hn : 2 ≤ n) (hl : ys.length = n) (ly : Limbs ys) (ny : Norm ys) (h : ShiftInv ys vs s ys.length) (hs : s ≤ 29) (hr : (ys.getD (n - 1) 0 + 1) * 2 ^ s ≤ 1073741824) :
    Divisor vs (val ys * 2 ^ s) n := by
  obtain ⟨c, _, _, p0, p1⟩ := two_pow_base hs
  have hv := h.done
  have e0 := val_split ys (n - 1) (by omega)
  have e1 := val_drop ys (n - 1) (by omega)
  have i1 : n - 1 + 1 = n := by omega
  have z1 : ys.drop n = [] := List.drop_of_length_le (by omega)
  rw [i1, z1, val_nil, Int.mul_zero, Int.add_zero] at e1
  have t1 := val_lt (limbs_take ly (n - 1))
  rw [List.length_take, Nat.min_eq_left (by omega)] at t1
  have hpos := val_pos ly ny (fun h0 => by rw [h0, List.length_nil] at hl; omega)
  rw [hl] at hpos
  have hp := pw_pos (n - 1)
  have hpn : pw n = 1073741824 * pw (n - 1) := by rw [← pw_succ, i1]
  have b := limbs_getD ly (n - 1)
  have hlt : val ys * 2 ^ s < pw n := by
    have h1 : val ys < pw (n - 1) * (ys.getD (n - 1) 0 + 1) := by
      rw [e0, e1, Int.mul_add (pw (n - 1)) _ 1]; omega
    have h2 : val ys * 2 ^ s < pw (n - 1) * (ys.getD (n - 1) 0 + 1) * 2 ^ s := Int.mul_lt_mul_of_pos_right h1 (by omega)
    have h3 : pw (n - 1) * (ys.getD (n - 1) 0 + 1) * 2 ^ s = pw (n - 1) * ((ys.getD (n - 1) 0 + 1) * 2 ^ s) := Int.mul_assoc _ _ _
    have h4 : pw (n - 1) * ((ys.getD (n - 1) 0 + 1) * 2 ^ s) ≤ pw (n - 1) * 1073741824 := Int.mul_le_mul_of_nonneg_left hr (by omega)
    rw [hpn]; omega
  refine ⟨by rw [h.len, hl], h.limbs, hv, hlt, hn, ?_⟩
  have bl := limbs_getD h.limbs (n - 1)
  rcases (show vs.getD (n - 1) 0 = 0 ∨ 1 ≤ vs.getD (n - 1) 0 by omega) with hz | hz
  · exfalso
    have hlen := h.len
    have f0 := val_split vs (n - 1) (by omega)
    have f1 := val_drop vs (n - 1) (by omega)
    rw [i1, hz] at f1
    have u1 := val_lt (limbs_take h.limbs (n - 1))
    rw [List.length_take, Nat.min_eq_left (by omega)] at u1
    have u0 := val_nonneg (limbs_drop h.limbs n)
    have ge : pw (n - 1) * 1 ≤ val ys * 2 ^ s := Int.mul_le_mul hpos p0 (by omega) (by omega)
    have u2 := val_nonneg (limbs_take h.limbs (n - 1))
    rw [f1] at f0
    rcases (show val (vs.drop n) = 0 ∨ 1 ≤ val (vs.drop n) by omega) with hd | hd
    · rw [hd] at f0; omega
    · have : pw (n - 1) * (1073741824 * 1) ≤ pw (n - 1) * (0 + 1073741824 * val (vs.drop n)) := Int.mul_le_mul_of_nonneg_left (by omega) (by omega)
      omega
  · exact hz
theorem div_start {xs ys us : List Int} {s n : Nat} (hn : 1 ≤ n) (hl : ys.length = n) (hxl : n ≤ xs.length) (lx : Limbs xs) (ly : Limbs ys) (ny : Norm ys) (h : ShiftInv xs us s xs.length) (hs : s ≤ 29) :
    DivInv (val xs * 2 ^ s) (val ys * 2 ^ s) us (List.replicate (xs.length - n + 1) 0) (xs.length + 1) (xs.length - n + 1) (xs.length - n + 1) := by
  obtain ⟨c, _, _, p0, p1⟩ := two_pow_base hs
  have hv := h.done
  have hpos := val_pos ly ny (fun h0 => by rw [h0, List.length_nil] at hl; omega)
  rw [hl] at hpos
  have hx := val_lt lx
  have e : pw (xs.length - n + 1) * pw (n - 1) = pw xs.length := by rw [← pw_add]; congr 1; omega
  refine ⟨h.len, by simp, h.limbs, limbs_replicate _, ?_, ?_⟩
  · rw [List.drop_of_length_le (by simp), val_nil, Int.zero_mul, Int.zero_add, hv]
  · rw [hv]
    have h1 : val xs * 2 ^ s < pw xs.length * 2 ^ s := Int.mul_lt_mul_of_pos_right hx (by omega)
    have h2 : pw (n - 1) * 2 ^ s ≤ val ys * 2 ^ s := Int.mul_le_mul_of_nonneg_right hpos (by omega)
    have h3 : pw (xs.length - n + 1) * (pw (n - 1) * 2 ^ s) ≤ pw (xs.length - n + 1) * (val ys * 2 ^ s) := Int.mul_le_mul_of_nonneg_left h2 (Int.le_of_lt (pw_pos _))
    rw [← Int.mul_assoc, e] at h3
    omega
theorem div_end {xs ys us qs : List Int} {s m n lu lq : Nat} (hx : val xs = m) (hy : val ys = n) (hn : 0 < n) (hs : s ≤ 29) (h : DivInv (val xs * 2 ^ s) (val ys * 2 ^ s) us qs lu lq 0) :
    Dig (trim qs) (m / n) ∧ val us = ((m % n * 2 ^ s : Nat) : Int) := by
  obtain ⟨c, _, _, p0, p1⟩ := two_pow_base hs
  have he := h.eq
  have hlt := h.lt
  have hu := val_nonneg h.ulimbs
  have hq := val_nonneg h.qlimbs
  have hd := dig_trim h.qlimbs
  rw [List.drop_zero, pw_zero, Int.one_mul, hx, hy] at he
  rw [pw_zero, Int.one_mul, hy] at hlt
  obtain ⟨q, hq'⟩ := Int.eq_ofNat_of_zero_le hq
  rw [hq'] at he hd
  have ep : ((2 ^ s : Nat) : Int) = (2 : Int) ^ s := by simp
  have e1 : val us = ((m : Int) - q * n) * 2 ^ s := by
    rw [Int.sub_mul, Int.mul_assoc]; omega
  have hr0 : 0 ≤ (m : Int) - q * n := by
    rcases Int.lt_or_le ((m : Int) - q * n) 0 with hc | hc
    · have : ((m : Int) - q * n) * 2 ^ s ≤ (-1) * 2 ^ s := Int.mul_le_mul_of_nonneg_right (by omega) (by omega)
      omega
    · exact hc
  have hr1 : (m : Int) - q * n < n := by
    rcases Int.lt_or_le ((m : Int) - q * n) n with hc | hc
    · exact hc
    · have : (n : Int) * 2 ^ s ≤ ((m : Int) - q * n) * 2 ^ s := Int.mul_le_mul_of_nonneg_right hc (by omega)
      omega
  obtain ⟨r, hr⟩ := Int.eq_ofNat_of_zero_le hr0
  rw [hr] at hr1 e1
  have hm : m = q * n + r := by
    have : ((m : Nat) : Int) = ((q * n + r : Nat) : Int) := by rw [Int.natCast_add, Int.natCast_mul]; omega
    omega
  have hrn : r < n := by omega
  have d1 : m / n = q := by rw [hm, Nat.add_comm, Nat.add_mul_div_right _ _ hn, Nat.div_eq_of_lt hrn]; omega
  have d2 : m % n = r := by rw [hm, Nat.add_comm, Nat.add_mul_mod_self_right, Nat.mod_eq_of_lt hrn]
  rw [d1, d2]
  refine ⟨by simpa using hd, ?_⟩
  rw [e1, Int.natCast_mul, ep]
theorem div_low {A V : Int} {us qs : List Int} {n lu lq : Nat} (h : DivInv A V us qs lu lq 0) (hV : V < pw n) (hl : n ≤ lu) : val (us.take n) = val us := by
  have hlt := h.lt
  rw [pw_zero, Int.one_mul] at hlt
  have e := val_split us n (by rw [h.ulen]; exact hl)
  have t0 := val_nonneg (limbs_take h.ulimbs n)
  have d0 := val_nonneg (limbs_drop h.ulimbs n)
  have hp := pw_pos n
  rcases (show val (us.drop n) = 0 ∨ 1 ≤ val (us.drop n) by omega) with hd | hd
  · rw [hd] at e; omega
  · exfalso
    have : pw n * 1 ≤ pw n * val (us.drop n) := Int.mul_le_mul_of_nonneg_left hd (by omega)
    omega
end Go.Proofs.Ytagmohpafjncfaa.Lmb
