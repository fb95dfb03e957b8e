/- Digits of numbers (no program in sight): decimal texts in chunks of nine, and numbers read digit by digit. -/
import Derived.Test.YtpkmnggfomllhaaDoorNat
import Derived.Lib.ItoaNum
import Derived.Lib.Repeat
import Derived.Lib.Join
import Derived.Lib.SlTrimSet
set_option linter.unusedSimpArgs false
set_option linter.unusedVariables false
namespace Go.Proofs.YtpkmnggfomllhaaDoor
open Lmb
def dch (n : Nat) : UInt8 := UInt8.ofNat (48 + n % 10)
theorem dec_small {n : Nat} (h : n < 10) : Lib.decDigits n = [dch n] := by
  rw [Lib.decDigits_one h]
  unfold dch
  rw [Nat.mod_eq_of_lt h]
theorem dec_big {n : Nat} (h : 10 ≤ n) : Lib.decDigits n = Lib.decDigits (n / 10) ++ [dch n] := by
  rw [Lib.decDigits, dif_neg (by omega)]
  rfl
def padN : Nat → Nat → List UInt8
  | 0, _ => []
  | k + 1, n => padN k (n / 10) ++ [dch n]
theorem padN_len : ∀ k n, (padN k n).length = k
  | 0, _ => rfl
  | k + 1, n => by rw [padN, List.length_append, padN_len k]; rfl
theorem padN_add : ∀ a b n, padN (a + b) n = padN a (n / 10 ^ b) ++ padN b n
  | a, 0, n => by simp [padN]
  | a, b + 1, n => by
    rw [← Nat.add_assoc, padN, padN_add a b, padN, ← List.append_assoc, Nat.div_div_eq_div_mul, Nat.pow_succ, Nat.mul_comm 10]
theorem dec_split : ∀ (k n : Nat), 10 ^ k ≤ n → 0 < n → Lib.decDigits n = Lib.decDigits (n / 10 ^ k) ++ padN k n
  | 0, n, _, _ => by simp [padN]
  | k + 1, n, h, h0 => by
    have h10 : 10 ≤ n := Nat.le_trans (by rw [Nat.pow_succ]; have := Nat.one_le_pow k 10 (by decide); omega) h
    rw [dec_big h10, dec_split k (n / 10) ((Nat.le_div_iff_mul_le (by decide)).2 (by rw [← Nat.pow_succ]; exact h)) (by omega), padN, ← List.append_assoc, Nat.div_div_eq_div_mul, Nat.pow_succ, Nat.mul_comm 10]
theorem dec_pos (n : Nat) : 1 ≤ (Lib.decDigits n).length := by
  by_cases h : n < 10
  · rw [dec_small h]; exact Nat.le_refl _
  · rw [dec_big (by omega), List.length_append]; simp
theorem padN_zero : ∀ k, padN k 0 = Lib.repeatL [48] k
  | 0 => rfl
  | k + 1 => by
    rw [padN, Nat.zero_div, padN_zero k, Lib.repeatL_add]
    rfl
theorem pad_dec : ∀ (k n : Nat), n < 10 ^ (k + 1) → (Lib.decDigits n).length ≤ k + 1 ∧ Lib.repeatL [48] (k + 1 - (Lib.decDigits n).length) ++ Lib.decDigits n = padN (k + 1) n
  | 0, n, h => by
    have h9 : n < 10 := by simpa using h
    rw [dec_small h9]
    exact ⟨Nat.le_refl _, rfl⟩
  | k + 1, n, h => by
    by_cases h9 : n < 10
    · rw [dec_small h9]
      refine ⟨by simp, ?_⟩
      rw [padN, show n / 10 = 0 by omega, padN_zero]
      rfl
    · obtain ⟨g1, g2⟩ := pad_dec k (n / 10) (Nat.div_lt_of_lt_mul (by rw [Nat.pow_succ] at h; omega))
      rw [dec_big (by omega), List.length_append]
      refine ⟨by simp; omega, ?_⟩
      rw [padN, ← g2, ← List.append_assoc, show k + 1 + 1 - ((Lib.decDigits (n / 10)).length + [dch n].length) = k + 1 - (Lib.decDigits (n / 10)).length by simp]
theorem padN_mod : ∀ (k n : Nat), padN k (n % 10 ^ k) = padN k n
  | 0, n => rfl
  | k + 1, n => by
    have e1 : n % 10 ^ (k + 1) / 10 = n / 10 % 10 ^ k := by
      rw [Nat.pow_succ, Nat.mul_comm, Nat.mod_mul_right_div_self]
    have e2 : n % 10 ^ (k + 1) % 10 = n % 10 := Nat.mod_mod_of_dvd n ⟨10 ^ k, by rw [Nat.pow_succ, Nat.mul_comm]⟩
    rw [padN, e1, padN_mod k, padN]
    unfold dch
    rw [e2]
theorem dec_two : ∀ (k n : Nat), n < 2 ^ k → (Lib.decDigits n).length ≤ k + 1
  | 0, n, h => by
    rw [dec_small (by have : n < 1 := by simpa using h
                      omega)]
    exact Nat.le_refl _
  | k + 1, n, h => by
    by_cases h9 : n < 10
    · rw [dec_small h9]; simp
    · rw [dec_big (by omega), List.length_append]
      have := dec_two k (n / 10) (by rw [Nat.pow_succ] at h; omega)
      simp
      omega
/-! ### The text in chunks -/
def chunk (r : Nat) : List UInt8 := if 0 < r / 1000000000 then Lib.repeatL [48] (9 - (Lib.decDigits (r % 1000000000)).length) ++ Lib.decDigits (r % 1000000000) else Lib.decDigits (r % 1000000000)
structure TextInv (n r : Nat) (parts : List (List UInt8)) : Prop where
  go : 0 < r → r = n / 10 ^ (9 * parts.length) ∧ parts.reverse.flatten = padN (9 * parts.length) n
  done : r = 0 → parts.reverse.flatten = Lib.decDigits n ∧ 0 < parts.length
  small : r * 2 ^ parts.length ≤ n
theorem TextInv.start {n : Nat} (h : 0 < n) : TextInv n n [] := ⟨fun _ => ⟨by simp, rfl⟩, fun h0 => by omega, by simp⟩
theorem TextInv.step {n r : Nat} {parts : List (List UInt8)} (h : TextInv n r parts) (hr : 0 < r) : TextInv n (r / 1000000000) (parts ++ [chunk r]) := by
  obtain ⟨h1, h2⟩ := h.go hr
  have hm : r % 1000000000 < 10 ^ (8 + 1) := Nat.mod_lt _ (by decide)
  have hlen : (parts ++ [chunk r]).length = parts.length + 1 := by simp
  have hfl : (parts ++ [chunk r]).reverse.flatten = chunk r ++ parts.reverse.flatten := by simp
  refine ⟨fun h0 => ?_, fun h0 => ?_, ?_⟩
  · rw [hlen, hfl, h2]
    refine ⟨?_, ?_⟩
    · rw [h1, Nat.div_div_eq_div_mul, show 9 * (parts.length + 1) = 9 * parts.length + 9 by omega, Nat.pow_add]
    · unfold chunk
      rw [if_pos h0, (pad_dec 8 _ hm).2, show 9 * (parts.length + 1) = 9 + 9 * parts.length by omega]
      have e := padN_add 9 (9 * parts.length) n
      rw [← h1] at e
      rw [e]
      congr 1
      exact padN_mod 9 r
  · rw [hlen, hfl, h2]
    refine ⟨?_, by omega⟩
    unfold chunk
    have hr9 : r % 1000000000 = r := Nat.mod_eq_of_lt (by omega)
    rw [if_neg (by omega), hr9, h1]
    have hle : 10 ^ (9 * parts.length) ≤ n := by
      rcases Nat.lt_or_ge n (10 ^ (9 * parts.length)) with h9 | h9
      · rw [Nat.div_eq_of_lt h9] at h1; omega
      · exact h9
    exact (dec_split _ n hle (Nat.lt_of_lt_of_le (Nat.pow_pos (by decide)) hle)).symm
  · rw [hlen, Nat.pow_succ]
    refine Nat.le_trans ?_ h.small
    have : r / 1000000000 * 2 ≤ r := by omega
    calc r / 1000000000 * (2 ^ parts.length * 2) = r / 1000000000 * 2 * 2 ^ parts.length := by rw [Nat.mul_comm (2 ^ parts.length), Nat.mul_assoc]
      _ ≤ r * 2 ^ parts.length := Nat.mul_le_mul_right _ this
theorem TextInv.len {n r k : Nat} {parts : List (List UInt8)} (h : TextInv n r parts) (hr : 0 < r) (hn : n < 2 ^ k) : parts.length < k := by
  have := h.small
  rcases Nat.lt_or_ge parts.length k with h9 | h9
  · exact h9
  · have h1 : 2 ^ k ≤ 2 ^ parts.length := Nat.pow_le_pow_right (by decide) h9
    have h2 : 2 ^ parts.length ≤ r * 2 ^ parts.length := Nat.le_mul_of_pos_left _ hr
    omega
theorem join_none (xs : List (List UInt8)) : Lib.join xs [] = xs.flatten := by
  cases xs with
  | nil => rfl
  | cons x r =>
    rw [Lib.join_cons, List.flatten_cons]
    congr 1
    unfold Lib.joinTail
    simp
/-! ### Reading digits -/
def isDig (c : UInt8) : Prop := 48 ≤ c.toNat ∧ c.toNat ≤ 57
def valD (l : List UInt8) : Nat := l.foldl (fun v c => 10 * v + (c.toNat - 48)) 0
theorem valD_snoc (l : List UInt8) (c : UInt8) : valD (l ++ [c]) = 10 * valD l + (c.toNat - 48) := by unfold valD; rw [List.foldl_append]; rfl
theorem dch_nat (n : Nat) : (dch n).toNat = 48 + n % 10 := by
  unfold dch
  rw [UInt8.toNat_ofNat']
  exact Nat.mod_eq_of_lt (by omega)
theorem valD_dec (n : Nat) : valD (Lib.decDigits n) = n ∧ (∀ c ∈ Lib.decDigits n, isDig c) := by
  induction n using Nat.strongRecOn with
  | _ n ih =>
    by_cases h : n < 10
    · rw [dec_small h]
      refine ⟨?_, fun c hc => ?_⟩
      · show 10 * 0 + ((dch n).toNat - 48) = n
        rw [dch_nat]; omega
      · rw [List.mem_singleton.1 hc]; unfold isDig; rw [dch_nat]; omega
    · obtain ⟨g1, g2⟩ := ih (n / 10) (by omega)
      rw [dec_big (by omega)]
      refine ⟨?_, fun c hc => ?_⟩
      · rw [valD_snoc, g1, dch_nat]; omega
      · rcases List.mem_append.1 hc with hc | hc
        · exact g2 c hc
        · rw [List.mem_singleton.1 hc]; unfold isDig; rw [dch_nat]; omega
theorem dec_inj {m n : Nat} (h : Lib.decDigits m = Lib.decDigits n) : m = n := by rw [← (valD_dec m).1, h, (valD_dec n).1]
theorem dec_head {n : Nat} (h : 0 < n) : (Lib.decDigits n)[0]? ≠ some 48 := by
  induction n using Nat.strongRecOn with
  | _ n ih =>
    by_cases h9 : n < 10
    · rw [dec_small h9]
      intro e
      simp only [List.getElem?_cons_zero, Option.some.injEq] at e
      have := congrArg UInt8.toNat e
      rw [dch_nat] at this
      have h48 : (48 : UInt8).toNat = 48 := rfl
      rw [h48] at this
      omega
    · rw [dec_big (by omega), List.getElem?_append_left (dec_pos _)]
      exact ih (n / 10) (by omega) (by omega)
theorem dec_len_mono {m n : Nat} (h : m ≤ n) : (Lib.decDigits m).length ≤ (Lib.decDigits n).length := by
  revert m
  induction n using Nat.strongRecOn with
  | _ n ih =>
    intro m h
    by_cases h9 : m < 10
    · rw [dec_small h9]; exact dec_pos n
    · rw [dec_big (n := m) (by omega), dec_big (n := n) (by omega), List.length_append, List.length_append]
      have hd : m / 10 ≤ n / 10 := Nat.div_le_div_right h
      have := ih (n / 10) (by omega) hd
      simp
      omega
theorem trim_all {l cs : List UInt8} (h : ∀ c ∈ l, cs.contains c = true) : Lib.trimS l cs = [] := by
  have h1 : ∀ (l : List UInt8), (∀ c ∈ l, cs.contains c = true) → l.dropWhile (cs.contains ·) = [] := by
    intro l hl
    induction l with
    | nil => rfl
    | cons x l ih =>
      rw [List.dropWhile_cons_of_pos (hl x (by simp)), ih fun c hc => hl c (by simp [hc])]
  unfold Lib.trimS Lib.trimRightS
  rw [h1 l.reverse fun c hc => h c (List.mem_reverse.1 hc)]
  rfl
structure DigInv (xs : List Int) (c0 : Int) (i : Nat) (ys : List Int) (carry : Int) : Prop where
  len : ys.length = xs.length
  limbs : Limbs ys
  rest : ∀ j, i ≤ j → ys.getD j 0 = xs.getD j 0
  c_lo : 0 ≤ carry
  c_hi : carry ≤ 10
  val : val (ys.take i) + pw i * carry = 10 * val (xs.take i) + c0
theorem DigInv.start {xs : List Int} {c0 : Int} (hx : Limbs xs) (h0 : 0 ≤ c0) (h1 : c0 ≤ 9) : DigInv xs c0 0 xs c0 := ⟨rfl, hx, fun _ _ => rfl, h0, by omega, by simp [Lmb.val, pw]⟩
theorem take_set_lt {xs : List Int} {i : Nat} {v : Int} : (xs.set i v).take i = xs.take i := by
  apply List.ext_getElem?
  intro j
  simp only [List.getElem?_take]
  split
  · rw [List.getElem?_set_ne (by omega)]
  · rfl
theorem DigInv.step {xs ys : List Int} {c0 carry : Int} {i : Nat} (h : DigInv xs c0 i ys carry) (hx : Limbs xs) (hi : i < xs.length) :
    DigInv xs c0 (i + 1) (ys.set i ((10 * ys.getD i 0 + carry) % 1073741824)) ((10 * ys.getD i 0 + carry) / 1073741824) := by
  have hl := h.len
  have hc0 := h.c_lo
  have hc1 := h.c_hi
  have hlim : 0 ≤ ys.getD i 0 ∧ ys.getD i 0 < 1073741824 := by
    have e : ys.getD i 0 = ys[i]'(by omega) := by simp [List.getD, show i < ys.length by omega]
    rw [e]; exact h.limbs _ (List.getElem_mem _)
  have hxe := h.rest i (Nat.le_refl _)
  have hgs : ∀ j, (ys.set i ((10 * ys.getD i 0 + carry) % 1073741824)).getD j 0 = if i = j then (10 * ys.getD i 0 + carry) % 1073741824 else ys.getD j 0 := fun j => by
    simp only [List.getD, List.getElem?_set]
    by_cases e : i = j
    · subst e; simp [show i < ys.length by omega]
    · simp [e]
  refine ⟨by rw [List.length_set]; exact hl, fun x hx => ?_, fun j hj => ?_, by omega, by omega, ?_⟩
  · rcases List.mem_or_eq_of_mem_set hx with hx | rfl
    · exact h.limbs x hx
    · omega
  · rw [hgs j, if_neg (by omega)]
    exact h.rest j (by omega)
  · rw [val_take_succ _ i (by rw [List.length_set]; omega), take_set_lt, hgs i, if_pos rfl, val_take_succ xs i hi, ← hxe]
    have hv := h.val
    have hp : pw (i + 1) = pw i * 1073741824 := by unfold pw; rw [Int.pow_succ]
    rw [hp]
    have hdm := Int.emod_add_mul_ediv (10 * ys.getD i 0 + carry) 1073741824
    generalize (10 * ys.getD i 0 + carry) % 1073741824 = q at hdm ⊢
    generalize (10 * ys.getD i 0 + carry) / 1073741824 = d at hdm ⊢
    have e1 : pw i * q + pw i * 1073741824 * d = pw i * (10 * ys.getD i 0 + carry) := by rw [← hdm, Int.mul_add, Int.mul_assoc]
    have e2 : pw i * (10 * ys.getD i 0 + carry) = 10 * (pw i * ys.getD i 0) + pw i * carry := by rw [Int.mul_add, Int.mul_left_comm]
    have e3 : 10 * (Lmb.val (xs.take i) + pw i * ys.getD i 0) = 10 * Lmb.val (xs.take i) + 10 * (pw i * ys.getD i 0) := Int.mul_add _ _ _
    omega
end Go.Proofs.YtpkmnggfomllhaaDoor
