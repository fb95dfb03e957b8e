/- Fractions as values: what Add, Sub, Mul, Div, Reduce, Compare, Same give. -/
import Derived.Test.YtgdbcpljdibliaaGreatDoorFldM
import Derived.Test.YtgdbcpljdibliaaGreatDoorAddE
import Derived.Test.YtgdbcpljdibliaaGreatDoorCodesR
import Derived.Test.YtgdbcpljdibliaaGreatDoorPk4
import Derived.Test.YtgdbcpljdibliaaGreatDoorDrwB
import Derived.Test.YtgdbcpljdibliaaGreatDoorTxtE
import Derived.Test.YtgdbcpljdibliaaGreatDoorWalkE
import Derived.Test.YtgdbcpljdibliaaGreatDoorCutR
import Derived.Test.YtgdbcpljdibliaaGreatDoorRefG
set_option linter.unusedSimpArgs false
set_option linter.unusedVariables false
namespace Go.Proofs.YtgdbcpljdibliaaGreatDoor
open Eng Lmb Go.RowKit
def FrV (r : SV) (n : Int) (d k : Nat) : Prop := ∃ neg p q, FrS r neg p q ∧ sg neg p * d = n * q ∧ 0 < q ∧ 0 < d ∧ p ≤ 2 ^ k ∧ q ≤ 2 ^ k
def FrR (r : SV) (n : Int) (d k : Nat) : Prop := FrS r (rN n) (rP n d) (rQ n d) ∧ 0 < d ∧ rP n d ≤ 2 ^ k ∧ rQ n d ≤ 2 ^ k
theorem FrR.v {r : SV} {n : Int} {d k : Nat} (h : FrR r n d k) : FrV r n d k := ⟨_, _, _, h.1, r_val n h.2.1, rQ_pos h.2.1, h.2.1, h.2.2.1, h.2.2.2⟩
theorem frS_open {r : SV} {neg : Bool} {p q : Nat} (h : FrS r neg p q) : ∃ neg a1 l1 c1 z1 r1 a2 l2 c2 z2 r2, r = frS neg (.sl a1 l1 c1 z1 r1) (.sl a2 l2 c2 z2 r2) := by
  obtain ⟨sp, sq, rfl, hp, hq⟩ := h
  obtain ⟨a1, c1, z1, r1, x1, rfl, _⟩ := hp
  obtain ⟨a2, c2, z2, r2, x2, rfl, _⟩ := hq
  exact ⟨_, _, _, _, _, _, _, _, _, _, _, rfl⟩
theorem FrV.open {r : SV} {n : Int} {d k : Nat} (h : FrV r n d k) : ∃ neg a1 l1 c1 z1 r1 a2 l2 c2 z2 r2, r = frS neg (.sl a1 l1 c1 z1 r1) (.sl a2 l2 c2 z2 r2) := by
  obtain ⟨neg, p, q, hs, _⟩ := h
  exact frS_open hs
theorem FrR.open {r : SV} {n : Int} {d k : Nat} (h : FrR r n d k) : ∃ neg a1 l1 c1 z1 r1 a2 l2 c2 z2 r2, r = frS neg (.sl a1 l1 c1 z1 r1) (.sl a2 l2 c2 z2 r2) := frS_open h.1
theorem two_le {a b : Nat} (h : a ≤ b) : 2 ^ a ≤ 2 ^ b := Nat.pow_le_pow_right (by decide) h
theorem lt256 {x k : Nat} (h : x ≤ 2 ^ k) (hk : k < 1900) : (x : Int) < pw 256 := lt_pw h (by omega)
theorem lt64 {x k : Nat} (h : x ≤ 2 ^ k) (hk : k < 1900) : (x : Int) < pw 64 := lt_pw h (by omega)
theorem lt512 {x k : Nat} (h : x ≤ 2 ^ k) (hk : k < 1900) : (x : Int) < pw 512 := lt_pw h (by omega)
theorem sum_two {x y k : Nat} (hx : x ≤ 2 ^ k) (hy : y ≤ 2 ^ k) : x + y ≤ 2 ^ (k + 1) := by rw [Nat.pow_succ]; omega
theorem ok_of {neg : Bool} {p q k : Nat} (hp : p ≤ 2 ^ k) (hq : q ≤ 2 ^ k) (hk : k < 1900) (h0 : 0 < q) (hn : neg = true → 0 < p) : frOk neg p q = true := by
  unfold frOk
  rw [decide_eq_true (lt64 hp hk), decide_eq_true (lt64 hq hk), decide_eq_true h0]
  cases neg with
  | false => rfl
  | true =>
    have := hn rfl
    have h1 : decide (p = 0) = false := decide_eq_false (by omega)
    rw [h1]
    rfl
theorem rN_pos {n : Int} {d : Nat} (hd : 0 < d) (h : rN n = true) : 0 < rP n d := by
  have h1 := rP_pos (n := n) hd
  have h2 : n < 0 := of_decide_eq_true h
  have h3 : decide (0 < n.natAbs) = true := decide_eq_true (by omega)
  rw [h3] at h1
  exact of_decide_eq_true h1
section
variable (F : Frm) {a b : SV} {n m : Int} {d e k1 k2 : Nat}
theorem addV (ha : FrV a n d k1) (hb : FrV b m e k2) (hk : k1 + k2 + 1 < 1900) : Contract F Tryz.prog 16 [a, b] (fun x => ∃ f, x = tupL [f, .i .i64 0] ∧ FrR f (n * e + m * d) (d * e) (k1 + k2 + 1)) := by
  obtain ⟨na, p, q, ⟨sp, sq, rfl, hp, hq⟩, h1, hq0, hd0, hpk, hqk⟩ := ha
  obtain ⟨nb, r, s, ⟨sr, ss, rfl, hr, hs⟩, h2, hs0, he0, hrk, hsk⟩ := hb
  have t1 := mul_two hpk hsk
  have t2 := mul_two hrk hqk
  have t2' : r * q ≤ 2 ^ (k1 + k2) := by rw [Nat.add_comm k1]; exact t2
  have t3 := mul_two hqk hsk
  have t4 := sum_two t1 t2'
  have hqs := Nat.mul_pos hq0 hs0
  have hde := Nat.mul_pos hd0 he0
  obtain ⟨pN, pP, pQ⟩ := add_parts (na := na) (nb := nb) (p := p) (r := r) hq0 hs0
  obtain ⟨eN, eP, eQ⟩ := r_eq hqs hde (add_val h1 h2)
  have bP : addP na p q nb r s ≤ 2 ^ (k1 + k2 + 1) := Nat.le_trans (Nat.div_le_self _ _) (Nat.le_trans (sumV_le _ _ _ _) t4)
  have bQ : addQ na p q nb r s ≤ 2 ^ (k1 + k2 + 1) := Nat.le_trans (Nat.div_le_self _ _) (Nat.le_trans t3 (two_le (by omega)))
  have h := fractionAddC F na nb hp hq hr hs (lt256 hpk (by omega)) (lt256 hqk (by omega)) (lt256 hrk (by omega)) (lt256 hsk (by omega)) (lt256 t1 (by omega)) (lt256 t2' (by omega)) (lt256 t4 hk) (lt256 t3 (by omega)) hq0 hs0
  rw [pN, pP, pQ, eN, eP, eQ] at h
  rw [pP, eP] at bP
  rw [pQ, eQ] at bQ
  have hok := ok_of bP bQ hk (rQ_pos hde) (rN_pos hde)
  refine h.mono fun x hx => ?_
  rcases hx with ⟨_, f, rfl, hf⟩ | ⟨hbad, _⟩
  · exact ⟨f, rfl, hf, hde, bP, bQ⟩
  · rw [hok] at hbad; cases hbad
theorem subV (ha : FrV a n d k1) (hb : FrV b m e k2) (hk : k1 + k2 + 1 < 1900) : Contract F Tryz.prog 19 [a, b] (fun x => ∃ f, x = tupL [f, .i .i64 0] ∧ FrR f (n * e + -m * d) (d * e) (k1 + k2 + 1)) := by
  obtain ⟨na, p, q, ⟨sp, sq, rfl, hp, hq⟩, h1, hq0, hd0, hpk, hqk⟩ := ha
  obtain ⟨nb, r, s, ⟨sr, ss, rfl, hr, hs⟩, h2, hs0, he0, hrk, hsk⟩ := hb
  have h2' : sg (!nb) r * e = -m * s := by rw [sg_not, Int.neg_mul, Int.neg_mul, h2]
  have t1 := mul_two hpk hsk
  have t2 := mul_two hrk hqk
  have t2' : r * q ≤ 2 ^ (k1 + k2) := by rw [Nat.add_comm k1]; exact t2
  have t3 := mul_two hqk hsk
  have t4 := sum_two t1 t2'
  have hqs := Nat.mul_pos hq0 hs0
  have hde := Nat.mul_pos hd0 he0
  obtain ⟨pN, pP, pQ⟩ := add_parts (na := na) (nb := !nb) (p := p) (r := r) hq0 hs0
  obtain ⟨eN, eP, eQ⟩ := r_eq hqs hde (add_val h1 h2')
  have bP : addP na p q (!nb) r s ≤ 2 ^ (k1 + k2 + 1) := Nat.le_trans (Nat.div_le_self _ _) (Nat.le_trans (sumV_le _ _ _ _) t4)
  have bQ : addQ na p q (!nb) r s ≤ 2 ^ (k1 + k2 + 1) := Nat.le_trans (Nat.div_le_self _ _) (Nat.le_trans t3 (two_le (by omega)))
  have h := fractionSubC F na nb hp hq hr hs (lt256 hpk (by omega)) (lt256 hqk (by omega)) (lt256 hrk (by omega)) (lt256 hsk (by omega)) (lt256 t1 (by omega)) (lt256 t2' (by omega)) (lt256 t4 hk) (lt256 t3 (by omega)) hq0 hs0
  rw [pN, pP, pQ, eN, eP, eQ] at h
  rw [pP, eP] at bP
  rw [pQ, eQ] at bQ
  have hok := ok_of bP bQ hk (rQ_pos hde) (rN_pos hde)
  refine h.mono fun x hx => ?_
  rcases hx with ⟨_, f, rfl, hf⟩ | ⟨hbad, _⟩
  · exact ⟨f, rfl, hf, hde, bP, bQ⟩
  · rw [hok] at hbad; cases hbad
theorem mulV (ha : FrV a n d k1) (hb : FrV b m e k2) (hk : k1 + k2 < 1900) : Contract F Tryz.prog 21 [a, b] (fun x => ∃ f, x = tupL [f, .i .i64 0] ∧ FrR f (n * m) (d * e) (k1 + k2)) := by
  obtain ⟨na, p, q, ⟨sp, sq, rfl, hp, hq⟩, h1, hq0, hd0, hpk, hqk⟩ := ha
  obtain ⟨nb, r, s, ⟨sr, ss, rfl, hr, hs⟩, h2, hs0, he0, hrk, hsk⟩ := hb
  have t1 := mul_two hpk hrk
  have t3 := mul_two hqk hsk
  have hqs := Nat.mul_pos hq0 hs0
  have hde := Nat.mul_pos hd0 he0
  obtain ⟨pN, pP, pQ⟩ := mul_parts (na := na) (nb := nb) (p := p) (r := r) hq0 hs0
  obtain ⟨eN, eP, eQ⟩ := r_eq hqs hde (mul_val h1 h2)
  have bP : mulP p q r s ≤ 2 ^ (k1 + k2) := Nat.le_trans (Nat.div_le_self _ _) t1
  have bQ : mulQ p q r s ≤ 2 ^ (k1 + k2) := Nat.le_trans (Nat.div_le_self _ _) t3
  have h := fractionMulC F na nb hp hq hr hs (lt256 hpk (by omega)) (lt256 hqk (by omega)) (lt256 hrk (by omega)) (lt256 hsk (by omega)) (lt256 t1 (by omega)) (lt256 t3 (by omega)) hq0 hs0
  rw [pN, pP, pQ, eN, eP, eQ] at h
  rw [pP, eP] at bP
  rw [pQ, eQ] at bQ
  have hok := ok_of bP bQ hk (rQ_pos hde) (rN_pos hde)
  refine h.mono fun x hx => ?_
  rcases hx with ⟨_, f, rfl, hf⟩ | ⟨hbad, _⟩
  · exact ⟨f, rfl, hf, hde, bP, bQ⟩
  · rw [hok] at hbad; cases hbad
theorem sign_sg {nb : Bool} {r s e : Nat} {m : Int} (hr : 0 < r) (hs : 0 < s) (he : 0 < e) (h : sg nb r * e = m * s) : sg nb s = m.sign * s ∧ m ≠ 0 ∧ m.natAbs * s = r * e := by
  have ha : m.natAbs * s = r * e := by
    have := congrArg Int.natAbs h
    rw [Int.natAbs_mul, Int.natAbs_mul, sg_abs, Int.natAbs_natCast, Int.natAbs_natCast] at this
    exact this.symm
  have hm : 0 < m.natAbs := by
    rcases Nat.eq_zero_or_pos m.natAbs with h0 | h0
    · rw [h0, Nat.zero_mul] at ha
      have := Nat.mul_pos hr he
      omega
    · exact h0
  refine ⟨?_, by omega, ha⟩
  have hse : (0 : Int) < s := by omega
  have hee : (0 : Int) < e := by omega
  cases nb with
  | false =>
    have h1 : 0 < (r : Int) * e := Int.mul_pos (by omega) hee
    have h2 : sg false r * (e : Int) = (r : Int) * e := rfl
    have hm0 : 0 < m := by
      rcases (show m < 0 ∨ 0 < m by omega) with h9 | h9
      · have := Int.mul_neg_of_neg_of_pos h9 hse; omega
      · exact h9
    rw [Int.sign_eq_one_of_pos hm0, Int.one_mul]
    rfl
  | true =>
    have h1 : 0 < (r : Int) * e := Int.mul_pos (by omega) hee
    have h2 : sg true r * (e : Int) = -((r : Int) * e) := by simp [sg, Int.neg_mul]
    have hm0 : m < 0 := by
      rcases (show m < 0 ∨ 0 < m by omega) with h9 | h9
      · exact h9
      · have := Int.mul_pos h9 hse; omega
    rw [Int.sign_eq_neg_one_of_neg hm0, Int.neg_mul, Int.one_mul]
    rfl
theorem div_val {A n m ε : Int} {q d e r s M : Nat} (h1 : A * d = n * q) (h2 : (M : Int) * s = r * e) : (A * (ε * s)) * ((d * M : Nat) : Int) = (n * e * ε) * ((q * r : Nat) : Int) := by
  rw [Int.natCast_mul, Int.natCast_mul]
  have e1 : A * (ε * (s : Int)) * ((d : Int) * M) = (A * d) * ε * ((M : Int) * s) := by simp only [Int.mul_comm, Int.mul_left_comm, Int.mul_assoc]
  rw [e1, h1, h2]
  simp only [Int.mul_comm, Int.mul_left_comm, Int.mul_assoc]
theorem divV (ha : FrV a n d k1) (hb : FrV b m e k2) (hk : k1 + k2 < 1900) : Contract F Tryz.prog 23 [a, b] (fun x => (m = 0 ∧ ∃ f, x = tupL [f, .i .i64 14] ∧ FrS f false 0 0) ∨ (m ≠ 0 ∧ ∃ f, x = tupL [f, .i .i64 0] ∧ FrR f (n * e * m.sign) (d * m.natAbs) (k1 + k2))) := by
  obtain ⟨na, p, q, ⟨sp, sq, rfl, hp, hq⟩, h1, hq0, hd0, hpk, hqk⟩ := ha
  obtain ⟨nb, r, s, ⟨sr, ss, rfl, hr, hs⟩, h2, hs0, he0, hrk, hsk⟩ := hb
  have t1 := mul_two hpk hsk
  have t3 := mul_two hqk hrk
  have h := fractionDivC F na nb hp hq hr hs (lt256 hpk (by omega)) (lt256 hqk (by omega)) (lt256 hrk (by omega)) (lt256 hsk (by omega)) (lt256 t1 (by omega)) (lt256 t3 (by omega)) hq0
  refine h.mono fun x hx => ?_
  rcases hx with ⟨rfl, f, rfl, hf⟩ | ⟨hr0, hx⟩
  · left
    refine ⟨?_, f, rfl, hf⟩
    have h3 : m * (s : Int) = 0 := by rw [← h2]; cases nb <;> simp [sg]
    rcases Int.mul_eq_zero.1 h3 with h9 | h9
    · exact h9
    · omega
  · right
    obtain ⟨hsg, hm0, habs⟩ := sign_sg hr0 hs0 he0 h2
    have hqr := Nat.mul_pos hq0 hr0
    have hdM : 0 < d * m.natAbs := Nat.mul_pos hd0 (by omega)
    obtain ⟨pN, pP, pQ⟩ := mul_parts (na := na) (nb := nb) (p := p) (r := s) hq0 hr0
    have hval : (sg na p * sg nb s) * ((d * m.natAbs : Nat) : Int) = (n * e * m.sign) * ((q * r : Nat) : Int) := by
      rw [hsg]
      exact div_val (m := m) h1 (by rw [← Int.natCast_mul, habs, Int.natCast_mul])
    obtain ⟨eN, eP, eQ⟩ := r_eq hqr hdM hval
    have bP : mulP p q s r ≤ 2 ^ (k1 + k2) := Nat.le_trans (Nat.div_le_self _ _) t1
    have bQ : mulQ p q s r ≤ 2 ^ (k1 + k2) := Nat.le_trans (Nat.div_le_self _ _) t3
    rw [pN, pP, pQ, eN, eP, eQ] at hx
    rw [pP, eP] at bP
    rw [pQ, eQ] at bQ
    have hok := ok_of bP bQ hk (rQ_pos hdM) (rN_pos hdM)
    rcases hx with ⟨_, f, rfl, hf⟩ | ⟨hbad, _⟩
    · exact ⟨hm0, f, rfl, hf, hdM, bP, bQ⟩
    · rw [hok] at hbad; cases hbad
theorem redV (ha : FrV a n d k1) (hk : k1 < 1900) : Contract F Tryz.prog 15 [a] (fun x => FrR x n d k1) := by
  obtain ⟨na, p, q, ⟨sp, sq, rfl, hp, hq⟩, h1, hq0, hd0, hpk, hqk⟩ := ha
  obtain ⟨pN, pP, pQ⟩ := red_parts (na := na) (p := p) hq0
  obtain ⟨eN, eP, eQ⟩ := r_eq hq0 hd0 h1
  have bP : p / Nat.gcd p q ≤ 2 ^ k1 := Nat.le_trans (Nat.div_le_self _ _) hpk
  have bQ : q / Nat.gcd p q ≤ 2 ^ k1 := Nat.le_trans (Nat.div_le_self _ _) hqk
  have h := fractionReduceC F na hp hq (lt256 hpk hk) (lt256 hqk hk) hq0
  rw [pN, pP, pQ, eN, eP, eQ] at h
  rw [pP, eP] at bP
  rw [pQ, eQ] at bQ
  exact h.mono fun x hx => ⟨hx, hd0, bP, bQ⟩
theorem sameV (ha : FrR a n d k1) (hb : FrR b m e k2) (hk1 : k1 < 1900) (hk2 : k2 < 1900) (h : n * e = m * d) : Contract F Tryz.prog 14 [a, b] (fun x => x = .b true) := by
  obtain ⟨⟨sp, sq, rfl, hp, hq⟩, hd0, hpk, hqk⟩ := ha
  obtain ⟨⟨sr, ss, rfl, hr, hs⟩, he0, hrk, hsk⟩ := hb
  have h0 := refSame3C F (rN n) (rN m) hp hq hr hs (lt512 hpk hk1) (lt512 hqk hk1) (lt512 hrk hk2) (lt512 hsk hk2)
  obtain ⟨eN, eP, eQ⟩ := r_eq hd0 he0 h
  rw [decide_eq_true ⟨eN, eP, eQ⟩] at h0
  exact h0
def sgI (n : Int) : Int := if n < 0 then -1 else if 0 < n then 1 else 0
theorem sgI_mul {n m : Int} {x y : Nat} (hx : 0 < x) (hy : 0 < y) (h : n * x = m * y) : sgI n = sgI m := by
  have hx' : (0 : Int) < x := by omega
  have hy' : (0 : Int) < y := by omega
  unfold sgI
  rcases (show n < 0 ∨ n = 0 ∨ 0 < n by omega) with h1 | h1 | h1
  · have h2 := Int.mul_neg_of_neg_of_pos h1 hx'
    have h3 : m < 0 := by
      rcases (show m < 0 ∨ 0 ≤ m by omega) with h9 | h9
      · exact h9
      · have := Int.mul_nonneg h9 (show (0 : Int) ≤ y by omega); omega
    rw [if_pos h1, if_pos h3]
  · subst h1
    rw [Int.zero_mul] at h
    have h3 : m = 0 := by
      rcases Int.mul_eq_zero.1 h.symm with h9 | h9
      · exact h9
      · omega
    subst h3
    rfl
  · have h2 := Int.mul_pos h1 hx'
    have h3 : 0 < m := by
      rcases (show m ≤ 0 ∨ 0 < m by omega) with h9 | h9
      · have := Int.mul_nonpos_of_nonpos_of_nonneg h9 (show (0 : Int) ≤ y by omega); omega
      · exact h9
    rw [if_neg (by omega), if_pos h1, if_neg (by omega), if_pos h3]
theorem cmpV_sg {na nb : Bool} {p q r s : Nat} : cmpV na p q nb r s = sgI (sg na p * s + -sg nb r * q) := by
  have hv := sumV_val na (p * s) (!nb) (r * q)
  rw [sg_mul, sg_mul, sg_not] at hv
  unfold cmpV
  rw [← hv]
  generalize sumV na (p * s) (!nb) (r * q) = v
  obtain ⟨b, z⟩ := v
  unfold sgI
  by_cases hz : z = 0
  · subst hz
    cases b <;> simp [sg]
  · cases b
    · simp [sg, hz] <;> omega
    · simp [sg, hz] <;> omega
theorem compareV (ha : FrV a n d k1) (hb : FrV b m e k2) (hk : k1 + k2 + 1 < 1900) : Contract F Tryz.prog 13 [a, b] (fun x => x = tupL [.i .i64 (sgI (n * e + -m * d)), .i .i64 0]) := by
  obtain ⟨na, p, q, ⟨sp, sq, rfl, hp, hq⟩, h1, hq0, hd0, hpk, hqk⟩ := ha
  obtain ⟨nb, r, s, ⟨sr, ss, rfl, hr, hs⟩, h2, hs0, he0, hrk, hsk⟩ := hb
  have h2' : -sg nb r * e = -m * s := by rw [Int.neg_mul, Int.neg_mul, h2]
  have t1 := mul_two hpk hsk
  have t2 := mul_two hrk hqk
  have t2' : r * q ≤ 2 ^ (k1 + k2) := by rw [Nat.add_comm k1]; exact t2
  have t4 := sum_two t1 t2'
  have h := fractionCompareC F na nb hp hq hr hs (lt256 hpk (by omega)) (lt256 hqk (by omega)) (lt256 hrk (by omega)) (lt256 hsk (by omega)) (lt256 t1 (by omega)) (lt256 t2' (by omega)) (lt256 t4 hk)
  have hv := sgI_mul (Nat.mul_pos hd0 he0) (Nat.mul_pos hq0 hs0) (add_val h1 h2')
  rw [cmpV_sg, hv] at h
  exact h
end
end Go.Proofs.YtgdbcpljdibliaaGreatDoor

/- Choices of numbers and fractions: Codes.Natural, Codes.Fraction: what each gives. -/
set_option linter.unusedSimpArgs false
set_option linter.unusedVariables false
namespace Go.Proofs.YtgdbcpljdibliaaGreatDoor
open Eng Lmb Go.RowKit
theorem limb_choice (u v : Int) (hu : 0 ≤ u) (hv : 0 ≤ v) : ∀ y : Nat, y < 5 → ∃ x : Int, rdL [SV.i .i64 0, SV.i .i64 1, SV.i .i64 1073741823, SV.i .i64 u, SV.i .i64 v] 1 y 0 = .i .i64 x ∧ 0 ≤ x := by
  intro y hy
  rcases (show y = 0 ∨ y = 1 ∨ y = 2 ∨ y = 3 ∨ y = 4 by omega) with rfl | rfl | rfl | rfl | rfl
  · exact ⟨0, rfl, by decide⟩
  · exact ⟨1, rfl, by decide⟩
  · exact ⟨1073741823, rfl, by decide⟩
  · exact ⟨u, rfl, hu⟩
  · exact ⟨v, rfl, hv⟩
def NatPost (n : Nat) (r : SV) : Prop := ∃ m, Nats r m ∧ (m : Int) < pw n
set_option maxRecDepth 100000 in
theorem naturalC (cb : Nat) (n : Nat) (hn : n ≤ 100) : Contract (Frm.codes cb) Tryz.prog 38 [ptr cb, .i .i64 n] (NatPost n) := by
  refine contract_of Tryz.func38 rfl (by kernel_rfl) ?_
  simp only [Tryz.ntmps38, argEnv]
  have e1 : IntKind.i64.wrap ((n : Int) + 1) = ((n + 1 : Nat) : Int) := by rw [w64 (by omega)]; omega
  (repeat refine Sat.seq ?_)
  (refine Sat.region_k fun k hk => ?_; simp -implicitDefEqProofs only [evr, id, reduceCtorEq, reduceIte, Nat.reduceMul, Nat.reduceAdd, Nat.reduceLT, Nat.reduceLeDiff, Nat.reduceEqDiff, Int.reduceLT, Int.reduceBEq, Int.reduceBNe, Nat.reduceBEq, frS, ptr, evn]; refine hk _ ?_; clear hk k; try show Sat _ _ _ _ _)
  (repeat refine Sat.seq ?_)
  (refine Sat.region_k fun k hk => ?_; simp -implicitDefEqProofs only [evr, id, reduceCtorEq, reduceIte, Nat.reduceMul, Nat.reduceAdd, Nat.reduceLT, Nat.reduceLeDiff, Nat.reduceEqDiff, Int.reduceLT, Int.reduceBEq, Int.reduceBNe, Nat.reduceBEq, frS, ptr, evn]; refine hk _ ?_; clear hk k; try show Sat _ _ _ _ _)
  (repeat refine Sat.seq ?_)
  refine Sat.region_k fun k hk => ?_
  simp -implicitDefEqProofs only [evr, id, reduceCtorEq, reduceIte, Nat.reduceMul, Nat.reduceAdd, Nat.reduceLT, Nat.reduceLeDiff, Nat.reduceEqDiff, Int.reduceLT, Int.reduceBEq, Int.reduceBNe, Nat.reduceBEq, frS, ptr, e1, evn]
  refine wcall_plain (nextC cb ((n + 1 : Nat) : Int) (by omega) (by omega)) rfl (by rintro _ ⟨x, rfl, _⟩; exact ok_plain rfl) ?_
  rintro r ⟨x, rfl, hx0, hx1⟩
  obtain ⟨t, rfl⟩ := Int.eq_ofNat_of_zero_le hx0
  have ht : t ≤ n := by omega
  simp -implicitDefEqProofs only [evr, id, reduceCtorEq, reduceIte, Nat.reduceMul, Nat.reduceAdd, Nat.reduceLT, Nat.reduceLeDiff, Nat.reduceEqDiff, Int.reduceLT, Int.reduceBEq, Int.reduceBNe, Nat.reduceBEq, frS, ptr, evn]
  (refine hk _ ?_; clear hk k; try show Sat _ _ _ _ _)
  (repeat refine Sat.seq ?_)
  refine Sat.block ?_
  refine Sat.adopt 5 3 1 (fun p _ => .i .i64 (([] : List Int).getD p 0)) rfl ?_
  refine Sat.loop (ι := Nat × List Int × Option Addr × Nat) (fun x => ⟨34, [(6, .i .i64 (x.1 : Int)), (5, .os 0 x.2.2.1 x.2.1.length x.2.2.2), (0, ptr cb)], [.row x.2.2.1 3 x.2.1.length x.2.2.2 1 (fun p _ => .i .i64 (x.2.1.getD p 0))]⟩)
    (fun x => Limbs x.2.1 ∧ x.1 + x.2.1.length ≤ n) (fun x => x.1) (t, [], none, 0) ⟨limbs_nil, by simpa using ht⟩ (by simp -implicitDefEqProofs only [evr, id, reduceCtorEq, reduceIte, Nat.reduceMul, Nat.reduceAdd, Nat.reduceLT, Nat.reduceLeDiff, Nat.reduceEqDiff, Int.reduceLT, Int.reduceBEq, Int.reduceBNe, Nat.reduceBEq, frS, ptr, evl, evn]; try rfl) ?_
  rintro ⟨q, xs, a, c⟩ ⟨hlim, hlen⟩
  simp only at hlim hlen ⊢
  (repeat refine Sat.seq ?_)
  (refine Sat.region_k fun k hk => ?_; simp -implicitDefEqProofs only [evr, id, reduceCtorEq, reduceIte, Nat.reduceMul, Nat.reduceAdd, Nat.reduceLT, Nat.reduceLeDiff, Nat.reduceEqDiff, Int.reduceLT, Int.reduceBEq, Int.reduceBNe, Nat.reduceBEq, frS, ptr, evn]; refine hk _ ?_; clear hk k; try show Sat _ _ _ _ _)
  (repeat refine Sat.seq ?_)
  refine Sat.cond_b rfl (fun h => ?_) (fun h => ?_)
  · have hq : 0 < q := by have := of_decide_eq_true h; omega
    have eq1 : IntKind.i64.wrap ((q : Int) - 1) = ((q - 1 : Nat) : Int) := by rw [w64 (by omega)]; omega
    refine Sat.skip ?_
    simp only [thenK]
    (repeat refine Sat.seq ?_)
    refine Sat.block ?_
    (repeat refine Sat.seq ?_)
    (refine Sat.region_k fun k hk => ?_; simp -implicitDefEqProofs only [evr, id, reduceCtorEq, reduceIte, Nat.reduceMul, Nat.reduceAdd, Nat.reduceLT, Nat.reduceLeDiff, Nat.reduceEqDiff, Int.reduceLT, Int.reduceBEq, Int.reduceBNe, Nat.reduceBEq, frS, ptr, evn])
    refine wcall_plain (nextC cb 256 (by decide) (by decide)) rfl (by rintro _ ⟨x, rfl, _⟩; exact ok_plain rfl) ?_
    rintro r ⟨u, rfl, hu0, hu1⟩
    simp -implicitDefEqProofs only [evr, id, reduceCtorEq, reduceIte, Nat.reduceMul, Nat.reduceAdd, Nat.reduceLT, Nat.reduceLeDiff, Nat.reduceEqDiff, Int.reduceLT, Int.reduceBEq, Int.reduceBNe, Nat.reduceBEq, frS, ptr, evn]
    refine wcall_plain (nextC cb 65536 (by decide) (by decide)) rfl (by rintro _ ⟨x, rfl, _⟩; exact ok_plain rfl) ?_
    rintro r ⟨v, rfl, hv0, hv1⟩
    simp -implicitDefEqProofs only [evr, id, reduceCtorEq, reduceIte, Nat.reduceMul, Nat.reduceAdd, Nat.reduceLT, Nat.reduceLeDiff, Nat.reduceEqDiff, Int.reduceLT, Int.reduceBEq, Int.reduceBNe, Nat.reduceBEq, frS, ptr, evn]
    refine wcall_plain (nextC cb 16000 (by decide) (by decide)) rfl (by rintro _ ⟨x, rfl, _⟩; exact ok_plain rfl) ?_
    rintro r ⟨w, rfl, hw0, hw1⟩
    have e2 : IntKind.i64.wrap (1 + w) = 1 + w := w64 (by omega)
    have hvw : 0 ≤ v * (1 + w) := Int.mul_nonneg hv0 (by omega)
    have hvw2 : v * (1 + w) ≤ 65536 * 16001 := Int.mul_le_mul (by omega) (by omega) (by omega) (by omega)
    have e3 : IntKind.i64.wrap (v * (1 + w)) = v * (1 + w) := w64 (by omega)
    simp -implicitDefEqProofs only [evr, id, reduceCtorEq, reduceIte, Nat.reduceMul, Nat.reduceAdd, Nat.reduceLT, Nat.reduceLeDiff, Nat.reduceEqDiff, Int.reduceLT, Int.reduceBEq, Int.reduceBNe, Nat.reduceBEq, frS, ptr, e2, e3, evn]
    intro blk
    refine wcall_plain (nextC cb 5 (by decide) (by decide)) rfl (by rintro _ ⟨x, rfl, _⟩; exact ok_plain rfl) ?_
    rintro r ⟨y0, rfl, hy0, hy1⟩
    obtain ⟨y, rfl⟩ := Int.eq_ofNat_of_zero_le hy0
    obtain ⟨xl, hxl, hxl0⟩ := limb_choice u (v * (1 + w)) hu0 hvw y (by omega)
    have em : xl.tmod 1073741824 = xl % 1073741824 := Int.tmod_eq_emod_of_nonneg hxl0
    simp -implicitDefEqProofs only [evr, id, reduceCtorEq, reduceIte, Nat.reduceMul, Nat.reduceAdd, Nat.reduceLT, Nat.reduceLeDiff, Nat.reduceEqDiff, Int.reduceLT, Int.reduceBEq, Int.reduceBNe, Nat.reduceBEq, frS, ptr, evn]
    refine ⟨by omega, by omega, ?_⟩
    rw [hxl]
    simp -implicitDefEqProofs only [evr, id, reduceCtorEq, reduceIte, Nat.reduceMul, Nat.reduceAdd, Nat.reduceLT, Nat.reduceLeDiff, Nat.reduceEqDiff, Int.reduceLT, Int.reduceBEq, Int.reduceBNe, Nat.reduceBEq, frS, ptr, em, evn]
    refine ⟨by decide, fun blk2 => ?_⟩
    refine ⟨⟨by unfold maxLen; omega, by omega⟩, fun a2 cap2 => ?_⟩
    refine hk _ ?_
    clear hk k
    simp only [thenK, blockK]
    (repeat refine Sat.seq ?_)
    refine Sat.region_k fun k hk => ?_
    simp -implicitDefEqProofs only [evr, id, reduceCtorEq, reduceIte, Nat.reduceMul, Nat.reduceAdd, Nat.reduceLT, Nat.reduceLeDiff, Nat.reduceEqDiff, Int.reduceLT, Int.reduceBEq, Int.reduceBNe, Nat.reduceBEq, frS, ptr, eq1, evn]
    refine hk _ ?_
    simp only [thenK, blockK]
    refine ⟨(q - 1, xs ++ [xl % 1073741824], a2, cap2), ⟨limbs_append.2 ⟨hlim, limbs_cons.2 ⟨by omega, limbs_nil⟩⟩, by simp; omega⟩, by show q - 1 < q; omega, ?_⟩
    simp -implicitDefEqProofs only [evr, id, reduceCtorEq, reduceIte, Nat.reduceMul, Nat.reduceAdd, Nat.reduceLT, Nat.reduceLeDiff, Nat.reduceEqDiff, Int.reduceLT, Int.reduceBEq, Int.reduceBNe, Nat.reduceBEq, frS, ptr, evl, evn]
    simp only [List.length_append, List.length_cons, List.length_nil]
    exact ⟨trivial, trivial, rd_snoc rfl rfl⟩
  · have hq : q = 0 := by have := of_decide_eq_false h; omega
    subst hq
    refine Sat.exit ?_
    simp only [thenK, blockK, reduceIte]
    (repeat refine Sat.seq ?_)
    (refine Sat.region_k fun k hk => ?_; simp -implicitDefEqProofs only [evr, id, reduceCtorEq, reduceIte, Nat.reduceMul, Nat.reduceAdd, Nat.reduceLT, Nat.reduceLeDiff, Nat.reduceEqDiff, Int.reduceLT, Int.reduceBEq, Int.reduceBNe, Nat.reduceBEq, frS, ptr, evn])
    refine wcall_slice (refTrimC (Frm.codes cb) (s := .sl a xs.length c 1 (fun p _ => .i .i64 (xs.getD p 0))) ⟨a, c, 1, _, rfl, .inr rfl, fun p _ => rfl⟩ hlim) (by simp -implicitDefEqProofs only [evr, id, reduceCtorEq, reduceIte, Nat.reduceMul, Nat.reduceAdd, Nat.reduceLT, Nat.reduceLeDiff, Nat.reduceEqDiff, Int.reduceLT, Int.reduceBEq, Int.reduceBNe, Nat.reduceBEq, frS, ptr, evn]; try rfl) (by simp -implicitDefEqProofs only [evr, id, reduceCtorEq, reduceIte, Nat.reduceMul, Nat.reduceAdd, Nat.reduceLT, Nat.reduceLeDiff, Nat.reduceEqDiff, Int.reduceLT, Int.reduceBEq, Int.reduceBNe, Nat.reduceBEq, frS, ptr, evn]; try rfl) ?_
    intro z hz
    have hz1 := hz
    obtain ⟨a8, c8, z8, r8, x8, rfl, _⟩ := hz
    simp -implicitDefEqProofs only [evr, id, reduceCtorEq, reduceIte, Nat.reduceMul, Nat.reduceAdd, Nat.reduceLT, Nat.reduceLeDiff, Nat.reduceEqDiff, Int.reduceLT, Int.reduceBEq, Int.reduceBNe, Nat.reduceBEq, frS, ptr, evn]
    (refine hk _ ?_; clear hk k; try show Sat _ _ _ _ _)
    refine Sat.ret ?_
    simp only [Tryz.results38, evr, id, reduceCtorEq, reduceIte, Nat.reduceMul, Nat.reduceAdd, Nat.reduceLT, Nat.reduceLeDiff, Nat.reduceEqDiff, Int.reduceLT, Int.reduceBEq, Int.reduceBNe, Nat.reduceBEq, List.append_nil, Int.toNat_zero, Nat.sub_self, frS, ptr]
    refine ⟨_, hz1, ?_⟩
    rw [Int.toNat_of_nonneg (val_nonneg hlim)]
    have h1 := val_lt hlim
    have h2 := pw_mono (show xs.length ≤ n by omega)
    omega
def FrcPost (n : Nat) (r : SV) : Prop := ∃ neg p q, FrS r neg p q ∧ (p : Int) < pw n ∧ (q : Int) < pw n ∧ 0 < q ∧ (neg = true → 0 < p)
set_option maxRecDepth 100000 in
theorem fractionCdC (cb : Nat) (n : Nat) (hn : n ≤ 100) (hn1 : 1 ≤ n) : Contract (Frm.codes cb) Tryz.prog 7 [ptr cb, .i .i64 n] (FrcPost n) := by
  have up : pw n ≤ pw 256 := pw_mono (by omega)
  refine contract_of Tryz.func7 rfl (by kernel_rfl) ?_
  simp only [Tryz.ntmps7, argEnv]
  (repeat refine Sat.seq ?_)
  (refine Sat.region_k fun k hk => ?_; simp -implicitDefEqProofs only [evr, id, reduceCtorEq, reduceIte, Nat.reduceMul, Nat.reduceAdd, Nat.reduceLT, Nat.reduceLeDiff, Nat.reduceEqDiff, Int.reduceLT, Int.reduceBEq, Int.reduceBNe, Nat.reduceBEq, frS, ptr, evn])
  intro b4
  (refine hk _ ?_; clear hk k; try show Sat _ _ _ _ _)
  (repeat refine Sat.seq ?_)
  (refine Sat.region_k fun k hk => ?_; simp -implicitDefEqProofs only [evr, id, reduceCtorEq, reduceIte, Nat.reduceMul, Nat.reduceAdd, Nat.reduceLT, Nat.reduceLeDiff, Nat.reduceEqDiff, Int.reduceLT, Int.reduceBEq, Int.reduceBNe, Nat.reduceBEq, frS, ptr, evn])
  refine wcall_plain (nextC cb 2 (by decide) (by decide)) rfl (by rintro _ ⟨x, rfl, _⟩; exact ok_plain rfl) ?_
  rintro r ⟨x, rfl, hx0, hx1⟩
  simp -implicitDefEqProofs only [evr, id, reduceCtorEq, reduceIte, Nat.reduceMul, Nat.reduceAdd, Nat.reduceLT, Nat.reduceLeDiff, Nat.reduceEqDiff, Int.reduceLT, Int.reduceBEq, Int.reduceBNe, Nat.reduceBEq, frS, ptr, evn]
  refine wcall_slice (naturalC cb n hn) rfl rfl ?_
  rintro r ⟨p, hp, hpn⟩
  have hp1 := hp
  obtain ⟨a1, c1, z1, r1, x1, rfl, _⟩ := hp
  simp -implicitDefEqProofs only [evr, id, reduceCtorEq, reduceIte, Nat.reduceMul, Nat.reduceAdd, Nat.reduceLT, Nat.reduceLeDiff, Nat.reduceEqDiff, Int.reduceLT, Int.reduceBEq, Int.reduceBNe, Nat.reduceBEq, frS, ptr, evn]
  refine wcall_slice (naturalC cb n hn) rfl rfl ?_
  rintro r ⟨q0, hq, hqn⟩
  have hq1 := hq
  obtain ⟨a2, c2, z2, r2, x2, rfl, _⟩ := hq
  simp -implicitDefEqProofs only [evr, id, reduceCtorEq, reduceIte, Nat.reduceMul, Nat.reduceAdd, Nat.reduceLT, Nat.reduceLeDiff, Nat.reduceEqDiff, Int.reduceLT, Int.reduceBEq, Int.reduceBNe, Nat.reduceBEq, frS, ptr, evn]
  intro b5
  (refine hk _ ?_; clear hk k; try show Sat _ _ _ _ _)
  have hl1 := hp1.len
  have hl2 := hq1.len0
  (repeat refine Sat.seq ?_)
  (refine Sat.region_k fun k hk => ?_; simp -implicitDefEqProofs only [evr, id, reduceCtorEq, reduceIte, Nat.reduceMul, Nat.reduceAdd, Nat.reduceLT, Nat.reduceLeDiff, Nat.reduceEqDiff, Int.reduceLT, Int.reduceBEq, Int.reduceBNe, Nat.reduceBEq, frS, ptr, evn]; refine hk _ ?_; clear hk k; try show Sat _ _ _ _ _)
  refine Sat.join2 (ι := Nat × SV) (fun z => ⟨40, [(5, .op 1 b5 0), (4, .op 0 b4 0), (0, ptr cb)], [.box b4 29 [.b false, .sl none 0 0 0 (fun _ _ => .v undef), .sl none 0 0 0 (fun _ _ => .v undef)], .box b5 29 [.b (x == 1), .sl a1 x1.length c1 z1 r1, z.2]]⟩)
    (fun z => Nats z.2 z.1 ∧ (z.1 : Int) < pw n ∧ 0 < z.1) (fun hrest => ?_) ?_
  · refine Sat.cond_b rfl (fun h => ?_) (fun h => ?_)
    · (repeat refine Sat.seq ?_)
      (refine Sat.region_k fun k hk => ?_; simp -implicitDefEqProofs only [evr, id, reduceCtorEq, reduceIte, Nat.reduceMul, Nat.reduceAdd, Nat.reduceLT, Nat.reduceLeDiff, Nat.reduceEqDiff, Int.reduceLT, Int.reduceBEq, Int.reduceBNe, Nat.reduceBEq, frS, ptr, evn])
      refine wcall_plain (nextC cb 12 (by decide) (by decide)) rfl (by rintro _ ⟨x, rfl, _⟩; exact ok_plain rfl) ?_
      rintro r ⟨y, rfl, hy0, hy1⟩
      obtain ⟨y, rfl⟩ := Int.eq_ofNat_of_zero_le hy0
      have e1 : IntKind.i64.wrap (1 + (y : Int)) = ((y + 1 : Nat) : Int) := by rw [w64 (by omega)]; omega
      simp -implicitDefEqProofs only [evr, id, reduceCtorEq, reduceIte, Nat.reduceMul, Nat.reduceAdd, Nat.reduceLT, Nat.reduceLeDiff, Nat.reduceEqDiff, Int.reduceLT, Int.reduceBEq, Int.reduceBNe, Nat.reduceBEq, frS, ptr, e1, evn]
      intro blk
      refine hk _ ?_
      clear hk k
      simp only [thenK]
      refine Sat.settleLeafF 1 2 rfl rfl rfl ?_
      simp only [List.set_cons_succ, List.set_cons_zero]
      refine Sat.le (hrest (y + 1, .sl (some ⟨blk, 0, none⟩) 1 1 1 (rdL [SV.i .i64 ((y + 1 : Nat) : Int)] 1)) ⟨nats_one (by omega) (by omega), ?_, by show 0 < y + 1; omega⟩) ?_
      · have := pw_mono hn1
        rw [pw_succ, pw_zero] at this
        show ((y + 1 : Nat) : Int) < pw n
        omega
      · simp -implicitDefEqProofs only [evr, id, reduceCtorEq, reduceIte, Nat.reduceMul, Nat.reduceAdd, Nat.reduceLT, Nat.reduceLeDiff, Nat.reduceEqDiff, Int.reduceLT, Int.reduceBEq, Int.reduceBNe, Nat.reduceBEq, frS, ptr, evl, evn]
    · rw [hl2] at h
      refine Sat.skip ?_
      simp only [thenK]
      refine Sat.le (hrest (q0, _) ⟨hq1, hqn, by have := of_decide_eq_false h; show 0 < q0; omega⟩) ?_
      simp -implicitDefEqProofs only [evr, id, reduceCtorEq, reduceIte, Nat.reduceMul, Nat.reduceAdd, Nat.reduceLT, Nat.reduceLeDiff, Nat.reduceEqDiff, Int.reduceLT, Int.reduceBEq, Int.reduceBNe, Nat.reduceBEq, frS, ptr, evl, evn]
  clear hl2
  rintro ⟨q, sq⟩ ⟨hq, hqn2, hq0⟩
  simp only at hq hqn2 hq0 ⊢
  have hq2 := hq
  obtain ⟨a3, c3, z3, r3, x3, rfl, _⟩ := hq
  (repeat refine Sat.seq ?_)
  refine Sat.join2 (ι := Unit) (fun _ => ⟨40, [(5, .op 1 b5 0), (4, .op 0 b4 0), (0, ptr cb)], [.box b4 29 [.b false, .sl none 0 0 0 (fun _ _ => .v undef), .sl none 0 0 0 (fun _ _ => .v undef)], .box b5 29 [.b ((x == 1) && decide (0 < p)), .sl a1 x1.length c1 z1 r1, .sl a3 x3.length c3 z3 r3]]⟩)
    (fun _ => True) (fun hrest => ?_) ?_
  · (refine Sat.region_k fun k hk => ?_; simp -implicitDefEqProofs only [evr, id, reduceCtorEq, reduceIte, Nat.reduceMul, Nat.reduceAdd, Nat.reduceLT, Nat.reduceLeDiff, Nat.reduceEqDiff, Int.reduceLT, Int.reduceBEq, Int.reduceBNe, Nat.reduceBEq, frS, ptr, evn])
    simp only [hl1]
    refine ⟨fun h => ?_, fun h => ?_⟩
    · refine hk _ ?_
      clear hk k
      simp only [thenK]
      refine Sat.le (hrest () trivial) ?_
      rw [h, Bool.true_and]
      simp -implicitDefEqProofs only [evr, id, reduceCtorEq, reduceIte, Nat.reduceMul, Nat.reduceAdd, Nat.reduceLT, Nat.reduceLeDiff, Nat.reduceEqDiff, Int.reduceLT, Int.reduceBEq, Int.reduceBNe, Nat.reduceBEq, frS, ptr, evl, evn]
    · refine hk _ ?_
      clear hk k
      simp only [thenK]
      refine Sat.boxBools 1 rfl ?_
      simp only [roB, List.map_cons, List.map_nil, List.set_cons_zero, List.set_cons_succ]
      refine Sat.le (hrest () trivial) ?_
      rw [h, Bool.false_and]
      simp -implicitDefEqProofs only [evr, id, reduceCtorEq, reduceIte, Nat.reduceMul, Nat.reduceAdd, Nat.reduceLT, Nat.reduceLeDiff, Nat.reduceEqDiff, Int.reduceLT, Int.reduceBEq, Int.reduceBNe, Nat.reduceBEq, frS, ptr, evl, evn]
  rintro _ _
  have hneg : ((x == 1) && decide (0 < p)) = true → 0 < p := fun h => by
    rw [Bool.and_eq_true] at h
    exact of_decide_eq_true h.2
  generalize ((x == 1) && decide (0 < p)) = neg at hneg
  (repeat refine Sat.seq ?_)
  (refine Sat.region_k fun k hk => ?_; simp -implicitDefEqProofs only [evr, id, reduceCtorEq, reduceIte, Nat.reduceMul, Nat.reduceAdd, Nat.reduceLT, Nat.reduceLeDiff, Nat.reduceEqDiff, Int.reduceLT, Int.reduceBEq, Int.reduceBNe, Nat.reduceBEq, frS, ptr, evn])
  refine wcall_plain (nextC cb 2 (by decide) (by decide)) rfl (by rintro _ ⟨x, rfl, _⟩; exact ok_plain rfl) ?_
  rintro r ⟨y, rfl, hy0, hy1⟩
  simp -implicitDefEqProofs only [evr, id, reduceCtorEq, reduceIte, Nat.reduceMul, Nat.reduceAdd, Nat.reduceLT, Nat.reduceLeDiff, Nat.reduceEqDiff, Int.reduceLT, Int.reduceBEq, Int.reduceBNe, Nat.reduceBEq, frS, ptr, evn]
  (refine hk _ ?_; clear hk k; try show Sat _ _ _ _ _)
  refine Sat.cond_b rfl (fun h => ?_) (fun h => ?_)
  · have hg : 0 < Nat.gcd p q := Nat.gcd_pos_of_pos_right _ hq0
    have e1 : p / Nat.gcd p q * Nat.gcd p q = p := Nat.div_mul_cancel (Nat.gcd_dvd_left p q)
    (repeat refine Sat.seq ?_)
    (refine Sat.region_k fun k hk => ?_; simp -implicitDefEqProofs only [evr, id, reduceCtorEq, reduceIte, Nat.reduceMul, Nat.reduceAdd, Nat.reduceLT, Nat.reduceLeDiff, Nat.reduceEqDiff, Int.reduceLT, Int.reduceBEq, Int.reduceBNe, Nat.reduceBEq, frS, ptr, evn])
    refine wcall_slice (refReduceC (Frm.codes cb) neg hp1 hq2 (by omega) (by omega) hq0) rfl (by simp only [frS, evr, id, reduceCtorEq, reduceIte, Nat.reduceMul, Nat.reduceAdd, Nat.reduceLT, Nat.reduceLeDiff, Nat.reduceEqDiff, Int.reduceLT, Int.reduceBEq, Int.reduceBNe, Nat.reduceBEq, List.append_nil, Int.toNat_zero, Nat.sub_self, frS, ptr]; try rfl) ?_
    rintro r ⟨sp3, sq3, rfl, h3, h4⟩
    have h3' := h3
    have h4' := h4
    obtain ⟨a5, c5, z5, r5, x5, rfl, _⟩ := h3
    obtain ⟨a6, c6, z6, r6, x6, rfl, _⟩ := h4
    simp only [frS, evr, id, reduceCtorEq, reduceIte, Nat.reduceMul, Nat.reduceAdd, Nat.reduceLT, Nat.reduceLeDiff, Nat.reduceEqDiff, Int.reduceLT, Int.reduceBEq, Int.reduceBNe, Nat.reduceBEq, List.append_nil, Int.toNat_zero, Nat.sub_self, frS, ptr]
    (refine hk _ ?_; clear hk k; try show Sat _ _ _ _ _)
    (repeat refine Sat.seq ?_)
    (refine Sat.region_k fun k hk => ?_; simp -implicitDefEqProofs only [evr, id, reduceCtorEq, reduceIte, Nat.reduceMul, Nat.reduceAdd, Nat.reduceLT, Nat.reduceLeDiff, Nat.reduceEqDiff, Int.reduceLT, Int.reduceBEq, Int.reduceBNe, Nat.reduceBEq, frS, ptr, evn]; refine hk _ ?_; clear hk k; try show Sat _ _ _ _ _)
    refine Sat.ret ?_
    simp only [Tryz.results7, evr, id, reduceCtorEq, reduceIte, Nat.reduceMul, Nat.reduceAdd, Nat.reduceLT, Nat.reduceLeDiff, Nat.reduceEqDiff, Int.reduceLT, Int.reduceBEq, Int.reduceBNe, Nat.reduceBEq, List.append_nil, Int.toNat_zero, Nat.sub_self, frS, ptr]
    refine ⟨_, _, _, ⟨_, _, rfl, h3', h4'⟩, ?_, ?_, Nat.div_pos (Nat.le_of_dvd hq0 (Nat.gcd_dvd_right p q)) hg, fun h9 => ?_⟩
    · have := Nat.div_le_self p (Nat.gcd p q); omega
    · have := Nat.div_le_self q (Nat.gcd p q); omega
    · rw [Bool.and_eq_true] at h9
      have h8 := hneg h9.1
      rcases Nat.eq_zero_or_pos (p / Nat.gcd p q) with h7 | h7
      · rw [h7] at e1; omega
      · exact h7
  · refine Sat.skip ?_
    simp only [thenK]
    (repeat refine Sat.seq ?_)
    (refine Sat.region_k fun k hk => ?_; simp -implicitDefEqProofs only [evr, id, reduceCtorEq, reduceIte, Nat.reduceMul, Nat.reduceAdd, Nat.reduceLT, Nat.reduceLeDiff, Nat.reduceEqDiff, Int.reduceLT, Int.reduceBEq, Int.reduceBNe, Nat.reduceBEq, frS, ptr, evn]; refine hk _ ?_; clear hk k; try show Sat _ _ _ _ _)
    refine Sat.ret ?_
    simp only [Tryz.results7, evr, id, reduceCtorEq, reduceIte, Nat.reduceMul, Nat.reduceAdd, Nat.reduceLT, Nat.reduceLeDiff, Nat.reduceEqDiff, Int.reduceLT, Int.reduceBEq, Int.reduceBNe, Nat.reduceBEq, List.append_nil, Int.toNat_zero, Nat.sub_self, frS, ptr]
    exact ⟨_, _, _, ⟨_, _, rfl, hp1, hq2⟩, hpn, hqn2, hq0, hneg⟩
end Go.Proofs.YtgdbcpljdibliaaGreatDoor

/- Chapter 3: awake. -/
set_option linter.unusedSimpArgs false
set_option linter.unusedVariables false
namespace Go.Proofs.YtgdbcpljdibliaaGreatDoor
open Eng Lmb Go.RowKit
set_option maxRecDepth 100000 in
theorem awakeC (F : Frm) : Contract F Tryz.prog 5 [] (fun r => r = .b true) := by
  refine contract_of Tryz.func5 rfl (by kernel_rfl) ?_
  simp only [Tryz.ntmps5, argEnv]
  (repeat refine Sat.seq ?_)
  (refine Sat.region_k fun k hk => ?_; simp -implicitDefEqProofs only [evr, id, reduceCtorEq, reduceIte, Nat.reduceMul, Nat.reduceAdd, Nat.reduceLT, Nat.reduceLeDiff, Nat.reduceEqDiff, Int.reduceLT, Int.reduceBEq, Int.reduceBNe, Nat.reduceBEq, frS, ptr, evn]; refine hk _ ?_; clear hk k; try show Sat _ _ _ _ _)
  (repeat refine Sat.seq ?_)
  (refine Sat.region_k fun k hk => ?_; simp -implicitDefEqProofs only [evr, id, reduceCtorEq, reduceIte, Nat.reduceMul, Nat.reduceAdd, Nat.reduceLT, Nat.reduceLeDiff, Nat.reduceEqDiff, Int.reduceLT, Int.reduceBEq, Int.reduceBNe, Nat.reduceBEq, frS, ptr, evn])
  refine wcall_slice (fracFromC F (-6) (-4) (by omega) (by omega) (by omega) (by omega) (by omega)) rfl rfl ?_
  rintro r ⟨f, rfl, sp, sq, rfl, hp, hq⟩
  have hp3 : Nats sp 3 := hp
  have hq2 : Nats sq 2 := hq
  have hp' := hp3
  have hq' := hq2
  clear hp hq
  obtain ⟨a1, c1, z1, r1, x1, rfl, _⟩ := hp3
  obtain ⟨a2, c2, z2, r2, x2, rfl, _⟩ := hq2
  have e : fromN (-6) (-4) = false := by decide
  rw [e]
  simp -implicitDefEqProofs only [evr, id, reduceCtorEq, reduceIte, Nat.reduceMul, Nat.reduceAdd, Nat.reduceLT, Nat.reduceLeDiff, Nat.reduceEqDiff, Int.reduceLT, Int.reduceBEq, Int.reduceBNe, Nat.reduceBEq, frS, ptr, evn]
  intro b1
  (refine hk _ ?_; clear hk k; try show Sat _ _ _ _ _)
  have d1 : ((⟨#[51, 47, 50]⟩ : ByteArray).toList == (⟨#[51, 47, 50]⟩ : ByteArray).toList) = true := beq_self_eq_true _
  (repeat refine Sat.seq ?_)
  refine Sat.region_k fun k hk => ?_
  simp -implicitDefEqProofs only [evr, id, reduceCtorEq, reduceIte, Nat.reduceMul, Nat.reduceAdd, Nat.reduceLT, Nat.reduceLeDiff, Nat.reduceEqDiff, Int.reduceLT, Int.reduceBEq, Int.reduceBNe, Nat.reduceBEq, frS, ptr, evn]
  refine wcall_plain (fracText32C F hp' hq') (by simp -implicitDefEqProofs only [evr, id, reduceCtorEq, reduceIte, Nat.reduceMul, Nat.reduceAdd, Nat.reduceLT, Nat.reduceLeDiff, Nat.reduceEqDiff, Int.reduceLT, Int.reduceBEq, Int.reduceBNe, Nat.reduceBEq, frS, ptr, evn]; try rfl) (by rintro _ rfl; exact ok_plain rfl) ?_
  rintro r rfl
  simp -implicitDefEqProofs only [evr, id, reduceCtorEq, reduceIte, Nat.reduceMul, Nat.reduceAdd, Nat.reduceLT, Nat.reduceLeDiff, Nat.reduceEqDiff, Int.reduceLT, Int.reduceBEq, Int.reduceBNe, Nat.reduceBEq, frS, ptr, d1, evn]
  (refine hk _ ?_; clear hk k; try show Sat _ _ _ _ _)
  refine Sat.ret ?_
  simp only [Tryz.results5, evr, id, reduceCtorEq, reduceIte, Nat.reduceMul, Nat.reduceAdd, Nat.reduceLT, Nat.reduceLeDiff, Nat.reduceEqDiff, Int.reduceLT, Int.reduceBEq, Int.reduceBNe, Nat.reduceBEq, List.append_nil, Int.toNat_zero, Nat.sub_self, frS, ptr]
theorem slB_bytes3 (a : Option Addr) (cap : Nat) (z : List Int) (hz : ∀ n ∈ z, (Lit.int .u8 n).wf = true) : isBytes (slB a cap z) :=
  ⟨a, z.length, cap, _, rfl, fun i hi => ⟨z.getD i 0, by have := bounds_u8 (hz _ (getD_mem (d := 0) hi)); omega, by have := bounds_u8 (hz _ (getD_mem (d := 0) hi)); omega, rfl⟩⟩
theorem FrcPost.v {n : Nat} {r : SV} (h : FrcPost n r) : ∃ (x : Int) (d : Nat), FrV r x d (30 * n) := by
  obtain ⟨neg, p, q, hs, hp, hq, h0, _⟩ := h
  rw [pw_two] at hp hq
  exact ⟨sg neg p, q, neg, p, q, hs, rfl, h0, h0, by omega, by omega⟩
end Go.Proofs.YtgdbcpljdibliaaGreatDoor

/- fraction.Text, by the evaluator. -/
set_option linter.unusedSimpArgs false
set_option linter.unusedVariables false
namespace Go.Proofs.YtgdbcpljdibliaaGreatDoor
namespace Tq
open Eng Lmb Go.RowKit
theorem two_lt (a b : Nat) (h : a < b) : 2 ^ a < 2 ^ b := Nat.pow_lt_pow_right (by decide) h
theorem lt7680 {x k : Nat} (h : x ≤ 2 ^ k) (hk : k < 1900) : x < 2 ^ 7680 := Nat.lt_of_le_of_lt h (two_lt k 7680 (by omega))
theorem dec_le {x k : Nat} (h : x ≤ 2 ^ k) (hk : k < 1900) : (Lib.decDigits x).length ≤ 1901 := by
  have := dec_two (k + 1) x (Nat.lt_of_le_of_lt h (two_lt k (k + 1) (by omega)))
  omega
theorem dec_one {q : Nat} : Lib.decDigits q = [49] ↔ q = 1 := by
  have e : Lib.decDigits 1 = [49] := by rw [dec_small (by decide)]; rfl
  constructor
  · intro h
    rw [← e] at h
    exact dec_inj h
  · rintro rfl
    exact e
theorem emp49 : (⟨#[49]⟩ : ByteArray).toList = [49] := by rw [ByteArray.toList_eq]
set_option maxHeartbeats 1000000 in
set_option maxRecDepth 100000 in
theorem fracTextC {a : SV} {n : Int} {d k1 : Nat} (ha : FrV a n d k1) (hk : k1 < 1900) : Contract FrA Tryz.prog 12 [a] (fun r => r = sB (frText (rN n) (rP n d) (rQ n d))) := by
  have ha' := ha
  have rd := redV FrA (k1 := k1) ha hk
  obtain ⟨neg, a1, l1, c1, z1, r1, a2, l2, c2, z2, r2, rfl⟩ := ha.open
  refine contract_of Tryz.func12 rfl (by kernel_rfl) ?_
  simp only [Tryz.ntmps12, argEnv, frS]
  (repeat refine Sat.seq ?_)
  (refine Sat.region_k fun k hk => ?_; simp -implicitDefEqProofs only [evr, id, reduceCtorEq, reduceIte, Nat.reduceMul, Nat.reduceAdd, Nat.reduceLT, Nat.reduceLeDiff, Nat.reduceEqDiff, Int.reduceLT, Int.reduceBEq, Int.reduceBNe, Nat.reduceBEq, frS, evn])
  intro b1
  (refine hk _ ?_; clear hk k; try show Sat _ _ _ _ _)
  (repeat refine Sat.seq ?_)
  (refine Sat.region_k fun k hk => ?_; simp -implicitDefEqProofs only [evr, id, reduceCtorEq, reduceIte, Nat.reduceMul, Nat.reduceAdd, Nat.reduceLT, Nat.reduceLeDiff, Nat.reduceEqDiff, Int.reduceLT, Int.reduceBEq, Int.reduceBNe, Nat.reduceBEq, frS, evn])
  refine wcall_slice rd rfl (by simp -implicitDefEqProofs only [evr, id, reduceCtorEq, reduceIte, Nat.reduceMul, Nat.reduceAdd, Nat.reduceLT, Nat.reduceLeDiff, Nat.reduceEqDiff, Int.reduceLT, Int.reduceBEq, Int.reduceBNe, Nat.reduceBEq, frS, frS, evn]) ?_
  rintro x ⟨⟨sp, sq, rfl, hp, hq⟩, hd0, hP, hQ⟩
  have hp' := hp
  have hq' := hq
  obtain ⟨a3, c3, z3, r3, x3, rfl, _⟩ := hp
  obtain ⟨a4, c4, z4, r4, x4, rfl, _⟩ := hq
  simp -implicitDefEqProofs only [evr, id, reduceCtorEq, reduceIte, Nat.reduceMul, Nat.reduceAdd, Nat.reduceLT, Nat.reduceLeDiff, Nat.reduceEqDiff, Int.reduceLT, Int.reduceBEq, Int.reduceBNe, Nat.reduceBEq, frS, evn]
  (refine hk _ ?_; clear hk k; try show Sat _ _ _ _ _)
  have tP := textC hp' (lt7680 hP hk) (lt256 hP hk)
  have tQ := textC hq' (lt7680 hQ hk) (lt256 hQ hk)
  have lP := dec_le hP hk
  have lQ := dec_le hQ hk
  generalize rP n d = P at hp' hP tP lP ⊢
  generalize rQ n d = Q at hq' hQ tQ lQ ⊢
  generalize rN n = N at *
  (repeat refine Sat.seq ?_)
  (refine Sat.region_k fun k hk => ?_; simp -implicitDefEqProofs only [evr, id, reduceCtorEq, reduceIte, Nat.reduceMul, Nat.reduceAdd, Nat.reduceLT, Nat.reduceLeDiff, Nat.reduceEqDiff, Int.reduceLT, Int.reduceBEq, Int.reduceBNe, Nat.reduceBEq, frS, evn])
  refine wcall_plain tP rfl (by rintro _ rfl; exact ok_plain rfl) ?_
  rintro r rfl
  simp -implicitDefEqProofs only [evr, id, reduceCtorEq, reduceIte, Nat.reduceMul, Nat.reduceAdd, Nat.reduceLT, Nat.reduceLeDiff, Nat.reduceEqDiff, Int.reduceLT, Int.reduceBEq, Int.reduceBNe, Nat.reduceBEq, frS, evn]
  (refine hk _ ?_; clear hk k; try show Sat _ _ _ _ _)
  (repeat refine Sat.seq ?_)
  (refine Sat.region_k fun k hk => ?_; simp -implicitDefEqProofs only [evr, id, reduceCtorEq, reduceIte, Nat.reduceMul, Nat.reduceAdd, Nat.reduceLT, Nat.reduceLeDiff, Nat.reduceEqDiff, Int.reduceLT, Int.reduceBEq, Int.reduceBNe, Nat.reduceBEq, frS, evn]; refine hk _ ?_; clear hk k; try show Sat _ _ _ _ _)
  have ct1 : (((((⟨#[45]⟩ : ByteArray)).size + (mkB (Lib.decDigits P)).size : Nat) : Int) ≤ IntKind.i64.max) = True := cat_ok (by rw [mkB_size]; show 1 + _ ≤ _; omega)
  have ce1 : (⟨#[45]⟩ : ByteArray) ++ mkB (Lib.decDigits P) = mkB (45 :: Lib.decDigits P) := mkB_append [45] _
  have hls : ((if N = true then 45 :: Lib.decDigits P else Lib.decDigits P) : List UInt8).length ≤ 1902 := by cases N <;> simp <;> omega
  refine Sat.join (fun _ : Unit => ⟨24, [(3, sB (if N = true then 45 :: Lib.decDigits P else Lib.decDigits P)), (1, .op 0 b1 0)], [.box b1 29 [.b N, .sl a3 x3.length c3 z3 r3, .sl a4 x4.length c4 z4 r4]]⟩) (fun _ => True) ?_ (fun _ _ => ?_)
  · refine Sat.cond_b rfl (fun h => ?_) (fun h => ?_)
    · subst h
      refine Sat.region_k fun k hk => ?_
      simp -implicitDefEqProofs only [evr, id, reduceCtorEq, reduceIte, Nat.reduceMul, Nat.reduceAdd, Nat.reduceLT, Nat.reduceLeDiff, Nat.reduceEqDiff, Int.reduceLT, Int.reduceBEq, Int.reduceBNe, Nat.reduceBEq, frS, ct1, ce1, evn]
      refine hk _ ?_
      simp only [thenK]
      refine ⟨(), trivial, ?_⟩
      simp only [if_true]
      simp -implicitDefEqProofs only [evr, id, reduceCtorEq, reduceIte, Nat.reduceMul, Nat.reduceAdd, Nat.reduceLT, Nat.reduceLeDiff, Nat.reduceEqDiff, Int.reduceLT, Int.reduceBEq, Int.reduceBNe, Nat.reduceBEq, frS, evl, evn]
      repeat' (first | rfl | (refine And.intro ?_ ?_))
    · subst h
      refine Sat.skip ?_
      simp only [thenK]
      refine ⟨(), trivial, ?_⟩
      simp only [Bool.false_eq_true, if_false]
      simp -implicitDefEqProofs only [evr, id, reduceCtorEq, reduceIte, Nat.reduceMul, Nat.reduceAdd, Nat.reduceLT, Nat.reduceLeDiff, Nat.reduceEqDiff, Int.reduceLT, Int.reduceBEq, Int.reduceBNe, Nat.reduceBEq, frS, evl, evn]
      repeat' (first | rfl | (refine And.intro ?_ ?_))
  have hft : frText N P Q = (if N = true then 45 :: Lib.decDigits P else Lib.decDigits P) ++ if Q = 1 then [] else 47 :: Lib.decDigits Q := by
    unfold frText frBody
    cases N <;> simp
  rw [hft]
  generalize (if N = true then 45 :: Lib.decDigits P else Lib.decDigits P) = sl at hls ⊢
  have ct2 : (((((⟨#[47]⟩ : ByteArray)).size + (mkB (Lib.decDigits Q)).size : Nat) : Int) ≤ IntKind.i64.max) = True := cat_ok (by rw [mkB_size]; show 1 + _ ≤ _; omega)
  have ce2 : (⟨#[47]⟩ : ByteArray) ++ mkB (Lib.decDigits Q) = mkB (47 :: Lib.decDigits Q) := mkB_append [47] _
  have ct3 : ((((mkB sl).size + (mkB (47 :: Lib.decDigits Q)).size : Nat) : Int) ≤ IntKind.i64.max) = True := cat_ok (by rw [mkB_size, mkB_size]; simp; omega)
  have ce3 : mkB sl ++ mkB (47 :: Lib.decDigits Q) = mkB (sl ++ 47 :: Lib.decDigits Q) := mkB_append _ _
  (repeat refine Sat.seq ?_)
  (refine Sat.region_k fun k hk => ?_; simp -implicitDefEqProofs only [evr, id, reduceCtorEq, reduceIte, Nat.reduceMul, Nat.reduceAdd, Nat.reduceLT, Nat.reduceLeDiff, Nat.reduceEqDiff, Int.reduceLT, Int.reduceBEq, Int.reduceBNe, Nat.reduceBEq, frS, evn])
  refine wcall_plain tQ rfl (by rintro _ rfl; exact ok_plain rfl) ?_
  rintro r rfl
  simp -implicitDefEqProofs only [evr, id, reduceCtorEq, reduceIte, Nat.reduceMul, Nat.reduceAdd, Nat.reduceLT, Nat.reduceLeDiff, Nat.reduceEqDiff, Int.reduceLT, Int.reduceBEq, Int.reduceBNe, Nat.reduceBEq, frS, evn]
  (refine hk _ ?_; clear hk k; try show Sat _ _ _ _ _)
  (repeat refine Sat.seq ?_)
  refine Sat.region_k fun k hk => ?_
  simp -implicitDefEqProofs only [evr, id, reduceCtorEq, reduceIte, Nat.reduceMul, Nat.reduceAdd, Nat.reduceLT, Nat.reduceLeDiff, Nat.reduceEqDiff, Int.reduceLT, Int.reduceBEq, Int.reduceBNe, Nat.reduceBEq, frS, mkB_toList, emp49, evn]
  (refine hk _ ?_; clear hk k; try show Sat _ _ _ _ _)
  refine Sat.cond_b rfl (fun h => ?_) (fun h => ?_)
  · have hQ1 : Q ≠ 1 := fun e => by rw [dec_one.2 e] at h; simp at h
    (repeat refine Sat.seq ?_)
    refine Sat.region_k fun k hk => ?_
    simp -implicitDefEqProofs only [evr, id, reduceCtorEq, reduceIte, Nat.reduceMul, Nat.reduceAdd, Nat.reduceLT, Nat.reduceLeDiff, Nat.reduceEqDiff, Int.reduceLT, Int.reduceBEq, Int.reduceBNe, Nat.reduceBEq, frS, ct2, ce2, ct3, ce3, evn]
    (refine hk _ ?_; clear hk k; try show Sat _ _ _ _ _)
    (repeat refine Sat.seq ?_)
    (refine Sat.region_k fun k hk => ?_; simp -implicitDefEqProofs only [evr, id, reduceCtorEq, reduceIte, Nat.reduceMul, Nat.reduceAdd, Nat.reduceLT, Nat.reduceLeDiff, Nat.reduceEqDiff, Int.reduceLT, Int.reduceBEq, Int.reduceBNe, Nat.reduceBEq, frS, evn]; refine hk _ ?_; clear hk k; try show Sat _ _ _ _ _)
    refine Sat.ret ?_
    simp only [thenK, Tryz.results12, evr, id, reduceCtorEq, reduceIte, Nat.reduceMul, Nat.reduceAdd, Nat.reduceLT, Nat.reduceLeDiff, Nat.reduceEqDiff, Int.reduceLT, Int.reduceBEq, Int.reduceBNe, Nat.reduceBEq, List.append_nil, Int.toNat_zero, Nat.sub_self, frS]
    rw [if_neg hQ1]
  · have hQ1 : Q = 1 := dec_one.1 (by simpa using h)
    refine Sat.skip ?_
    simp only [thenK]
    (repeat refine Sat.seq ?_)
    (refine Sat.region_k fun k hk => ?_; simp -implicitDefEqProofs only [evr, id, reduceCtorEq, reduceIte, Nat.reduceMul, Nat.reduceAdd, Nat.reduceLT, Nat.reduceLeDiff, Nat.reduceEqDiff, Int.reduceLT, Int.reduceBEq, Int.reduceBNe, Nat.reduceBEq, frS, evn]; refine hk _ ?_; clear hk k; try show Sat _ _ _ _ _)
    refine Sat.ret ?_
    simp only [Tryz.results12, evr, id, reduceCtorEq, reduceIte, Nat.reduceMul, Nat.reduceAdd, Nat.reduceLT, Nat.reduceLeDiff, Nat.reduceEqDiff, Int.reduceLT, Int.reduceBEq, Int.reduceBNe, Nat.reduceBEq, List.append_nil, Int.toNat_zero, Nat.sub_self, frS]
    rw [if_pos hQ1, List.append_nil]
end Tq
end Go.Proofs.YtgdbcpljdibliaaGreatDoor

/- fraction.Parse of the text of a reduced fraction, by the evaluator. -/
set_option linter.unusedSimpArgs false
set_option linter.unusedVariables false
namespace Go.Proofs.YtgdbcpljdibliaaGreatDoor
namespace Tq
open Eng Lmb Go.RowKit
theorem cutPrefixC (F : Frm) (l : List UInt8) : Contract F Tryz.prog 41 [sB l, .v (.string ⟨#[45]⟩)] (fun r => r = tupL [sB (Lib.trimPrefix l [45]), .b (Lib.hasPrefix l [45])]) := by
  refine ofCalls Tryz.func41 rfl (by kernel_rfl) fun R w hs hR => ?_
  refine (Tryz.strings_CutPrefix (mkB l) ⟨#[45]⟩ w).mono ?_
  rintro e w' ⟨rfl, rfl⟩
  exact ⟨_, rfl, rfl, tup2_ok trivial trivial, Below.refl _ _⟩
set_option maxHeartbeats 1000000 in
set_option maxRecDepth 100000 in
theorem fracParseC {N : Bool} {P Q k1 : Nat} (hP : P ≤ 2 ^ k1) (hQ : Q ≤ 2 ^ k1) (hk : k1 < 1900) (hQ0 : 0 < Q) (hN : N = true → 0 < P) (hg : Nat.gcd P Q = 1) : Contract FrA Tryz.prog 11 [sB (frText N P Q)] (fun r => ∃ f, r = tupL [f, .i .i64 0] ∧ FrS f N P Q) := by
  have cp := cutPrefixC FrA (frText N P Q)
  rw [(pre_text N P Q).1, (pre_text N P Q).2] at cp
  have lP := dec_le hP hk
  have lQ := dec_le hQ hk
  have par : ∀ x, x ≤ 2 ^ k1 → Contract FrA Tryz.prog 43 [sB (Lib.decDigits x)] (natRes x) := fun x hx => by
    obtain ⟨v, dd⟩ := valD_dec x
    have h1 := dec_pos x
    have h2 := dec_le hx hk
    have := parseC (Lib.decDigits x) (fun e => by rw [e] at h1; simp at h1) dd (by
      rcases Nat.eq_zero_or_pos x with h | h
      · subst h
        left
        rw [dec_small (by decide)]
        rfl
      · exact .inr (dec_head h)) (by omega) (by rw [v]; exact lt256 hx hk)
    rwa [v] at this
  refine contract_of Tryz.func11 rfl (by kernel_rfl) ?_
  simp only [Tryz.ntmps11, argEnv]
  (repeat refine Sat.seq ?_)
  (refine Sat.region_k fun k hk => ?_; simp -implicitDefEqProofs only [evr, id, reduceCtorEq, reduceIte, Nat.reduceMul, Nat.reduceAdd, Nat.reduceLT, Nat.reduceLeDiff, Nat.reduceEqDiff, Int.reduceLT, Int.reduceBEq, Int.reduceBNe, Nat.reduceBEq, frS, evn])
  intro b2
  (refine hk _ ?_; clear hk k; try show Sat _ _ _ _ _)
  (repeat refine Sat.seq ?_)
  (refine Sat.region_k fun k hk => ?_; simp -implicitDefEqProofs only [evr, id, reduceCtorEq, reduceIte, Nat.reduceMul, Nat.reduceAdd, Nat.reduceLT, Nat.reduceLeDiff, Nat.reduceEqDiff, Int.reduceLT, Int.reduceBEq, Int.reduceBNe, Nat.reduceBEq, frS, evn])
  refine wcall_plain cp rfl (by rintro _ rfl; exact ok_tupL rfl) ?_
  rintro r rfl
  simp -implicitDefEqProofs only [evr, id, reduceCtorEq, reduceIte, Nat.reduceMul, Nat.reduceAdd, Nat.reduceLT, Nat.reduceLeDiff, Nat.reduceEqDiff, Int.reduceLT, Int.reduceBEq, Int.reduceBNe, Nat.reduceBEq, frS, evn]
  (refine hk _ ?_; clear hk k; try show Sat _ _ _ _ _)
  (repeat refine Sat.seq ?_)
  have hmore : ∃ dg more last0, frBody P Q = dg ∧ Contract FrA Tryz.prog 42 [sB dg, .v (.string ⟨#[47]⟩)] (fun r => r = tupL [sB (Lib.decDigits P), sB last0, .b more]) ∧ more = !decide (Q = 1) ∧ (Q ≠ 1 → last0 = Lib.decDigits Q) := by
    by_cases hQ1 : Q = 1
    · refine ⟨Lib.decDigits P, false, [], ?_, cutNoL FrA 47 _ (dec_ne P (by decide)), by simp [hQ1], fun h => absurd hQ1 h⟩
      unfold frBody
      rw [if_pos hQ1, List.append_nil]
    · refine ⟨Lib.decDigits P ++ 47 :: Lib.decDigits Q, true, Lib.decDigits Q, ?_, cutL FrA 47 _ _ (dec_ne P (by decide)) (by omega), by simp [hQ1], fun _ => rfl⟩
      unfold frBody
      rw [if_neg hQ1]
  obtain ⟨dg, more, last0, hdg, hcut, hmr, hla⟩ := hmore
  have hdz : (dg == [48]) = decide (P = 0 ∧ Q = 1) := by rw [← hdg]; exact body_zero
  rw [hdg]
  (refine Sat.region_k fun k hk => ?_; simp -implicitDefEqProofs only [evr, id, reduceCtorEq, reduceIte, Nat.reduceMul, Nat.reduceAdd, Nat.reduceLT, Nat.reduceLeDiff, Nat.reduceEqDiff, Int.reduceLT, Int.reduceBEq, Int.reduceBNe, Nat.reduceBEq, frS, evn])
  refine wcall_plain hcut rfl (by rintro _ rfl; exact ok_tupL rfl) ?_
  rintro r rfl
  simp -implicitDefEqProofs only [evr, id, reduceCtorEq, reduceIte, Nat.reduceMul, Nat.reduceAdd, Nat.reduceLT, Nat.reduceLeDiff, Nat.reduceEqDiff, Int.reduceLT, Int.reduceBEq, Int.reduceBNe, Nat.reduceBEq, frS, evn]
  (refine hk _ ?_; clear hk k; try show Sat _ _ _ _ _)
  (repeat refine Sat.seq ?_)
  (refine Sat.region_k fun k hk => ?_; simp -implicitDefEqProofs only [evr, id, reduceCtorEq, reduceIte, Nat.reduceMul, Nat.reduceAdd, Nat.reduceLT, Nat.reduceLeDiff, Nat.reduceEqDiff, Int.reduceLT, Int.reduceBEq, Int.reduceBNe, Nat.reduceBEq, frS, evn]; refine hk _ ?_; clear hk k; try show Sat _ _ _ _ _)
  have e1 : Lib.decDigits 1 = [49] := dec_one.2 rfl
  refine Sat.join (fun _ : Unit => ⟨85, [(8, .b more), (7, sB (Lib.decDigits Q)), (6, sB (Lib.decDigits P)), (5, .b N), (4, sB dg), (3, .i .i64 0), (2, .op 0 b2 0)], [.box b2 29 [.b false, .sl none 0 0 0 fun _ _ => .v undef, .sl none 0 0 0 fun _ _ => .v undef]]⟩) (fun _ => True) ?_ (fun _ _ => ?_)
  · refine Sat.cond_b rfl (fun h => ?_) (fun h => ?_)
    · have hQ1 : Q = 1 := by rw [hmr] at h; simpa using h
      subst hQ1
      rw [e1]
      refine Sat.region_k fun k hk => ?_
      simp -implicitDefEqProofs only [evr, id, reduceCtorEq, reduceIte, Nat.reduceMul, Nat.reduceAdd, Nat.reduceLT, Nat.reduceLeDiff, Nat.reduceEqDiff, Int.reduceLT, Int.reduceBEq, Int.reduceBNe, Nat.reduceBEq, frS, evn]
      refine hk _ ?_
      simp only [thenK]
      refine ⟨(), trivial, ?_⟩
      simp -implicitDefEqProofs only [evr, id, reduceCtorEq, reduceIte, Nat.reduceMul, Nat.reduceAdd, Nat.reduceLT, Nat.reduceLeDiff, Nat.reduceEqDiff, Int.reduceLT, Int.reduceBEq, Int.reduceBNe, Nat.reduceBEq, frS, evl, evn]
      repeat' (first | rfl | (refine And.intro ?_ ?_))
    · have hQ1 : Q ≠ 1 := by rw [hmr] at h; simpa using h
      rw [hla hQ1]
      refine Sat.skip ?_
      simp only [thenK]
      refine ⟨(), trivial, ?_⟩
      simp -implicitDefEqProofs only [evr, id, reduceCtorEq, reduceIte, Nat.reduceMul, Nat.reduceAdd, Nat.reduceLT, Nat.reduceLeDiff, Nat.reduceEqDiff, Int.reduceLT, Int.reduceBEq, Int.reduceBNe, Nat.reduceBEq, frS, evl, evn]
      repeat' (first | rfl | (refine And.intro ?_ ?_))
  (repeat refine Sat.seq ?_)
  (refine Sat.region_k fun k hk => ?_; simp -implicitDefEqProofs only [evr, id, reduceCtorEq, reduceIte, Nat.reduceMul, Nat.reduceAdd, Nat.reduceLT, Nat.reduceLeDiff, Nat.reduceEqDiff, Int.reduceLT, Int.reduceBEq, Int.reduceBNe, Nat.reduceBEq, frS, evn])
  refine wcall_slice (par P hP) rfl rfl ?_
  rintro r ⟨s3, rfl, hs3⟩
  have hp := hs3
  obtain ⟨a3, c3, z3, r3, x3, rfl, _⟩ := hs3
  simp -implicitDefEqProofs only [evr, id, reduceCtorEq, reduceIte, Nat.reduceMul, Nat.reduceAdd, Nat.reduceLT, Nat.reduceLeDiff, Nat.reduceEqDiff, Int.reduceLT, Int.reduceBEq, Int.reduceBNe, Nat.reduceBEq, frS, evn]
  (refine hk _ ?_; clear hk k; try show Sat _ _ _ _ _)
  (repeat refine Sat.seq ?_)
  (refine Sat.region_k fun k hk => ?_; simp -implicitDefEqProofs only [evr, id, reduceCtorEq, reduceIte, Nat.reduceMul, Nat.reduceAdd, Nat.reduceLT, Nat.reduceLeDiff, Nat.reduceEqDiff, Int.reduceLT, Int.reduceBEq, Int.reduceBNe, Nat.reduceBEq, frS, evn])
  refine wcall_slice (par Q hQ) rfl rfl ?_
  rintro r ⟨s4, rfl, hs4⟩
  have hq := hs4
  obtain ⟨a4, c4, z4, r4, x4, rfl, _⟩ := hs4
  simp -implicitDefEqProofs only [evr, id, reduceCtorEq, reduceIte, Nat.reduceMul, Nat.reduceAdd, Nat.reduceLT, Nat.reduceLeDiff, Nat.reduceEqDiff, Int.reduceLT, Int.reduceBEq, Int.reduceBNe, Nat.reduceBEq, frS, evn]
  (refine hk _ ?_; clear hk k; try show Sat _ _ _ _ _)
  (repeat refine Sat.seq ?_)
  have q48 : (Lib.decDigits Q == [48]) = false := by
    rw [beq_eq_false_iff_ne]
    intro e
    have : Lib.decDigits 0 = [48] := by rw [dec_small (by decide)]; rfl
    rw [← this] at e
    have := dec_inj e
    omega
  have q49 : more = true → (Lib.decDigits Q == [49]) = false := fun hm => by
    rw [beq_eq_false_iff_ne]
    intro e
    rw [hmr, dec_one.1 e] at hm
    simp at hm
  have qdz : N = true → (dg == [48]) = false := fun hn => by
    rw [hdz, decide_eq_false_iff_not]
    have := hN hn
    omega
  have emp48 : (⟨#[48]⟩ : ByteArray).toList = [48] := by rw [ByteArray.toList_eq]
  refine Sat.region_at ⟨85, [(61, .b false), (9, .sl a3 x3.length c3 z3 r3), (10, .i .i64 0), (11, .sl a4 x4.length c4 z4 r4), (12, .i .i64 0), (5, .b N), (3, .i .i64 0), (2, .op 0 b2 0)], [.box b2 29 [.b false, .sl none 0 0 0 fun _ _ => .v undef, .sl none 0 0 0 fun _ _ => .v undef]]⟩ (fun k hk => ?_) ?_
  · simp -implicitDefEqProofs only [evr, id, reduceCtorEq, reduceIte, Nat.reduceMul, Nat.reduceAdd, Nat.reduceLT, Nat.reduceLeDiff, Nat.reduceEqDiff, Int.reduceLT, Int.reduceBEq, Int.reduceBNe, Nat.reduceBEq, frS, mkB_toList, emp48, emp49, q48, evn]
    repeat' (first
      | (with_reducible refine And.intro ?_ ?_)
      | (with_reducible intro hh)
      | (exact absurd (by assumption : (Lib.decDigits Q == [49]) = true) (by rw [q49 (by assumption)]; decide))
      | (refine hk _ ?_
         first
         | (simp -implicitDefEqProofs only [evr, id, reduceCtorEq, reduceIte, Nat.reduceMul, Nat.reduceAdd, Nat.reduceLT, Nat.reduceLeDiff, Nat.reduceEqDiff, Int.reduceLT, Int.reduceBEq, Int.reduceBNe, Nat.reduceBEq, frS, evl, evn]
            repeat' (first | rfl | (refine And.intro ?_ ?_))
            done)
         | (simp only [q49 (by assumption), qdz (by assumption)]
            simp -implicitDefEqProofs only [evr, id, reduceCtorEq, reduceIte, Nat.reduceMul, Nat.reduceAdd, Nat.reduceLT, Nat.reduceLeDiff, Nat.reduceEqDiff, Int.reduceLT, Int.reduceBEq, Int.reduceBNe, Nat.reduceBEq, frS, evl, evn]
            repeat' (first | rfl | (refine And.intro ?_ ?_))
            done)
         | (simp only [qdz (by assumption)]
            simp -implicitDefEqProofs only [evr, id, reduceCtorEq, reduceIte, Nat.reduceMul, Nat.reduceAdd, Nat.reduceLT, Nat.reduceLeDiff, Nat.reduceEqDiff, Int.reduceLT, Int.reduceBEq, Int.reduceBNe, Nat.reduceBEq, frS, evl, evn]
            repeat' (first | rfl | (refine And.intro ?_ ?_))
            done)))
  refine Sat.cond_b rfl (fun h => absurd h (by decide)) (fun _ => ?_)
  refine Sat.skip ?_
  simp only [thenK]
  (repeat refine Sat.seq ?_)
  (refine Sat.region_k fun k hk => ?_; simp -implicitDefEqProofs only [evr, id, reduceCtorEq, reduceIte, Nat.reduceMul, Nat.reduceAdd, Nat.reduceLT, Nat.reduceLeDiff, Nat.reduceEqDiff, Int.reduceLT, Int.reduceBEq, Int.reduceBNe, Nat.reduceBEq, frS, evn]; refine hk _ ?_; clear hk k; try show Sat _ _ _ _ _)
  refine Sat.cond_b rfl (fun h => absurd h (by decide)) (fun _ => ?_)
  refine Sat.skip ?_
  simp only [thenK]
  (repeat refine Sat.seq ?_)
  (refine Sat.region_k fun k hk => ?_; simp -implicitDefEqProofs only [evr, id, reduceCtorEq, reduceIte, Nat.reduceMul, Nat.reduceAdd, Nat.reduceLT, Nat.reduceLeDiff, Nat.reduceEqDiff, Int.reduceLT, Int.reduceBEq, Int.reduceBNe, Nat.reduceBEq, frS, evn])
  intro b13
  (refine hk _ ?_; clear hk k; try show Sat _ _ _ _ _)
  have gC := gcdC FrA hp hq (lt256 hP hk) (lt256 hQ hk)
  rw [hg] at gC
  (repeat refine Sat.seq ?_)
  (refine Sat.region_k fun k hk => ?_; simp -implicitDefEqProofs only [evr, id, reduceCtorEq, reduceIte, Nat.reduceMul, Nat.reduceAdd, Nat.reduceLT, Nat.reduceLeDiff, Nat.reduceEqDiff, Int.reduceLT, Int.reduceBEq, Int.reduceBNe, Nat.reduceBEq, frS, evn])
  refine wcall_slice gC rfl rfl ?_
  intro s5 hs5
  have hg5 := hs5
  obtain ⟨a5, c5, z5, r5, x5, rfl, _⟩ := hs5
  simp -implicitDefEqProofs only [evr, id, reduceCtorEq, reduceIte, Nat.reduceMul, Nat.reduceAdd, Nat.reduceLT, Nat.reduceLeDiff, Nat.reduceEqDiff, Int.reduceLT, Int.reduceBEq, Int.reduceBNe, Nat.reduceBEq, frS, evn]
  (refine hk _ ?_; clear hk k; try show Sat _ _ _ _ _)
  have t1 := textC hg5 (lt7680 (k := 1) (x := 1) (by decide) (by decide)) (lt256 (k := 1) (x := 1) (by decide) (by decide))
  rw [e1] at t1
  have e49 : (([49] : List UInt8) != [49]) = false := by decide
  (repeat refine Sat.seq ?_)
  (refine Sat.region_k fun k hk => ?_; simp -implicitDefEqProofs only [evr, id, reduceCtorEq, reduceIte, Nat.reduceMul, Nat.reduceAdd, Nat.reduceLT, Nat.reduceLeDiff, Nat.reduceEqDiff, Int.reduceLT, Int.reduceBEq, Int.reduceBNe, Nat.reduceBEq, frS, evn])
  refine wcall_plain t1 rfl (by rintro _ rfl; exact ok_plain rfl) ?_
  rintro r rfl
  simp -implicitDefEqProofs only [evr, id, reduceCtorEq, reduceIte, Nat.reduceMul, Nat.reduceAdd, Nat.reduceLT, Nat.reduceLeDiff, Nat.reduceEqDiff, Int.reduceLT, Int.reduceBEq, Int.reduceBNe, Nat.reduceBEq, frS, mkB_toList, emp49, e49, evn]
  (refine hk _ ?_; clear hk k; try show Sat _ _ _ _ _)
  refine Sat.cond_b rfl (fun h => absurd h (by decide)) (fun _ => ?_)
  refine Sat.skip ?_
  simp only [thenK]
  have cC := checkedC FrA N hp hq (lt512 hP hk) (lt512 hQ hk)
  have hok := ok_of (neg := N) hP hQ hk hQ0 hN
  (repeat refine Sat.seq ?_)
  (refine Sat.region_k fun k hk => ?_; simp -implicitDefEqProofs only [evr, id, reduceCtorEq, reduceIte, Nat.reduceMul, Nat.reduceAdd, Nat.reduceLT, Nat.reduceLeDiff, Nat.reduceEqDiff, Int.reduceLT, Int.reduceBEq, Int.reduceBNe, Nat.reduceBEq, frS, evn])
  refine wcall_slice cC rfl (by simp -implicitDefEqProofs only [evr, id, reduceCtorEq, reduceIte, Nat.reduceMul, Nat.reduceAdd, Nat.reduceLT, Nat.reduceLeDiff, Nat.reduceEqDiff, Int.reduceLT, Int.reduceBEq, Int.reduceBNe, Nat.reduceBEq, frS, frS, evn]; try rfl) ?_
  rintro r (⟨_, f, rfl, hf⟩ | ⟨h9, _⟩)
  · have hf' := hf
    obtain ⟨n6, a6, l6, c6, z6, r6, a7, l7, c7, z7, r7, rfl⟩ := frS_open hf
    simp -implicitDefEqProofs only [evr, id, reduceCtorEq, reduceIte, Nat.reduceMul, Nat.reduceAdd, Nat.reduceLT, Nat.reduceLeDiff, Nat.reduceEqDiff, Int.reduceLT, Int.reduceBEq, Int.reduceBNe, Nat.reduceBEq, frS, evn]
    (refine hk _ ?_; clear hk k; try show Sat _ _ _ _ _)
    refine Sat.ret ?_
    simp only [Tryz.results11, evr, id, reduceCtorEq, reduceIte, Nat.reduceMul, Nat.reduceAdd, Nat.reduceLT, Nat.reduceLeDiff, Nat.reduceEqDiff, Int.reduceLT, Int.reduceBEq, Int.reduceBNe, Nat.reduceBEq, List.append_nil, Int.toNat_zero, Nat.sub_self, frS]
    exact ⟨_, rfl, hf'⟩
  · rw [hok] at h9
    cases h9
end Tq
end Go.Proofs.YtgdbcpljdibliaaGreatDoor

/- The reference of package natural, by the evaluator: Word. -/
set_option linter.unusedSimpArgs false
set_option linter.unusedVariables false
namespace Go.Proofs.YtgdbcpljdibliaaGreatDoor
open Eng Lmb Go.RowKit
set_option maxRecDepth 100000 in
theorem refWordC (F : Frm) (n : Nat) (hn : n < 18446744073709551616) : Contract F Tryz.prog 9 [.i .u64 n] (fun r => Nats r n) := by
  refine contract_of Tryz.func9 rfl (by kernel_rfl) ?_
  simp only [Tryz.ntmps9, argEnv]
  (repeat refine Sat.seq ?_)
  (refine Sat.region_k fun k hk => ?_; simp -implicitDefEqProofs only [evr, id, reduceCtorEq, reduceIte, Nat.reduceMul, Nat.reduceAdd, Nat.reduceLT, Nat.reduceLeDiff, Nat.reduceEqDiff, Int.reduceLT, Int.reduceBEq, Int.reduceBNe, Nat.reduceBEq, evn]; refine hk _ ?_; clear hk k; try show Sat _ _ _ _ _)
  (repeat refine Sat.seq ?_)
  (refine Sat.region_k fun k hk => ?_; simp -implicitDefEqProofs only [evr, id, reduceCtorEq, reduceIte, Nat.reduceMul, Nat.reduceAdd, Nat.reduceLT, Nat.reduceLeDiff, Nat.reduceEqDiff, Int.reduceLT, Int.reduceBEq, Int.reduceBNe, Nat.reduceBEq, evn]; refine hk _ ?_; clear hk k; try show Sat _ _ _ _ _)
  (repeat refine Sat.seq ?_)
  refine Sat.block ?_
  refine Sat.adopt 3 3 1 (fun p _ => .i .i64 (limbN n p)) rfl ?_
  refine Sat.loop (ι := Nat × Option Addr × Nat) (fun x => ⟨15, [(0, .i .u64 (n / 1073741824 ^ x.1 : Nat)), (3, .os 0 x.2.1 x.1 x.2.2)], [.row x.2.1 3 x.1 x.2.2 1 (fun p _ => .i .i64 (limbN n p))]⟩)
    (fun x => x.1 ≤ 3 ∧ (x.1 = 0 ∨ 0 < n / 1073741824 ^ (x.1 - 1))) (fun x => 3 - x.1) (0, none, 0) ⟨by omega, .inl rfl⟩ (by simp only [Nat.pow_zero, Nat.div_one]; simp -implicitDefEqProofs only [evr, id, reduceCtorEq, reduceIte, Nat.reduceMul, Nat.reduceAdd, Nat.reduceLT, Nat.reduceLeDiff, Nat.reduceEqDiff, Int.reduceLT, Int.reduceBEq, Int.reduceBNe, Nat.reduceBEq, evl, evn]) ?_
  rintro ⟨i, a, c⟩ ⟨hi, hpos⟩
  simp only at hi hpos ⊢
  (repeat refine Sat.seq ?_)
  (refine Sat.region_k fun k hk => ?_; simp -implicitDefEqProofs only [evr, id, reduceCtorEq, reduceIte, Nat.reduceMul, Nat.reduceAdd, Nat.reduceLT, Nat.reduceLeDiff, Nat.reduceEqDiff, Int.reduceLT, Int.reduceBEq, Int.reduceBNe, Nat.reduceBEq, evn]; refine hk _ ?_; clear hk k; try show Sat _ _ _ _ _)
  (repeat refine Sat.seq ?_)
  refine Sat.cond_b rfl (fun h => ?_) (fun h => ?_)
  · simp only [decide_eq_true_eq] at h
    have hi3 : i < 3 := by
      rcases (show i < 3 ∨ i = 3 by omega) with h3 | h3
      · exact h3
      · subst h3
        have : n / 1073741824 ^ 3 = 0 := Nat.div_eq_of_lt (Nat.lt_trans hn (by decide))
        omega
    have ew : (n / 1073741824 ^ i : Nat) < 18446744073709551616 := Nat.lt_of_le_of_lt (Nat.div_le_self _ _) hn
    have hp : 0 < n / 1073741824 ^ i := by generalize n / 1073741824 ^ i = q at h; omega
    have e1 : IntKind.i64.wrap (((n / 1073741824 ^ i : Nat) : Int).tmod 1073741824) = limbN n i := by
      unfold limbN
      generalize n / 1073741824 ^ i = q
      rw [Int.tmod_eq_emod_of_nonneg (by omega), w64 (by omega)]
      omega
    have e2 : IntKind.u64.wrap (((n / 1073741824 ^ i : Nat) : Int).tdiv 1073741824) = ((n / 1073741824 ^ (i + 1) : Nat) : Int) := by
      rw [Nat.pow_succ, ← Nat.div_div_eq_div_mul]
      generalize n / 1073741824 ^ i = q at *
      rw [Int.tdiv_eq_ediv_of_nonneg (by omega)]
      have hw : ∀ z : Int, IntKind.u64.wrap z = z % 18446744073709551616 := fun z => by unfold IntKind.wrap; simp [IntKind.bits, IntKind.signed]
      rw [hw]
      omega
    refine Sat.skip ?_
    simp only [thenK]
    (repeat refine Sat.seq ?_)
    refine Sat.block ?_
    (repeat refine Sat.seq ?_)
    refine Sat.region_k fun k hk => ?_
    simp -implicitDefEqProofs only [evr, id, reduceCtorEq, reduceIte, Nat.reduceMul, Nat.reduceAdd, Nat.reduceLT, Nat.reduceLeDiff, Nat.reduceEqDiff, Int.reduceLT, Int.reduceBEq, Int.reduceBNe, Nat.reduceBEq, e1, evn]
    refine ⟨by decide, fun blk => ?_⟩
    refine ⟨⟨by unfold maxLen; omega, by omega⟩, fun a2 cap2 => ?_⟩
    (refine hk _ ?_; clear hk k; try show Sat _ _ _ _ _)
    (repeat refine Sat.seq ?_)
    refine Sat.region_k fun k hk => ?_
    simp -implicitDefEqProofs only [evr, id, reduceCtorEq, reduceIte, Nat.reduceMul, Nat.reduceAdd, Nat.reduceLT, Nat.reduceLeDiff, Nat.reduceEqDiff, Int.reduceLT, Int.reduceBEq, Int.reduceBNe, Nat.reduceBEq, e2, evn]
    refine ⟨by decide, ?_⟩
    refine hk _ ?_
    simp only [thenK, blockK]
    refine ⟨(i + 1, a2, cap2), ⟨by show i + 1 ≤ 3; omega, .inr (by show 0 < n / 1073741824 ^ (i + 1 - 1); rw [Nat.add_sub_cancel]; exact hp)⟩, by show 3 - (i + 1) < 3 - i; omega, ?_⟩
    simp -implicitDefEqProofs only [evr, id, reduceCtorEq, reduceIte, Nat.reduceMul, Nat.reduceAdd, Nat.reduceLT, Nat.reduceLeDiff, Nat.reduceEqDiff, Int.reduceLT, Int.reduceBEq, Int.reduceBNe, Nat.reduceBEq, evl, evn]
    exact rdEq_one (rdEq_refl _ _ _) rfl
  · simp only [decide_eq_false_iff_not] at h
    refine Sat.exit ?_
    simp only [thenK, blockK, reduceIte]
    (repeat refine Sat.seq ?_)
    (refine Sat.region_k fun k hk => ?_; simp -implicitDefEqProofs only [evr, id, reduceCtorEq, reduceIte, Nat.reduceMul, Nat.reduceAdd, Nat.reduceLT, Nat.reduceLeDiff, Nat.reduceEqDiff, Int.reduceLT, Int.reduceBEq, Int.reduceBNe, Nat.reduceBEq, evn]; refine hk _ ?_; clear hk k; try show Sat _ _ _ _ _)
    refine Sat.ret ?_
    simp only [Tryz.results9, evr, id, reduceCtorEq, reduceIte, Nat.reduceMul, Nat.reduceAdd, Nat.reduceLT, Nat.reduceLeDiff, Nat.reduceEqDiff, Int.reduceLT, Int.reduceBEq, Int.reduceBNe, Nat.reduceBEq, List.append_nil, Int.toNat_zero, Nat.sub_self]
    exact nats_limbN (fun p _ => rfl) (by generalize n / 1073741824 ^ i = q at h; omega) hpos
end Go.Proofs.YtgdbcpljdibliaaGreatDoor
