/- Long division, limb by limb: plain laws. -/
import Derived.Test.YtagmohpafjncfaaSubMath
namespace Go.Proofs.Ytagmohpafjncfaa.Lmb
/-! ### the guess of one limb of the quotient -/
structure GuessOk (high next third lead second g : Int) : Prop where
  g0 : 0 ≤ g
  g1 : g < 1073741824
  le : g * (lead * 1073741824 + second) ≤ (high * 1073741824 + next) * 1073741824 + third
  most : ∀ t, 0 ≤ t → t < 1073741824 → t * (lead * 1073741824 + second) ≤ (high * 1073741824 + next) * 1073741824 + third → t ≤ g
structure GuessInv (high next third lead second q r : Int) : Prop where
  q0 : 0 ≤ q
  r0 : 0 ≤ r
  sum : q * lead + r = high * 1073741824 + next
  most : ∀ t, 0 ≤ t → t < 1073741824 → t * (lead * 1073741824 + second) ≤ (high * 1073741824 + next) * 1073741824 + third → t ≤ q
theorem expand (q lead second : Int) : q * (lead * 1073741824 + second) = (q * lead) * 1073741824 + q * second := by
  rw [Int.mul_add, Int.mul_assoc]
theorem GuessInv.start {high next third lead second : Int} (hh : 0 ≤ high) (hn : 0 ≤ next) (ht : third < 1073741824) (hl : 1 ≤ lead) (hs : 0 ≤ second) :
    GuessInv high next third lead second ((high * 1073741824 + next) / lead) ((high * 1073741824 + next) % lead) := by
  have hv : 0 ≤ high * 1073741824 + next := by omega
  refine ⟨Int.ediv_nonneg hv (by omega), Int.emod_nonneg _ (by omega), ?_, ?_⟩
  · rw [Int.mul_comm]; exact Int.mul_ediv_add_emod _ _
  · intro t t0 _ h
    rw [expand] at h
    have hts : 0 ≤ t * second := Int.mul_nonneg t0 hs
    generalize high * 1073741824 + next = v at *
    have h1 : t * lead ≤ v := by omega
    exact (Int.le_ediv_iff_mul_le (by omega)).2 h1
theorem GuessInv.step {high next third lead second q r : Int} (h : GuessInv high next third lead second q r) (hr : r < 1073741824) (ht : 0 ≤ third) (hc : 1073741824 ≤ q ∨ r * 1073741824 + third < q * second) (hl : 1 ≤ lead) :
    GuessInv high next third lead second (q - 1) (r + lead) := by
  have h0 := h.q0
  have h1 := h.r0
  have hsum := h.sum
  have hq : 1 ≤ q := by
    rcases hc with hc | hc
    · omega
    · rcases (show q = 0 ∨ 1 ≤ q by omega) with rfl | hq
      · rw [Int.zero_mul] at hc; omega
      · exact hq
  refine ⟨by omega, by omega, by rw [Int.sub_mul]; omega, ?_⟩
  intro t t0 t1 hle
  have hle' := h.most t t0 t1 hle
  rcases (show t = q ∨ t ≤ q - 1 by omega) with rfl | ht'
  · exfalso
    rcases hc with hc | hc
    · omega
    · rw [expand] at hle
      generalize t * second = a at *
      generalize t * lead = b at *
      omega
  · exact ht'
theorem GuessInv.done {high next third lead second q r : Int} (h : GuessInv high next third lead second q r) (hh : high ≤ lead) (hn : next < 1073741824) (ht : 0 ≤ third) (hs : 0 ≤ second) (hs1 : second < 1073741824) (hl : 1 ≤ lead)
    (hc : r < 1073741824 → q < 1073741824 ∧ q * second ≤ r * 1073741824 + third) : GuessOk high next third lead second q := by
  have h0 := h.q0
  have h1 := h.r0
  have hsum := h.sum
  have hq : q < 1073741824 := by
    rcases Int.lt_or_le r 1073741824 with hr | hr
    · exact (hc hr).1
    · rcases Int.lt_or_le q 1073741824 with hq | hq
      · exact hq
      · exfalso
        have h2 : 1073741824 * lead ≤ q * lead := Int.mul_le_mul_of_nonneg_right hq (by omega)
        omega
  refine ⟨h0, hq, ?_, h.most⟩
  rw [expand]
  have h3 : q * second ≤ r * 1073741824 + third := by
    rcases Int.lt_or_le r 1073741824 with hr | hr
    · exact (hc hr).2
    · have h4 : q * second ≤ 1073741823 * second := Int.mul_le_mul_of_nonneg_right (by omega) hs
      omega
  generalize q * second = a at *
  generalize q * lead = b at *
  omega
theorem GuessOk.true {high next third lead second g : Int} (h : GuessOk high next third lead second g) {D V d v P : Int} (hP : 0 < P)
    (hD : D = d + P * ((high * 1073741824 + next) * 1073741824 + third)) (hd0 : 0 ≤ d) (hd1 : d < P) (hV : V = v + P * (lead * 1073741824 + second)) (hv0 : 0 ≤ v) (hv1 : v < P) (hl : 1 ≤ lead) (hs : 0 ≤ second)
    (hDV : D < 1073741824 * V) (hD0 : 0 ≤ D) : D < (g + 1) * V ∧ g * V ≤ D + V := by
  have g0 := h.g0
  have g1 := h.g1
  have hle := h.le
  have hmost := h.most
  generalize (high * 1073741824 + next) * 1073741824 + third = U3 at *
  have hV2 : 1073741824 ≤ lead * 1073741824 + second := by omega
  generalize lead * 1073741824 + second = V2 at *
  have hPV : P * 1073741824 ≤ P * V2 := Int.mul_le_mul_of_nonneg_left hV2 (by omega)
  have hVpos : 0 < V := by omega
  constructor
  · -- the true quotient is at most g
    have t0 : 0 ≤ D / V := Int.ediv_nonneg hD0 (by omega)
    have t1 : D / V < 1073741824 := Int.ediv_lt_of_lt_mul hVpos hDV
    have e := Int.mul_ediv_add_emod D V
    have m1 := Int.emod_lt_of_pos D hVpos
    have m0 := Int.emod_nonneg D (show V ≠ 0 by omega)
    generalize D / V = t at *
    generalize D % V = m at *
    have htg : t ≤ g := by
      refine hmost t t0 t1 ?_
      have hv : 0 ≤ t * v := Int.mul_nonneg t0 hv0
      have e2 : V * t = t * v + P * (t * V2) := by rw [hV, Int.add_mul, Int.mul_comm v t, Int.mul_assoc, Int.mul_comm V2 t]
      have h5 : P * (t * V2) < P * (U3 + 1) := by rw [Int.mul_add]; omega
      have := Int.lt_of_mul_lt_mul_left h5 (Int.le_of_lt hP)
      omega
    have h6 : t * V ≤ g * V := Int.mul_le_mul_of_nonneg_right htg (by omega)
    rw [Int.add_mul]
    rw [Int.mul_comm V t] at e
    omega
  · have e2 : g * V = g * v + P * (g * V2) := by rw [hV, Int.mul_add, Int.mul_left_comm]
    have h5 : P * (g * V2) ≤ P * U3 := Int.mul_le_mul_of_nonneg_left hle (by omega)
    have h6 : g * v ≤ 1073741823 * v := Int.mul_le_mul_of_nonneg_right (by omega) hv0
    omega
end Go.Proofs.Ytagmohpafjncfaa.Lmb
