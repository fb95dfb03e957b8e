/- Long division: one round of the outer loop. -/
import Derived.Test.YtagmohpafjncfaaDivMath
namespace Go.Proofs.Ytagmohpafjncfaa.Lmb
structure SubMul (us u v : List Int) (g : Int) (j i : Nat) (c : Int) : Prop where
  len : us.length = u.length
  limbs : Limbs us
  c0 : -1073741824 < c
  c1 : c ≤ 0
  val : val us + pw (j + i) * c = val u - pw j * (g * val (v.take i))
  rest : ∀ t, j + i ≤ t → us.getD t 0 = u.getD t 0
theorem SubMul.start {u : List Int} (hu : Limbs u) (v : List Int) (g : Int) (j : Nat) : SubMul u u v g j 0 0 :=
  ⟨rfl, hu, by omega, by omega, by simp [val_nil], fun _ _ => rfl⟩
theorem SubMul.step {us u v : List Int} {g c : Int} {j i : Nat} (h : SubMul us u v g j i c) (hv : Limbs v) (g0 : 0 ≤ g) (g1 : g < 1073741824) (hi : i < v.length) (hj : j + i < u.length) :
    SubMul (us.set (j + i) ((us.getD (j + i) 0 - g * v.getD i 0 + c) % 1073741824)) u v g j (i + 1) ((us.getD (j + i) 0 - g * v.getD i 0 + c) / 1073741824) := by
  have bv := limbs_getD hv i
  have bo := limbs_getD h.limbs (j + i)
  have hp := limb_prod ⟨g0, g1⟩ bv
  have hl := h.len
  have h0 := h.c0
  have h1 := h.c1
  have hval := h.val
  have ht := val_take_succ v i hi
  have hs := val_set us (j + i) (by omega) ((us.getD (j + i) 0 - g * v.getD i 0 + c) % 1073741824)
  generalize hY : v.getD i 0 = y at *
  generalize hO : us.getD (j + i) 0 = o at *
  generalize hG : g * y = p at *
  refine ⟨by simpa using hl, limbs_set h.limbs _ _ (by omega), by omega, by omega, ?_, fun t hlt => ?_⟩
  · have e1 : pw (j + (i + 1)) = 1073741824 * pw (j + i) := by rw [← Nat.add_assoc, pw_succ]
    have e2 : pw j * (g * (pw i * y)) = pw (j + i) * p := by rw [pw_add, ← hG]; simp only [Int.mul_assoc, Int.mul_left_comm]
    rw [hs, ht, e1, Int.mul_add g, Int.mul_add (pw j), e2]
    have e3 : 1073741824 * ((o - p + c) / 1073741824) + (o - p + c) % 1073741824 = o - p + c := Int.mul_ediv_add_emod _ _
    have e4 : pw (j + i) * (1073741824 * ((o - p + c) / 1073741824) + (o - p + c) % 1073741824) = pw (j + i) * (o - p + c) := by rw [e3]
    rw [Int.mul_add, Int.mul_add, Int.mul_sub, Int.mul_left_comm] at e4
    rw [Int.mul_sub, Int.mul_assoc]
    omega
  · rw [getD_set _ _ _ (by omega), if_neg (by omega)]
    exact h.rest t (by omega)
structure AddBack (ws us v : List Int) (j i : Nat) (c : Int) : Prop where
  len : ws.length = us.length
  limbs : Limbs ws
  c0 : 0 ≤ c
  c1 : c ≤ 1
  val : val ws + pw (j + i) * c = val us + pw j * val (v.take i)
  rest : ∀ t, j + i ≤ t → ws.getD t 0 = us.getD t 0
theorem AddBack.start {us : List Int} (hu : Limbs us) (v : List Int) (j : Nat) : AddBack us us v j 0 0 :=
  ⟨rfl, hu, by omega, by omega, by simp [val_nil], fun _ _ => rfl⟩
theorem AddBack.step {ws us v : List Int} {c : Int} {j i : Nat} (h : AddBack ws us v j i c) (hv : Limbs v) (hi : i < v.length) (hj : j + i < us.length) :
    AddBack (ws.set (j + i) ((ws.getD (j + i) 0 + v.getD i 0 + c) % 1073741824)) us v j (i + 1) ((ws.getD (j + i) 0 + v.getD i 0 + c) / 1073741824) := by
  have bv := limbs_getD hv i
  have bo := limbs_getD h.limbs (j + i)
  have hl := h.len
  have h0 := h.c0
  have h1 := h.c1
  have hval := h.val
  have ht := val_take_succ v i hi
  have hs := val_set ws (j + i) (by omega) ((ws.getD (j + i) 0 + v.getD i 0 + c) % 1073741824)
  generalize hY : v.getD i 0 = y at *
  generalize hO : ws.getD (j + i) 0 = o at *
  refine ⟨by simpa using hl, limbs_set h.limbs _ _ (by omega), by omega, by omega, ?_, fun t hlt => ?_⟩
  · have e1 : pw (j + (i + 1)) = 1073741824 * pw (j + i) := by rw [← Nat.add_assoc, pw_succ]
    have e2 : pw j * (pw i * y) = pw (j + i) * y := by rw [pw_add, Int.mul_assoc]
    rw [hs, ht, e1, Int.mul_add (pw j), e2]
    have e3 : 1073741824 * ((o + y + c) / 1073741824) + (o + y + c) % 1073741824 = o + y + c := Int.mul_ediv_add_emod _ _
    have e4 : pw (j + i) * (1073741824 * ((o + y + c) / 1073741824) + (o + y + c) % 1073741824) = pw (j + i) * (o + y + c) := by rw [e3]
    rw [Int.mul_add, Int.mul_add, Int.mul_add, Int.mul_left_comm] at e4
    rw [Int.mul_sub, Int.mul_assoc]
    omega
  · rw [getD_set _ _ _ (by omega), if_neg (by omega)]
    exact h.rest t (by omega)
theorem val_zero_of {xs : List Int} (h : ∀ t, xs.getD t 0 = 0) : val xs = 0 := by
  induction xs with
  | nil => rfl
  | cons x r ih =>
    have h0 := h 0
    rw [List.getD_cons_zero] at h0
    rw [val_cons, h0, ih (fun t => by have := h (t + 1); rwa [List.getD_cons_succ] at this)]
    rfl
theorem getD_drop (xs : List Int) (j t : Nat) : (xs.drop j).getD t 0 = xs.getD (j + t) 0 := by
  simp [List.getD]
theorem zero_of_val {xs : List Int} (hl : Limbs xs) (h : val xs = 0) : ∀ t, xs.getD t 0 = 0 := by
  induction xs with
  | nil => intro t; simp [List.getD]
  | cons x r ih =>
    rw [limbs_cons] at hl
    have hn := val_nonneg hl.2
    rw [val_cons] at h
    have hx : x = 0 := by omega
    have hr : Lmb.val r = 0 := by omega
    intro t
    cases t with
    | zero => rw [List.getD_cons_zero]; exact hx
    | succ t => rw [List.getD_cons_succ]; exact ih hl.2 hr t
theorem val_drop_congr {xs ys : List Int} {k : Nat} (hl : xs.length = ys.length) (h : ∀ t, k ≤ t → xs.getD t 0 = ys.getD t 0) : val (xs.drop k) = val (ys.drop k) := by
  have e : xs.drop k = ys.drop k := by
    apply List.ext_getElem
    · simp [hl]
    · intro i h1 h2
      have := h (k + i) (by omega)
      simp only [List.length_drop] at h1 h2
      rw [List.getElem_drop, List.getElem_drop]
      simpa [List.getD, show k + i < xs.length by omega, show k + i < ys.length by omega] using this
  rw [e]
structure DivInv (A V : Int) (u q : List Int) (lu lq j : Nat) : Prop where
  ulen : u.length = lu
  qlen : q.length = lq
  ulimbs : Limbs u
  qlimbs : Limbs q
  eq : A = val (q.drop j) * (pw j * V) + val u
  lt : val u < pw j * V
structure Divisor (v : List Int) (V : Int) (n : Nat) : Prop where
  len : v.length = n + 1
  limbs : Limbs v
  val : val v = V
  lt : V < pw n
  two : 2 ≤ n
  lead : 1 ≤ v.getD (n - 1) 0
theorem Divisor.split {v : List Int} {V : Int} {n : Nat} (h : Divisor v V n) : V = Lmb.val (v.take (n - 2)) + pw (n - 2) * (v.getD (n - 1) 0 * 1073741824 + v.getD (n - 2) 0) := by
  have hl := h.len
  have h2 := h.two
  have hn0 := val_nonneg (limbs_drop h.limbs n)
  have ht0 := val_nonneg (limbs_take h.limbs n)
  have htop : Lmb.val (v.drop n) = 0 := by
    have e := val_split v n (by omega)
    rw [h.val] at e
    have hlt := h.lt
    have hp := pw_pos n
    rcases (show Lmb.val (v.drop n) = 0 ∨ 1 ≤ Lmb.val (v.drop n) by omega) with h | h
    · exact h
    · have : pw n * 1 ≤ pw n * Lmb.val (v.drop n) := Int.mul_le_mul_of_nonneg_left h (by omega)
      omega
  have e := val_split v (n - 2) (by omega)
  have e1 := val_drop v (n - 2) (by omega)
  have e2 := val_drop v (n - 1) (by omega)
  have i1 : n - 2 + 1 = n - 1 := by omega
  have i2 : n - 1 + 1 = n := by omega
  rw [i1] at e1
  rw [i2, htop] at e2
  rw [← h.val, e, e1, e2]
  have : v.getD (n - 2) 0 + 1073741824 * (v.getD (n - 1) 0 + 1073741824 * 0) = v.getD (n - 1) 0 * 1073741824 + v.getD (n - 2) 0 := by omega
  rw [this]
structure Window (u : List Int) (V : Int) (n j : Nat) (D d U3 : Int) : Prop where
  isD : D = val (u.drop j)
  lt : D < 1073741824 * V
  nonneg : 0 ≤ D
  eq : D = d + pw (n - 2) * U3
  d0 : 0 ≤ d
  d1 : d < pw (n - 2)
  above : val (u.drop (j + n + 1)) = 0
theorem window {A V : Int} {u q v : List Int} {lu lq j n : Nat} (h : DivInv A V u q lu lq (j + 1)) (hv : Divisor v V n) (hj : j + n < lu) :
    ∃ D d, Window u V n j D d ((u.getD (j + n) 0 * 1073741824 + u.getD (j + n - 1) 0) * 1073741824 + u.getD (j + n - 2) 0) := by
  have hl := h.ulen
  have h2 := hv.two
  have hlt := h.lt
  have e0 := val_split u j (by omega)
  have t0 := val_nonneg (limbs_take h.ulimbs j)
  have D0 := val_nonneg (limbs_drop h.ulimbs j)
  have hpj := pw_pos j
  have hD : Lmb.val (u.drop j) < 1073741824 * V := by
    have hp : pw (j + 1) * V = pw j * (1073741824 * V) := by
      rw [pw_succ]; simp only [Int.mul_assoc, Int.mul_left_comm]
    have : pw j * Lmb.val (u.drop j) < pw j * (1073741824 * V) := by
      rw [hp] at hlt
      generalize pw j * (1073741824 * V) = a at *
      omega
    exact Int.lt_of_mul_lt_mul_left this (Int.le_of_lt hpj)
  have d0 := val_nonneg (limbs_take (limbs_drop h.ulimbs j) (n - 2))
  have d1 := val_lt (limbs_take (limbs_drop h.ulimbs j) (n - 2))
  rw [List.length_take, List.length_drop, Nat.min_eq_left (by omega)] at d1
  have e1 := val_split (u.drop j) (n - 2) (by simp; omega)
  rw [List.drop_drop] at e1
  have f1 := val_drop u (j + (n - 2)) (by omega)
  have f2 := val_drop u (j + n - 1) (by omega)
  have f3 := val_drop u (j + n) (by omega)
  have i0 : j + (n - 2) = j + n - 2 := by omega
  have i1 : j + n - 2 + 1 = j + n - 1 := by omega
  have i2 : j + n - 1 + 1 = j + n := by omega
  rw [i0] at e1 f1
  rw [i1] at f1
  rw [i2] at f2
  have z0 := val_nonneg (limbs_drop h.ulimbs (j + n + 1))
  have b1 := limbs_getD h.ulimbs (j + n)
  have b2 := limbs_getD h.ulimbs (j + n - 1)
  have b3 := limbs_getD h.ulimbs (j + n - 2)
  have hz : Lmb.val (u.drop (j + n + 1)) = 0 := by
    rcases (show Lmb.val (u.drop (j + n + 1)) = 0 ∨ 1 ≤ Lmb.val (u.drop (j + n + 1)) by omega) with h | h
    · exact h
    · exfalso
      have hvl := hv.lt
      have hp : pw n = 1073741824 * (1073741824 * pw (n - 2)) := by rw [← pw_succ, ← pw_succ]; congr 1; omega
      have hpp := pw_pos (n - 2)
      have g1 : 1073741824 * 1073741824 * 1073741824 ≤ Lmb.val (u.drop (j + n - 2)) := by omega
      have g2 : pw (n - 2) * (1073741824 * 1073741824 * 1073741824) ≤ pw (n - 2) * Lmb.val (u.drop (j + n - 2)) := Int.mul_le_mul_of_nonneg_left g1 (by omega)
      omega
  refine ⟨Lmb.val (u.drop j), Lmb.val ((u.drop j).take (n - 2)), rfl, hD, D0, ?_, d0, d1, hz⟩
  rw [e1, f1, f2, f3, hz]
  congr 2
  omega
theorem Window.high {u v : List Int} {V D d next third high : Int} {n j : Nat} (h : Window u V n j D d ((high * 1073741824 + next) * 1073741824 + third)) (hv : Divisor v V n) (n0 : 0 ≤ next) (t0 : 0 ≤ third) : high ≤ v.getD (n - 1) 0 := by
  have hs := hv.split
  have d0 := h.d0
  have hlt := h.lt
  have he := h.eq
  have v0 := val_nonneg (limbs_take hv.limbs (n - 2))
  have v1 := val_lt (limbs_take hv.limbs (n - 2))
  rw [List.length_take, Nat.min_eq_left (by have := hv.len; omega)] at v1
  have bs := limbs_getD hv.limbs (n - 2)
  have hp := pw_pos (n - 2)
  generalize v.getD (n - 1) 0 = lead at *
  generalize v.getD (n - 2) 0 = second at *
  generalize Lmb.val (v.take (n - 2)) = vl at *
  generalize pw (n - 2) = P at *
  rcases Int.lt_or_le lead high with hc | hc
  · exfalso
    have g1 : lead * 1073741824 + second + 1 ≤ high * 1073741824 := by omega
    have g2 : P * (lead * 1073741824 + second + 1) ≤ P * (high * 1073741824) := Int.mul_le_mul_of_nonneg_left g1 (by omega)
    have g3 : P * ((high * 1073741824) * 1073741824) ≤ P * ((high * 1073741824 + next) * 1073741824 + third) := Int.mul_le_mul_of_nonneg_left (by omega) (by omega)
    rw [Int.mul_add P, Int.mul_one] at g2
    rw [← Int.mul_assoc] at g3
    omega
  · exact hc
theorem sub_end {A V : Int} {u q v us : List Int} {lu lq j n : Nat} {D d U3 g c : Int} (h : DivInv A V u q lu lq (j + 1)) (hv : Divisor v V n) (hj : j + n < lu) (hq : j < lq) (hw : Window u V n j D d U3)
    (hg0 : 0 ≤ g) (hg1 : g < 1073741824) (hlo : D < (g + 1) * V) (hs : SubMul us u v g j (n + 1) c) (hc : ¬ c < 0) : DivInv A V us (q.set j g) lu lq j := by
  have hcz : c = 0 := by have := hs.c1; omega
  have hval := hs.val
  rw [hcz, List.take_of_length_le (by have := hv.len; omega), hv.val] at hval
  have hul := h.ulen
  have hql := h.qlen
  have e0 := val_split u j (by omega)
  have t1 := val_lt (limbs_take h.ulimbs j)
  rw [List.length_take, Nat.min_eq_left (by omega)] at t1
  have eD := hw.isD
  rw [← eD] at e0
  have hpj := pw_pos j
  have hA := h.eq
  have e2 := val_drop (q.set j g) j (by simp; omega)
  have e3 : (q.set j g).drop (j + 1) = q.drop (j + 1) := by rw [List.drop_set_of_lt (by omega)]
  rw [getD_set _ _ _ (by omega), if_pos rfl, e3] at e2
  refine ⟨by rw [hs.len]; exact hul, by simpa using hql, hs.limbs, limbs_set h.qlimbs _ _ ⟨hg0, hg1⟩, ?_, ?_⟩
  · rw [e2, hA, pw_succ]
    generalize Lmb.val (q.drop (j + 1)) = Q at *
    have x1 : (g + 1073741824 * Q) * (pw j * V) = pw j * (g * V) + Q * (1073741824 * pw j * V) := by
      rw [Int.add_mul]
      simp only [Int.mul_assoc, Int.mul_left_comm, Int.mul_comm]
    rw [x1]; omega
  · have g1 : pw j * (D + 1) ≤ pw j * ((g + 1) * V) := Int.mul_le_mul_of_nonneg_left (by omega) (by omega)
    rw [Int.add_mul, Int.mul_add, Int.mul_add, Int.one_mul, Int.mul_one] at g1
    omega
theorem back_end {A V : Int} {u q v us ws : List Int} {lu lq j n : Nat} {D d U3 g c c2 : Int} (h : DivInv A V u q lu lq (j + 1)) (hv : Divisor v V n) (hj : j + n < lu) (hq : j < lq) (hw : Window u V n j D d U3)
    (hg1 : g < 1073741824) (hhi : g * V ≤ D + V) (hs : SubMul us u v g j (n + 1) c) (hc : c < 0) (hb : AddBack ws us v j (n + 1) c2) (g0 : 0 ≤ g) : 1 ≤ g ∧ DivInv A V ws (q.set j (g - 1)) lu lq j := by
  have hval := hs.val
  have hbv := hb.val
  rw [List.take_of_length_le (by have := hv.len; omega), hv.val] at hval hbv
  have hul := h.ulen
  have hql := h.qlen
  have e0 := val_split u j (by omega)
  have t0 := val_nonneg (limbs_take h.ulimbs j)
  have t1 := val_lt (limbs_take h.ulimbs j)
  rw [List.length_take, Nat.min_eq_left (by omega)] at t1
  have eD := hw.isD
  rw [← eD] at e0
  have hpj := pw_pos j
  have hA := h.eq
  have hD0 := hw.nonneg
  have za := zero_of_val (limbs_drop h.ulimbs _) hw.above
  have hsl := hs.len
  have hbl := hb.len
  have zs : Lmb.val (us.drop (j + n + 1)) = 0 := by
    rw [val_drop_congr hsl (fun t ht => hs.rest t (by omega))]; exact hw.above
  have zw : Lmb.val (ws.drop (j + n + 1)) = 0 := by
    rw [val_drop_congr hbl (fun t ht => hb.rest t (by omega))]; exact zs
  have es := val_split us (j + n + 1) (by omega)
  have ew := val_split ws (j + n + 1) (by omega)
  rw [zs] at es
  rw [zw] at ew
  have s0 := val_nonneg (limbs_take hs.limbs (j + n + 1))
  have s1 := val_lt (limbs_take hs.limbs (j + n + 1))
  have w0 := val_nonneg (limbs_take hb.limbs (j + n + 1))
  have w1 := val_lt (limbs_take hb.limbs (j + n + 1))
  rw [List.length_take, Nat.min_eq_left (by omega)] at s1 w1
  rw [Int.mul_zero, Int.add_zero] at es ew
  rw [← es] at s0 s1
  rw [← ew] at w0 w1
  have hpn : pw (j + n + 1) = 1073741824 * (pw j * pw n) := by rw [pw_succ, pw_add]
  have i1 : j + (n + 1) = j + n + 1 := by omega
  rw [i1] at hval hbv
  have hpp := pw_pos (j + n + 1)
  have hneg : D < g * V := by
    rcases Int.lt_or_le D (g * V) with hx | hx
    · exact hx
    · exfalso
      have : pw j * (g * V) ≤ pw j * D := Int.mul_le_mul_of_nonneg_left hx (by omega)
      have x2 : pw (j + n + 1) * c ≤ pw (j + n + 1) * (-1) := Int.mul_le_mul_of_nonneg_left (by omega) (by omega)
      omega
  have hg : 1 ≤ g := by
    rcases (show g = 0 ∨ 1 ≤ g by omega) with hx | hx
    · rw [hx, Int.zero_mul] at hneg; omega
    · exact hx
  have hVn := hv.lt
  have y1 : pw j * (g * V) ≤ pw j * (D + V) := Int.mul_le_mul_of_nonneg_left hhi (by omega)
  have y2 : pw j * (D + 1) ≤ pw j * (g * V) := Int.mul_le_mul_of_nonneg_left (by omega) (by omega)
  have y3 : pw j * V ≤ pw j * pw n := Int.mul_le_mul_of_nonneg_left (by omega) (by omega)
  have y4 : 0 < pw j * pw n := Int.mul_pos hpj (pw_pos n)
  rw [Int.mul_add, Int.mul_one] at y2
  rw [Int.mul_add] at y1
  have hcm : c = -1 := by
    rcases (show c = -1 ∨ c ≤ -2 by omega) with hx | hx
    · exact hx
    · exfalso
      have x2 : pw (j + n + 1) * c ≤ pw (j + n + 1) * (-2) := Int.mul_le_mul_of_nonneg_left hx (by omega)
      omega
  rw [hcm] at hval
  have hc2 : c2 = 1 := by
    have := hb.c0
    have := hb.c1
    rcases (show c2 = 0 ∨ c2 = 1 by omega) with hx | hx
    · exfalso; rw [hx] at hbv; omega
    · exact hx
  rw [hc2] at hbv
  have hfin : Lmb.val ws = Lmb.val u - pw j * (g * V) + pw j * V := by omega
  have e2 := val_drop (q.set j (g - 1)) j (by simp; omega)
  have e3 : (q.set j (g - 1)).drop (j + 1) = q.drop (j + 1) := by rw [List.drop_set_of_lt (by omega)]
  rw [getD_set _ _ _ (by omega), if_pos rfl, e3] at e2
  refine ⟨hg, by rw [hbl, hsl]; exact hul, by simpa using hql, hb.limbs, limbs_set h.qlimbs _ _ ⟨by omega, by omega⟩, ?_, ?_⟩
  · rw [e2, hA, pw_succ]
    generalize Lmb.val (q.drop (j + 1)) = Q at *
    have x1 : (g - 1 + 1073741824 * Q) * (pw j * V) = pw j * (g * V) - pw j * V + Q * (1073741824 * pw j * V) := by
      have y1 : g * (pw j * V) = pw j * (g * V) := Int.mul_left_comm _ _ _
      have y2 : 1073741824 * Q * (pw j * V) = Q * (1073741824 * pw j * V) := by simp only [Int.mul_assoc, Int.mul_left_comm]
      rw [Int.add_mul, Int.sub_mul, Int.one_mul, y1, y2]
    rw [x1]; omega
  · omega
end Go.Proofs.Ytagmohpafjncfaa.Lmb
