/- Samples: plain laws on gaps, needs, earliest times and refutations (no program in sight). -/
import Derived.Lib.Hide
namespace Go.Proofs.Ytchpegjadoodnaa

/-- a sample -/
structure Smp where
  at_ : Int
  back : Int
  id : Int
  addr : Int
instance : Inhabited Smp := ⟨⟨0, 0, 0, 0⟩⟩

/-- a sample is in its own bounds -/
def Smp.Ok (s : Smp) : Prop := 0 ≤ s.at_ ∧ s.at_ ≤ s.back ∧ s.back ≤ 2251799813685248 ∧ 0 ≤ s.id ∧ s.id ≤ 65535
instance (s : Smp) : Decidable s.Ok := by unfold Smp.Ok; infer_instance
/-- the sample at i is in order -/
def okAt (l : List Smp) (i : Nat) : Prop := (l.getD i default).Ok ∧ (0 < i → (l.getD (i - 1) default).back < (l.getD i default).at_)
instance (l : List Smp) (i : Nat) : Decidable (okAt l i) := by unfold okAt; infer_instance
/-- a list of samples is valid -/
def validL (l : List Smp) : Bool := decide (∀ i, i < l.length → okAt l i)
theorem validL_iff {l : List Smp} : validL l = true ↔ ∀ i, i < l.length → okAt l i := by unfold validL; exact decide_eq_true_iff

/-- by how much a counter has advanced at least -/
def gapI (a b : Int) : Int := if (b - a) % 65536 = 0 then 65536 else (b - a) % 65536
theorem gapI_bounds (a b : Int) : 1 ≤ gapI a b ∧ gapI a b ≤ 65536 := by unfold gapI; split <;> omega

/-- the least time between two readings at a speed -/
def needI (a b s : Int) : Int := (gapI a b * 1000000 + s - 1) / s
/-- a speed is within its bounds -/
def spOk (s : Int) : Bool := decide (1 ≤ s) && decide (s ≤ 1073741824)
theorem spOk_iff {s : Int} : spOk s = true ↔ 1 ≤ s ∧ s ≤ 1073741824 := by unfold spOk; simp

theorem ceil_le {x s n : Int} (hs : 1 ≤ s) (h : x ≤ n * s) : (x + s - 1) / s ≤ n := by
  have h1 : (x + s - 1) / s < n + 1 := by
    refine Int.ediv_lt_of_lt_mul (by omega) ?_
    rw [Int.add_mul]; omega
  omega
theorem le_ceil (x : Int) {s : Int} (hs : 1 ≤ s) : x ≤ (x + s - 1) / s * s := by
  have h1 := Int.mul_ediv_add_emod (x + s - 1) s
  have h2 := Int.emod_lt_of_pos (x + s - 1) (show 0 < s by omega)
  rw [Int.mul_comm] at h1
  omega
theorem needI_bounds (a b : Int) {s : Int} (hs : 1 ≤ s) : 0 ≤ needI a b s ∧ needI a b s ≤ 65536000000 := by
  obtain ⟨h1, h2⟩ := gapI_bounds a b
  unfold needI
  refine ⟨Int.ediv_nonneg (by omega) (by omega), ceil_le hs ?_⟩
  have : (65536000000 : Int) * 1 ≤ 65536000000 * s := Int.mul_le_mul_of_nonneg_left hs (by omega)
  omega
theorem needI_mono (a b : Int) {s t : Int} (hs : 1 ≤ s) (h : s ≤ t) : needI a b t ≤ needI a b s := by
  unfold needI
  have h0 := (needI_bounds a b hs).1
  unfold needI at h0
  refine ceil_le (by omega) (Int.le_trans (le_ceil _ hs) (Int.mul_le_mul_of_nonneg_left h h0))

/-- what a counter needs from sample k to the next one -/
def need (l : List Smp) (s : Int) (k : Nat) : Int := needI (l.getD k default).id (l.getD (k + 1) default).id s
/-- the earliest time of a sample -/
def tAt (l : List Smp) (s : Int) : Nat → Int
  | 0 => (l.getD 0 default).at_
  | k + 1 => max (l.getD (k + 1) default).at_ (tAt l s k + need l s k)
/-- the needs of m steps from sample i on -/
def sumN (l : List Smp) (s : Int) (i : Nat) : Nat → Int
  | 0 => 0
  | m + 1 => sumN l s i m + need l s (i + m)
theorem sumN_front (l : List Smp) (s : Int) (i m : Nat) : sumN l s i (m + 1) = need l s i + sumN l s (i + 1) m := by
  induction m with
  | zero => simp [sumN]
  | succ m ih =>
    have e : sumN l s i (m + 2) = sumN l s i (m + 1) + need l s (i + (m + 1)) := rfl
    have e2 : sumN l s (i + 1) (m + 1) = sumN l s (i + 1) m + need l s (i + 1 + m) := rfl
    rw [e, ih, e2, show i + (m + 1) = i + 1 + m by omega]; omega
theorem need_bounds (l : List Smp) {s : Int} (hs : 1 ≤ s) (k : Nat) : 0 ≤ need l s k ∧ need l s k ≤ 65536000000 := needI_bounds _ _ hs
theorem sumN_bounds (l : List Smp) {s : Int} (hs : 1 ≤ s) (i m : Nat) : 0 ≤ sumN l s i m ∧ sumN l s i m ≤ 65536000000 * m := by
  induction m with
  | zero => simp [sumN]
  | succ m ih => have := need_bounds l hs (i + m); simp only [sumN]; omega

/-- samples i and j refute a counter -/
def refutes (l : List Smp) (s : Int) (i j : Nat) : Prop := (l.getD j default).back - (l.getD i default).at_ < sumN l s i (j - i)
instance (l : List Smp) (s : Int) (i j : Nat) : Decidable (refutes l s i j) := by unfold refutes; infer_instance

theorem tAt_le (l : List Smp) (s : Int) (i m : Nat) : (l.getD i default).at_ + sumN l s i m ≤ tAt l s (i + m) := by
  induction m with
  | zero => cases i with
    | zero => simp [sumN, tAt]
    | succ i => simp only [sumN, tAt]; omega
  | succ m ih =>
    have e : tAt l s (i + (m + 1)) = max (l.getD (i + m + 1) default).at_ (tAt l s (i + m) + need l s (i + m)) := rfl
    have e2 : sumN l s i (m + 1) = sumN l s i m + need l s (i + m) := rfl
    omega
theorem tAt_eq (l : List Smp) (s : Int) (j : Nat) : ∃ i, i ≤ j ∧ tAt l s j = (l.getD i default).at_ + sumN l s i (j - i) := by
  induction j with
  | zero => exact ⟨0, by omega, by simp [tAt, sumN]⟩
  | succ j ih =>
    obtain ⟨i, hi, e⟩ := ih
    by_cases h : tAt l s j + need l s j ≤ (l.getD (j + 1) default).at_
    · refine ⟨j + 1, by omega, ?_⟩
      simp only [tAt, Nat.sub_self, sumN]; omega
    · refine ⟨i, by omega, ?_⟩
      rw [show j + 1 - i = (j - i) + 1 by omega]
      simp only [tAt, sumN]
      rw [show i + (j - i) = j by omega, e]
      rw [e] at h
      omega

/-- all earliest times lie within the samples -/
def fitsB (l : List Smp) (s : Int) : Bool := decide (∀ j, j < l.length → tAt l s j ≤ (l.getD j default).back)
theorem fitsB_iff {l : List Smp} {s : Int} : fitsB l s = true ↔ ∀ j, j < l.length → tAt l s j ≤ (l.getD j default).back := by unfold fitsB; exact decide_eq_true_iff

/-- samples fit exactly if there is no refutation -/
theorem fits_refutes {l : List Smp} {s : Int} (hv : validL l = true) : fitsB l s = true ↔ ∀ j, j < l.length → ∀ i, i < j → ¬ refutes l s i j := by
  rw [fitsB_iff]
  rw [validL_iff] at hv
  constructor
  · intro h j hj i hij hr
    have h1 := h j hj
    have h2 := tAt_le l s i (j - i)
    rw [show i + (j - i) = j by omega] at h2
    unfold refutes at hr
    omega
  · intro h j hj
    obtain ⟨i, hi, e⟩ := tAt_eq l s j
    by_cases hij : i = j
    · subst hij
      have := (hv i hj).1.2.1
      rw [e, Nat.sub_self]; simp only [sumN]; omega
    · have := h j hj i (by omega)
      unfold refutes at this
      rw [e]; omega

theorem need_mono (l : List Smp) {s t : Int} (hs : 1 ≤ s) (h : s ≤ t) (k : Nat) : need l t k ≤ need l s k := needI_mono _ _ hs h
theorem tAt_mono (l : List Smp) {s t : Int} (hs : 1 ≤ s) (h : s ≤ t) (j : Nat) : tAt l t j ≤ tAt l s j := by
  induction j with
  | zero => simp [tAt]
  | succ j ih => have := need_mono l hs h j; simp only [tAt]; omega
theorem fits_mono {l : List Smp} {s t : Int} (hs : 1 ≤ s) (h : s ≤ t) (hf : fitsB l s = true) : fitsB l t = true := by
  rw [fitsB_iff] at *
  exact fun j hj => Int.le_trans (tAt_mono l hs h j) (hf j hj)

/-! a part of a list -/
theorem getD_take {α : Type} [Inhabited α] (l : List α) (n i : Nat) (h : i < n) : (l.take n).getD i default = l.getD i default := by simp [List.getD, h]
theorem getD_drop {α : Type} [Inhabited α] (l : List α) (n i : Nat) : (l.drop n).getD i default = l.getD (n + i) default := by simp [List.getD]
theorem tAt_take (l : List Smp) (s : Int) (n j : Nat) (h : j < n) : tAt (l.take n) s j = tAt l s j := by
  induction j with
  | zero => simp only [tAt, getD_take l n 0 h]
  | succ j ih => simp only [tAt, need, getD_take l n _ h, getD_take l n j (by omega), ih (by omega)]
theorem fits_take {l : List Smp} {s : Int} (n : Nat) (hf : fitsB l s = true) : fitsB (l.take n) s = true := by
  rw [fitsB_iff] at *
  intro j hj
  simp at hj
  rw [tAt_take l s n j (by omega), getD_take l n j (by omega)]
  exact hf j (by omega)
theorem tAt_drop (l : List Smp) (s : Int) (n j : Nat) : tAt (l.drop n) s j ≤ tAt l s (n + j) := by
  induction j with
  | zero =>
    simp only [tAt, getD_drop]
    have := tAt_le l s n 0
    simp only [sumN] at this
    simpa using this
  | succ j ih =>
    have e : tAt l s (n + (j + 1)) = max (l.getD (n + j + 1) default).at_ (tAt l s (n + j) + need l s (n + j)) := rfl
    have e2 : tAt (l.drop n) s (j + 1) = max ((l.drop n).getD (j + 1) default).at_ (tAt (l.drop n) s j + need (l.drop n) s j) := rfl
    have e3 : need (l.drop n) s j = need l s (n + j) := by unfold need; rw [getD_drop, getD_drop]; rfl
    rw [getD_drop] at e2
    have e4 : n + (j + 1) = n + j + 1 := by omega
    rw [e4] at e2
    omega
theorem fits_drop {l : List Smp} {s : Int} (n : Nat) (hf : fitsB l s = true) : fitsB (l.drop n) s = true := by
  rw [fitsB_iff] at *
  intro j hj
  simp at hj
  rw [getD_drop]
  exact Int.le_trans (tAt_drop l s n j) (hf _ (by omega))
theorem valid_take {l : List Smp} (n : Nat) (h : validL l = true) : validL (l.take n) = true := by
  rw [validL_iff] at *
  intro i hi
  simp at hi
  have := h i (by omega)
  unfold okAt at *
  rwa [getD_take l n i (by omega), getD_take l n (i - 1) (by omega)]
theorem valid_drop {l : List Smp} (n : Nat) (h : validL l = true) : validL (l.drop n) = true := by
  rw [validL_iff] at *
  intro i hi
  simp at hi
  have := h (n + i) (by omega)
  unfold okAt at *
  rw [getD_drop, getD_drop]
  refine ⟨this.1, fun h0 => ?_⟩
  have h2 := this.2 (by omega)
  rwa [show n + i - 1 = n + (i - 1) by omega] at h2

/-- samples at whose times a counter can have been read fit -/
theorem fits_of_times {l : List Smp} {s : Int} (t : Nat → Int) (h0 : ∀ j, j < l.length → (l.getD j default).at_ ≤ t j ∧ t j ≤ (l.getD j default).back) (h1 : ∀ j, j + 1 < l.length → t j + need l s j ≤ t (j + 1)) : fitsB l s = true := by
  rw [fitsB_iff]
  have key : ∀ j, j < l.length → tAt l s j ≤ t j := by
    intro j
    induction j with
    | zero => intro hj; exact (h0 0 hj).1
    | succ j ih =>
      intro hj
      have a := (h0 (j + 1) hj).1
      have b := h1 j hj
      have c := ih (by omega)
      simp only [tAt]; omega
  exact fun j hj => Int.le_trans (key j hj) (h0 j hj).2
end Go.Proofs.Ytchpegjadoodnaa
