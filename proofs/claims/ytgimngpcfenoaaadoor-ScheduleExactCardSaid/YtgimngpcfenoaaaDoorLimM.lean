/- In a window at most as many are sent as the bucket allows: the plain law of ScheduleLimits. -/
import Derived.Test.YtgimngpcfenoaaaDoorPrtM
set_option linter.unusedSimpArgs false
set_option linter.unusedVariables false
namespace Go.Proofs.YtgimngpcfenoaaaDoor
open Go.Sort Eng
def after (s : Int) (xs : List Due) : Prop := ∀ d ∈ xs, s ≤ d.at_
theorem takeF_cases {b e : Int} {t : Tok} {x : Int} (he : 1 ≤ e) (hx : t.since ≤ x) : (takeF b e t x).1.since = x ∧
    ((takeF b e t x).2 = true ∧ e ≤ (takeF b e t x).1.credit + e ∧ (takeF b e t x).1.credit + e ≤ t.credit + (x - t.since) ∧ (takeF b e t x).1.credit + e ≤ b * e ∧ 0 ≤ (takeF b e t x).1.credit ∨
     (takeF b e t x).2 = false ∧ (takeF b e t x).1.credit ≤ t.credit + (x - t.since) ∧ (takeF b e t x).1.credit ≤ b * e) := by
  have hm : max x t.since = x := by omega
  unfold takeF
  rw [hm, if_neg (by simp; omega)]
  split
  · refine ⟨rfl, .inr ⟨rfl, ?_, ?_⟩⟩ <;> dsimp only <;> omega
  · refine ⟨rfl, .inl ⟨rfl, ?_, ?_, ?_, ?_⟩⟩ <;> dsimp only <;> omega
theorem sent_first {b e : Int} (he : 1 ≤ e) : ∀ {t : Tok} {xs : List Due}, ByAt xs → after t.since xs → ∀ (k : Nat) (y : Due), (sentG b e t xs)[k]? = some y → ((k : Int) + 1) * e ≤ t.credit + (y.at_ - t.since)
  | t, [], _, _, k, y, h => by simp [sentG] at h
  | t, x :: xs, hs, ha, k, y, h => by
    obtain ⟨h1, h2⟩ := List.pairwise_cons.1 hs
    have hx := ha x (by simp)
    obtain ⟨g1, g2⟩ := takeF_cases (b := b) he hx
    have ih := sent_first (b := b) he (t := (takeF b e t x.at_).1) h2 (fun d hd => by rw [g1]; exact h1 d hd)
    simp only [sentG] at h
    rcases g2 with ⟨q, q1, q2, q3, q4⟩ | ⟨q, q1, q2⟩
    · rw [if_pos q] at h
      cases k with
      | zero =>
        simp only [List.getElem?_cons_zero, Option.some.injEq] at h
        subst h
        simp only [Int.natCast_zero, Int.zero_add, Int.one_mul]
        omega
      | succ k =>
        have := ih k y (by simpa using h)
        rw [g1] at this
        have e2 : (((k + 1 : Nat) : Int) + 1) * e = ((k : Int) + 1) * e + e := by rw [Int.natCast_succ, Int.add_mul, Int.one_mul]
        omega
    · rw [if_neg (by rw [q]; decide)] at h
      have := ih k y h
      rw [g1] at this
      omega
theorem sent_window {b e : Int} (he : 1 ≤ e) : ∀ {t : Tok} {xs : List Due}, ByAt xs → after t.since xs → ∀ (i n : Nat) (x y : Due), (sentG b e t xs)[i]? = some x → (sentG b e t xs)[i + n]? = some y → ((n : Int) + 1) * e ≤ b * e + (y.at_ - x.at_)
  | t, [], _, _, i, n, x, y, h, _ => by simp [sentG] at h
  | t, z :: xs, hs, ha, i, n, x, y, h, h' => by
    obtain ⟨h1, h2⟩ := List.pairwise_cons.1 hs
    have hz := ha z (by simp)
    obtain ⟨g1, g2⟩ := takeF_cases (b := b) he hz
    have ha2 : after (takeF b e t z.at_).1.since xs := fun d hd => by rw [g1]; exact h1 d hd
    have ih := sent_window (b := b) he (t := (takeF b e t z.at_).1) h2 ha2
    have i1 := sent_first (b := b) he (t := (takeF b e t z.at_).1) h2 ha2
    simp only [sentG] at h h'
    rcases g2 with ⟨q, q1, q2, q3, q4⟩ | ⟨q, q1, q2⟩
    · rw [if_pos q] at h h'
      cases i with
      | zero =>
        simp only [List.getElem?_cons_zero, Option.some.injEq] at h
        subst h
        cases n with
        | zero =>
          simp only [Nat.add_zero, List.getElem?_cons_zero, Option.some.injEq] at h'
          subst h'
          simp only [Int.natCast_zero, Int.zero_add, Int.one_mul]
          omega
        | succ n =>
          have := i1 n y (by simpa using h')
          rw [g1] at this
          have e2 : (((n + 1 : Nat) : Int) + 1) * e = ((n : Int) + 1) * e + e := by rw [Int.natCast_succ, Int.add_mul, Int.one_mul]
          omega
      | succ i =>
        refine ih i n x y (by simpa using h) ?_
        rw [show i + 1 + n = (i + n) + 1 by omega] at h'
        simpa using h'
    · rw [if_neg (by rw [q]; decide)] at h h'
      exact ih i n x y h h'
end Go.Proofs.YtgimngpcfenoaaaDoor
