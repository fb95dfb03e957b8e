/- Probes that are due: their order (no program in sight). -/
import Derived.Test.YtgimngpcfenoaaaDoorEv
import Derived.Test.YtgimngpcfenoaaaDoorPk3
namespace Go.Proofs.YtgimngpcfenoaaaDoor
open Eng Go.Sort
structure Due where
  task : Int
  round : Int
  at_ : Int
  deriving DecidableEq
instance : Inhabited Due := ⟨⟨0, 0, 0⟩⟩
def Due.cs (s : Due) : List SV := [.i .i64 s.task, .i .i64 s.round, .i .i64 s.at_]
def Due.keys (d : Due) : List Int := [d.at_, d.task, d.round]
def dueCompare (a b : Due) : Int := cmpL a.keys b.keys
def dueLt (a b : Due) : Bool := decide (dueCompare a b < 0)
theorem Due.keys_inj {a b : Due} (h : a.keys = b.keys) : a = b := by
  cases a; cases b
  simp only [Due.keys, List.cons.injEq, and_true] at h
  obtain ⟨h1, h2, h3⟩ := h
  simp_all
theorem dueLt_irrefl (x : Due) : dueLt x x = false := by
  unfold dueLt dueCompare
  rw [cmpL_self]; rfl
theorem dueLt_trans (x y z : Due) (h : dueLt x y = true) (k : dueLt y z = true) : dueLt x z = true := by
  unfold dueLt dueCompare at *
  simp only [decide_eq_true_eq] at *
  exact cmpL_trans x.keys y.keys z.keys rfl rfl h k
theorem dueLt_total (x y : Due) : dueLt x y = true ∨ x = y ∨ dueLt y x = true := by
  unfold dueLt dueCompare
  simp only [decide_eq_true_eq]
  rcases cmpL_anti (a := x.keys) (b := y.keys) rfl with h | h | h
  · exact .inl h
  · exact .inr (.inl (Due.keys_inj h))
  · exact .inr (.inr h)
theorem dueLt_swo : SWO dueLt := by
  refine ⟨dueLt_irrefl, dueLt_trans, fun x y z h k => ?_⟩
  cases hz : dueLt x z with
  | false => rfl
  | true =>
    rcases dueLt_total x y with h1 | rfl | h1
    · rw [h1] at h; cases h
    · rw [k] at hz; cases hz
    · rw [dueLt_trans y x z h1 hz] at k; cases k
theorem due_unique : ∀ {c d : List Due}, c.Pairwise (fun a b => dueLt a b = true) → d.Pairwise (fun a b => dueLt a b = true) → (∀ r, r ∈ c ↔ r ∈ d) → c = d
  | [], [], _, _, _ => rfl
  | [], y :: d, _, _, h => by have := (h y).2 (by simp); simp at this
  | x :: c, [], _, _, h => by have := (h x).1 (by simp); simp at this
  | x :: c, y :: d, hc, hd, h => by
    have hx := List.pairwise_cons.1 hc
    have hy := List.pairwise_cons.1 hd
    have e : x = y := by
      have h1 := (h x).1 (by simp)
      have h2 := (h y).2 (by simp)
      rcases List.mem_cons.1 h1 with e | h1
      · exact e
      · rcases List.mem_cons.1 h2 with e | h2
        · exact e.symm
        · have g1 := hy.1 x h1
          have g2 := hx.1 y h2
          have := dueLt_trans _ _ _ g1 g2
          rw [dueLt_irrefl] at this
          cases this
    subst e
    congr 1
    refine due_unique hx.2 hy.2 fun r => ?_
    have hr := h r
    simp only [List.mem_cons] at hr
    constructor
    · intro hm
      rcases hr.1 (.inr hm) with e | h'
      · subst e
        have := hx.1 r hm
        rw [dueLt_irrefl] at this; cases this
      · exact h'
    · intro hm
      rcases hr.2 (.inr hm) with e | h'
      · subst e
        have := hy.1 r hm
        rw [dueLt_irrefl] at this; cases this
      · exact h'
end Go.Proofs.YtgimngpcfenoaaaDoor
