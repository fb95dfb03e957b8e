/- The plain law of ScheduleLimits: a window has at most burst + window / every; without a limit all are sent; a right plan has no error. -/
import Derived.Test.YtgimngpcfenoaaaDoorChkP
set_option linter.unusedSimpArgs false
set_option linter.unusedVariables false
namespace Go.Proofs.YtgimngpcfenoaaaDoor
open Go.Sort Eng
theorem sent_most {b e : Int} (hb : 1 ≤ b) (he : 1 ≤ e) {L : List Due} (hs : ByAt L) (ha : ∀ d ∈ L, 0 ≤ d.at_) {i m : Nat} {x y : Due} (him : i ≤ m) (hx : (sentG b e ⟨b * e, 0⟩ L)[i]? = some x) (hy : (sentG b e ⟨b * e, 0⟩ L)[m]? = some y) :
    0 ≤ y.at_ - x.at_ ∧ (m : Int) - i + 1 ≤ b + (y.at_ - x.at_).tdiv e := by
  have h0 : 0 ≤ y.at_ - x.at_ := by
    rcases Nat.eq_or_lt_of_le him with rfl | h
    · rw [hx] at hy; cases hy; omega
    · have hS : ByAt (sentG b e ⟨b * e, 0⟩ L) := List.Pairwise.sublist (sentG_sub b e ⟨b * e, 0⟩ L) hs
      obtain ⟨h1, e1⟩ := List.getElem?_eq_some_iff.1 hx
      obtain ⟨h2, e2⟩ := List.getElem?_eq_some_iff.1 hy
      have := List.pairwise_iff_getElem.1 hS i m h1 h2 h
      rw [e1, e2] at this
      omega
  refine ⟨h0, ?_⟩
  have := sent_window (b := b) he (t := ⟨b * e, 0⟩) hs (fun d hd => ha d hd) i (m - i) x y hx (by rw [show i + (m - i) = m by omega]; exact hy)
  rw [Int.tdiv_eq_ediv_of_nonneg h0]
  have h2 : (((m - i : Nat) : Int) + 1 - b) ≤ (y.at_ - x.at_) / e := by
    rw [Int.le_ediv_iff_mul_le (by omega), Int.sub_mul]
    omega
  omega
theorem sent_all : ∀ (t : Tok) (xs : List Due), sentG 0 0 t xs = xs
  | _, [] => rfl
  | t, x :: xs => by
    have e : (takeF 0 0 t x.at_).2 = true := rfl
    simp only [sentG, e, if_true, sent_all]
theorem right_ok {p : PlanP} (hp : RightP p) : planErr p = 0 := by
  have h1 : ∀ t ∈ p.ts, taskErr t = 0 := by
    intro t ht
    obtain ⟨h1, h2, h3, h4, h5, h6, h7, h8, h9, h10, h11, h12⟩ := hp.ts t ht
    have a : (t.count - 1) * t.every ≤ 11 * 20 := Int.mul_le_mul (by omega) h10 (by omega) (by omega)
    unfold taskErr
    rw [if_pos (by unfold okProto; rcases h2 with h | h | h <;> simp [h]), if_pos ⟨by omega, by omega, by omega, by omega, by omega, by unfold okEnd; omega⟩, if_pos]
    right
    rw [h1]
    decide
  have h2 : tasksErr p.ts = 0 := by
    have : ∀ l : List Tsk, (∀ t ∈ l, taskErr t = 0) → tasksErr l = 0 := by
      intro l
      induction l with
      | nil => intro _; rfl
      | cons t l ih =>
        intro h
        rw [tasksErr, if_neg (by simp [h t (by simp)]), ih fun t ht => h t (by simp [ht])]
    exact this _ h1
  have := hp.len
  unfold planErr
  rw [if_neg (by omega), if_neg (by simp [h2])]
  unfold bkErr
  rw [if_pos]
  rcases hp.buck with h | h
  · exact .inl h
  · exact .inr ⟨by omega, by omega, by omega, by omega⟩
set_option maxRecDepth 100000 in
theorem mostC (F : Frm) (b e x : Int) (hb : 1 ≤ b ∧ b ≤ 65536) (he : 1 ≤ e ∧ e ≤ 1073741824) (hx : 0 ≤ x ∧ x ≤ 1125899906842624) : Contract F Tryd.prog 9 [bkS b e, .i .i64 x] (fun r => r = .i .i64 (b + x.tdiv e)) := by
  have hq0 : 0 ≤ x.tdiv e := Int.tdiv_nonneg hx.1 (by omega)
  have hq1 : x.tdiv e ≤ x := by
    rw [Int.tdiv_eq_ediv_of_nonneg hx.1]
    exact Int.ediv_le_self _ hx.1
  have e1 : IntKind.i64.wrap (x.tdiv e) = x.tdiv e := w64 (by omega)
  have e2 : IntKind.i64.wrap (b + x.tdiv e) = b + x.tdiv e := w64 (by omega)
  refine contract_of Tryd.func9 rfl (by kernel_rfl) ?_
  simp only [Tryd.ntmps9, argEnv, bkS, bkL]
  (repeat refine Sat.seq ?_)
  (refine Sat.region_k fun k hk => ?_; simp -implicitDefEqProofs only [evr, id, reduceCtorEq, reduceIte, Nat.reduceMul, Nat.reduceAdd, Nat.reduceLT, Nat.reduceLeDiff, Nat.reduceEqDiff, Int.reduceLT, Int.reduceBEq, Int.reduceBNe, Nat.reduceBEq])
  intro b1
  (refine hk _ ?_; clear hk k; try show Sat _ _ _ _ _)
  (repeat refine Sat.seq ?_)
  refine Sat.region_at ⟨19, [(11, .b false), (2, .op 0 b1 0), (1, .i .i64 x)], [.box b1 26 [.i .i64 b, .i .i64 e]]⟩ (fun k hk => ?_) ?_
  · simp -implicitDefEqProofs only [evr, id, reduceCtorEq, reduceIte, Nat.reduceMul, Nat.reduceAdd, Nat.reduceLT, Nat.reduceLeDiff, Nat.reduceEqDiff, Int.reduceLT, Int.reduceBEq, Int.reduceBNe, Nat.reduceBEq]
    refine ⟨fun h => absurd h (by rw [beq_iff_eq]; omega), fun h => ?_⟩
    have e9 : decide (x < 0) = false := decide_eq_false (by omega)
    refine hk _ ?_
    simp only [e9]
    simp -implicitDefEqProofs only [evr, id, reduceCtorEq, reduceIte, Nat.reduceMul, Nat.reduceAdd, Nat.reduceLT, Nat.reduceLeDiff, Nat.reduceEqDiff, Int.reduceLT, Int.reduceBEq, Int.reduceBNe, Nat.reduceBEq, evl]
  refine Sat.cond_b rfl (fun h => absurd h (by decide)) (fun _ => ?_)
  refine Sat.skip ?_
  simp only [thenK]
  (repeat refine Sat.seq ?_)
  (refine Sat.region_qk (by kernel_rfl) (by kernel_rfl) fun k hk => ?_; simp -implicitDefEqProofs only [evr, id, reduceCtorEq, reduceIte, Nat.reduceMul, Nat.reduceAdd, Nat.reduceLT, Nat.reduceLeDiff, Nat.reduceEqDiff, Int.reduceLT, Int.reduceBEq, Int.reduceBNe, Nat.reduceBEq])
  refine ⟨by omega, ?_⟩
  simp only [e1, e2]
  (refine hk _ ?_; clear hk k; try show Sat _ _ _ _ _)
  refine Sat.ret ?_
  simp only [Tryd.results9, evr, id, reduceCtorEq, reduceIte, Nat.reduceMul, Nat.reduceAdd, Nat.reduceLT, Nat.reduceLeDiff, Nat.reduceEqDiff, Int.reduceLT, Int.reduceBEq, Int.reduceBNe, Nat.reduceBEq]
end Go.Proofs.YtgimngpcfenoaaaDoor
