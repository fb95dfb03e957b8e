/- The reference of schedules, by the evaluator: All. -/
import Derived.Test.YtgimngpcfenoaaaDoorRfdP
set_option linter.unusedSimpArgs false
set_option linter.unusedVariables false
namespace Go.Proofs.YtgimngpcfenoaaaDoor
open Go.Sort Eng
theorem rd_zeroN {n N : Nat} {rd : Nat → Nat → SV} (h : ∀ p, rd p 0 = .i .i64 0) : rdEq n 1 rd (fun p _ => .i .i64 (((List.replicate N 0).getD p 0 : Nat) : Int)) := by
  intro p j hp hj
  obtain rfl : j = 0 := by omega
  rw [h p]
  show SV.i .i64 0 = SV.i .i64 _
  congr 1
  simp only [List.getD, List.getElem?_replicate]
  split <;> rfl
theorem rd_setN {nx : List Nat} {n ix v : Nat} {y : Int} (hy : y = (v : Int)) (h : ix < nx.length) : rdEq n 1 (rdSet (fun p _ => .i .i64 ((nx.getD p 0 : Nat) : Int)) ix 0 [.i .i64 y]) (fun p _ => .i .i64 (((nx.set ix v).getD p 0 : Nat) : Int)) := by
  subst hy
  intro p j hp hj
  obtain rfl : j = 0 := by omega
  unfold rdSet
  show (if _ then _ else _) = SV.i .i64 _
  rw [set_getD h]
  by_cases hpx : p = ix
  · subst hpx
    simp
  · rw [if_neg (by intro h; exact hpx h.1), if_neg (fun h => hpx h.symm)]
set_option maxHeartbeats 2000000 in
set_option maxRecDepth 100000 in
theorem rfAllC (F : Frm) (p : PlanP) (hn : p.ts.length ≤ 1000) (hok : ∀ t ∈ p.ts, tskOk t) :
    Contract F Tryd.prog 18 [planS p] (fun r => ∃ (a : Option Addr) (cap : Nat) (L : List Due), Sched L p.ts ∧ r = .sl a L.length cap 3 (dueRd L.toArray)) := by
  have hcnt : cntT p.ts p.ts.length ≤ 1000000 := by
    have := cntT_le p.ts (fun t ht => (hok t ht).2.2.2.2.1) p.ts.length (Nat.le_refl _)
    have : 1000 * p.ts.length ≤ 1000 * 1000 := Nat.mul_le_mul_left _ (by omega)
    omega
  have htk : ∀ i, i < p.ts.length → tskOk (p.ts.getD i default) := fun i hi => hok _ (by
    have : p.ts.getD i default = p.ts[i] := by simp [List.getD, hi]
    rw [this]; exact List.getElem_mem _)
  refine contract_of Tryd.func18 rfl (by kernel_rfl) ?_
  simp only [Tryd.ntmps18, argEnv, planS, planC]
  (repeat refine Sat.seq ?_)
  (refine Sat.region_k fun k hk => ?_; simp -implicitDefEqProofs only [evr, id, reduceCtorEq, reduceIte, Nat.reduceMul, Nat.reduceAdd, Nat.reduceLT, Nat.reduceLeDiff, Nat.reduceEqDiff, Int.reduceLT, Int.reduceBEq, Int.reduceBNe, Nat.reduceBEq, planC, tsk_one, sh1, due_one, dueRow, tsk_0, tsk_1, tsk_2, tsk_3, tsk_4, tsk_5, tsk_6, due_0, due_1, due_2, evn])
  intro b1
  (refine hk _ ?_; clear hk k; try show Sat _ _ _ _ _)
  (repeat refine Sat.seq ?_)
  (refine Sat.region_k fun k hk => ?_; simp -implicitDefEqProofs only [evr, id, reduceCtorEq, reduceIte, Nat.reduceMul, Nat.reduceAdd, Nat.reduceLT, Nat.reduceLeDiff, Nat.reduceEqDiff, Int.reduceLT, Int.reduceBEq, Int.reduceBNe, Nat.reduceBEq, planC, tsk_one, sh1, due_one, dueRow, tsk_0, tsk_1, tsk_2, tsk_3, tsk_4, tsk_5, tsk_6, due_0, due_1, due_2, evn]; refine hk _ ?_; clear hk k; try show Sat _ _ _ _ _)
  refine Sat.adopt 3 36 3 (dueRd #[]) rfl ?_
  simp -implicitDefEqProofs only [evr, id, reduceCtorEq, reduceIte, Nat.reduceMul, Nat.reduceAdd, Nat.reduceLT, Nat.reduceLeDiff, Nat.reduceEqDiff, Int.reduceLT, Int.reduceBEq, Int.reduceBNe, Nat.reduceBEq, planC, tsk_one, sh1, due_one, dueRow, tsk_0, tsk_1, tsk_2, tsk_3, tsk_4, tsk_5, tsk_6, due_0, due_1, due_2, evn]
  (repeat refine Sat.seq ?_)
  (refine Sat.region_k fun k hk => ?_; simp -implicitDefEqProofs only [evr, id, reduceCtorEq, reduceIte, Nat.reduceMul, Nat.reduceAdd, Nat.reduceLT, Nat.reduceLeDiff, Nat.reduceEqDiff, Int.reduceLT, Int.reduceBEq, Int.reduceBNe, Nat.reduceBEq, planC, tsk_one, sh1, due_one, dueRow, tsk_0, tsk_1, tsk_2, tsk_3, tsk_4, tsk_5, tsk_6, due_0, due_1, due_2, evn])
  refine ⟨by omega, fun na nc => ?_⟩
  (refine hk _ ?_; clear hk k; try show Sat _ _ _ _ _)
  (repeat refine Sat.seq ?_)
  refine Sat.block ?_
  refine Sat.loop (ι := Option Addr × Nat × List Due × List Nat) (fun x => ⟨79, [(4, .os 2 na p.ts.length nc), (3, .os 1 x.1 x.2.2.1.length x.2.1), (1, .op 0 b1 0)], [.box b1 28 [.sl p.a p.ts.length p.cap 7 (tskRd p.ts), .i .i64 p.burst, .i .i64 p.every], dueRow x.1 x.2.2.1.length x.2.1 x.2.2.1.toArray, .row na 3 p.ts.length nc 1 (fun i _ => .i .i64 ((x.2.2.2.getD i 0 : Nat) : Int))]⟩)
    (fun x => NextInv p.ts x.2.2.2 x.2.2.1) (fun x => cntT p.ts p.ts.length - x.2.2.1.length) (none, 0, [], List.replicate p.ts.length 0) (NextInv.start p.ts) (by
      simp -implicitDefEqProofs only [evr, id, reduceCtorEq, reduceIte, Nat.reduceMul, Nat.reduceAdd, Nat.reduceLT, Nat.reduceLeDiff, Nat.reduceEqDiff, Int.reduceLT, Int.reduceBEq, Int.reduceBNe, Nat.reduceBEq, planC, tsk_one, sh1, due_one, dueRow, tsk_0, tsk_1, tsk_2, tsk_3, tsk_4, tsk_5, tsk_6, due_0, due_1, due_2, evl, evn]
      repeat' (first | exact rd_zeroN (fun _ => rfl) | rfl | (refine And.intro ?_ ?_) | exact (fun i j hi => absurd hi (Nat.not_lt_zero _)))) ?_
  rintro ⟨xa, xc, l, nx⟩ hinv
  simp only at hinv ⊢
  have hll := hinv.len_le
  refine Sat.block ?_
  (repeat refine Sat.seq ?_)
  (refine Sat.region_k fun k hk => ?_; simp -implicitDefEqProofs only [evr, id, reduceCtorEq, reduceIte, Nat.reduceMul, Nat.reduceAdd, Nat.reduceLT, Nat.reduceLeDiff, Nat.reduceEqDiff, Int.reduceLT, Int.reduceBEq, Int.reduceBNe, Nat.reduceBEq, planC, tsk_one, sh1, due_one, dueRow, tsk_0, tsk_1, tsk_2, tsk_3, tsk_4, tsk_5, tsk_6, due_0, due_1, due_2, evn]; refine hk _ ?_; clear hk k; try show Sat _ _ _ _ _)
  (repeat refine Sat.seq ?_)
  (refine Sat.region_k fun k hk => ?_; simp -implicitDefEqProofs only [evr, id, reduceCtorEq, reduceIte, Nat.reduceMul, Nat.reduceAdd, Nat.reduceLT, Nat.reduceLeDiff, Nat.reduceEqDiff, Int.reduceLT, Int.reduceBEq, Int.reduceBNe, Nat.reduceBEq, planC, tsk_one, sh1, due_one, dueRow, tsk_0, tsk_1, tsk_2, tsk_3, tsk_4, tsk_5, tsk_6, due_0, due_1, due_2, evn]; refine hk _ ?_; clear hk k; try show Sat _ _ _ _ _)
  (repeat refine Sat.seq ?_)
  (refine Sat.region_k fun k hk => ?_; simp -implicitDefEqProofs only [evr, id, reduceCtorEq, reduceIte, Nat.reduceMul, Nat.reduceAdd, Nat.reduceLT, Nat.reduceLeDiff, Nat.reduceEqDiff, Int.reduceLT, Int.reduceBEq, Int.reduceBNe, Nat.reduceBEq, planC, tsk_one, sh1, due_one, dueRow, tsk_0, tsk_1, tsk_2, tsk_3, tsk_4, tsk_5, tsk_6, due_0, due_1, due_2, evn]; refine hk _ ?_; clear hk k; try show Sat _ _ _ _ _)
  (repeat refine Sat.seq ?_)
  refine Sat.block ?_
  refine Sat.loop (ι := Nat × Int × Int) (fun x => ⟨79, [(7, .i .i64 x.1), (6, .i .i64 x.2.2), (5, .i .i64 x.2.1), (4, .os 2 na p.ts.length nc), (3, .os 1 xa l.length xc), (1, .op 0 b1 0)], [.box b1 28 [.sl p.a p.ts.length p.cap 7 (tskRd p.ts), .i .i64 p.burst, .i .i64 p.every], dueRow xa l.length xc l.toArray, .row na 3 p.ts.length nc 1 (fun i _ => .i .i64 ((nx.getD i 0 : Nat) : Int))]⟩)
    (fun x => x.1 ≤ p.ts.length ∧ Scan p.ts nx x.1 x.2.1 x.2.2) (fun x => p.ts.length - x.1) (0, -1, 0) ⟨Nat.zero_le _, Scan.start p.ts nx⟩ (by
      simp -implicitDefEqProofs only [evr, id, reduceCtorEq, reduceIte, Nat.reduceMul, Nat.reduceAdd, Nat.reduceLT, Nat.reduceLeDiff, Nat.reduceEqDiff, Int.reduceLT, Int.reduceBEq, Int.reduceBNe, Nat.reduceBEq, planC, tsk_one, sh1, due_one, dueRow, tsk_0, tsk_1, tsk_2, tsk_3, tsk_4, tsk_5, tsk_6, due_0, due_1, due_2, evl, evn]
      repeat' (first | rfl | (refine And.intro ?_ ?_))) ?_
  rintro ⟨i, best, at_⟩ ⟨hi, hsc⟩
  simp only at hi hsc ⊢
  (repeat refine Sat.seq ?_)
  (refine Sat.region_k fun k hk => ?_; simp -implicitDefEqProofs only [evr, id, reduceCtorEq, reduceIte, Nat.reduceMul, Nat.reduceAdd, Nat.reduceLT, Nat.reduceLeDiff, Nat.reduceEqDiff, Int.reduceLT, Int.reduceBEq, Int.reduceBNe, Nat.reduceBEq, planC, tsk_one, sh1, due_one, dueRow, tsk_0, tsk_1, tsk_2, tsk_3, tsk_4, tsk_5, tsk_6, due_0, due_1, due_2, evn]; refine hk _ ?_; clear hk k; try show Sat _ _ _ _ _)
  (repeat refine Sat.seq ?_)
  refine Sat.cond_b rfl (fun h => ?_) (fun h => ?_)
  · have h1 : i < p.ts.length := by simp only [decide_eq_true_eq] at h; omega
    clear h
    have e3 : IntKind.i64.wrap ((i : Int) + 1) = ((i + 1 : Nat) : Int) := by rw [w64 (by omega)]; omega
    obtain ⟨q1, q2, q3, q4, q5, q6⟩ := htk i h1
    have hle := hinv.le i h1
    have hnx : (nxt p.ts nx i).at_ = (p.ts.getD i default).start + ((nx.getD i 0 : Nat) : Int) * (p.ts.getD i default).every := rfl
    have hav : (((nx.getD i 0 : Nat) : Int) < (p.ts.getD i default).count) ↔ avail p.ts nx i := by unfold avail; omega
    have hsk := hsc.skip
    have hta := hsc.take
    generalize hx : p.ts.getD i default = t at q1 q2 q3 q4 q5 q6 hle hnx hav ⊢
    generalize hmx : nx.getD i 0 = m at hle hnx hav ⊢
    have hm0 : 0 ≤ (m : Int) * t.every := Int.mul_nonneg (by omega) (by omega)
    have hm1 : (m : Int) * t.every ≤ 1000 * 1099511627776 := Int.mul_le_mul (by omega) (by omega) (by omega) (by omega)
    have hm2 : 0 ≤ (t.count - 1) * t.every := Int.mul_nonneg (by omega) (by omega)
    have e5 : IntKind.i64.wrap ((m : Int) * t.every) = (m : Int) * t.every := w64 (by omega)
    have e6 : IntKind.i64.wrap (t.start + (m : Int) * t.every) = (nxt p.ts nx i).at_ := by rw [hnx]; exact w64 (by omega)
    refine Sat.skip ?_
    simp only [thenK]
    (repeat refine Sat.seq ?_)
    refine Sat.block ?_
    (repeat refine Sat.seq ?_)
    (refine Sat.region_qk (by kernel_rfl) (by kernel_rfl) fun k hk => ?_; simp -implicitDefEqProofs only [evr, id, reduceCtorEq, reduceIte, Nat.reduceMul, Nat.reduceAdd, Nat.reduceLT, Nat.reduceLeDiff, Nat.reduceEqDiff, Int.reduceLT, Int.reduceBEq, Int.reduceBNe, Nat.reduceBEq, planC, tsk_one, sh1, due_one, dueRow, tsk_0, tsk_1, tsk_2, tsk_3, tsk_4, tsk_5, tsk_6, due_0, due_1, due_2, evn])
    simp only [hx, hmx, e5, e6]
    clear e6
    generalize (nxt p.ts nx i).at_ = x at hsk hta ⊢
    clear hnx
    refine ⟨by omega, by omega, h1, by omega, ?_⟩
    (refine hk _ ?_; clear hk k; try show Sat _ _ _ _ _)
    (repeat refine Sat.seq ?_)
    refine Sat.region_qat (by kernel_rfl) (by kernel_rfl) ⟨79, [(57, .b (decide ((m : Int) < t.count ∧ (best < 0 ∨ x < at_)))), (8, .i .i64 x), (7, .i .i64 i), (6, .i .i64 at_), (5, .i .i64 best), (4, .os 2 na p.ts.length nc), (3, .os 1 xa l.length xc), (1, .op 0 b1 0)], [.box b1 28 [.sl p.a p.ts.length p.cap 7 (tskRd p.ts), .i .i64 p.burst, .i .i64 p.every], dueRow xa l.length xc l.toArray, .row na 3 p.ts.length nc 1 (fun i _ => .i .i64 ((nx.getD i 0 : Nat) : Int))]⟩ (fun k hk => ?_) ?_
    · simp -implicitDefEqProofs only [evr, id, reduceCtorEq, reduceIte, Nat.reduceMul, Nat.reduceAdd, Nat.reduceLT, Nat.reduceLeDiff, Nat.reduceEqDiff, Int.reduceLT, Int.reduceBEq, Int.reduceBNe, Nat.reduceBEq, planC, tsk_one, sh1, due_one, dueRow, tsk_0, tsk_1, tsk_2, tsk_3, tsk_4, tsk_5, tsk_6, due_0, due_1, due_2, hx, hmx, evn]
      refine ⟨by omega, h1, by omega, ?_⟩
      repeat' (first
        | (with_reducible refine And.intro ?_ ?_)
        | (with_reducible intro hh)
        | (with_reducible refine hk _ ?_
           first
           | (have e9 : decide ((m : Int) < t.count ∧ (best < 0 ∨ x < at_)) = true := decide_eq_true (by omega)
              simp only [e9]
              simp -implicitDefEqProofs only [evr, id, reduceCtorEq, reduceIte, Nat.reduceMul, Nat.reduceAdd, Nat.reduceLT, Nat.reduceLeDiff, Nat.reduceEqDiff, Int.reduceLT, Int.reduceBEq, Int.reduceBNe, Nat.reduceBEq, planC, tsk_one, sh1, due_one, dueRow, tsk_0, tsk_1, tsk_2, tsk_3, tsk_4, tsk_5, tsk_6, due_0, due_1, due_2, evl, evn]
              repeat' (first | rfl | (refine And.intro ?_ ?_))
              done)
           | (have e9 : decide ((m : Int) < t.count ∧ (best < 0 ∨ x < at_)) = false := decide_eq_false (by omega)
              simp only [e9]
              simp -implicitDefEqProofs only [evr, id, reduceCtorEq, reduceIte, Nat.reduceMul, Nat.reduceAdd, Nat.reduceLT, Nat.reduceLeDiff, Nat.reduceEqDiff, Int.reduceLT, Int.reduceBEq, Int.reduceBNe, Nat.reduceBEq, planC, tsk_one, sh1, due_one, dueRow, tsk_0, tsk_1, tsk_2, tsk_3, tsk_4, tsk_5, tsk_6, due_0, due_1, due_2, evl, evn]
              repeat' (first | rfl | (refine And.intro ?_ ?_))
              done)
           | (have e9 : decide ((m : Int) < t.count ∧ (best < 0 ∨ x < at_)) = decide (x < at_) := by
                apply Bool.eq_iff_iff.2
                simp only [decide_eq_true_eq]
                omega
              simp only [e9]
              simp -implicitDefEqProofs only [evr, id, reduceCtorEq, reduceIte, Nat.reduceMul, Nat.reduceAdd, Nat.reduceLT, Nat.reduceLeDiff, Nat.reduceEqDiff, Int.reduceLT, Int.reduceBEq, Int.reduceBNe, Nat.reduceBEq, planC, tsk_one, sh1, due_one, dueRow, tsk_0, tsk_1, tsk_2, tsk_3, tsk_4, tsk_5, tsk_6, due_0, due_1, due_2, evl, evn]
              repeat' (first | rfl | (refine And.intro ?_ ?_))
              done)))
    refine Sat.cond_b rfl (fun h => ?_) (fun h => ?_)
    · obtain ⟨g1, g2⟩ := of_decide_eq_true h
      clear h
      refine Sat.region_k fun k hk => ?_
      simp -implicitDefEqProofs only [evr, id, reduceCtorEq, reduceIte, Nat.reduceMul, Nat.reduceAdd, Nat.reduceLT, Nat.reduceLeDiff, Nat.reduceEqDiff, Int.reduceLT, Int.reduceBEq, Int.reduceBNe, Nat.reduceBEq, planC, tsk_one, sh1, due_one, dueRow, tsk_0, tsk_1, tsk_2, tsk_3, tsk_4, tsk_5, tsk_6, due_0, due_1, due_2, evn]
      refine hk _ ?_
      clear hk k
      simp only [thenK, blockK]
      refine Sat.region_k fun k hk => ?_
      simp -implicitDefEqProofs only [evr, id, reduceCtorEq, reduceIte, Nat.reduceMul, Nat.reduceAdd, Nat.reduceLT, Nat.reduceLeDiff, Nat.reduceEqDiff, Int.reduceLT, Int.reduceBEq, Int.reduceBNe, Nat.reduceBEq, planC, tsk_one, sh1, due_one, dueRow, tsk_0, tsk_1, tsk_2, tsk_3, tsk_4, tsk_5, tsk_6, due_0, due_1, due_2, e3, evn]
      refine hk _ ?_
      simp only [thenK, blockK]
      refine ⟨(i + 1, i, x), ⟨by show i + 1 ≤ _; omega, hta (hav.1 g1) g2⟩, by show _ - (i + 1) < _ - i; omega, ?_⟩
      simp -implicitDefEqProofs only [evr, id, reduceCtorEq, reduceIte, Nat.reduceMul, Nat.reduceAdd, Nat.reduceLT, Nat.reduceLeDiff, Nat.reduceEqDiff, Int.reduceLT, Int.reduceBEq, Int.reduceBNe, Nat.reduceBEq, planC, tsk_one, sh1, due_one, dueRow, tsk_0, tsk_1, tsk_2, tsk_3, tsk_4, tsk_5, tsk_6, due_0, due_1, due_2, evl, evn]
      repeat' (first | rfl | (refine And.intro ?_ ?_))
    · have h := of_decide_eq_false h
      refine Sat.skip ?_
      simp only [thenK, blockK]
      refine Sat.region_k fun k hk => ?_
      simp -implicitDefEqProofs only [evr, id, reduceCtorEq, reduceIte, Nat.reduceMul, Nat.reduceAdd, Nat.reduceLT, Nat.reduceLeDiff, Nat.reduceEqDiff, Int.reduceLT, Int.reduceBEq, Int.reduceBNe, Nat.reduceBEq, planC, tsk_one, sh1, due_one, dueRow, tsk_0, tsk_1, tsk_2, tsk_3, tsk_4, tsk_5, tsk_6, due_0, due_1, due_2, e3, evn]
      refine hk _ ?_
      simp only [thenK, blockK]
      refine ⟨(i + 1, best, at_), ⟨by show i + 1 ≤ _; omega, hsk (fun ⟨g1, g2⟩ => h ⟨hav.2 g1, g2⟩)⟩, by show _ - (i + 1) < _ - i; omega, ?_⟩
      simp -implicitDefEqProofs only [evr, id, reduceCtorEq, reduceIte, Nat.reduceMul, Nat.reduceAdd, Nat.reduceLT, Nat.reduceLeDiff, Nat.reduceEqDiff, Int.reduceLT, Int.reduceBEq, Int.reduceBNe, Nat.reduceBEq, planC, tsk_one, sh1, due_one, dueRow, tsk_0, tsk_1, tsk_2, tsk_3, tsk_4, tsk_5, tsk_6, due_0, due_1, due_2, evl, evn]
      repeat' (first | rfl | (refine And.intro ?_ ?_))
  have h1 : i = p.ts.length := by simp only [decide_eq_false_iff_not] at h; omega
  subst h1
  clear h hi
  refine Sat.exit ?_
  simp only [thenK, blockK, reduceIte]
  (repeat refine Sat.seq ?_)
  (refine Sat.region_k fun k hk => ?_; simp -implicitDefEqProofs only [evr, id, reduceCtorEq, reduceIte, Nat.reduceMul, Nat.reduceAdd, Nat.reduceLT, Nat.reduceLeDiff, Nat.reduceEqDiff, Int.reduceLT, Int.reduceBEq, Int.reduceBNe, Nat.reduceBEq, planC, tsk_one, sh1, due_one, dueRow, tsk_0, tsk_1, tsk_2, tsk_3, tsk_4, tsk_5, tsk_6, due_0, due_1, due_2, evn]; refine hk _ ?_; clear hk k; try show Sat _ _ _ _ _)
  refine Sat.cond_b rfl (fun h => ?_) (fun h => ?_)
  · have h := of_decide_eq_true h
    have hd : Sched l p.ts := hinv.done (fun j hj => by
      rcases hsc with ⟨_, _, h3⟩ | ⟨b, rfl, _⟩
      · exact h3 j hj
      · omega)
    (repeat refine Sat.seq ?_)
    (refine Sat.region_k fun k hk => ?_; simp -implicitDefEqProofs only [evr, id, reduceCtorEq, reduceIte, Nat.reduceMul, Nat.reduceAdd, Nat.reduceLT, Nat.reduceLeDiff, Nat.reduceEqDiff, Int.reduceLT, Int.reduceBEq, Int.reduceBNe, Nat.reduceBEq, planC, tsk_one, sh1, due_one, dueRow, tsk_0, tsk_1, tsk_2, tsk_3, tsk_4, tsk_5, tsk_6, due_0, due_1, due_2, evn]; refine hk _ ?_; clear hk k; try show Sat _ _ _ _ _)
    refine Sat.ret ?_
    simp only [Tryd.results18, evr, id, reduceCtorEq, reduceIte, Nat.reduceMul, Nat.reduceAdd, Nat.reduceLT, Nat.reduceLeDiff, Nat.reduceEqDiff, Int.reduceLT, Int.reduceBEq, Int.reduceBNe, Nat.reduceBEq, List.append_nil, Int.toNat_zero, Nat.sub_self, planC, tsk_one, sh1, due_one, dueRow, tsk_0, tsk_1, tsk_2, tsk_3, tsk_4, tsk_5, tsk_6, due_0, due_1, due_2]
    exact ⟨xa, xc, l, hd, rfl⟩
  have h := of_decide_eq_false h
  obtain ⟨b, rfl, hb1, hb2, rfl, hb4⟩ : ∃ b : Nat, best = (b : Int) ∧ b < p.ts.length ∧ avail p.ts nx b ∧ at_ = (nxt p.ts nx b).at_ ∧ ∀ j, j < p.ts.length → avail p.ts nx j → j = b ∨ dueLt (nxt p.ts nx b) (nxt p.ts nx j) = true := by
    rcases hsc with ⟨h1, _, _⟩ | h3
    · omega
    · exact h3
  clear hsc h
  have hnew := hinv.step hb1 hb2 (htk b hb1).2.1 hb4
  have hll2 := hnew.len_le
  rw [List.length_append] at hll2
  simp only [List.length_cons, List.length_nil] at hll2
  have hnl := hinv.len
  have hsm : nx.getD b 0 ≤ 1000 := by
    have h1 := hinv.le b hb1
    have h2 := (htk b hb1).2.2.2.2.1
    omega
  have e7 : IntKind.i64.wrap (((nx.getD b 0 : Nat) : Int) + 1) = ((nx.getD b 0 + 1 : Nat) : Int) := by rw [w64 (by omega)]; omega
  refine Sat.skip ?_
  simp only [thenK]
  (repeat refine Sat.seq ?_)
  (refine Sat.region_k fun k hk => ?_; simp -implicitDefEqProofs only [evr, id, reduceCtorEq, reduceIte, Nat.reduceMul, Nat.reduceAdd, Nat.reduceLT, Nat.reduceLeDiff, Nat.reduceEqDiff, Int.reduceLT, Int.reduceBEq, Int.reduceBNe, Nat.reduceBEq, planC, tsk_one, sh1, due_one, dueRow, tsk_0, tsk_1, tsk_2, tsk_3, tsk_4, tsk_5, tsk_6, due_0, due_1, due_2, evn])
  refine ⟨by omega, hb1, fun blk => ⟨⟨by unfold maxLen; omega, by omega⟩, fun a2 cap2 => ?_⟩⟩
  (refine hk _ ?_; clear hk k; try show Sat _ _ _ _ _)
  refine Sat.region_k fun k hk => ?_
  simp -implicitDefEqProofs only [evr, id, reduceCtorEq, reduceIte, Nat.reduceMul, Nat.reduceAdd, Nat.reduceLT, Nat.reduceLeDiff, Nat.reduceEqDiff, Int.reduceLT, Int.reduceBEq, Int.reduceBNe, Nat.reduceBEq, planC, tsk_one, sh1, due_one, dueRow, tsk_0, tsk_1, tsk_2, tsk_3, tsk_4, tsk_5, tsk_6, due_0, due_1, due_2, e7, evn]
  refine ⟨by omega, by omega, by omega, hb1, ?_⟩
  refine hk _ ?_
  simp only [thenK, blockK]
  refine ⟨(a2, cap2, l ++ [nxt p.ts nx b], nx.set b (nx.getD b 0 + 1)), hnew, by simp only [List.length_append, List.length_cons, List.length_nil]; omega, ?_⟩
  have ea := due_app l (nxt p.ts nx b)
  have es := rd_setN (nx := nx) (n := p.ts.length) (ix := b) (v := nx.getD b 0 + 1) rfl (by omega)
  simp only [List.length_append, List.length_cons, List.length_nil]
  simp -implicitDefEqProofs only [evr, id, reduceCtorEq, reduceIte, Nat.reduceMul, Nat.reduceAdd, Nat.reduceLT, Nat.reduceLeDiff, Nat.reduceEqDiff, Int.reduceLT, Int.reduceBEq, Int.reduceBNe, Nat.reduceBEq, planC, tsk_one, sh1, due_one, dueRow, tsk_0, tsk_1, tsk_2, tsk_3, tsk_4, tsk_5, tsk_6, due_0, due_1, due_2, evl, evn]
  repeat' (first | exact ea | exact es | rfl | (refine And.intro ?_ ?_))
set_option maxHeartbeats 2000000 in
set_option maxRecDepth 100000 in
theorem rfSentC (F : Frm) (p : PlanP) (hn : p.ts.length ≤ 1000) (hok : ∀ t ∈ p.ts, tskOk t) (hb : 0 ≤ p.burst ∧ p.burst ≤ 65536) (he : 0 ≤ p.every ∧ p.every ≤ 1073741824)
    (L : List Due) (hL : ∀ L', Sched L' p.ts → L' = L) (hat : ∀ d ∈ L, 0 ≤ d.at_ ∧ d.at_ ≤ 1125899906842624) (hlen : L.length ≤ 1000000) :
    Contract F Tryd.prog 19 [planS p] (fun r => ∃ a cap, r = .sl a (sentG p.burst p.every ⟨p.burst * p.every, 0⟩ L).length cap 3 (dueRd (sentG p.burst p.every ⟨p.burst * p.every, 0⟩ L).toArray)) := by
  have h0 : 0 ≤ p.burst * p.every := Int.mul_nonneg hb.1 he.1
  have h9 : p.burst * p.every ≤ 65536 * 1073741824 := Int.mul_le_mul hb.2 he.2 he.1 (by decide)
  refine contract_of Tryd.func19 rfl (by kernel_rfl) ?_
  simp only [Tryd.ntmps19, argEnv, planS, planC]
  (repeat refine Sat.seq ?_)
  (refine Sat.region_k fun k hk => ?_; simp -implicitDefEqProofs only [evr, id, reduceCtorEq, reduceIte, Nat.reduceMul, Nat.reduceAdd, Nat.reduceLT, Nat.reduceLeDiff, Nat.reduceEqDiff, Int.reduceLT, Int.reduceBEq, Int.reduceBNe, Nat.reduceBEq, planC, tsk_one, sh1, due_one, dueRow, tsk_0, tsk_1, tsk_2, tsk_3, tsk_4, tsk_5, tsk_6, due_0, due_1, due_2, evn])
  intro b1
  (refine hk _ ?_; clear hk k; try show Sat _ _ _ _ _)
  (repeat refine Sat.seq ?_)
  (refine Sat.region_k fun k hk => ?_; simp -implicitDefEqProofs only [evr, id, reduceCtorEq, reduceIte, Nat.reduceMul, Nat.reduceAdd, Nat.reduceLT, Nat.reduceLeDiff, Nat.reduceEqDiff, Int.reduceLT, Int.reduceBEq, Int.reduceBNe, Nat.reduceBEq, planC, tsk_one, sh1, due_one, dueRow, tsk_0, tsk_1, tsk_2, tsk_3, tsk_4, tsk_5, tsk_6, due_0, due_1, due_2, evn]; refine hk _ ?_; clear hk k; try show Sat _ _ _ _ _)
  (repeat refine Sat.seq ?_)
  (refine Sat.region_k fun k hk => ?_; simp -implicitDefEqProofs only [evr, id, reduceCtorEq, reduceIte, Nat.reduceMul, Nat.reduceAdd, Nat.reduceLT, Nat.reduceLeDiff, Nat.reduceEqDiff, Int.reduceLT, Int.reduceBEq, Int.reduceBNe, Nat.reduceBEq, planC, tsk_one, sh1, due_one, dueRow, tsk_0, tsk_1, tsk_2, tsk_3, tsk_4, tsk_5, tsk_6, due_0, due_1, due_2, evn])
  refine wcall_plain (rfFullC F p.burst p.every 0 hb he) rfl (by rintro _ rfl; exact ok_aggL (l := [SV.i .i64 _, .i .i64 _]) rfl) ?_
  rintro r rfl
  simp -implicitDefEqProofs only [evr, id, reduceCtorEq, reduceIte, Nat.reduceMul, Nat.reduceAdd, Nat.reduceLT, Nat.reduceLeDiff, Nat.reduceEqDiff, Int.reduceLT, Int.reduceBEq, Int.reduceBNe, Nat.reduceBEq, planC, tsk_one, sh1, due_one, dueRow, tsk_0, tsk_1, tsk_2, tsk_3, tsk_4, tsk_5, tsk_6, due_0, due_1, due_2, tokS, tokL, evn]
  intro b4
  (refine hk _ ?_; clear hk k; try show Sat _ _ _ _ _)
  (repeat refine Sat.seq ?_)
  (refine Sat.region_k fun k hk => ?_; simp -implicitDefEqProofs only [evr, id, reduceCtorEq, reduceIte, Nat.reduceMul, Nat.reduceAdd, Nat.reduceLT, Nat.reduceLeDiff, Nat.reduceEqDiff, Int.reduceLT, Int.reduceBEq, Int.reduceBNe, Nat.reduceBEq, planC, tsk_one, sh1, due_one, dueRow, tsk_0, tsk_1, tsk_2, tsk_3, tsk_4, tsk_5, tsk_6, due_0, due_1, due_2, evn])
  refine wcall_slice (rfAllC F p hn hok) rfl rfl ?_
  rintro r ⟨a, cap, L', hS, rfl⟩
  obtain rfl := hL _ hS
  simp -implicitDefEqProofs only [evr, id, reduceCtorEq, reduceIte, Nat.reduceMul, Nat.reduceAdd, Nat.reduceLT, Nat.reduceLeDiff, Nat.reduceEqDiff, Int.reduceLT, Int.reduceBEq, Int.reduceBNe, Nat.reduceBEq, planC, tsk_one, sh1, due_one, dueRow, tsk_0, tsk_1, tsk_2, tsk_3, tsk_4, tsk_5, tsk_6, due_0, due_1, due_2, evn]
  (refine hk _ ?_; clear hk k; try show Sat _ _ _ _ _)
  (repeat refine Sat.seq ?_)
  (refine Sat.region_k fun k hk => ?_; simp -implicitDefEqProofs only [evr, id, reduceCtorEq, reduceIte, Nat.reduceMul, Nat.reduceAdd, Nat.reduceLT, Nat.reduceLeDiff, Nat.reduceEqDiff, Int.reduceLT, Int.reduceBEq, Int.reduceBNe, Nat.reduceBEq, planC, tsk_one, sh1, due_one, dueRow, tsk_0, tsk_1, tsk_2, tsk_3, tsk_4, tsk_5, tsk_6, due_0, due_1, due_2, evn]; refine hk _ ?_; clear hk k; try show Sat _ _ _ _ _)
  refine Sat.adopt 3 36 3 (dueRd #[]) rfl ?_
  simp -implicitDefEqProofs only [evr, id, reduceCtorEq, reduceIte, Nat.reduceMul, Nat.reduceAdd, Nat.reduceLT, Nat.reduceLeDiff, Nat.reduceEqDiff, Int.reduceLT, Int.reduceBEq, Int.reduceBNe, Nat.reduceBEq, planC, tsk_one, sh1, due_one, dueRow, tsk_0, tsk_1, tsk_2, tsk_3, tsk_4, tsk_5, tsk_6, due_0, due_1, due_2, evn]
  (repeat refine Sat.seq ?_)
  refine Sat.block ?_
  refine Sat.loop (ι := Nat × Option Addr × Nat) (fun x => ⟨40, [(6, .i .i64 x.1), (5, .sl a L'.length cap 3 (dueRd L'.toArray)), (4, .op 1 b4 0), (3, .os 2 x.2.1 (sentG p.burst p.every ⟨p.burst * p.every, 0⟩ (L'.take x.1)).length x.2.2), (1, .op 0 b1 0)],
      [.box b1 28 [.sl p.a p.ts.length p.cap 7 (tskRd p.ts), .i .i64 p.burst, .i .i64 p.every], .box b4 75 (tokL (tokG p.burst p.every ⟨p.burst * p.every, 0⟩ (L'.take x.1))), dueRow x.2.1 (sentG p.burst p.every ⟨p.burst * p.every, 0⟩ (L'.take x.1)).length x.2.2 (sentG p.burst p.every ⟨p.burst * p.every, 0⟩ (L'.take x.1)).toArray]⟩)
    (fun x => x.1 ≤ L'.length) (fun x => L'.length - x.1) (0, none, 0) (Nat.zero_le _) (by
      simp only [List.take_zero, tokG, tokL, sentG]
      simp -implicitDefEqProofs only [evr, id, reduceCtorEq, reduceIte, Nat.reduceMul, Nat.reduceAdd, Nat.reduceLT, Nat.reduceLeDiff, Nat.reduceEqDiff, Int.reduceLT, Int.reduceBEq, Int.reduceBNe, Nat.reduceBEq, planC, tsk_one, sh1, due_one, dueRow, tsk_0, tsk_1, tsk_2, tsk_3, tsk_4, tsk_5, tsk_6, due_0, due_1, due_2, evl, evn]
      repeat' (first | rfl | (refine And.intro ?_ ?_) | exact (fun i j hi => absurd hi (Nat.not_lt_zero _)))) ?_
  rintro ⟨i, xa, xc⟩ hi
  simp only [tokL] at hi ⊢
  (repeat refine Sat.seq ?_)
  (refine Sat.region_k fun k hk => ?_; simp -implicitDefEqProofs only [evr, id, reduceCtorEq, reduceIte, Nat.reduceMul, Nat.reduceAdd, Nat.reduceLT, Nat.reduceLeDiff, Nat.reduceEqDiff, Int.reduceLT, Int.reduceBEq, Int.reduceBNe, Nat.reduceBEq, planC, tsk_one, sh1, due_one, dueRow, tsk_0, tsk_1, tsk_2, tsk_3, tsk_4, tsk_5, tsk_6, due_0, due_1, due_2, evn]; refine hk _ ?_; clear hk k; try show Sat _ _ _ _ _)
  (repeat refine Sat.seq ?_)
  refine Sat.cond_b rfl (fun h => ?_) (fun h => ?_)
  · have h1 : i < L'.length := by simp only [decide_eq_true_eq] at h; omega
    clear h
    have e3 : IntKind.i64.wrap ((i : Int) + 1) = ((i + 1 : Nat) : Int) := by rw [w64 (by omega)]; omega
    have hdi : L'.toArray[i]! = L'[i] := by simp [getElem!_def, h1]
    have hmem : L'[i] ∈ L' := List.getElem_mem _
    have htk : L'.take (i + 1) = L'.take i ++ [L'[i]] := by rw [List.take_add_one, List.getElem?_eq_getElem h1]; rfl
    have hT := tokG_ok hb he ⟨p.burst * p.every, 0⟩ (L'.take i) ⟨h0, by dsimp only; omega, (show (0 : Int) ≤ 0 by decide), (show (0 : Int) ≤ 1125899906842624 by decide)⟩ (fun d hd => hat d (List.mem_of_mem_take hd))
    have hbe := (tokG_be hb.1 he.1 ⟨p.burst * p.every, 0⟩ (L'.take i) ⟨h0, Int.le_refl _⟩).2
    have htok := tokG_app p.burst p.every ⟨p.burst * p.every, 0⟩ (L'.take i) L'[i]
    have hsnt := sentG_app p.burst p.every ⟨p.burst * p.every, 0⟩ (L'.take i) L'[i]
    rw [← htk] at htok hsnt
    have hpl : (sentG p.burst p.every ⟨p.burst * p.every, 0⟩ (L'.take i)).length < L'.length := by
      have := sentG_len p.burst p.every ⟨p.burst * p.every, 0⟩ (L'.take i)
      rw [List.length_take] at this
      omega
    have hda := hat _ hmem
    generalize L'[i] = d at hdi hmem htok hsnt hda
    generalize hpre : sentG p.burst p.every ⟨p.burst * p.every, 0⟩ (L'.take i) = pre at hsnt hpl ⊢
    generalize tokG p.burst p.every ⟨p.burst * p.every, 0⟩ (L'.take i) = T at hT hbe htok hsnt ⊢
    have tkC := rfTakeC F p.burst p.every T d.at_ hb he hT hbe hda
    refine Sat.skip ?_
    simp only [thenK]
    (repeat refine Sat.seq ?_)
    refine Sat.block ?_
    (repeat refine Sat.seq ?_)
    (refine Sat.region_k fun k hk => ?_; simp -implicitDefEqProofs only [evr, id, reduceCtorEq, reduceIte, Nat.reduceMul, Nat.reduceAdd, Nat.reduceLT, Nat.reduceLeDiff, Nat.reduceEqDiff, Int.reduceLT, Int.reduceBEq, Int.reduceBNe, Nat.reduceBEq, planC, tsk_one, sh1, due_one, dueRow, tsk_0, tsk_1, tsk_2, tsk_3, tsk_4, tsk_5, tsk_6, due_0, due_1, due_2, evn]; refine hk _ ?_; clear hk k; try show Sat _ _ _ _ _)
    (repeat refine Sat.seq ?_)
    (refine Sat.region_rows [⟨0, 21, 2, 0⟩, ⟨1, 22, 1048576, 1⟩, ⟨0, 23, 16, 1⟩, ⟨0, 24, 32, 0⟩, ⟨0, 25, 64, 0⟩, ⟨24, 26, 25165824, 0⟩, ⟨32, 27, 33554432, 0⟩, ⟨64, 28, 67108864, 1⟩, ⟨134, 29, 140509184, 2⟩, ⟨256, 20, 268435456, 0⟩, ⟨512, 30, 524288, 0⟩, ⟨512, 31, 524288, 0⟩, ⟨2047, 0, 536870928, 2⟩, ⟨8191, 8, 1073741824, 0⟩] [0, 3, 4, 5, 6, 1, 2, 7] [(8, false), (9, false), (10, true), (11, true), (12, false), (13, false)] [] (by kernel_rfl) (by kernel_rfl) (fun _ _ h => h) fun k hk => ?_; simp only [List.map_cons, List.map_nil, List.getD_cons_zero, List.getD_cons_succ, btseq_cons, btseq_free, btseq_nil]; simp -implicitDefEqProofs only [evr, id, reduceCtorEq, reduceIte, Nat.reduceMul, Nat.reduceAdd, Nat.reduceLT, Nat.reduceLeDiff, Nat.reduceEqDiff, Int.reduceLT, Int.reduceBEq, Int.reduceBNe, Nat.reduceBEq, planC, tsk_one, sh1, due_one, dueRow, tsk_0, tsk_1, tsk_2, tsk_3, tsk_4, tsk_5, tsk_6, due_0, due_1, due_2, evn])
    refine ⟨by omega, ?_⟩
    simp only [hdi]
    refine wcall_plain tkC rfl (by rintro _ rfl; intro R w j hj; rcases (show j = 0 ∨ j = 1 by omega) with rfl | rfl; exact ok_aggL (l := [SV.i .i64 _, .i .i64 _]) rfl R w; trivial) ?_
    rintro r rfl
    simp -implicitDefEqProofs only [evr, id, reduceCtorEq, reduceIte, Nat.reduceMul, Nat.reduceAdd, Nat.reduceLT, Nat.reduceLeDiff, Nat.reduceEqDiff, Int.reduceLT, Int.reduceBEq, Int.reduceBNe, Nat.reduceBEq, planC, tsk_one, sh1, due_one, dueRow, tsk_0, tsk_1, tsk_2, tsk_3, tsk_4, tsk_5, tsk_6, due_0, due_1, due_2, tokS, tokL, evn]
    (refine hk _ ?_; clear hk k; try show Sat _ _ _ _ _)
    generalize hB : (takeF p.burst p.every T d.at_).2 = B at hsnt ⊢
    generalize (takeF p.burst p.every T d.at_).1 = T2 at htok ⊢
    (repeat refine Sat.seq ?_)
    (refine Sat.region_k fun k hk => ?_; simp -implicitDefEqProofs only [evr, id, reduceCtorEq, reduceIte, Nat.reduceMul, Nat.reduceAdd, Nat.reduceLT, Nat.reduceLeDiff, Nat.reduceEqDiff, Int.reduceLT, Int.reduceBEq, Int.reduceBNe, Nat.reduceBEq, planC, tsk_one, sh1, due_one, dueRow, tsk_0, tsk_1, tsk_2, tsk_3, tsk_4, tsk_5, tsk_6, due_0, due_1, due_2, evn]; refine hk _ ?_; clear hk k; try show Sat _ _ _ _ _)
    refine Sat.cond_b rfl (fun h2 => ?_) (fun h2 => ?_)
    · rw [if_pos h2] at hsnt
      refine Sat.region_k fun k hk => ?_
      simp -implicitDefEqProofs only [evr, id, reduceCtorEq, reduceIte, Nat.reduceMul, Nat.reduceAdd, Nat.reduceLT, Nat.reduceLeDiff, Nat.reduceEqDiff, Int.reduceLT, Int.reduceBEq, Int.reduceBNe, Nat.reduceBEq, planC, tsk_one, sh1, due_one, dueRow, tsk_0, tsk_1, tsk_2, tsk_3, tsk_4, tsk_5, tsk_6, due_0, due_1, due_2, hdi, evn]
      refine ⟨by omega, fun blk => ⟨⟨by unfold maxLen; omega, by omega⟩, fun a2 cap2 => ?_⟩⟩
      refine hk _ ?_
      clear hk k
      simp only [thenK, blockK]
      refine Sat.region_k fun k hk => ?_
      simp -implicitDefEqProofs only [evr, id, reduceCtorEq, reduceIte, Nat.reduceMul, Nat.reduceAdd, Nat.reduceLT, Nat.reduceLeDiff, Nat.reduceEqDiff, Int.reduceLT, Int.reduceBEq, Int.reduceBNe, Nat.reduceBEq, planC, tsk_one, sh1, due_one, dueRow, tsk_0, tsk_1, tsk_2, tsk_3, tsk_4, tsk_5, tsk_6, due_0, due_1, due_2, e3, evn]
      refine hk _ ?_
      simp only [thenK, blockK]
      refine ⟨(i + 1, a2, cap2), by show i + 1 ≤ _; omega, by show _ - (i + 1) < _ - i; omega, ?_⟩
      have ea := due_app pre d
      simp only [hsnt, htok, tokL, List.length_append, List.length_cons, List.length_nil]
      simp -implicitDefEqProofs only [evr, id, reduceCtorEq, reduceIte, Nat.reduceMul, Nat.reduceAdd, Nat.reduceLT, Nat.reduceLeDiff, Nat.reduceEqDiff, Int.reduceLT, Int.reduceBEq, Int.reduceBNe, Nat.reduceBEq, planC, tsk_one, sh1, due_one, dueRow, tsk_0, tsk_1, tsk_2, tsk_3, tsk_4, tsk_5, tsk_6, due_0, due_1, due_2, evl, evn]
      repeat' (first | exact ea | rfl | (refine And.intro ?_ ?_))
    · rw [if_neg (by rw [h2]; decide), List.append_nil] at hsnt
      refine Sat.skip ?_
      simp only [thenK, blockK]
      refine Sat.region_k fun k hk => ?_
      simp -implicitDefEqProofs only [evr, id, reduceCtorEq, reduceIte, Nat.reduceMul, Nat.reduceAdd, Nat.reduceLT, Nat.reduceLeDiff, Nat.reduceEqDiff, Int.reduceLT, Int.reduceBEq, Int.reduceBNe, Nat.reduceBEq, planC, tsk_one, sh1, due_one, dueRow, tsk_0, tsk_1, tsk_2, tsk_3, tsk_4, tsk_5, tsk_6, due_0, due_1, due_2, e3, evn]
      refine hk _ ?_
      simp only [thenK, blockK]
      refine ⟨(i + 1, xa, xc), by show i + 1 ≤ _; omega, by show _ - (i + 1) < _ - i; omega, ?_⟩
      simp only [hsnt, htok, tokL]
      simp -implicitDefEqProofs only [evr, id, reduceCtorEq, reduceIte, Nat.reduceMul, Nat.reduceAdd, Nat.reduceLT, Nat.reduceLeDiff, Nat.reduceEqDiff, Int.reduceLT, Int.reduceBEq, Int.reduceBNe, Nat.reduceBEq, planC, tsk_one, sh1, due_one, dueRow, tsk_0, tsk_1, tsk_2, tsk_3, tsk_4, tsk_5, tsk_6, due_0, due_1, due_2, evl, evn]
      repeat' (first | rfl | (refine And.intro ?_ ?_))
  · have h1 : i = L'.length := by simp only [decide_eq_false_iff_not] at h; omega
    subst h1
    refine Sat.exit ?_
    simp only [thenK, blockK, reduceIte, List.take_length]
    (repeat refine Sat.seq ?_)
    (refine Sat.region_k fun k hk => ?_; simp -implicitDefEqProofs only [evr, id, reduceCtorEq, reduceIte, Nat.reduceMul, Nat.reduceAdd, Nat.reduceLT, Nat.reduceLeDiff, Nat.reduceEqDiff, Int.reduceLT, Int.reduceBEq, Int.reduceBNe, Nat.reduceBEq, planC, tsk_one, sh1, due_one, dueRow, tsk_0, tsk_1, tsk_2, tsk_3, tsk_4, tsk_5, tsk_6, due_0, due_1, due_2, evn]; refine hk _ ?_; clear hk k; try show Sat _ _ _ _ _)
    refine Sat.ret ?_
    simp only [Tryd.results19, evr, id, reduceCtorEq, reduceIte, Nat.reduceMul, Nat.reduceAdd, Nat.reduceLT, Nat.reduceLeDiff, Nat.reduceEqDiff, Int.reduceLT, Int.reduceBEq, Int.reduceBNe, Nat.reduceBEq, List.append_nil, Int.toNat_zero, Nat.sub_self, planC, tsk_one, sh1, due_one, dueRow, tsk_0, tsk_1, tsk_2, tsk_3, tsk_4, tsk_5, tsk_6, due_0, due_1, due_2]
    exact ⟨xa, xc, rfl⟩
set_option maxRecDepth 100000 in
theorem rfSkippedC (F : Frm) (p : PlanP) (hn : p.ts.length ≤ 1000) (hok : ∀ t ∈ p.ts, tskOk t) (hb : 0 ≤ p.burst ∧ p.burst ≤ 65536) (he : 0 ≤ p.every ∧ p.every ≤ 1073741824)
    (L : List Due) (hL : ∀ L', Sched L' p.ts → L' = L) (hat : ∀ d ∈ L, 0 ≤ d.at_ ∧ d.at_ ≤ 1125899906842624) (hlen : L.length ≤ 1000000) :
    Contract F Tryd.prog 20 [planS p] (fun r => r = .i .i64 ((L.length : Int) - (sentG p.burst p.every ⟨p.burst * p.every, 0⟩ L).length)) := by
  have hs := (sentG_sub p.burst p.every ⟨p.burst * p.every, 0⟩ L).length_le
  have e1 : IntKind.i64.wrap ((L.length : Int) - (sentG p.burst p.every ⟨p.burst * p.every, 0⟩ L).length) = (L.length : Int) - (sentG p.burst p.every ⟨p.burst * p.every, 0⟩ L).length := w64 (by omega)
  refine contract_of Tryd.func20 rfl (by kernel_rfl) ?_
  simp only [Tryd.ntmps20, argEnv, planS, planC]
  (repeat refine Sat.seq ?_)
  (refine Sat.region_k fun k hk => ?_; simp -implicitDefEqProofs only [evr, id, reduceCtorEq, reduceIte, Nat.reduceMul, Nat.reduceAdd, Nat.reduceLT, Nat.reduceLeDiff, Nat.reduceEqDiff, Int.reduceLT, Int.reduceBEq, Int.reduceBNe, Nat.reduceBEq, planC, tsk_one, sh1, due_one, dueRow, tsk_0, tsk_1, tsk_2, tsk_3, tsk_4, tsk_5, tsk_6, due_0, due_1, due_2, evn])
  intro b1
  (refine hk _ ?_; clear hk k; try show Sat _ _ _ _ _)
  (repeat refine Sat.seq ?_)
  (refine Sat.region_rows [⟨0, 4, 2, 1⟩, ⟨1, 5, 8, 2⟩, ⟨2, 6, 16, 0⟩, ⟨0, 7, 2, 1⟩, ⟨10, 8, 64, 2⟩, ⟨16, 9, 128, 0⟩, ⟨36, 10, 288, 0⟩, ⟨127, 3, 512, 0⟩] [0, 3] [(1, false), (2, true), (4, false), (5, false), (6, false), (7, false)] [1, 2] (by kernel_rfl) (by kernel_rfl) (fun _ _ h => h) fun k hk => ?_; simp only [List.map_cons, List.map_nil, List.getD_cons_zero, List.getD_cons_succ, btseq_cons, btseq_free, btseq_nil]; simp -implicitDefEqProofs only [evr, id, reduceCtorEq, reduceIte, Nat.reduceMul, Nat.reduceAdd, Nat.reduceLT, Nat.reduceLeDiff, Nat.reduceEqDiff, Int.reduceLT, Int.reduceBEq, Int.reduceBNe, Nat.reduceBEq, planC, tsk_one, sh1, due_one, dueRow, tsk_0, tsk_1, tsk_2, tsk_3, tsk_4, tsk_5, tsk_6, due_0, due_1, due_2, evn])
  refine wcall_slice (rfAllC F p hn hok) rfl rfl ?_
  rintro r ⟨a, cap, L', hS, rfl⟩
  obtain rfl := hL _ hS
  simp -implicitDefEqProofs only [evr, id, reduceCtorEq, reduceIte, Nat.reduceMul, Nat.reduceAdd, Nat.reduceLT, Nat.reduceLeDiff, Nat.reduceEqDiff, Int.reduceLT, Int.reduceBEq, Int.reduceBNe, Nat.reduceBEq, planC, tsk_one, sh1, due_one, dueRow, tsk_0, tsk_1, tsk_2, tsk_3, tsk_4, tsk_5, tsk_6, due_0, due_1, due_2, evn]
  refine wcall_slice (rfSentC F p hn hok hb he L' hL hat hlen) rfl rfl ?_
  rintro r ⟨a2, cap2, rfl⟩
  simp -implicitDefEqProofs only [evr, id, reduceCtorEq, reduceIte, Nat.reduceMul, Nat.reduceAdd, Nat.reduceLT, Nat.reduceLeDiff, Nat.reduceEqDiff, Int.reduceLT, Int.reduceBEq, Int.reduceBNe, Nat.reduceBEq, planC, tsk_one, sh1, due_one, dueRow, tsk_0, tsk_1, tsk_2, tsk_3, tsk_4, tsk_5, tsk_6, due_0, due_1, due_2, e1, evn]
  (refine hk _ ?_; clear hk k; try show Sat _ _ _ _ _)
  refine Sat.ret ?_
  simp only [Tryd.results20, evr, id, reduceCtorEq, reduceIte, Nat.reduceMul, Nat.reduceAdd, Nat.reduceLT, Nat.reduceLeDiff, Nat.reduceEqDiff, Int.reduceLT, Int.reduceBEq, Int.reduceBNe, Nat.reduceBEq, List.append_nil, Int.toNat_zero, Nat.sub_self, planC, tsk_one, sh1, due_one, dueRow, tsk_0, tsk_1, tsk_2, tsk_3, tsk_4, tsk_5, tsk_6, due_0, due_1, due_2]
theorem fil_app {lo hi : Int} (S : List Due) (i : Nat) (h : i < S.length) : (S.take (i + 1)).filter (fun d => decide (d.at_ ≥ lo ∧ d.at_ < hi)) = (S.take i).filter (fun d => decide (d.at_ ≥ lo ∧ d.at_ < hi)) ++ if S[i].at_ ≥ lo ∧ S[i].at_ < hi then [S[i]] else [] := by
  have htk : S.take (i + 1) = S.take i ++ [S[i]] := by rw [List.take_add_one, List.getElem?_eq_getElem h]; rfl
  rw [htk, List.filter_append]
  by_cases c : S[i].at_ ≥ lo ∧ S[i].at_ < hi
  · rw [if_pos c, List.filter_cons_of_pos (by rw [decide_eq_true_eq]; exact c)]
    rfl
  · rw [if_neg c, List.filter_cons_of_neg (by rw [decide_eq_true_eq]; exact c)]
    rfl
set_option maxHeartbeats 2000000 in
set_option maxRecDepth 100000 in
theorem rfBetweenC (F : Frm) (p : PlanP) (lo hi : Int) (hn : p.ts.length ≤ 1000) (hok : ∀ t ∈ p.ts, tskOk t) (hb : 0 ≤ p.burst ∧ p.burst ≤ 65536) (he : 0 ≤ p.every ∧ p.every ≤ 1073741824)
    (L : List Due) (hL : ∀ L', Sched L' p.ts → L' = L) (hat : ∀ d ∈ L, 0 ≤ d.at_ ∧ d.at_ ≤ 1125899906842624) (hlen : L.length ≤ 1000000) (hby : ByAt L) :
    Contract F Tryd.prog 22 [planS p, .i .i64 lo, .i .i64 hi] (fun r => ∃ a cap, r = .sl a (btw lo hi (sentG p.burst p.every ⟨p.burst * p.every, 0⟩ L)).length cap 3 (dueRd (btw lo hi (sentG p.burst p.every ⟨p.burst * p.every, 0⟩ L)).toArray)) := by
  have snC := rfSentC F p hn hok hb he L hL hat hlen
  have hsub := sentG_sub p.burst p.every ⟨p.burst * p.every, 0⟩ L
  have hSl := hsub.length_le
  rw [btw_filter (List.Pairwise.sublist hsub hby)]
  generalize sentG p.burst p.every ⟨p.burst * p.every, 0⟩ L = S at snC hSl ⊢
  refine contract_of Tryd.func22 rfl (by kernel_rfl) ?_
  simp only [Tryd.ntmps22, argEnv, planS, planC]
  (repeat refine Sat.seq ?_)
  (refine Sat.region_k fun k hk => ?_; simp -implicitDefEqProofs only [evr, id, reduceCtorEq, reduceIte, Nat.reduceMul, Nat.reduceAdd, Nat.reduceLT, Nat.reduceLeDiff, Nat.reduceEqDiff, Int.reduceLT, Int.reduceBEq, Int.reduceBNe, Nat.reduceBEq, planC, tsk_one, sh1, due_one, dueRow, tsk_0, tsk_1, tsk_2, tsk_3, tsk_4, tsk_5, tsk_6, due_0, due_1, due_2, evn])
  intro b1
  (refine hk _ ?_; clear hk k; try show Sat _ _ _ _ _)
  (repeat refine Sat.seq ?_)
  (refine Sat.region_k fun k hk => ?_; simp -implicitDefEqProofs only [evr, id, reduceCtorEq, reduceIte, Nat.reduceMul, Nat.reduceAdd, Nat.reduceLT, Nat.reduceLeDiff, Nat.reduceEqDiff, Int.reduceLT, Int.reduceBEq, Int.reduceBNe, Nat.reduceBEq, planC, tsk_one, sh1, due_one, dueRow, tsk_0, tsk_1, tsk_2, tsk_3, tsk_4, tsk_5, tsk_6, due_0, due_1, due_2, evn]; refine hk _ ?_; clear hk k; try show Sat _ _ _ _ _)
  (repeat refine Sat.seq ?_)
  (refine Sat.region_k fun k hk => ?_; simp -implicitDefEqProofs only [evr, id, reduceCtorEq, reduceIte, Nat.reduceMul, Nat.reduceAdd, Nat.reduceLT, Nat.reduceLeDiff, Nat.reduceEqDiff, Int.reduceLT, Int.reduceBEq, Int.reduceBNe, Nat.reduceBEq, planC, tsk_one, sh1, due_one, dueRow, tsk_0, tsk_1, tsk_2, tsk_3, tsk_4, tsk_5, tsk_6, due_0, due_1, due_2, evn])
  refine wcall_slice snC rfl rfl ?_
  rintro r ⟨a, cap, rfl⟩
  simp -implicitDefEqProofs only [evr, id, reduceCtorEq, reduceIte, Nat.reduceMul, Nat.reduceAdd, Nat.reduceLT, Nat.reduceLeDiff, Nat.reduceEqDiff, Int.reduceLT, Int.reduceBEq, Int.reduceBNe, Nat.reduceBEq, planC, tsk_one, sh1, due_one, dueRow, tsk_0, tsk_1, tsk_2, tsk_3, tsk_4, tsk_5, tsk_6, due_0, due_1, due_2, evn]
  (refine hk _ ?_; clear hk k; try show Sat _ _ _ _ _)
  (repeat refine Sat.seq ?_)
  (refine Sat.region_k fun k hk => ?_; simp -implicitDefEqProofs only [evr, id, reduceCtorEq, reduceIte, Nat.reduceMul, Nat.reduceAdd, Nat.reduceLT, Nat.reduceLeDiff, Nat.reduceEqDiff, Int.reduceLT, Int.reduceBEq, Int.reduceBNe, Nat.reduceBEq, planC, tsk_one, sh1, due_one, dueRow, tsk_0, tsk_1, tsk_2, tsk_3, tsk_4, tsk_5, tsk_6, due_0, due_1, due_2, evn]; refine hk _ ?_; clear hk k; try show Sat _ _ _ _ _)
  refine Sat.adopt 7 36 3 (dueRd #[]) rfl ?_
  simp -implicitDefEqProofs only [evr, id, reduceCtorEq, reduceIte, Nat.reduceMul, Nat.reduceAdd, Nat.reduceLT, Nat.reduceLeDiff, Nat.reduceEqDiff, Int.reduceLT, Int.reduceBEq, Int.reduceBNe, Nat.reduceBEq, planC, tsk_one, sh1, due_one, dueRow, tsk_0, tsk_1, tsk_2, tsk_3, tsk_4, tsk_5, tsk_6, due_0, due_1, due_2, evn]
  (repeat refine Sat.seq ?_)
  refine Sat.block ?_
  refine Sat.loop (ι := Nat × Option Addr × Nat) (fun x => ⟨42, [(9, .i .i64 x.1), (8, .sl a S.length cap 3 (dueRd S.toArray)), (7, .os 1 x.2.1 ((S.take x.1).filter fun d => decide (d.at_ ≥ lo ∧ d.at_ < hi)).length x.2.2), (2, .i .i64 hi), (1, .i .i64 lo)],
      [.gone, dueRow x.2.1 ((S.take x.1).filter fun d => decide (d.at_ ≥ lo ∧ d.at_ < hi)).length x.2.2 ((S.take x.1).filter fun d => decide (d.at_ ≥ lo ∧ d.at_ < hi)).toArray]⟩)
    (fun x => x.1 ≤ S.length) (fun x => S.length - x.1) (0, none, 0) (Nat.zero_le _) (by
      simp only [List.take_zero, List.filter_nil]
      simp -implicitDefEqProofs only [evr, id, reduceCtorEq, reduceIte, Nat.reduceMul, Nat.reduceAdd, Nat.reduceLT, Nat.reduceLeDiff, Nat.reduceEqDiff, Int.reduceLT, Int.reduceBEq, Int.reduceBNe, Nat.reduceBEq, planC, tsk_one, sh1, due_one, dueRow, tsk_0, tsk_1, tsk_2, tsk_3, tsk_4, tsk_5, tsk_6, due_0, due_1, due_2, evl, evn]
      repeat' (first | rfl | (refine And.intro ?_ ?_) | exact (fun i j hi => absurd hi (Nat.not_lt_zero _)))) ?_
  rintro ⟨i, xa, xc⟩ hil
  simp only at hil ⊢
  (repeat refine Sat.seq ?_)
  (refine Sat.region_k fun k hk => ?_; simp -implicitDefEqProofs only [evr, id, reduceCtorEq, reduceIte, Nat.reduceMul, Nat.reduceAdd, Nat.reduceLT, Nat.reduceLeDiff, Nat.reduceEqDiff, Int.reduceLT, Int.reduceBEq, Int.reduceBNe, Nat.reduceBEq, planC, tsk_one, sh1, due_one, dueRow, tsk_0, tsk_1, tsk_2, tsk_3, tsk_4, tsk_5, tsk_6, due_0, due_1, due_2, evn]; refine hk _ ?_; clear hk k; try show Sat _ _ _ _ _)
  (repeat refine Sat.seq ?_)
  refine Sat.cond_b rfl (fun h => ?_) (fun h => ?_)
  · have h1 : i < S.length := by simp only [decide_eq_true_eq] at h; omega
    clear h
    have e3 : IntKind.i64.wrap ((i : Int) + 1) = ((i + 1 : Nat) : Int) := by rw [w64 (by omega)]; omega
    have hdi : S.toArray[i]! = S[i] := by simp [getElem!_def, h1]
    have hfa := fil_app (lo := lo) (hi := hi) S i h1
    have hpl : ((S.take i).filter fun d => decide (d.at_ ≥ lo ∧ d.at_ < hi)).length ≤ S.length := Nat.le_trans (List.length_filter_le _ _) (by rw [List.length_take]; omega)
    generalize S[i] = d at hdi hfa
    generalize hpre : (S.take i).filter (fun d => decide (d.at_ ≥ lo ∧ d.at_ < hi)) = pre at hfa hpl ⊢
    refine Sat.skip ?_
    simp only [thenK]
    (repeat refine Sat.seq ?_)
    refine Sat.block ?_
    (repeat refine Sat.seq ?_)
    refine Sat.region_at ⟨42, [(33, .b (decide (d.at_ ≥ lo ∧ d.at_ < hi))), (9, .i .i64 i), (8, .sl a S.length cap 3 (dueRd S.toArray)), (7, .os 1 xa pre.length xc), (2, .i .i64 hi), (1, .i .i64 lo)], [.gone, dueRow xa pre.length xc pre.toArray]⟩ (fun k hk => ?_) ?_
    · simp -implicitDefEqProofs only [evr, id, reduceCtorEq, reduceIte, Nat.reduceMul, Nat.reduceAdd, Nat.reduceLT, Nat.reduceLeDiff, Nat.reduceEqDiff, Int.reduceLT, Int.reduceBEq, Int.reduceBNe, Nat.reduceBEq, planC, tsk_one, sh1, due_one, dueRow, tsk_0, tsk_1, tsk_2, tsk_3, tsk_4, tsk_5, tsk_6, due_0, due_1, due_2, hdi, evn]
      refine ⟨by omega, fun c1 => ⟨by omega, ?_⟩, fun c1 => ?_⟩
      · have e9 : decide (d.at_ ≥ lo ∧ d.at_ < hi) = decide (d.at_ < hi) := by
          apply Bool.eq_iff_iff.2
          simp only [decide_eq_true_eq]
          omega
        refine hk _ ?_
        simp only [e9]
        simp -implicitDefEqProofs only [evr, id, reduceCtorEq, reduceIte, Nat.reduceMul, Nat.reduceAdd, Nat.reduceLT, Nat.reduceLeDiff, Nat.reduceEqDiff, Int.reduceLT, Int.reduceBEq, Int.reduceBNe, Nat.reduceBEq, planC, tsk_one, sh1, due_one, dueRow, tsk_0, tsk_1, tsk_2, tsk_3, tsk_4, tsk_5, tsk_6, due_0, due_1, due_2, evl, evn]
        repeat' (first | rfl | (refine And.intro ?_ ?_))
      · have e9 : decide (d.at_ ≥ lo ∧ d.at_ < hi) = false := decide_eq_false (by omega)
        refine hk _ ?_
        simp only [e9]
        simp -implicitDefEqProofs only [evr, id, reduceCtorEq, reduceIte, Nat.reduceMul, Nat.reduceAdd, Nat.reduceLT, Nat.reduceLeDiff, Nat.reduceEqDiff, Int.reduceLT, Int.reduceBEq, Int.reduceBNe, Nat.reduceBEq, planC, tsk_one, sh1, due_one, dueRow, tsk_0, tsk_1, tsk_2, tsk_3, tsk_4, tsk_5, tsk_6, due_0, due_1, due_2, evl, evn]
        repeat' (first | rfl | (refine And.intro ?_ ?_))
    refine Sat.cond_b rfl (fun h2 => ?_) (fun h2 => ?_)
    · rw [if_pos (of_decide_eq_true h2)] at hfa
      refine Sat.region_k fun k hk => ?_
      simp -implicitDefEqProofs only [evr, id, reduceCtorEq, reduceIte, Nat.reduceMul, Nat.reduceAdd, Nat.reduceLT, Nat.reduceLeDiff, Nat.reduceEqDiff, Int.reduceLT, Int.reduceBEq, Int.reduceBNe, Nat.reduceBEq, planC, tsk_one, sh1, due_one, dueRow, tsk_0, tsk_1, tsk_2, tsk_3, tsk_4, tsk_5, tsk_6, due_0, due_1, due_2, hdi, evn]
      refine ⟨by omega, fun blk => ⟨⟨by unfold maxLen; omega, by omega⟩, fun a2 cap2 => ?_⟩⟩
      refine hk _ ?_
      clear hk k
      simp only [thenK, blockK]
      refine Sat.region_k fun k hk => ?_
      simp -implicitDefEqProofs only [evr, id, reduceCtorEq, reduceIte, Nat.reduceMul, Nat.reduceAdd, Nat.reduceLT, Nat.reduceLeDiff, Nat.reduceEqDiff, Int.reduceLT, Int.reduceBEq, Int.reduceBNe, Nat.reduceBEq, planC, tsk_one, sh1, due_one, dueRow, tsk_0, tsk_1, tsk_2, tsk_3, tsk_4, tsk_5, tsk_6, due_0, due_1, due_2, e3, evn]
      refine hk _ ?_
      simp only [thenK, blockK]
      refine ⟨(i + 1, a2, cap2), by show i + 1 ≤ _; omega, by show _ - (i + 1) < _ - i; omega, ?_⟩
      have ea := due_app pre d
      simp only [hfa, List.length_append, List.length_cons, List.length_nil]
      simp -implicitDefEqProofs only [evr, id, reduceCtorEq, reduceIte, Nat.reduceMul, Nat.reduceAdd, Nat.reduceLT, Nat.reduceLeDiff, Nat.reduceEqDiff, Int.reduceLT, Int.reduceBEq, Int.reduceBNe, Nat.reduceBEq, planC, tsk_one, sh1, due_one, dueRow, tsk_0, tsk_1, tsk_2, tsk_3, tsk_4, tsk_5, tsk_6, due_0, due_1, due_2, evl, evn]
      repeat' (first | exact ea | rfl | (refine And.intro ?_ ?_))
    · rw [if_neg (of_decide_eq_false h2), List.append_nil] at hfa
      refine Sat.skip ?_
      simp only [thenK, blockK]
      refine Sat.region_k fun k hk => ?_
      simp -implicitDefEqProofs only [evr, id, reduceCtorEq, reduceIte, Nat.reduceMul, Nat.reduceAdd, Nat.reduceLT, Nat.reduceLeDiff, Nat.reduceEqDiff, Int.reduceLT, Int.reduceBEq, Int.reduceBNe, Nat.reduceBEq, planC, tsk_one, sh1, due_one, dueRow, tsk_0, tsk_1, tsk_2, tsk_3, tsk_4, tsk_5, tsk_6, due_0, due_1, due_2, e3, evn]
      refine hk _ ?_
      simp only [thenK, blockK]
      refine ⟨(i + 1, xa, xc), by show i + 1 ≤ _; omega, by show _ - (i + 1) < _ - i; omega, ?_⟩
      simp only [hfa]
      simp -implicitDefEqProofs only [evr, id, reduceCtorEq, reduceIte, Nat.reduceMul, Nat.reduceAdd, Nat.reduceLT, Nat.reduceLeDiff, Nat.reduceEqDiff, Int.reduceLT, Int.reduceBEq, Int.reduceBNe, Nat.reduceBEq, planC, tsk_one, sh1, due_one, dueRow, tsk_0, tsk_1, tsk_2, tsk_3, tsk_4, tsk_5, tsk_6, due_0, due_1, due_2, evl, evn]
      repeat' (first | rfl | (refine And.intro ?_ ?_))
  · have h1 : i = S.length := by simp only [decide_eq_false_iff_not] at h; omega
    subst h1
    refine Sat.exit ?_
    simp only [thenK, blockK, reduceIte, List.take_length]
    (repeat refine Sat.seq ?_)
    (refine Sat.region_k fun k hk => ?_; simp -implicitDefEqProofs only [evr, id, reduceCtorEq, reduceIte, Nat.reduceMul, Nat.reduceAdd, Nat.reduceLT, Nat.reduceLeDiff, Nat.reduceEqDiff, Int.reduceLT, Int.reduceBEq, Int.reduceBNe, Nat.reduceBEq, planC, tsk_one, sh1, due_one, dueRow, tsk_0, tsk_1, tsk_2, tsk_3, tsk_4, tsk_5, tsk_6, due_0, due_1, due_2, evn]; refine hk _ ?_; clear hk k; try show Sat _ _ _ _ _)
    refine Sat.ret ?_
    simp only [Tryd.results22, evr, id, reduceCtorEq, reduceIte, Nat.reduceMul, Nat.reduceAdd, Nat.reduceLT, Nat.reduceLeDiff, Nat.reduceEqDiff, Int.reduceLT, Int.reduceBEq, Int.reduceBNe, Nat.reduceBEq, List.append_nil, Int.toNat_zero, Nat.sub_self, planC, tsk_one, sh1, due_one, dueRow, tsk_0, tsk_1, tsk_2, tsk_3, tsk_4, tsk_5, tsk_6, due_0, due_1, due_2]
    exact ⟨xa, xc, rfl⟩
end Go.Proofs.YtgimngpcfenoaaaDoor
