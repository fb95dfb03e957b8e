/- The plans of ScheduleExact: what no error means; law17.small. -/
import Derived.Test.YtgimngpcfenoaaaDoorRfeP
import Derived.Test.YtgimngpcfenoaaaDoorCodP
set_option linter.unusedSimpArgs false
set_option linter.unusedVariables false
namespace Go.Proofs.YtgimngpcfenoaaaDoor
open Go.Sort Eng
namespace Eng
section
variable {P : Program} {F : Frm}
theorem RelR.le {R0 R : Nat → Prop} {w0 : Org} {ob : Nat} {w : World} {st : St} {a : Act} {st' : St} (hr : RelR F R0 w0 ob R st a w) (hl : Le st st') : RelR F R0 w0 ob R st' a w := by
  obtain ⟨hn, he, ho⟩ := hl
  refine ⟨hr.defers, envLe_ok hr.env he, by rw [hn]; exact hr.size, ?_, ?_, hr.evo, hr.inv, hr.obM, ?_, hr.obw, hr.rr, hr.r0⟩
  · intro i p hp
    obtain ⟨o, h1, h2⟩ := ownLe_get ho i p hp
    exact (Own.ok_le (hr.own i o h1) h2).1
  · intro i j o1 o2 hij h1 h2 b hb1 hb2
    obtain ⟨p1, g1, l1⟩ := ownLe_get ho i o1 h1
    obtain ⟨p2, g2, l2⟩ := ownLe_get ho j o2 h2
    exact hr.dist i j p1 p2 hij g1 g2 b ((Own.ok_le (hr.own i p1 g1) l1).2 b hb1) ((Own.ok_le (hr.own j p2 g2) l2).2 b hb2)
  · intro i p hp b hb
    obtain ⟨o, h1, h2⟩ := ownLe_get ho i p hp
    exact hr.gb i o h1 b ((Own.ok_le (hr.own i o h1) h2).2 b hb)
theorem CallK.le {f : FuncId} {args : List SV} {st st' : St} {dst : Option Tmp} {k : St → Prop} (hl : Le st st') (h : CallK P F f args st' dst k) : CallK P F f args st dst k := fun R0 w0 ob R a w hr ha => by
  obtain ⟨h1, h2⟩ := h R0 w0 ob R a w (hr.le hl) ha
  exact ⟨h1, h2.mono fun e w' ⟨r, st2, R', g1, g2, g3, g4, g5⟩ => ⟨r, st2, R', g1, g2, g3, g4, g5.trans hl.1⟩⟩
theorem WCall.le {ds : List (Option Tmp)} {rest : List Oper} {dst : Option Tmp} {st st' : St} {f : FuncId} {l : Option (List SV)} {k : St → Prop} (h : WCall P F ds rest dst st' f l k) (hl : Le st st') : WCall P F ds rest dst st f l k := by
  unfold WCall at h ⊢
  split at h
  · exact h.le hl
  · exact h.elim
theorem and3_le {A B C : Prop} (h1 : A) (h2 : B) (h3 : B → C) : (A ∧ B) ∧ C := ⟨⟨h1, h2⟩, h3 h2⟩
end
end Eng
theorem taskErr_zero {t : Tsk} (h : taskErr t = 0) : okProto t ∧ okRange t ∧ okAddr t := by
  unfold taskErr at h
  split at h
  · rename_i h1
    split at h
    · rename_i h2
      split at h
      · rename_i h3; exact ⟨h1, h2, h3⟩
      · cases h
    · cases h
  · cases h
theorem tasksErr_zero : ∀ {l : List Tsk}, tasksErr l = 0 → ∀ t ∈ l, taskErr t = 0
  | [], _, t, ht => by cases ht
  | x :: l, h, t, ht => by
    rw [tasksErr] at h
    split at h
    · rename_i h1; exact absurd h h1
    · rename_i h1
      rcases List.mem_cons.1 ht with rfl | ht
      · exact Decidable.not_not.1 h1
      · exact tasksErr_zero h t ht
theorem plan_ok {p : PlanP} (h : planErr p = 0) : p.ts.length ≤ 64 ∧ (∀ t ∈ p.ts, tskOk t) ∧ okBk p.burst p.every := by
  unfold planErr at h
  split at h
  · cases h
  · rename_i h1
    split at h
    · rename_i h2; exact absurd h h2
    · rename_i h2
      refine ⟨by omega, fun t ht => ?_, ?_⟩
      · obtain ⟨_, ⟨_, _, g1, g2, g3, g4⟩, _⟩ := taskErr_zero (tasksErr_zero (Decidable.not_not.1 h2) t ht)
        unfold okEnd at g4
        exact ⟨by omega, by omega, by omega, by omega, by omega, by omega⟩
      · unfold bkErr at h
        split at h
        · rename_i h3; exact h3
        · cases h
theorem plan_listG (p : PlanP) (hn : p.ts.length ≤ 64) (hok : ∀ t ∈ p.ts, tskOk t) : ∃ L, (∀ L', Sched L' p.ts → L' = L) ∧ (∀ d ∈ L, 0 ≤ d.at_ ∧ d.at_ ≤ 1125899906842624) ∧ L.length ≤ 64000 ∧ ByAt L := by
  by_cases h : ∃ L, Sched L p.ts
  · obtain ⟨L, h⟩ := h
    refine ⟨L, fun L' h' => sched_unique h h', fun d hd => ?_, ?_, ?_⟩
    · obtain ⟨q, r, hq, hr, he⟩ := mem_gen.1 (h.perm.mem_iff.1 hd)
      have ht := hok (p.ts.getD q default) (by
        have : p.ts.getD q default = p.ts[q] := by simp [List.getD, hq]
        rw [this]; exact List.getElem_mem _)
      have hc := ht.2.2.2.1
      obtain ⟨_, _, b3, b4⟩ := round_le ht (r := r) (by omega)
      rw [he]
      exact ⟨b3, b4⟩
    · rw [h.perm.length_eq, gen_len]
      have := cntT_le p.ts (fun t ht => (hok t ht).2.2.2.2.1) p.ts.length (Nat.le_refl _)
      omega
    · exact h.asc.imp fun {a b} hab => by
        have := (dueLt_iff a b).1 hab
        omega
  · exact ⟨[], fun L' h' => absurd ⟨L', h'⟩ h, fun d hd => (by cases hd), by simp, List.Pairwise.nil⟩
set_option maxRecDepth 100000 in
theorem smallC (F : Frm) (p : PlanP) (hn : p.ts.length ≤ 1000000) : Contract F Tryd.prog 16 [planS p] (fun r => ∃ v, r = .b v) := by
  refine contract_of Tryd.func16 rfl (by kernel_rfl) ?_
  simp only [Tryd.ntmps16, argEnv, planS, planC]
  (repeat refine Sat.seq ?_)
  (refine Sat.region_k fun k hk => ?_; simp -implicitDefEqProofs only [evr, id, reduceCtorEq, reduceIte, Nat.reduceMul, Nat.reduceAdd, Nat.reduceLT, Nat.reduceLeDiff, Nat.reduceEqDiff, Int.reduceLT, Int.reduceBEq, Int.reduceBNe, Nat.reduceBEq, planC, tsk_one, sh1, tsk_0, tsk_1, tsk_2, tsk_3, tsk_4, tsk_5, tsk_6, evn])
  intro b1
  (refine hk _ ?_; clear hk k; try show Sat _ _ _ _ _)
  (repeat refine Sat.seq ?_)
  (refine Sat.region_k fun k hk => ?_; simp -implicitDefEqProofs only [evr, id, reduceCtorEq, reduceIte, Nat.reduceMul, Nat.reduceAdd, Nat.reduceLT, Nat.reduceLeDiff, Nat.reduceEqDiff, Int.reduceLT, Int.reduceBEq, Int.reduceBNe, Nat.reduceBEq, planC, tsk_one, sh1, tsk_0, tsk_1, tsk_2, tsk_3, tsk_4, tsk_5, tsk_6, evn]; refine hk _ ?_; clear hk k; try show Sat _ _ _ _ _)
  (repeat refine Sat.seq ?_)
  (refine Sat.region_k fun k hk => ?_; simp -implicitDefEqProofs only [evr, id, reduceCtorEq, reduceIte, Nat.reduceMul, Nat.reduceAdd, Nat.reduceLT, Nat.reduceLeDiff, Nat.reduceEqDiff, Int.reduceLT, Int.reduceBEq, Int.reduceBNe, Nat.reduceBEq, planC, tsk_one, sh1, tsk_0, tsk_1, tsk_2, tsk_3, tsk_4, tsk_5, tsk_6, evn]; refine hk _ ?_; clear hk k; try show Sat _ _ _ _ _)
  (repeat refine Sat.seq ?_)
  refine Sat.block ?_
  refine Sat.loop (ι := Nat × Int) (fun x => ⟨22, [(4, .i .i64 x.1), (3, .i .i64 x.2), (1, .op 0 b1 0)], [.box b1 28 [.sl p.a p.ts.length p.cap 7 (tskRd p.ts), .i .i64 p.burst, .i .i64 p.every]]⟩) (fun x => x.1 ≤ p.ts.length) (fun x => p.ts.length - x.1) (0, 0) (Nat.zero_le _) (by simp -implicitDefEqProofs only [evr, id, reduceCtorEq, reduceIte, Nat.reduceMul, Nat.reduceAdd, Nat.reduceLT, Nat.reduceLeDiff, Nat.reduceEqDiff, Int.reduceLT, Int.reduceBEq, Int.reduceBNe, Nat.reduceBEq, planC, tsk_one, sh1, tsk_0, tsk_1, tsk_2, tsk_3, tsk_4, tsk_5, tsk_6, evl, evn]; try rfl) ?_
  rintro ⟨i, n⟩ hi
  simp only at hi ⊢
  (repeat refine Sat.seq ?_)
  (refine Sat.region_k fun k hk => ?_; simp -implicitDefEqProofs only [evr, id, reduceCtorEq, reduceIte, Nat.reduceMul, Nat.reduceAdd, Nat.reduceLT, Nat.reduceLeDiff, Nat.reduceEqDiff, Int.reduceLT, Int.reduceBEq, Int.reduceBNe, Nat.reduceBEq, planC, tsk_one, sh1, tsk_0, tsk_1, tsk_2, tsk_3, tsk_4, tsk_5, tsk_6, evn]; refine hk _ ?_; clear hk k; try show Sat _ _ _ _ _)
  (repeat refine Sat.seq ?_)
  refine Sat.cond_b rfl (fun h => ?_) (fun h => ?_)
  · have h1 : i < p.ts.length := by simp only [decide_eq_true_eq] at h; omega
    have e3 : IntKind.i64.wrap ((i : Int) + 1) = ((i + 1 : Nat) : Int) := by rw [w64 (by omega)]; omega
    refine Sat.skip ?_
    simp only [thenK]
    (repeat refine Sat.seq ?_)
    refine Sat.block ?_
    refine Sat.region_k fun k hk => ?_
    simp -implicitDefEqProofs only [evr, id, reduceCtorEq, reduceIte, Nat.reduceMul, Nat.reduceAdd, Nat.reduceLT, Nat.reduceLeDiff, Nat.reduceEqDiff, Int.reduceLT, Int.reduceBEq, Int.reduceBNe, Nat.reduceBEq, planC, tsk_one, sh1, tsk_0, tsk_1, tsk_2, tsk_3, tsk_4, tsk_5, tsk_6, evn]
    refine ⟨by omega, ?_⟩
    refine hk _ ?_
    clear hk k
    simp only [thenK, blockK]
    refine Sat.region_k fun k hk => ?_
    simp -implicitDefEqProofs only [evr, id, reduceCtorEq, reduceIte, Nat.reduceMul, Nat.reduceAdd, Nat.reduceLT, Nat.reduceLeDiff, Nat.reduceEqDiff, Int.reduceLT, Int.reduceBEq, Int.reduceBNe, Nat.reduceBEq, planC, tsk_one, sh1, tsk_0, tsk_1, tsk_2, tsk_3, tsk_4, tsk_5, tsk_6, e3, evn]
    refine hk _ ?_
    simp only [thenK, blockK]
    refine ⟨(i + 1, IntKind.i64.wrap (n + (p.ts.getD i default).count)), by show i + 1 ≤ _; omega, by show _ - (i + 1) < _ - i; omega, ?_⟩
    simp -implicitDefEqProofs only [evr, id, reduceCtorEq, reduceIte, Nat.reduceMul, Nat.reduceAdd, Nat.reduceLT, Nat.reduceLeDiff, Nat.reduceEqDiff, Int.reduceLT, Int.reduceBEq, Int.reduceBNe, Nat.reduceBEq, planC, tsk_one, sh1, tsk_0, tsk_1, tsk_2, tsk_3, tsk_4, tsk_5, tsk_6, evl, evn]
    repeat' (first | rfl | (refine And.intro ?_ ?_))
  · refine Sat.exit ?_
    simp only [thenK, blockK, reduceIte]
    (repeat refine Sat.seq ?_)
    (refine Sat.region_k fun k hk => ?_; simp -implicitDefEqProofs only [evr, id, reduceCtorEq, reduceIte, Nat.reduceMul, Nat.reduceAdd, Nat.reduceLT, Nat.reduceLeDiff, Nat.reduceEqDiff, Int.reduceLT, Int.reduceBEq, Int.reduceBNe, Nat.reduceBEq, planC, tsk_one, sh1, tsk_0, tsk_1, tsk_2, tsk_3, tsk_4, tsk_5, tsk_6, evn]; refine hk _ ?_; clear hk k; try show Sat _ _ _ _ _)
    refine Sat.ret ?_
    simp only [Tryd.results16, evr, id, reduceCtorEq, reduceIte, Nat.reduceMul, Nat.reduceAdd, Nat.reduceLT, Nat.reduceLeDiff, Nat.reduceEqDiff, Int.reduceLT, Int.reduceBEq, Int.reduceBNe, Nat.reduceBEq, List.append_nil, Int.toNat_zero, Nat.sub_self, planC, tsk_one, sh1, tsk_0, tsk_1, tsk_2, tsk_3, tsk_4, tsk_5, tsk_6]
    exact ⟨_, rfl⟩
end Go.Proofs.YtgimngpcfenoaaaDoor
