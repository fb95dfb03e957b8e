/- Spans of the probes that are sent: the plain law of ScheduleParts; ref17.Same at equal lists. -/
import Derived.Test.YtgimngpcfenoaaaDoorSntE
set_option linter.unusedSimpArgs false
set_option linter.unusedVariables false
namespace Go.Proofs.YtgimngpcfenoaaaDoor
open Go.Sort Eng
theorem sentG_sub (b e : Int) : ∀ (t : Tok) (xs : List Due), (sentG b e t xs).Sublist xs
  | _, [] => List.Sublist.slnil
  | t, x :: xs => by
    have ih := sentG_sub b e (takeF b e t x.at_).1 xs
    simp only [sentG]
    split
    · exact ih.cons_cons x
    · exact ih.cons x
def ByAt (xs : List Due) : Prop := xs.Pairwise fun a b => a.at_ ≤ b.at_
theorem btw_lo {a b d : Int} (hab : a ≤ b) : ∀ {xs : List Due}, (∀ y ∈ xs, y.at_ ≥ b) → btw a d xs = btw b d xs
  | [], _ => rfl
  | x :: xs, h => by
    have hx := h x (by simp)
    have ih := btw_lo (d := d) hab (xs := xs) fun y hy => h y (by simp [hy])
    simp only [btw, ih, if_pos hx, if_pos (show x.at_ ≥ a by omega)]
theorem btw_cat {a b d : Int} (hab : a ≤ b) (hbd : b ≤ d) : ∀ {xs : List Due}, ByAt xs → btw a b xs ++ btw b d xs = btw a d xs
  | [], _ => rfl
  | x :: xs, h => by
    obtain ⟨h1, h2⟩ := List.pairwise_cons.1 h
    have ih := btw_cat hab hbd h2
    simp only [btw]
    by_cases c1 : x.at_ ≥ d
    · rw [if_pos c1, if_pos c1, if_pos (show x.at_ ≥ b by omega)]; rfl
    · rw [if_neg c1, if_neg c1]
      by_cases c2 : x.at_ ≥ b
      · rw [if_pos c2, if_pos c2, if_pos (show x.at_ ≥ a by omega), List.nil_append, btw_lo hab fun y hy => by have := h1 y hy; omega]
      · rw [if_neg c2, if_neg c2]
        by_cases c3 : x.at_ ≥ a
        · rw [if_pos c3, if_pos c3, List.cons_append, ih]
        · rw [if_neg c3, if_neg c3, ih]
theorem btw_all {d : Int} : ∀ {xs : List Due}, (∀ y ∈ xs, 0 ≤ y.at_ ∧ y.at_ < d) → btw 0 d xs = xs
  | [], _ => rfl
  | x :: xs, h => by
    have hx := h x (by simp)
    have ih := btw_all (d := d) (xs := xs) fun y hy => h y (by simp [hy])
    simp only [btw, ih, if_neg (show ¬ x.at_ ≥ d by omega), if_pos (show x.at_ ≥ 0 by omega)]
theorem sched_unique {L L' : List Due} {ts : List Tsk} (h : Sched L ts) (h' : Sched L' ts) : L' = L :=
  due_unique h'.asc h.asc fun r => (h'.perm.mem_iff).trans h.perm.mem_iff.symm
theorem plan_list (p : PlanP) (hp : RightP p) : ∃ L, (∀ L', Sched L' p.ts → L' = L) ∧ (∀ d ∈ L, 0 ≤ d.at_ ∧ d.at_ ≤ 1125899906842624) ∧ L.length ≤ 5000 ∧ ByAt L := by
  by_cases h : ∃ L, Sched L p.ts
  · obtain ⟨L, h⟩ := h
    refine ⟨L, fun L' h' => sched_unique h h', fun d hd => ?_, ?_, ?_⟩
    · obtain ⟨q, r, hq, hr, he⟩ := mem_gen.1 (h.perm.mem_iff.1 hd)
      have ht := hp.ts (p.ts.getD q default) (by
        have : p.ts.getD q default = p.ts[q] := by simp [List.getD, hq]
        rw [this]; exact List.getElem_mem _)
      have hc := ht.2.2.2.2.2.2.2.2.2.2
      obtain ⟨_, _, b3, b4⟩ := round_le ht.ok (r := r) (by omega)
      rw [he]
      exact ⟨b3, b4⟩
    · rw [h.perm.length_eq, gen_len]
      have := cntT_le p.ts (fun t ht => by have := (hp.ts t ht).2.2.2.2.2.2.2.2.2.2.2; omega) p.ts.length (Nat.le_refl _)
      have := hp.len
      omega
    · exact h.asc.imp fun {a b} hab => by
        have := (dueLt_iff a b).1 hab
        omega
  · exact ⟨[], fun L' h' => absurd ⟨L', h'⟩ h, fun d hd => (by cases hd), by simp, List.Pairwise.nil⟩
theorem dueE (d e : Array Due) (i j : Nat) : aggEq Tryd.prog 36 3 (dueRd d i) 3 (dueRd e j) = some ([d[i]!.task == e[j]!.task, d[i]!.round == e[j]!.round, d[i]!.at_ == e[j]!.at_].all id) := by kernel_rfl
set_option maxRecDepth 100000 in
theorem sameC (F : Frm) (xs : List Due) (hl : xs.length ≤ 1000000) (a1 a2 : Option Addr) (c1 c2 : Nat) : Contract F Tryd.prog 13 [.sl a1 xs.length c1 3 (dueRd xs.toArray), .sl a2 xs.length c2 3 (dueRd xs.toArray)] (fun r => r = .b true) := by
  refine contract_of Tryd.func13 rfl (by kernel_rfl) ?_
  simp only [Tryd.ntmps13, argEnv]
  (repeat refine Sat.seq ?_)
  (refine Sat.region_k fun k hk => ?_; simp -implicitDefEqProofs only [evr, id, reduceCtorEq, reduceIte, Nat.reduceMul, Nat.reduceAdd, Nat.reduceLT, Nat.reduceLeDiff, Nat.reduceEqDiff, Int.reduceLT, Int.reduceBEq, Int.reduceBNe, Nat.reduceBEq, due_one, due_0, due_1, due_2, dueE, evn]; refine hk _ ?_; clear hk k; try show Sat _ _ _ _ _)
  (repeat refine Sat.seq ?_)
  (refine Sat.region_k fun k hk => ?_; simp -implicitDefEqProofs only [evr, id, reduceCtorEq, reduceIte, Nat.reduceMul, Nat.reduceAdd, Nat.reduceLT, Nat.reduceLeDiff, Nat.reduceEqDiff, Int.reduceLT, Int.reduceBEq, Int.reduceBNe, Nat.reduceBEq, due_one, due_0, due_1, due_2, dueE, evn]; refine hk _ ?_; clear hk k; try show Sat _ _ _ _ _)
  refine Sat.cond_b rfl (fun h => absurd h (by simp)) (fun _ => ?_)
  refine Sat.skip ?_
  simp only [thenK]
  (repeat refine Sat.seq ?_)
  (refine Sat.region_k fun k hk => ?_; simp -implicitDefEqProofs only [evr, id, reduceCtorEq, reduceIte, Nat.reduceMul, Nat.reduceAdd, Nat.reduceLT, Nat.reduceLeDiff, Nat.reduceEqDiff, Int.reduceLT, Int.reduceBEq, Int.reduceBNe, Nat.reduceBEq, due_one, due_0, due_1, due_2, dueE, evn]; refine hk _ ?_; clear hk k; try show Sat _ _ _ _ _)
  refine Sat.block ?_
  refine Sat.loop (ι := Nat) (fun i => ⟨26, [(5, .i .i64 i), (0, .sl a1 xs.length c1 3 (dueRd xs.toArray)), (1, .sl a2 xs.length c2 3 (dueRd xs.toArray))], []⟩) (fun i => i ≤ xs.length) (fun i => xs.length - i) 0 (Nat.zero_le _) (by simp -implicitDefEqProofs only [evr, id, reduceCtorEq, reduceIte, Nat.reduceMul, Nat.reduceAdd, Nat.reduceLT, Nat.reduceLeDiff, Nat.reduceEqDiff, Int.reduceLT, Int.reduceBEq, Int.reduceBNe, Nat.reduceBEq, due_one, due_0, due_1, due_2, dueE, evl, evn]; try rfl) ?_
  intro i hi
  (repeat refine Sat.seq ?_)
  (refine Sat.region_k fun k hk => ?_; simp -implicitDefEqProofs only [evr, id, reduceCtorEq, reduceIte, Nat.reduceMul, Nat.reduceAdd, Nat.reduceLT, Nat.reduceLeDiff, Nat.reduceEqDiff, Int.reduceLT, Int.reduceBEq, Int.reduceBNe, Nat.reduceBEq, due_one, due_0, due_1, due_2, dueE, evn]; refine hk _ ?_; clear hk k; try show Sat _ _ _ _ _)
  refine Sat.cond_b rfl (fun h => ?_) (fun h => ?_)
  · have h1 : i < xs.length := by simp only [decide_eq_true_eq] at h; omega
    have e3 : IntKind.i64.wrap ((i : Int) + 1) = ((i + 1 : Nat) : Int) := by rw [w64 (by omega)]; omega
    refine Sat.skip ?_
    simp only [thenK]
    (repeat refine Sat.seq ?_)
    refine Sat.block ?_
    (repeat refine Sat.seq ?_)
    (refine Sat.region_qk (by kernel_rfl) (by kernel_rfl) fun k hk => ?_; simp -implicitDefEqProofs only [evr, id, reduceCtorEq, reduceIte, Nat.reduceMul, Nat.reduceAdd, Nat.reduceLT, Nat.reduceLeDiff, Nat.reduceEqDiff, Int.reduceLT, Int.reduceBEq, Int.reduceBNe, Nat.reduceBEq, due_one, due_0, due_1, due_2, dueE, evn])
    refine ⟨by omega, by omega, ?_⟩
    (refine hk _ ?_; clear hk k; try show Sat _ _ _ _ _)
    refine Sat.cond_b rfl (fun h => absurd h (by simp)) (fun _ => ?_)
    refine Sat.skip ?_
    simp only [thenK, blockK]
    refine Sat.region_k fun k hk => ?_
    simp -implicitDefEqProofs only [evr, id, reduceCtorEq, reduceIte, Nat.reduceMul, Nat.reduceAdd, Nat.reduceLT, Nat.reduceLeDiff, Nat.reduceEqDiff, Int.reduceLT, Int.reduceBEq, Int.reduceBNe, Nat.reduceBEq, due_one, due_0, due_1, due_2, dueE, e3, evn]
    refine hk _ ?_
    simp only [thenK, blockK]
    refine ⟨i + 1, by omega, by omega, ?_⟩
    simp -implicitDefEqProofs only [evr, id, reduceCtorEq, reduceIte, Nat.reduceMul, Nat.reduceAdd, Nat.reduceLT, Nat.reduceLeDiff, Nat.reduceEqDiff, Int.reduceLT, Int.reduceBEq, Int.reduceBNe, Nat.reduceBEq, due_one, due_0, due_1, due_2, dueE, evl, evn]
    try rfl
  · refine Sat.exit ?_
    simp only [thenK, blockK, reduceIte]
    (repeat refine Sat.seq ?_)
    (refine Sat.region_k fun k hk => ?_; simp -implicitDefEqProofs only [evr, id, reduceCtorEq, reduceIte, Nat.reduceMul, Nat.reduceAdd, Nat.reduceLT, Nat.reduceLeDiff, Nat.reduceEqDiff, Int.reduceLT, Int.reduceBEq, Int.reduceBNe, Nat.reduceBEq, due_one, due_0, due_1, due_2, dueE, evn]; refine hk _ ?_; clear hk k; try show Sat _ _ _ _ _)
    refine Sat.ret ?_
    simp only [Tryd.results13, evr, id, reduceCtorEq, reduceIte, Nat.reduceMul, Nat.reduceAdd, Nat.reduceLT, Nat.reduceLeDiff, Nat.reduceEqDiff, Int.reduceLT, Int.reduceBEq, Int.reduceBNe, Nat.reduceBEq, List.append_nil, Int.toNat_zero, Nat.sub_self, due_one, due_0, due_1, due_2, dueE]
    try rfl
end Go.Proofs.YtgimngpcfenoaaaDoor
