/- AddressTree: two valid prefixes are disjoint or one covers the other, halves divide a prefix, Common is the longest prefix of both. The law holds of every input, if the sanity check does. -/
import Derived.Test.YtceacooambpkdaaDoorCdpE
import Derived.Test.YtceacooambpkdaaDoorTreM
import Derived.Test.YtceacooambpkdaaDoorWalkE
import Derived.Test.YtceacooambpkdaaDoorShAddressTree
set_option linter.unusedSimpArgs false
set_option linter.unusedVariables false
namespace Go.Proofs.YtceacooambpkdaaDoor
open Go.Sort Eng

theorem slB_bytes1 (a : Option Addr) (cap : Nat) (z : List Int) (hz : ∀ n ∈ z, (Lit.int .u8 n).wf = true) : isBytes (slB a cap z) :=
  ⟨a, z.length, cap, _, rfl, fun i hi => ⟨z.getD i 0, by have := bounds_u8 (hz _ (getD_mem (d := 0) hi)); omega, by have := bounds_u8 (hz _ (getD_mem (d := 0) hi)); omega, rfl⟩⟩
theorem meet4 {p q : Prf} (hp : vld p = true) (hq : vld q = true) :
    (((p.addr : Int) ≤ (q.high : Int)) = False ∧ cov p q = false ∧ cov q p = false) ∨
    (((p.addr : Int) ≤ (q.high : Int)) = True ∧ ((q.addr : Int) ≤ (p.high : Int)) = False ∧ cov p q = false ∧ cov q p = false) ∨
    (((p.addr : Int) ≤ (q.high : Int)) = True ∧ ((q.addr : Int) ≤ (p.high : Int)) = True ∧ cov p q = true) ∨
    (((p.addr : Int) ≤ (q.high : Int)) = True ∧ ((q.addr : Int) ≤ (p.high : Int)) = True ∧ cov p q = false ∧ cov q p = true) := by
  have h := cov_meet hp hq
  have e1 : ((p.addr : Int) ≤ (q.high : Int)) = (p.addr ≤ q.high) := propext (by omega)
  have e2 : ((q.addr : Int) ≤ (p.high : Int)) = (q.addr ≤ p.high) := propext (by omega)
  rw [e1, e2]
  revert h
  by_cases h1 : p.addr ≤ q.high <;> by_cases h2 : q.addr ≤ p.high <;> cases cov p q <;> cases cov q p <;> simp [h1, h2]
theorem half3 {p : Prf} (h : vld p = true) (hl : p.len ≠ 32) (a : Nat) :
    (cont p a = true ∧ cont (half1 p) a = true ∧ cont (half2 p) a = false) ∨ (cont p a = true ∧ cont (half1 p) a = false ∧ cont (half2 p) a = true) ∨ (cont p a = false ∧ cont (half1 p) a = false ∧ cont (half2 p) a = false) := by
  obtain ⟨h1, h2⟩ := half_cont h hl a
  revert h1 h2
  cases cont p a <;> cases cont (half1 p) a <;> cases cont (half2 p) a <;> simp
set_option maxHeartbeats 4000000 in
set_option maxRecDepth 100000 in
theorem treeC (hAw : Contract Frm.nil Tryd.prog 9 [] (fun r => r = .b true)) (ad : Option Addr) (cap : Nat) (z : List Int) (hb : isBytes (slB ad cap z)) (a b : Nat) (ha : a < 2 ^ 32) (hb2 : b < 2 ^ 32) :
    Contract Frm.nil Tryd.prog 6 [slB ad cap z, .i .u32 a, .i .u32 b] (fun r => r = .b true) := by
  refine contract_of Tryd.func6 rfl (by kernel_rfl) ?_
  simp only [Tryd.ntmps6, argEnv]
  (repeat refine Sat.seq ?_)
  (refine Sat.region_k fun k hk => ?_; simp -implicitDefEqProofs only [evr, id, reduceCtorEq, reduceIte, Nat.reduceMul, Nat.reduceAdd, Nat.reduceLT, Nat.reduceLeDiff, Nat.reduceEqDiff, Int.reduceLT, Int.reduceBEq, Int.reduceBNe, Nat.reduceBEq, List.append_nil, Int.toNat_zero, Nat.sub_self, Int.reduceNeg, ptr, prS, prC]; refine hk _ ?_; clear hk k; try show Sat _ _ _ _ _)
  (repeat refine Sat.seq ?_)
  (refine Sat.region_k fun k hk => ?_; simp -implicitDefEqProofs only [evr, id, reduceCtorEq, reduceIte, Nat.reduceMul, Nat.reduceAdd, Nat.reduceLT, Nat.reduceLeDiff, Nat.reduceEqDiff, Int.reduceLT, Int.reduceBEq, Int.reduceBNe, Nat.reduceBEq, List.append_nil, Int.toNat_zero, Nat.sub_self, Int.reduceNeg, ptr, prS, prC])
  refine wcall_plain hAw rfl (by rintro _ rfl; exact ok_plain rfl) ?_
  rintro r rfl
  simp -implicitDefEqProofs only [evr, id, reduceCtorEq, reduceIte, Nat.reduceMul, Nat.reduceAdd, Nat.reduceLT, Nat.reduceLeDiff, Nat.reduceEqDiff, Int.reduceLT, Int.reduceBEq, Int.reduceBNe, Nat.reduceBEq, List.append_nil, Int.toNat_zero, Nat.sub_self, Int.reduceNeg, ptr, prS, prC]
  (refine hk _ ?_; clear hk k; try show Sat _ _ _ _ _)
  (repeat refine Sat.seq ?_)
  refine Sat.cond_b rfl (fun h => absurd h (by decide)) (fun _ => ?_)
  refine Sat.skip ?_
  simp only [thenK]
  refine Sat.seq ?_
  (refine Sat.region_k fun k hk => ?_; simp -implicitDefEqProofs only [evr, id, reduceCtorEq, reduceIte, Nat.reduceMul, Nat.reduceAdd, Nat.reduceLT, Nat.reduceLeDiff, Nat.reduceEqDiff, Int.reduceLT, Int.reduceBEq, Int.reduceBNe, Nat.reduceBEq, List.append_nil, Int.toNat_zero, Nat.sub_self, Int.reduceNeg, ptr, prS, prC])
  refine wcall_make (newRC (slB ad cap z) hb 40 (by decide)) ?_
  intro cb
  simp -implicitDefEqProofs only [evr, id, reduceCtorEq, reduceIte, Nat.reduceMul, Nat.reduceAdd, Nat.reduceLT, Nat.reduceLeDiff, Nat.reduceEqDiff, Int.reduceLT, Int.reduceBEq, Int.reduceBNe, Nat.reduceBEq, List.append_nil, Int.toNat_zero, Nat.sub_self, Int.reduceNeg, ptr, prS, prC]
  (refine hk _ ?_; clear hk k; try show Sat _ _ _ _ _)
  refine Sat.switch (cb := cb) (id := 0) (F' := Frm.codes cb) (fun b => Iff.rfl) rfl ?_
  (repeat refine Sat.seq ?_)
  (refine Sat.region_k fun k hk => ?_; simp -implicitDefEqProofs only [evr, id, reduceCtorEq, reduceIte, Nat.reduceMul, Nat.reduceAdd, Nat.reduceLT, Nat.reduceLeDiff, Nat.reduceEqDiff, Int.reduceLT, Int.reduceBEq, Int.reduceBNe, Nat.reduceBEq, List.append_nil, Int.toNat_zero, Nat.sub_self, Int.reduceNeg, ptr, prS, prC])
  refine wcall_slice (prefixC cb) rfl rfl ?_
  rintro r ⟨p, rfl, hp, hpv⟩
  simp -implicitDefEqProofs only [evr, id, reduceCtorEq, reduceIte, Nat.reduceMul, Nat.reduceAdd, Nat.reduceLT, Nat.reduceLeDiff, Nat.reduceEqDiff, Int.reduceLT, Int.reduceBEq, Int.reduceBNe, Nat.reduceBEq, List.append_nil, Int.toNat_zero, Nat.sub_self, Int.reduceNeg, ptr, prS, prC]
  refine wcall_slice (prefixC cb) rfl rfl ?_
  rintro r ⟨q, rfl, hq, hqv⟩
  simp -implicitDefEqProofs only [evr, id, reduceCtorEq, reduceIte, Nat.reduceMul, Nat.reduceAdd, Nat.reduceLT, Nat.reduceLeDiff, Nat.reduceEqDiff, Int.reduceLT, Int.reduceBEq, Int.reduceBNe, Nat.reduceBEq, List.append_nil, Int.toNat_zero, Nat.sub_self, Int.reduceNeg, ptr, prS, prC]
  intro b1 b2
  (refine hk _ ?_; clear hk k; try show Sat _ _ _ _ _)
  (repeat refine Sat.seq ?_)
  (refine Sat.region_k fun k hk => ?_; simp -implicitDefEqProofs only [evr, id, reduceCtorEq, reduceIte, Nat.reduceMul, Nat.reduceAdd, Nat.reduceLT, Nat.reduceLeDiff, Nat.reduceEqDiff, Int.reduceLT, Int.reduceBEq, Int.reduceBNe, Nat.reduceBEq, List.append_nil, Int.toNat_zero, Nat.sub_self, Int.reduceNeg, ptr, prS, prC])
  have hbp : ∀ s : Prf, prOk s → vld s = true → Contract (Frm.codes cb) Tryd.prog 27 [prS s] (fun r => r = tupL [.agg 2 fun j => [SV.i .u32 s.addr, .i .u32 s.high].getD j default, .i .i64 0]) := fun s h1 h2 => by
    have h := boundsC (Frm.codes cb) s h1
    unfold bndS at h
    rw [if_pos h2] at h
    exact h
  refine wcall_slice (hbp p hp hpv) rfl (by simp only [prS, prC, evr, id, reduceCtorEq, reduceIte, Nat.reduceMul, Nat.reduceAdd, Nat.reduceLT, Nat.reduceLeDiff, Nat.reduceEqDiff, Int.reduceLT, Int.reduceBEq, Int.reduceBNe, Nat.reduceBEq, List.append_nil, Int.toNat_zero, Nat.sub_self, Int.reduceNeg, ptr, prS, prC]; try rfl) ?_
  rintro r rfl
  simp -implicitDefEqProofs only [evr, id, reduceCtorEq, reduceIte, Nat.reduceMul, Nat.reduceAdd, Nat.reduceLT, Nat.reduceLeDiff, Nat.reduceEqDiff, Int.reduceLT, Int.reduceBEq, Int.reduceBNe, Nat.reduceBEq, List.append_nil, Int.toNat_zero, Nat.sub_self, Int.reduceNeg, ptr, prS, prC]
  intro b3
  (refine hk _ ?_; clear hk k; try show Sat _ _ _ _ _)
  (repeat refine Sat.seq ?_)
  (refine Sat.region_k fun k hk => ?_; simp -implicitDefEqProofs only [evr, id, reduceCtorEq, reduceIte, Nat.reduceMul, Nat.reduceAdd, Nat.reduceLT, Nat.reduceLeDiff, Nat.reduceEqDiff, Int.reduceLT, Int.reduceBEq, Int.reduceBNe, Nat.reduceBEq, List.append_nil, Int.toNat_zero, Nat.sub_self, Int.reduceNeg, ptr, prS, prC])
  refine wcall_slice (hbp q hq hqv) rfl (by simp only [prS, prC, evr, id, reduceCtorEq, reduceIte, Nat.reduceMul, Nat.reduceAdd, Nat.reduceLT, Nat.reduceLeDiff, Nat.reduceEqDiff, Int.reduceLT, Int.reduceBEq, Int.reduceBNe, Nat.reduceBEq, List.append_nil, Int.toNat_zero, Nat.sub_self, Int.reduceNeg, ptr, prS, prC]; try rfl) ?_
  rintro r rfl
  simp -implicitDefEqProofs only [evr, id, reduceCtorEq, reduceIte, Nat.reduceMul, Nat.reduceAdd, Nat.reduceLT, Nat.reduceLeDiff, Nat.reduceEqDiff, Int.reduceLT, Int.reduceBEq, Int.reduceBNe, Nat.reduceBEq, List.append_nil, Int.toNat_zero, Nat.sub_self, Int.reduceNeg, ptr, prS, prC]
  intro b4
  (refine hk _ ?_; clear hk k; try show Sat _ _ _ _ _)
  (repeat refine Sat.seq ?_)
  have cA := coversC (Frm.codes cb) p q hp hq
  have cB := coversC (Frm.codes cb) q p hq hp
  refine Sat.join2 (ι := Unit) (fun _ => ⟨127, [(56, .b false), (8, .op 0 b1 0), (1, .i .u32 a), (2, .i .u32 b)], [.box b1 25 (prC p)]⟩) (fun _ => True) (fun hrest => ?_) ?_
  · rcases meet4 hpv hqv with ⟨m1, m3, m4⟩ | ⟨m1, m2, m3, m4⟩ | ⟨m1, m2, m3⟩ | ⟨m1, m2, m3, m4⟩
    all_goals
      rw [m3] at cA
      try rw [m4] at cB
      (refine Sat.region_tree (.keep [0, 2, 1, 3, 12, 13, 4, 5, 6, 8, 7, 9, 10, 11] [14, 15, 16, 17, 18, 19] (.one 14 (.one 15 (.alt 16 (.one 17 (.one 18 (.one 19 (.one 20 .done)))) (.alt 17 (.one 16 (.one 18 (.one 19 (.one 20 .done)))) .none))))) (by kernel_rfl) (by kernel_rfl) (fun _ _ h => h) fun k hk => ?_; simp only [WOT, List.map_cons, List.map_nil, List.getD_cons_zero, List.getD_cons_succ]; simp -implicitDefEqProofs only [evr, id, reduceCtorEq, reduceIte, Nat.reduceMul, Nat.reduceAdd, Nat.reduceLT, Nat.reduceLeDiff, Nat.reduceEqDiff, Int.reduceLT, Int.reduceBEq, Int.reduceBNe, Nat.reduceBEq, List.append_nil, Int.toNat_zero, Nat.sub_self, Int.reduceNeg, ptr, prS, prC, WOT])
      try simp only [m1, not_true_eq_false, not_false_eq_true, forall_const, false_implies, true_implies, and_true, true_and, decide_true, decide_false]
      try simp only [m2, not_true_eq_false, not_false_eq_true, forall_const, false_implies, true_implies, and_true, true_and, decide_true, decide_false]
      repeat' (first
        | (refine And.intro ?_ ?_)
        | (refine wcall_slice cA rfl ?_ ?_; (focus (simp only [prS, prC, evr, id, reduceCtorEq, reduceIte, Nat.reduceMul, Nat.reduceAdd, Nat.reduceLT, Nat.reduceLeDiff, Nat.reduceEqDiff, Int.reduceLT, Int.reduceBEq, Int.reduceBNe, Nat.reduceBEq, List.append_nil, Int.toNat_zero, Nat.sub_self, Int.reduceNeg, ptr, prS, prC]; try rfl)); rintro r rfl; simp -implicitDefEqProofs only [evr, id, reduceCtorEq, reduceIte, Nat.reduceMul, Nat.reduceAdd, Nat.reduceLT, Nat.reduceLeDiff, Nat.reduceEqDiff, Int.reduceLT, Int.reduceBEq, Int.reduceBNe, Nat.reduceBEq, List.append_nil, Int.toNat_zero, Nat.sub_self, Int.reduceNeg, ptr, prS, prC])
        | (refine wcall_slice cB rfl ?_ ?_; (focus (simp only [prS, prC, evr, id, reduceCtorEq, reduceIte, Nat.reduceMul, Nat.reduceAdd, Nat.reduceLT, Nat.reduceLeDiff, Nat.reduceEqDiff, Int.reduceLT, Int.reduceBEq, Int.reduceBNe, Nat.reduceBEq, List.append_nil, Int.toNat_zero, Nat.sub_self, Int.reduceNeg, ptr, prS, prC]; try rfl)); rintro r rfl; simp -implicitDefEqProofs only [evr, id, reduceCtorEq, reduceIte, Nat.reduceMul, Nat.reduceAdd, Nat.reduceLT, Nat.reduceLeDiff, Nat.reduceEqDiff, Int.reduceLT, Int.reduceBEq, Int.reduceBNe, Nat.reduceBEq, List.append_nil, Int.toNat_zero, Nat.sub_self, Int.reduceNeg, ptr, prS, prC])
        | rfl)
      all_goals
        refine hk _ ?_
        clear hk
        simp only [thenK]
        refine Sat.le (hrest () trivial) ?_
        simp -implicitDefEqProofs only [evr, id, reduceCtorEq, reduceIte, Nat.reduceMul, Nat.reduceAdd, Nat.reduceLT, Nat.reduceLeDiff, Nat.reduceEqDiff, Int.reduceLT, Int.reduceBEq, Int.reduceBNe, Nat.reduceBEq, List.append_nil, Int.toNat_zero, Nat.sub_self, Int.reduceNeg, ptr, prS, prC, evl]
        try simp only [m1, decide_true, decide_false, beq_self_eq_true, bne_self_eq_false]
        try simp only [m2, decide_true, decide_false, beq_self_eq_true, bne_self_eq_false]
        try rfl
  rintro _ _
  try simp only [thenK]
  refine Sat.cond_b rfl (fun h => by cases h) (fun _ => ?_)
  refine Sat.skip ?_
  try simp only [thenK]
  try simp only [prC]
  (repeat refine Sat.seq ?_)
  (refine Sat.region_k fun k hk => ?_; simp -implicitDefEqProofs only [evr, id, reduceCtorEq, reduceIte, Nat.reduceMul, Nat.reduceAdd, Nat.reduceLT, Nat.reduceLeDiff, Nat.reduceEqDiff, Int.reduceLT, Int.reduceBEq, Int.reduceBNe, Nat.reduceBEq, List.append_nil, Int.toNat_zero, Nat.sub_self, Int.reduceNeg, ptr, prS, prC])
  refine wcall_slice (halvesC (Frm.codes cb) p hp) rfl (by simp only [prS, prC, evr, id, reduceCtorEq, reduceIte, Nat.reduceMul, Nat.reduceAdd, Nat.reduceLT, Nat.reduceLeDiff, Nat.reduceEqDiff, Int.reduceLT, Int.reduceBEq, Int.reduceBNe, Nat.reduceBEq, List.append_nil, Int.toNat_zero, Nat.sub_self, Int.reduceNeg, ptr, prS, prC]; try rfl) ?_
  rintro r rfl
  have hh : ∃ l h : Prf, ∃ o : Bool, hlvS p = tupL [prS l, prS h, .b o] ∧ ((o = true ∧ l = half1 p ∧ h = half2 p ∧ p.len ≠ 32) ∨ o = false) := by
    unfold hlvS
    split
    · rename_i h1
      exact ⟨_, _, _, rfl, .inl ⟨rfl, rfl, rfl, h1.2⟩⟩
    · exact ⟨_, _, _, rfl, .inr rfl⟩
  obtain ⟨pl, ph, o, hh1, hh2⟩ := hh
  rw [hh1]
  simp -implicitDefEqProofs only [evr, id, reduceCtorEq, reduceIte, Nat.reduceMul, Nat.reduceAdd, Nat.reduceLT, Nat.reduceLeDiff, Nat.reduceEqDiff, Int.reduceLT, Int.reduceBEq, Int.reduceBNe, Nat.reduceBEq, List.append_nil, Int.toNat_zero, Nat.sub_self, Int.reduceNeg, ptr, prS, prC]
  intro b5 b6
  (refine hk _ ?_; clear hk k; try show Sat _ _ _ _ _)
  (repeat refine Sat.seq ?_)
  refine Sat.join2 (ι := Unit) (fun _ => ⟨127, [(87, .b false), (15, .op 2 b6 0), (14, .op 1 b5 0), (1, .i .u32 a), (2, .i .u32 b)], [.gone, .box b5 25 (prC pl), .box b6 25 (prC ph)]⟩) (fun _ => True) (fun hrest => ?_) ?_
  · rcases hh2 with ⟨rfl, rfl, rfl, hl⟩ | rfl
    · have kP := containsC (Frm.codes cb) p hp a ha
      have kL := containsC (Frm.codes cb) (half1 p) hp a ha
      have kH := containsC (Frm.codes cb) (half2 p) (half2_ok hp hpv hl) a ha
      rcases half3 hpv hl a with ⟨f1, f2, f3⟩ | ⟨f1, f2, f3⟩ | ⟨f1, f2, f3⟩
      all_goals
        rw [f1] at kP
        rw [f2] at kL
        rw [f3] at kH
        clear f1 f2 f3
        (refine Sat.region_tree (.keep [0, 1, 3, 6, 2, 5] [4] (.one 4 (.one 7 (.one 8 (.free 10 (.one 9 (.one 11 (.one 12 (.one 13 (.one 14 (.free 16 (.one 15 (.one 17 (.one 18 (.free 20 (.one 19 (.one 21 (.one 22 (.one 23 (.one 24 .done)))))))))))))))))))) (by kernel_rfl) (by kernel_rfl) (fun _ _ h => h) fun k hk => ?_; simp only [WOT, List.map_cons, List.map_nil, List.getD_cons_zero, List.getD_cons_succ]; simp -implicitDefEqProofs only [evr, id, reduceCtorEq, reduceIte, Nat.reduceMul, Nat.reduceAdd, Nat.reduceLT, Nat.reduceLeDiff, Nat.reduceEqDiff, Int.reduceLT, Int.reduceBEq, Int.reduceBNe, Nat.reduceBEq, List.append_nil, Int.toNat_zero, Nat.sub_self, Int.reduceNeg, ptr, prS, prC, WOT])
        repeat' (first
        | (refine And.intro ?_ ?_)
        | (refine wcall_plain kP ?_ (fun _ h => by subst h; exact ok_plain rfl) ?_; (focus (simp only [prS, prC, evr, id, reduceCtorEq, reduceIte, Nat.reduceMul, Nat.reduceAdd, Nat.reduceLT, Nat.reduceLeDiff, Nat.reduceEqDiff, Int.reduceLT, Int.reduceBEq, Int.reduceBNe, Nat.reduceBEq, List.append_nil, Int.toNat_zero, Nat.sub_self, Int.reduceNeg, ptr, prS, prC]; try rfl)); rintro r rfl; simp -implicitDefEqProofs only [evr, id, reduceCtorEq, reduceIte, Nat.reduceMul, Nat.reduceAdd, Nat.reduceLT, Nat.reduceLeDiff, Nat.reduceEqDiff, Int.reduceLT, Int.reduceBEq, Int.reduceBNe, Nat.reduceBEq, List.append_nil, Int.toNat_zero, Nat.sub_self, Int.reduceNeg, ptr, prS, prC])
        | (refine wcall_plain kL ?_ (fun _ h => by subst h; exact ok_plain rfl) ?_; (focus (simp only [prS, prC, evr, id, reduceCtorEq, reduceIte, Nat.reduceMul, Nat.reduceAdd, Nat.reduceLT, Nat.reduceLeDiff, Nat.reduceEqDiff, Int.reduceLT, Int.reduceBEq, Int.reduceBNe, Nat.reduceBEq, List.append_nil, Int.toNat_zero, Nat.sub_self, Int.reduceNeg, ptr, prS, prC]; try rfl)); rintro r rfl; simp -implicitDefEqProofs only [evr, id, reduceCtorEq, reduceIte, Nat.reduceMul, Nat.reduceAdd, Nat.reduceLT, Nat.reduceLeDiff, Nat.reduceEqDiff, Int.reduceLT, Int.reduceBEq, Int.reduceBNe, Nat.reduceBEq, List.append_nil, Int.toNat_zero, Nat.sub_self, Int.reduceNeg, ptr, prS, prC])
        | (refine wcall_plain kH ?_ (fun _ h => by subst h; exact ok_plain rfl) ?_; (focus (simp only [prS, prC, evr, id, reduceCtorEq, reduceIte, Nat.reduceMul, Nat.reduceAdd, Nat.reduceLT, Nat.reduceLeDiff, Nat.reduceEqDiff, Int.reduceLT, Int.reduceBEq, Int.reduceBNe, Nat.reduceBEq, List.append_nil, Int.toNat_zero, Nat.sub_self, Int.reduceNeg, ptr, prS, prC]; try rfl)); rintro r rfl; simp -implicitDefEqProofs only [evr, id, reduceCtorEq, reduceIte, Nat.reduceMul, Nat.reduceAdd, Nat.reduceLT, Nat.reduceLeDiff, Nat.reduceEqDiff, Int.reduceLT, Int.reduceBEq, Int.reduceBNe, Nat.reduceBEq, List.append_nil, Int.toNat_zero, Nat.sub_self, Int.reduceNeg, ptr, prS, prC])
        | rfl)
        all_goals
          refine hk _ ?_
          clear hk
          simp only [thenK]
          refine Sat.le (hrest () trivial) ?_
          simp -implicitDefEqProofs only [evr, id, reduceCtorEq, reduceIte, Nat.reduceMul, Nat.reduceAdd, Nat.reduceLT, Nat.reduceLeDiff, Nat.reduceEqDiff, Int.reduceLT, Int.reduceBEq, Int.reduceBNe, Nat.reduceBEq, List.append_nil, Int.toNat_zero, Nat.sub_self, Int.reduceNeg, ptr, prS, prC, evl]
    · (refine Sat.region_tree (.keep [0, 1, 3, 6, 2, 5] [4] (.one 4 (.one 7 (.one 8 (.free 10 (.one 9 (.one 11 (.one 12 (.one 13 (.one 14 (.free 16 (.one 15 (.one 17 (.one 18 (.free 20 (.one 19 (.one 21 (.one 22 (.one 23 (.one 24 .done)))))))))))))))))))) (by kernel_rfl) (by kernel_rfl) (fun _ _ h => h) fun k hk => ?_; simp only [WOT, List.map_cons, List.map_nil, List.getD_cons_zero, List.getD_cons_succ]; simp -implicitDefEqProofs only [evr, id, reduceCtorEq, reduceIte, Nat.reduceMul, Nat.reduceAdd, Nat.reduceLT, Nat.reduceLeDiff, Nat.reduceEqDiff, Int.reduceLT, Int.reduceBEq, Int.reduceBNe, Nat.reduceBEq, List.append_nil, Int.toNat_zero, Nat.sub_self, Int.reduceNeg, ptr, prS, prC, WOT])
      repeat' (first
        | (refine And.intro ?_ ?_)
        | rfl)
      all_goals
        refine hk _ ?_
        clear hk
        simp only [thenK]
        refine Sat.le (hrest () trivial) ?_
        simp -implicitDefEqProofs only [evr, id, reduceCtorEq, reduceIte, Nat.reduceMul, Nat.reduceAdd, Nat.reduceLT, Nat.reduceLeDiff, Nat.reduceEqDiff, Int.reduceLT, Int.reduceBEq, Int.reduceBNe, Nat.reduceBEq, List.append_nil, Int.toNat_zero, Nat.sub_self, Int.reduceNeg, ptr, prS, prC, evl]
  rintro _ _
  try simp only [thenK]
  refine Sat.cond_b rfl (fun h => by cases h) (fun _ => ?_)
  refine Sat.skip ?_
  try simp only [thenK]
  try simp only [prC]
  (repeat refine Sat.seq ?_)
  (refine Sat.region_k fun k hk => ?_; simp -implicitDefEqProofs only [evr, id, reduceCtorEq, reduceIte, Nat.reduceMul, Nat.reduceAdd, Nat.reduceLT, Nat.reduceLeDiff, Nat.reduceEqDiff, Int.reduceLT, Int.reduceBEq, Int.reduceBNe, Nat.reduceBEq, List.append_nil, Int.toNat_zero, Nat.sub_self, Int.reduceNeg, ptr, prS, prC])
  refine wcall_slice (commonC (Frm.codes cb) a b ha hb2) rfl (by simp only [prS, prC, evr, id, reduceCtorEq, reduceIte, Nat.reduceMul, Nat.reduceAdd, Nat.reduceLT, Nat.reduceLeDiff, Nat.reduceEqDiff, Int.reduceLT, Int.reduceBEq, Int.reduceBNe, Nat.reduceBEq, List.append_nil, Int.toNat_zero, Nat.sub_self, Int.reduceNeg, ptr, prS, prC]; try rfl) ?_
  rintro r rfl
  simp -implicitDefEqProofs only [evr, id, reduceCtorEq, reduceIte, Nat.reduceMul, Nat.reduceAdd, Nat.reduceLT, Nat.reduceLeDiff, Nat.reduceEqDiff, Int.reduceLT, Int.reduceBEq, Int.reduceBNe, Nat.reduceBEq, List.append_nil, Int.toNat_zero, Nat.sub_self, Int.reduceNeg, ptr, prS, prC]
  intro b7
  (refine hk _ ?_; clear hk k; try show Sat _ _ _ _ _)
  have hm := comP_vld ha hb2
  have hmo : prOk (comP a b) := by
    have h9 : (comP a b).addr ≤ a := Nat.div_mul_le_self _ _
    exact Nat.lt_of_le_of_lt h9 ha
  obtain ⟨g1, g2⟩ := comP_cont ha hb2
  have kA := containsC (Frm.codes cb) (comP a b) hmo a ha
  have kB := containsC (Frm.codes cb) (comP a b) hmo b hb2
  rw [g1] at kA
  rw [g2] at kB
  (repeat refine Sat.seq ?_)
  (refine Sat.region_k fun k hk => ?_; simp -implicitDefEqProofs only [evr, id, reduceCtorEq, reduceIte, Nat.reduceMul, Nat.reduceAdd, Nat.reduceLT, Nat.reduceLeDiff, Nat.reduceEqDiff, Int.reduceLT, Int.reduceBEq, Int.reduceBNe, Nat.reduceBEq, List.append_nil, Int.toNat_zero, Nat.sub_self, Int.reduceNeg, ptr, prS, prC])
  refine wcall_slice (halvesC (Frm.codes cb) (comP a b) hmo) rfl (by simp only [prS, prC, evr, id, reduceCtorEq, reduceIte, Nat.reduceMul, Nat.reduceAdd, Nat.reduceLT, Nat.reduceLeDiff, Nat.reduceEqDiff, Int.reduceLT, Int.reduceBEq, Int.reduceBNe, Nat.reduceBEq, List.append_nil, Int.toNat_zero, Nat.sub_self, Int.reduceNeg, ptr, prS, prC]; try rfl) ?_
  rintro r rfl
  by_cases hl : (comP a b).len = 32
  · have hab : a = b := (comP_eq ha hb2).1 hl
    have x1 : ((a : Int) == (b : Int)) = true := beq_iff_eq.2 (by rw [hab])
    have x2 : ((comP a b).len == 32) = true := beq_iff_eq.2 hl
    have hh : hlvS (comP a b) = tupL [prS ⟨0, 0⟩, prS ⟨0, 0⟩, .b false] := if_neg (fun h => h.2 hl)
    rw [hh]
    simp -implicitDefEqProofs only [evr, id, reduceCtorEq, reduceIte, Nat.reduceMul, Nat.reduceAdd, Nat.reduceLT, Nat.reduceLeDiff, Nat.reduceEqDiff, Int.reduceLT, Int.reduceBEq, Int.reduceBNe, Nat.reduceBEq, List.append_nil, Int.toNat_zero, Nat.sub_self, Int.reduceNeg, ptr, prS, prC]
    (refine hk _ ?_; clear hk k; try show Sat _ _ _ _ _)
    (repeat refine Sat.seq ?_)
    (refine Sat.region_tree (.keep [1, 0] [] (.one 2 (.one 3 (.free 5 (.one 4 (.one 6 (.one 7 (.one 8 (.free 9 (.free 10 (.free 11 (.one 12 (.one 13 (.one 14 (.one 15 (.one 16 (.one 17 (.one 18 (.one 19 (.one 20 (.free 22 (.free 25 (.alt 21 (.alt 23 (.one 24 (.one 26 (.one 27 (.one 28 (.one 29 (.one 30 .done)))))) (.alt 24 (.one 23 (.one 26 (.one 27 (.one 28 (.one 29 (.one 30 .done)))))) .none)) (.alt 24 (.one 21 (.one 23 (.one 26 (.one 27 (.one 28 (.one 29 (.one 30 .done))))))) .none)))))))))))))))))))))))) (by kernel_rfl) (by kernel_rfl) (fun _ _ h => h) fun k hk => ?_; simp only [WOT, List.map_cons, List.map_nil, List.getD_cons_zero, List.getD_cons_succ]; simp -implicitDefEqProofs only [evr, id, reduceCtorEq, reduceIte, Nat.reduceMul, Nat.reduceAdd, Nat.reduceLT, Nat.reduceLeDiff, Nat.reduceEqDiff, Int.reduceLT, Int.reduceBEq, Int.reduceBNe, Nat.reduceBEq, List.append_nil, Int.toNat_zero, Nat.sub_self, Int.reduceNeg, ptr, prS, prC, WOT])
    repeat' (first
        | (refine And.intro ?_ ?_)
        | (refine wcall_plain kA ?_ (fun _ h => by subst h; exact ok_plain rfl) ?_; (focus (simp only [prS, prC, evr, id, reduceCtorEq, reduceIte, Nat.reduceMul, Nat.reduceAdd, Nat.reduceLT, Nat.reduceLeDiff, Nat.reduceEqDiff, Int.reduceLT, Int.reduceBEq, Int.reduceBNe, Nat.reduceBEq, List.append_nil, Int.toNat_zero, Nat.sub_self, Int.reduceNeg, ptr, prS, prC]; try rfl)); rintro r rfl; simp -implicitDefEqProofs only [evr, id, reduceCtorEq, reduceIte, Nat.reduceMul, Nat.reduceAdd, Nat.reduceLT, Nat.reduceLeDiff, Nat.reduceEqDiff, Int.reduceLT, Int.reduceBEq, Int.reduceBNe, Nat.reduceBEq, List.append_nil, Int.toNat_zero, Nat.sub_self, Int.reduceNeg, ptr, prS, prC])
        | (refine wcall_plain kB ?_ (fun _ h => by subst h; exact ok_plain rfl) ?_; (focus (simp only [prS, prC, evr, id, reduceCtorEq, reduceIte, Nat.reduceMul, Nat.reduceAdd, Nat.reduceLT, Nat.reduceLeDiff, Nat.reduceEqDiff, Int.reduceLT, Int.reduceBEq, Int.reduceBNe, Nat.reduceBEq, List.append_nil, Int.toNat_zero, Nat.sub_self, Int.reduceNeg, ptr, prS, prC]; try rfl)); rintro r rfl; simp -implicitDefEqProofs only [evr, id, reduceCtorEq, reduceIte, Nat.reduceMul, Nat.reduceAdd, Nat.reduceLT, Nat.reduceLeDiff, Nat.reduceEqDiff, Int.reduceLT, Int.reduceBEq, Int.reduceBNe, Nat.reduceBEq, List.append_nil, Int.toNat_zero, Nat.sub_self, Int.reduceNeg, ptr, prS, prC])
        | rfl
        | (intro hx; rw [x1, x2] at hx; exact absurd hx (by decide))
        | (intro hx; rw [x1, x2] at hx))
    all_goals
      refine hk _ ?_
      clear hk
      try simp only [thenK]
      refine Sat.ret ?_
      simp only [Tryd.results6, evr, id, reduceCtorEq, reduceIte, Nat.reduceMul, Nat.reduceAdd, Nat.reduceLT, Nat.reduceLeDiff, Nat.reduceEqDiff, Int.reduceLT, Int.reduceBEq, Int.reduceBNe, Nat.reduceBEq, List.append_nil, Int.toNat_zero, Nat.sub_self, Int.reduceNeg, ptr, prS, prC]
  · have hab : ¬ a = b := fun h => hl ((comP_eq ha hb2).2 h)
    have x1 : ((a : Int) == (b : Int)) = false := beq_eq_false_iff_ne.2 (by omega)
    have x2 : ((comP a b).len == 32) = false := beq_eq_false_iff_ne.2 hl
    have hh : hlvS (comP a b) = tupL [prS (half1 (comP a b)), prS (half2 (comP a b)), .b true] := if_pos ⟨hm, hl⟩
    rw [hh]
    simp -implicitDefEqProofs only [evr, id, reduceCtorEq, reduceIte, Nat.reduceMul, Nat.reduceAdd, Nat.reduceLT, Nat.reduceLeDiff, Nat.reduceEqDiff, Int.reduceLT, Int.reduceBEq, Int.reduceBNe, Nat.reduceBEq, List.append_nil, Int.toNat_zero, Nat.sub_self, Int.reduceNeg, ptr, prS, prC]
    (refine hk _ ?_; clear hk k; try show Sat _ _ _ _ _)
    have kL := containsC (Frm.codes cb) (half1 (comP a b)) hmo a ha
    have kM := containsC (Frm.codes cb) (half1 (comP a b)) hmo b hb2
    have hc := com_halves ha hb2 hl
    rcases (show (cont (half1 (comP a b)) a = true ∧ cont (half1 (comP a b)) b = false) ∨ (cont (half1 (comP a b)) a = false ∧ cont (half1 (comP a b)) b = true) by
      revert hc
      cases cont (half1 (comP a b)) a <;> cases cont (half1 (comP a b)) b <;> simp) with ⟨f1, f2⟩ | ⟨f1, f2⟩
    all_goals
      rw [f1] at kL
      rw [f2] at kM
      (repeat refine Sat.seq ?_)
      (refine Sat.region_tree (.keep [1, 0] [] (.one 2 (.one 3 (.free 5 (.one 4 (.one 6 (.one 7 (.one 8 (.free 9 (.free 10 (.free 11 (.one 12 (.one 13 (.one 14 (.one 15 (.one 16 (.one 17 (.one 18 (.one 19 (.one 20 (.free 22 (.free 25 (.alt 21 (.alt 23 (.one 24 (.one 26 (.one 27 (.one 28 (.one 29 (.one 30 .done)))))) (.alt 24 (.one 23 (.one 26 (.one 27 (.one 28 (.one 29 (.one 30 .done)))))) .none)) (.alt 24 (.one 21 (.one 23 (.one 26 (.one 27 (.one 28 (.one 29 (.one 30 .done))))))) .none)))))))))))))))))))))))) (by kernel_rfl) (by kernel_rfl) (fun _ _ h => h) fun k hk => ?_; simp only [WOT, List.map_cons, List.map_nil, List.getD_cons_zero, List.getD_cons_succ]; simp -implicitDefEqProofs only [evr, id, reduceCtorEq, reduceIte, Nat.reduceMul, Nat.reduceAdd, Nat.reduceLT, Nat.reduceLeDiff, Nat.reduceEqDiff, Int.reduceLT, Int.reduceBEq, Int.reduceBNe, Nat.reduceBEq, List.append_nil, Int.toNat_zero, Nat.sub_self, Int.reduceNeg, ptr, prS, prC, WOT])
      repeat' (first
        | (refine And.intro ?_ ?_)
        | (refine wcall_plain kA ?_ (fun _ h => by subst h; exact ok_plain rfl) ?_; (focus (simp only [prS, prC, evr, id, reduceCtorEq, reduceIte, Nat.reduceMul, Nat.reduceAdd, Nat.reduceLT, Nat.reduceLeDiff, Nat.reduceEqDiff, Int.reduceLT, Int.reduceBEq, Int.reduceBNe, Nat.reduceBEq, List.append_nil, Int.toNat_zero, Nat.sub_self, Int.reduceNeg, ptr, prS, prC]; try rfl)); rintro r rfl; simp -implicitDefEqProofs only [evr, id, reduceCtorEq, reduceIte, Nat.reduceMul, Nat.reduceAdd, Nat.reduceLT, Nat.reduceLeDiff, Nat.reduceEqDiff, Int.reduceLT, Int.reduceBEq, Int.reduceBNe, Nat.reduceBEq, List.append_nil, Int.toNat_zero, Nat.sub_self, Int.reduceNeg, ptr, prS, prC])
        | (refine wcall_plain kB ?_ (fun _ h => by subst h; exact ok_plain rfl) ?_; (focus (simp only [prS, prC, evr, id, reduceCtorEq, reduceIte, Nat.reduceMul, Nat.reduceAdd, Nat.reduceLT, Nat.reduceLeDiff, Nat.reduceEqDiff, Int.reduceLT, Int.reduceBEq, Int.reduceBNe, Nat.reduceBEq, List.append_nil, Int.toNat_zero, Nat.sub_self, Int.reduceNeg, ptr, prS, prC]; try rfl)); rintro r rfl; simp -implicitDefEqProofs only [evr, id, reduceCtorEq, reduceIte, Nat.reduceMul, Nat.reduceAdd, Nat.reduceLT, Nat.reduceLeDiff, Nat.reduceEqDiff, Int.reduceLT, Int.reduceBEq, Int.reduceBNe, Nat.reduceBEq, List.append_nil, Int.toNat_zero, Nat.sub_self, Int.reduceNeg, ptr, prS, prC])
        | (refine wcall_plain kL ?_ (fun _ h => by subst h; exact ok_plain rfl) ?_; (focus (simp only [prS, prC, evr, id, reduceCtorEq, reduceIte, Nat.reduceMul, Nat.reduceAdd, Nat.reduceLT, Nat.reduceLeDiff, Nat.reduceEqDiff, Int.reduceLT, Int.reduceBEq, Int.reduceBNe, Nat.reduceBEq, List.append_nil, Int.toNat_zero, Nat.sub_self, Int.reduceNeg, ptr, prS, prC]; try rfl)); rintro r rfl; simp -implicitDefEqProofs only [evr, id, reduceCtorEq, reduceIte, Nat.reduceMul, Nat.reduceAdd, Nat.reduceLT, Nat.reduceLeDiff, Nat.reduceEqDiff, Int.reduceLT, Int.reduceBEq, Int.reduceBNe, Nat.reduceBEq, List.append_nil, Int.toNat_zero, Nat.sub_self, Int.reduceNeg, ptr, prS, prC])
        | (refine wcall_plain kM ?_ (fun _ h => by subst h; exact ok_plain rfl) ?_; (focus (simp only [prS, prC, evr, id, reduceCtorEq, reduceIte, Nat.reduceMul, Nat.reduceAdd, Nat.reduceLT, Nat.reduceLeDiff, Nat.reduceEqDiff, Int.reduceLT, Int.reduceBEq, Int.reduceBNe, Nat.reduceBEq, List.append_nil, Int.toNat_zero, Nat.sub_self, Int.reduceNeg, ptr, prS, prC]; try rfl)); rintro r rfl; simp -implicitDefEqProofs only [evr, id, reduceCtorEq, reduceIte, Nat.reduceMul, Nat.reduceAdd, Nat.reduceLT, Nat.reduceLeDiff, Nat.reduceEqDiff, Int.reduceLT, Int.reduceBEq, Int.reduceBNe, Nat.reduceBEq, List.append_nil, Int.toNat_zero, Nat.sub_self, Int.reduceNeg, ptr, prS, prC])
        | rfl
        | (intro hx; rw [x1, x2] at hx; exact absurd hx (by decide))
        | (intro hx; rw [x1, x2] at hx))
      all_goals
        refine hk _ ?_
        clear hk
        try simp only [thenK]
        refine Sat.ret ?_
        simp only [Tryd.results6, evr, id, reduceCtorEq, reduceIte, Nat.reduceMul, Nat.reduceAdd, Nat.reduceLT, Nat.reduceLeDiff, Nat.reduceEqDiff, Int.reduceLT, Int.reduceBEq, Int.reduceBNe, Nat.reduceBEq, List.append_nil, Int.toNat_zero, Nat.sub_self, Int.reduceNeg, ptr, prS, prC]
theorem tree_of (hAw : Contract Frm.nil Tryd.prog 9 [] (fun r => r = .b true)) : Rows.AddressTreeCardSaid := addressTree.card_of_walk fun a0 z0 a1 a2 w hL ⟨h, hz⟩ h1 h2 => by
  obtain ⟨a, cap, rfl, hok⟩ := slB_of h
  have k1 := bounds_u32 h1
  have k2 := bounds_u32 h2
  obtain ⟨x1, rfl⟩ := Int.eq_ofNat_of_zero_le (show 0 ≤ a1 by omega)
  obtain ⟨x2, rfl⟩ := Int.eq_ofNat_of_zero_le (show 0 ≤ a2 by omega)
  exact walk_of (treeC hAw a cap z0 (slB_bytes1 a cap z0 hz) x1 x2 (by omega) (by omega)) (fun s hs => by
    rcases List.mem_cons.1 hs with rfl | hs
    · exact hok
    · rcases List.mem_cons.1 hs with rfl | hs
      · trivial
      · rw [List.mem_singleton.1 hs]; trivial)
end Go.Proofs.YtceacooambpkdaaDoor
