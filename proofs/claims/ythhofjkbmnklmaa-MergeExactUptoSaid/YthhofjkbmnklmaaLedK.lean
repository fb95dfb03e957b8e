/- Ledgers, by the evaluator: the sanity check of the statements. -/
import Derived.Test.YthhofjkbmnklmaaLedI
import Derived.Test.YthhofjkbmnklmaaLedJ
import Derived.Test.YthhofjkbmnklmaaLedMath
set_option linter.unusedSimpArgs false
set_option linter.unusedVariables false
namespace Go.Proofs.Ythhofjkbmnklmaa
open Go.Sort Eng

theorem rdL_res : ∀ xs : List Res, rdEq xs.length 17 (rdL (xs.map Res.cs).flatten 17) (resRd xs.toArray)
  | [] => fun i j hi => absurd hi (Nat.not_lt_zero _)
  | x :: xs => by
    intro i j hi hj
    have ih := rdL_res xs
    cases i with
    | zero =>
      show (((x :: xs).map Res.cs).flatten).getD (0 * 17 + j) default = (Res.cs (x :: xs).toArray[0]!).getD j default
      have h17 : (Res.cs x).length = 17 := rfl
      simp [List.getD, List.getElem?_append, h17, hj]
    | succ i =>
      have h1 := ih i j (by simpa using hi) hj
      have h17 : (Res.cs x).length = 17 := rfl
      have e : (i + 1) * 17 + j = 17 + (i * 17 + j) := by omega
      have l : rdL ((x :: xs).map Res.cs).flatten 17 (i + 1) j = rdL (xs.map Res.cs).flatten 17 i j := by
        unfold rdL
        rw [e]
        simp [List.getD, List.getElem?_append, h17, show ¬ (17 + (i * 17 + j) < 17) by omega]
      have r : resRd (x :: xs).toArray (i + 1) j = resRd xs.toArray i j := by
        unfold resRd
        simp [getElem!_def]
      rw [l, r, h1]
def led0 : LedP := ⟨none, 0, [], none, 0, []⟩
theorem led0_sim (rd rd' : Nat → Nat → SV) : sim (.agg 2 fun j => [SV.sl none 0 0 0 rd, SV.sl none 0 0 0 rd'].getD j default) (ledS led0) := sim_agg2 (sim_nil _ _ _ _) (sim_nil _ _ _ _)

def awR : Res := { (default : Res) with proto := 17, ttl := 1 }
def awS : Res := { awR with back := 1 }
theorem aw_canon : Canon [awR, awS] ([] ++ [awR, awS, awR]) := ⟨by decide, fun r => by
  simp only [List.nil_append, List.mem_cons, List.not_mem_nil, or_false]
  exact ⟨fun h => h.elim .inl fun h => .inr (.inl h), fun h => h.elim .inl fun h => h.elim .inr .inl⟩⟩
theorem aw_led : ledOf [awR, awS] = ⟨[], [⟨0, 0, 0, [awR, awS]⟩]⟩ := by decide

set_option maxRecDepth 100000 in
theorem awakeC (F : Frm) : Contract F Try.prog 9 [] (fun r => r = .b true) := by
  refine contract_of Try.func9 rfl (by kernel_rfl) ?_
  simp only [Try.ntmps9, argEnv]
  (repeat refine Sat.seq ?_)
  (refine Sat.region_k fun k hk => ?_; simp -implicitDefEqProofs only [evr, id, reduceCtorEq, reduceIte, Nat.reduceMul, Nat.reduceAdd, Nat.reduceLT, Nat.reduceLeDiff, Nat.reduceEqDiff, Int.reduceLT, Int.reduceBEq, Int.reduceBNe, Nat.reduceBEq, res_one, res_ro, List.append_nil, Int.toNat_zero, Nat.sub_self, resRow, Int.reduceLE, Int.reduceLT, decide_true, decide_false, Int.reduceAdd]; refine hk _ ?_; clear hk k; try show Sat _ _ _ _ _)
  (repeat refine Sat.seq ?_)
  (refine Sat.region_k fun k hk => ?_; simp -implicitDefEqProofs only [evr, id, reduceCtorEq, reduceIte, Nat.reduceMul, Nat.reduceAdd, Nat.reduceLT, Nat.reduceLeDiff, Nat.reduceEqDiff, Int.reduceLT, Int.reduceBEq, Int.reduceBNe, Nat.reduceBEq, res_one, res_ro, List.append_nil, Int.toNat_zero, Nat.sub_self, resRow, Int.reduceLE, Int.reduceLT, decide_true, decide_false, Int.reduceAdd])
  intro blk1
  (refine hk _ ?_; clear hk k; try show Sat _ _ _ _ _)
  (repeat refine Sat.seq ?_)
  (refine Sat.region_k fun k hk => ?_; simp -implicitDefEqProofs only [evr, id, reduceCtorEq, reduceIte, Nat.reduceMul, Nat.reduceAdd, Nat.reduceLT, Nat.reduceLeDiff, Nat.reduceEqDiff, Int.reduceLT, Int.reduceBEq, Int.reduceBNe, Nat.reduceBEq, res_one, res_ro, List.append_nil, Int.toNat_zero, Nat.sub_self, resRow, Int.reduceLE, Int.reduceLT, decide_true, decide_false, Int.reduceAdd])
  intro blk2
  (refine hk _ ?_; clear hk k; try show Sat _ _ _ _ _)
  (repeat refine Sat.seq ?_)
  (refine Sat.region_k fun k hk => ?_; simp -implicitDefEqProofs only [evr, id, reduceCtorEq, reduceIte, Nat.reduceMul, Nat.reduceAdd, Nat.reduceLT, Nat.reduceLeDiff, Nat.reduceEqDiff, Int.reduceLT, Int.reduceBEq, Int.reduceBNe, Nat.reduceBEq, res_one, res_ro, List.append_nil, Int.toNat_zero, Nat.sub_self, resRow, Int.reduceLE, Int.reduceLT, decide_true, decide_false, Int.reduceAdd]; refine hk _ ?_; clear hk k; try show Sat _ _ _ _ _)
  (repeat refine Sat.seq ?_)
  (refine Sat.region_k fun k hk => ?_; simp -implicitDefEqProofs only [evr, id, reduceCtorEq, reduceIte, Nat.reduceMul, Nat.reduceAdd, Nat.reduceLT, Nat.reduceLeDiff, Nat.reduceEqDiff, Int.reduceLT, Int.reduceBEq, Int.reduceBNe, Nat.reduceBEq, res_one, res_ro, List.append_nil, Int.toNat_zero, Nat.sub_self, resRow, Int.reduceLE, Int.reduceLT, decide_true, decide_false, Int.reduceAdd])
  intro blk3
  refine wcall_slice (Contract.of_sim (args := [_, _]) (addC F led0 (Nat.zero_le _) (some ⟨blk3, 0, none⟩) 3 [awR, awS, awR] (by decide)) ⟨led0_sim _ _, sim_sl (rdL_res [awR, awS, awR]), trivial⟩) rfl (by simp -implicitDefEqProofs only [evr, id, reduceCtorEq, reduceIte, Nat.reduceMul, Nat.reduceAdd, Nat.reduceLT, Nat.reduceLeDiff, Nat.reduceEqDiff, Int.reduceLT, Int.reduceBEq, Int.reduceBNe, Nat.reduceBEq, res_one, res_ro, List.append_nil, Int.toNat_zero, Nat.sub_self, resRow, Int.reduceLE, Int.reduceLT, decide_true, decide_false, Int.reduceAdd]; rfl) ?_
  rintro r ⟨p, c, e, h1, h2, h3, h4, rfl⟩
  have hc : c = [awR, awS] := h1.unique aw_canon fun r => Iff.rfl
  subst hc
  obtain ⟨_, rfl, hled⟩ : ([awR, awS] : List Res).length ≤ 16384 ∧ e = 0 ∧ p.led = ledOf [awR, awS] := by
    rcases h3 with h3 | h3
    · exact h3
    · exact absurd h3.1 (by decide)
  have hsz : p.led.size = 2 := by rw [hled, ledOf_size]; rfl
  rw [aw_led] at hled
  have hrs : p.rs = [] := congrArg Led.rs hled
  have hcs : p.cs.length = 1 := by
    have := congrArg (fun l => l.cs.length) hled
    simpa [LedP.led] using this
  simp -implicitDefEqProofs only [evr, id, reduceCtorEq, reduceIte, Nat.reduceMul, Nat.reduceAdd, Nat.reduceLT, Nat.reduceLeDiff, Nat.reduceEqDiff, Int.reduceLT, Int.reduceBEq, Int.reduceBNe, Nat.reduceBEq, res_one, res_ro, List.append_nil, Int.toNat_zero, Nat.sub_self, resRow, Int.reduceLE, Int.reduceLT, decide_true, decide_false, Int.reduceAdd, ledS]
  intro blk4
  (refine hk _ ?_; clear hk k; try show Sat _ _ _ _ _)
  (repeat refine Sat.seq ?_)
  (refine Sat.region_k fun k hk => ?_; simp -implicitDefEqProofs only [evr, id, reduceCtorEq, reduceIte, Nat.reduceMul, Nat.reduceAdd, Nat.reduceLT, Nat.reduceLeDiff, Nat.reduceEqDiff, Int.reduceLT, Int.reduceBEq, Int.reduceBNe, Nat.reduceBEq, res_one, res_ro, List.append_nil, Int.toNat_zero, Nat.sub_self, resRow, Int.reduceLE, Int.reduceLT, decide_true, decide_false, Int.reduceAdd])
  refine wcall_slice (findC F p (by rw [hrs]; exact Nat.zero_le _) (by rw [hrs]; exact List.Pairwise.nil) 0 0 0) rfl rfl ?_
  rintro r rfl
  have hf : findR p.rs 0 0 0 = none := by rw [hrs]; rfl
  simp -implicitDefEqProofs only [evr, id, reduceCtorEq, reduceIte, Nat.reduceMul, Nat.reduceAdd, Nat.reduceLT, Nat.reduceLeDiff, Nat.reduceEqDiff, Int.reduceLT, Int.reduceBEq, Int.reduceBNe, Nat.reduceBEq, res_one, res_ro, List.append_nil, Int.toNat_zero, Nat.sub_self, resRow, Int.reduceLE, Int.reduceLT, decide_true, decide_false, Int.reduceAdd, hf, Option.isSome_none, Option.getD_none, resAg, Res.cs]
  intro blk5
  (refine hk _ ?_; clear hk k; try show Sat _ _ _ _ _)
  (repeat refine Sat.seq ?_)
  (refine Sat.region_k fun k hk => ?_; simp -implicitDefEqProofs only [evr, id, reduceCtorEq, reduceIte, Nat.reduceMul, Nat.reduceAdd, Nat.reduceLT, Nat.reduceLeDiff, Nat.reduceEqDiff, Int.reduceLT, Int.reduceBEq, Int.reduceBNe, Nat.reduceBEq, res_one, res_ro, List.append_nil, Int.toNat_zero, Nat.sub_self, resRow, Int.reduceLE, Int.reduceLT, decide_true, decide_false, Int.reduceAdd])
  refine ⟨fun _ => ?_, fun h => absurd h (by rw [hcs]; decide)⟩
  refine wcall_plain (sizeC F p (by omega) (by omega)) rfl (by rintro _ rfl; exact ok_plain rfl) ?_
  rintro r rfl
  simp -implicitDefEqProofs only [evr, id, reduceCtorEq, reduceIte, Nat.reduceMul, Nat.reduceAdd, Nat.reduceLT, Nat.reduceLeDiff, Nat.reduceEqDiff, Int.reduceLT, Int.reduceBEq, Int.reduceBNe, Nat.reduceBEq, res_one, res_ro, List.append_nil, Int.toNat_zero, Nat.sub_self, resRow, Int.reduceLE, Int.reduceLT, decide_true, decide_false, Int.reduceAdd, hsz]
  (refine hk _ ?_; clear hk k; try show Sat _ _ _ _ _)
  refine Sat.ret ?_
  simp only [Try.results9, evr, id, reduceCtorEq, reduceIte, Nat.reduceMul, Nat.reduceAdd, Nat.reduceLT, Nat.reduceLeDiff, Nat.reduceEqDiff, Int.reduceLT, Int.reduceBEq, Int.reduceBNe, Nat.reduceBEq, res_one, res_ro, List.append_nil, Int.toNat_zero, Nat.sub_self, resRow, Int.reduceLE, Int.reduceLT, decide_true, decide_false, Int.reduceAdd]
  try rfl
end Go.Proofs.Ythhofjkbmnklmaa
