/- It is proved that the statement ScheduleRounds holds for every input: each round of each task is there once, at its time, in order. No conditions. -/
import Derived.Test.YtgimngpcfenoaaaSchE
import Derived.Test.YtgimngpcfenoaaaWalkE
import Derived.Test.YtgimngpcfenoaaaShScheduleRounds
set_option linter.unusedSimpArgs false
set_option linter.unusedVariables false
namespace Go.Proofs.Ytgimngpcfenoaaa
open Go.Sort Eng

namespace Eng
/-- a block of which a fact holds is used up by a call that turns it -/
theorem useM {P : Program} {F' : Frm} {cb : Nat} {f : FuncId} {args : List SV} {post : SV → Prop} (hM : ∀ b, F'.M b ↔ b = cb) (h : Contract F' P f args post) : ContractM Frm.nil P f args (.res cb F'.Inv) (fun r o1 => post r ∧ o1 = .gone) := by
  refine ⟨h.enters, fun R w ob hinv hobM hobw ho0 hargs hR => ?_⟩
  obtain ⟨h1, h2, h3, h4⟩ := ho0
  refine (h.calls R w (h4 w fun _ _ => rfl) hargs (fun b hb => ⟨(hR b hb).1, fun hm => by rw [hM] at hm; subst hm; exact h2 hb⟩)).mono ?_
  rintro e w' ⟨r, rfl, hpost, hrok, hevo, _⟩
  exact ⟨r, .gone, _, rfl, ⟨hpost, rfl⟩, fun b hb => .inl hb, fun b hb => hb, hrok, (fun b hb => by cases hb), trivial, ⟨hevo.os, hevo.tape, hevo.output, hevo.size, fun b hb hm => hevo.block b hb fun hf => hm (.inr (by rw [(hM b).1 hf]; rfl))⟩, trivial⟩
end Eng
theorem due_0 (d : Array Due) (i : Nat) : dueRd d i 0 = .i .i64 d[i]!.task := rfl
theorem due_1 (d : Array Due) (i : Nat) : dueRd d i 1 = .i .i64 d[i]!.round := rfl
theorem due_2 (d : Array Due) (i : Nat) : dueRd d i 2 = .i .i64 d[i]!.at_ := rfl
theorem slB_bytesR (a : Option Addr) (cap : Nat) (z : List Int) (hz : ∀ n ∈ z, (Lit.int .u8 n).wf = true) : isBytes (slB a cap z) :=
  ⟨a, z.length, cap, _, rfl, fun i hi => ⟨z.getD i 0, by have := bounds_u8 (hz _ (getD_mem (d := 0) hi)); omega, by have := bounds_u8 (hz _ (getD_mem (d := 0) hi)); omega, rfl⟩⟩

set_option maxHeartbeats 2000000 in
set_option maxRecDepth 100000 in
theorem roundsC (a : Option Addr) (cap : Nat) (z : List Int) (hz : ∀ n ∈ z, (Lit.int .u8 n).wf = true) : Contract Frm.nil Try.prog 3 [slB a cap z] (fun r => r = .b true) := by
  have hb := slB_bytesR a cap z hz
  refine contract_of Try.func3 rfl (by kernel_rfl) ?_
  simp only [Try.ntmps3, argEnv]
  (repeat refine Sat.seq ?_)
  (refine Sat.region_k fun k hk => ?_; simp -implicitDefEqProofs only [evr, id, reduceCtorEq, reduceIte, Nat.reduceMul, Nat.reduceAdd, Nat.reduceLT, Nat.reduceLeDiff, Nat.reduceEqDiff, Int.reduceLT, Int.reduceBEq, Int.reduceBNe, Nat.reduceBEq, ptr, due_one, due_0, due_1, due_2, List.append_nil, Int.toNat_zero, Nat.sub_self, dueRow, tsk_one, tsk_0, tsk_1, tsk_2, tsk_3, tsk_4, tsk_5, tsk_6, planC]; refine hk _ ?_; clear hk k; try show Sat _ _ _ _ _)
  (repeat refine Sat.seq ?_)
  (refine Sat.region_k fun k hk => ?_; simp -implicitDefEqProofs only [evr, id, reduceCtorEq, reduceIte, Nat.reduceMul, Nat.reduceAdd, Nat.reduceLT, Nat.reduceLeDiff, Nat.reduceEqDiff, Int.reduceLT, Int.reduceBEq, Int.reduceBNe, Nat.reduceBEq, ptr, due_one, due_0, due_1, due_2, List.append_nil, Int.toNat_zero, Nat.sub_self, dueRow, tsk_one, tsk_0, tsk_1, tsk_2, tsk_3, tsk_4, tsk_5, tsk_6, planC])
  refine wcall_plain (awakeC Frm.nil) rfl (by rintro _ rfl; exact ok_plain rfl) ?_
  rintro r rfl
  simp -implicitDefEqProofs only [evr, id, reduceCtorEq, reduceIte, Nat.reduceMul, Nat.reduceAdd, Nat.reduceLT, Nat.reduceLeDiff, Nat.reduceEqDiff, Int.reduceLT, Int.reduceBEq, Int.reduceBNe, Nat.reduceBEq, ptr, due_one, due_0, due_1, due_2, List.append_nil, Int.toNat_zero, Nat.sub_self, dueRow, tsk_one, tsk_0, tsk_1, tsk_2, tsk_3, tsk_4, tsk_5, tsk_6, planC]
  (refine hk _ ?_; clear hk k; try show Sat _ _ _ _ _)
  (repeat refine Sat.seq ?_)
  refine Sat.cond_b rfl (fun h => absurd h (by decide)) (fun _ => ?_)
  refine Sat.skip ?_
  simp only [thenK]
  (repeat refine Sat.seq ?_)
  (refine Sat.region_k fun k hk => ?_; simp -implicitDefEqProofs only [evr, id, reduceCtorEq, reduceIte, Nat.reduceMul, Nat.reduceAdd, Nat.reduceLT, Nat.reduceLeDiff, Nat.reduceEqDiff, Int.reduceLT, Int.reduceBEq, Int.reduceBNe, Nat.reduceBEq, ptr, due_one, due_0, due_1, due_2, List.append_nil, Int.toNat_zero, Nat.sub_self, dueRow, tsk_one, tsk_0, tsk_1, tsk_2, tsk_3, tsk_4, tsk_5, tsk_6, planC])
  refine wcall_make (newRC (slB a cap z) hb 200 (by decide)) ?_
  intro cb
  simp -implicitDefEqProofs only [evr, id, reduceCtorEq, reduceIte, Nat.reduceMul, Nat.reduceAdd, Nat.reduceLT, Nat.reduceLeDiff, Nat.reduceEqDiff, Int.reduceLT, Int.reduceBEq, Int.reduceBNe, Nat.reduceBEq, ptr, due_one, due_0, due_1, due_2, List.append_nil, Int.toNat_zero, Nat.sub_self, dueRow, tsk_one, tsk_0, tsk_1, tsk_2, tsk_3, tsk_4, tsk_5, tsk_6, planC]
  refine wcall_mut 0 (useM (F' := Frm.codes cb) (fun b => Iff.rfl) (rightC cb)) rfl rfl ?_
  rintro r o1 ⟨⟨p, hp, rfl⟩, rfl⟩
  have hts : ∀ i, i < p.ts.length → smallT (p.ts.getD i default) := fun i hi => hp.ts _ (by
    have : p.ts.getD i default = p.ts[i] := by simp [List.getD, hi]
    rw [this]; exact List.getElem_mem _)
  have hlen := hp.len
  have hcnt : ∀ k, k ≤ p.ts.length → cntT p.ts k ≤ 1000 * k := fun k hk => cntT_le p.ts (fun t ht => by have := (hp.ts t ht).2.2.2.2.2.2.2.2.2.2.2; omega) k hk
  simp -implicitDefEqProofs only [evr, id, reduceCtorEq, reduceIte, Nat.reduceMul, Nat.reduceAdd, Nat.reduceLT, Nat.reduceLeDiff, Nat.reduceEqDiff, Int.reduceLT, Int.reduceBEq, Int.reduceBNe, Nat.reduceBEq, ptr, due_one, due_0, due_1, due_2, List.append_nil, Int.toNat_zero, Nat.sub_self, dueRow, tsk_one, tsk_0, tsk_1, tsk_2, tsk_3, tsk_4, tsk_5, tsk_6, planC, planS, renM]
  intro b3
  (refine hk _ ?_; clear hk k; try show Sat _ _ _ _ _)
  (repeat refine Sat.seq ?_)
  (refine Sat.region_k fun k hk => ?_; simp -implicitDefEqProofs only [evr, id, reduceCtorEq, reduceIte, Nat.reduceMul, Nat.reduceAdd, Nat.reduceLT, Nat.reduceLeDiff, Nat.reduceEqDiff, Int.reduceLT, Int.reduceBEq, Int.reduceBNe, Nat.reduceBEq, ptr, due_one, due_0, due_1, due_2, List.append_nil, Int.toNat_zero, Nat.sub_self, dueRow, tsk_one, tsk_0, tsk_1, tsk_2, tsk_3, tsk_4, tsk_5, tsk_6, planC])
  refine wcall_slice (allDueC Frm.nil p (by omega) (fun t ht => (hp.ts t ht).ok)) rfl (by simp -implicitDefEqProofs only [evr, id, reduceCtorEq, reduceIte, Nat.reduceMul, Nat.reduceAdd, Nat.reduceLT, Nat.reduceLeDiff, Nat.reduceEqDiff, Int.reduceLT, Int.reduceBEq, Int.reduceBNe, Nat.reduceBEq, ptr, due_one, due_0, due_1, due_2, List.append_nil, Int.toNat_zero, Nat.sub_self, dueRow, tsk_one, tsk_0, tsk_1, tsk_2, tsk_3, tsk_4, tsk_5, tsk_6, planC, planS]) ?_
  rintro r ⟨aL, cL, L, hL, rfl⟩
  simp -implicitDefEqProofs only [evr, id, reduceCtorEq, reduceIte, Nat.reduceMul, Nat.reduceAdd, Nat.reduceLT, Nat.reduceLeDiff, Nat.reduceEqDiff, Int.reduceLT, Int.reduceBEq, Int.reduceBNe, Nat.reduceBEq, ptr, due_one, due_0, due_1, due_2, List.append_nil, Int.toNat_zero, Nat.sub_self, dueRow, tsk_one, tsk_0, tsk_1, tsk_2, tsk_3, tsk_4, tsk_5, tsk_6, planC]
  (refine hk _ ?_; clear hk k; try show Sat _ _ _ _ _)
  have hLl : L.length = cntT p.ts p.ts.length := by rw [hL.perm.length_eq, gen_len]
  (repeat refine Sat.seq ?_)
  (refine Sat.region_k fun k hk => ?_; simp -implicitDefEqProofs only [evr, id, reduceCtorEq, reduceIte, Nat.reduceMul, Nat.reduceAdd, Nat.reduceLT, Nat.reduceLeDiff, Nat.reduceEqDiff, Int.reduceLT, Int.reduceBEq, Int.reduceBNe, Nat.reduceBEq, ptr, due_one, due_0, due_1, due_2, List.append_nil, Int.toNat_zero, Nat.sub_self, dueRow, tsk_one, tsk_0, tsk_1, tsk_2, tsk_3, tsk_4, tsk_5, tsk_6, planC]; refine hk _ ?_; clear hk k; try show Sat _ _ _ _ _)
  (repeat refine Sat.seq ?_)
  (refine Sat.region_k fun k hk => ?_; simp -implicitDefEqProofs only [evr, id, reduceCtorEq, reduceIte, Nat.reduceMul, Nat.reduceAdd, Nat.reduceLT, Nat.reduceLeDiff, Nat.reduceEqDiff, Int.reduceLT, Int.reduceBEq, Int.reduceBNe, Nat.reduceBEq, ptr, due_one, due_0, due_1, due_2, List.append_nil, Int.toNat_zero, Nat.sub_self, dueRow, tsk_one, tsk_0, tsk_1, tsk_2, tsk_3, tsk_4, tsk_5, tsk_6, planC]; refine hk _ ?_; clear hk k; try show Sat _ _ _ _ _)
  (repeat refine Sat.seq ?_)
  refine Sat.block ?_
  refine Sat.loop (ι := Nat) (fun i => ⟨174, [(5, .i .i64 (cntT p.ts i)), (6, .i .i64 i), (4, .sl aL L.length cL 3 (dueRd L.toArray)), (3, .op 1 b3 0)], [.gone, .box b3 28 (planC p)]⟩)
    (fun i => i ≤ p.ts.length) (fun i => p.ts.length - i) 0 (Nat.zero_le _) (by simp -implicitDefEqProofs only [evr, id, reduceCtorEq, reduceIte, Nat.reduceMul, Nat.reduceAdd, Nat.reduceLT, Nat.reduceLeDiff, Nat.reduceEqDiff, Int.reduceLT, Int.reduceBEq, Int.reduceBNe, Nat.reduceBEq, ptr, due_one, due_0, due_1, due_2, List.append_nil, Int.toNat_zero, Nat.sub_self, dueRow, tsk_one, tsk_0, tsk_1, tsk_2, tsk_3, tsk_4, tsk_5, tsk_6, planC, evl]; repeat' (first | rfl | (refine And.intro ?_ ?_))) ?_
  intro i hi
  simp only [planC]
  (repeat refine Sat.seq ?_)
  (refine Sat.region_k fun k hk => ?_; simp -implicitDefEqProofs only [evr, id, reduceCtorEq, reduceIte, Nat.reduceMul, Nat.reduceAdd, Nat.reduceLT, Nat.reduceLeDiff, Nat.reduceEqDiff, Int.reduceLT, Int.reduceBEq, Int.reduceBNe, Nat.reduceBEq, ptr, due_one, due_0, due_1, due_2, List.append_nil, Int.toNat_zero, Nat.sub_self, dueRow, tsk_one, tsk_0, tsk_1, tsk_2, tsk_3, tsk_4, tsk_5, tsk_6, planC]; refine hk _ ?_; clear hk k; try show Sat _ _ _ _ _)
  (repeat refine Sat.seq ?_)
  refine Sat.cond_b rfl (fun h => ?_) (fun h => ?_)
  · have h1 : i < p.ts.length := by simp only [decide_eq_true_eq] at h; omega
    have e3 : IntKind.i64.wrap ((i : Int) + 1) = ((i + 1 : Nat) : Int) := by rw [w64 (by omega)]; omega
    have ht := hts i h1
    have hc := hcnt i (by omega)
    have e4 : cntT p.ts (i + 1) = cntT p.ts i + (p.ts.getD i default).count.toNat := rfl
    have e5 : IntKind.i64.wrap ((cntT p.ts i : Int) + (p.ts.getD i default).count) = ((cntT p.ts (i + 1) : Nat) : Int) := by
      have h9 := ht.2.2.2.2.2.2.2.2.2.2
      rw [w64 (by omega), e4]; omega
    refine Sat.skip ?_
    simp only [thenK]
    (repeat refine Sat.seq ?_)
    refine Sat.block ?_
    refine Sat.region_k fun k hk => ?_
    simp -implicitDefEqProofs only [evr, id, reduceCtorEq, reduceIte, Nat.reduceMul, Nat.reduceAdd, Nat.reduceLT, Nat.reduceLeDiff, Nat.reduceEqDiff, Int.reduceLT, Int.reduceBEq, Int.reduceBNe, Nat.reduceBEq, ptr, due_one, due_0, due_1, due_2, List.append_nil, Int.toNat_zero, Nat.sub_self, dueRow, tsk_one, tsk_0, tsk_1, tsk_2, tsk_3, tsk_4, tsk_5, tsk_6, planC, e5]
    refine ⟨by omega, ?_⟩
    refine hk _ ?_
    simp only [thenK, blockK]
    refine Sat.region_k fun k hk => ?_
    simp -implicitDefEqProofs only [evr, id, reduceCtorEq, reduceIte, Nat.reduceMul, Nat.reduceAdd, Nat.reduceLT, Nat.reduceLeDiff, Nat.reduceEqDiff, Int.reduceLT, Int.reduceBEq, Int.reduceBNe, Nat.reduceBEq, ptr, due_one, due_0, due_1, due_2, List.append_nil, Int.toNat_zero, Nat.sub_self, dueRow, tsk_one, tsk_0, tsk_1, tsk_2, tsk_3, tsk_4, tsk_5, tsk_6, planC, e3]
    refine hk _ ?_
    simp only [thenK, blockK]
    refine ⟨i + 1, by omega, by omega, ?_⟩
    simp -implicitDefEqProofs only [evr, id, reduceCtorEq, reduceIte, Nat.reduceMul, Nat.reduceAdd, Nat.reduceLT, Nat.reduceLeDiff, Nat.reduceEqDiff, Int.reduceLT, Int.reduceBEq, Int.reduceBNe, Nat.reduceBEq, ptr, due_one, due_0, due_1, due_2, List.append_nil, Int.toNat_zero, Nat.sub_self, dueRow, tsk_one, tsk_0, tsk_1, tsk_2, tsk_3, tsk_4, tsk_5, tsk_6, planC, evl]
    repeat' (first | rfl | (refine And.intro ?_ ?_))
  have h1 : i = p.ts.length := by simp only [decide_eq_false_iff_not] at h; omega
  subst h1
  refine Sat.exit ?_
  simp only [thenK, blockK, reduceIte]
  (repeat refine Sat.seq ?_)
  (refine Sat.region_k fun k hk => ?_; simp -implicitDefEqProofs only [evr, id, reduceCtorEq, reduceIte, Nat.reduceMul, Nat.reduceAdd, Nat.reduceLT, Nat.reduceLeDiff, Nat.reduceEqDiff, Int.reduceLT, Int.reduceBEq, Int.reduceBNe, Nat.reduceBEq, ptr, due_one, due_0, due_1, due_2, List.append_nil, Int.toNat_zero, Nat.sub_self, dueRow, tsk_one, tsk_0, tsk_1, tsk_2, tsk_3, tsk_4, tsk_5, tsk_6, planC]; refine hk _ ?_; clear hk k; try show Sat _ _ _ _ _)
  (repeat refine Sat.seq ?_)
  refine Sat.block ?_
  refine Sat.loop (ι := Nat) (fun i => ⟨174, [(7, .i .i64 i), (5, .i .i64 (cntT p.ts p.ts.length)), (4, .sl aL L.length cL 3 (dueRd L.toArray)), (3, .op 1 b3 0)], [.gone, .box b3 28 (planC p)]⟩)
    (fun i => i ≤ L.length) (fun i => L.length - i) 0 (Nat.zero_le _) (by simp -implicitDefEqProofs only [evr, id, reduceCtorEq, reduceIte, Nat.reduceMul, Nat.reduceAdd, Nat.reduceLT, Nat.reduceLeDiff, Nat.reduceEqDiff, Int.reduceLT, Int.reduceBEq, Int.reduceBNe, Nat.reduceBEq, ptr, due_one, due_0, due_1, due_2, List.append_nil, Int.toNat_zero, Nat.sub_self, dueRow, tsk_one, tsk_0, tsk_1, tsk_2, tsk_3, tsk_4, tsk_5, tsk_6, planC, evl]; repeat' (first | rfl | (refine And.intro ?_ ?_))) ?_
  intro i hi
  simp only [planC]
  have hLb : L.length ≤ 5000 := by rw [hLl]; have := hcnt p.ts.length (Nat.le_refl _); omega
  (repeat refine Sat.seq ?_)
  (refine Sat.region_k fun k hk => ?_; simp -implicitDefEqProofs only [evr, id, reduceCtorEq, reduceIte, Nat.reduceMul, Nat.reduceAdd, Nat.reduceLT, Nat.reduceLeDiff, Nat.reduceEqDiff, Int.reduceLT, Int.reduceBEq, Int.reduceBNe, Nat.reduceBEq, ptr, due_one, due_0, due_1, due_2, List.append_nil, Int.toNat_zero, Nat.sub_self, dueRow, tsk_one, tsk_0, tsk_1, tsk_2, tsk_3, tsk_4, tsk_5, tsk_6, planC]; refine hk _ ?_; clear hk k; try show Sat _ _ _ _ _)
  (repeat refine Sat.seq ?_)
  refine Sat.cond_b rfl (fun h => ?_) (fun h => ?_)
  · have h1 : i < L.length := by simp only [decide_eq_true_eq] at h; omega
    have e3 : IntKind.i64.wrap ((i : Int) + 1) = ((i + 1 : Nat) : Int) := by rw [w64 (by omega)]; omega
    have hm : L[i]! ∈ gen p.ts p.ts.length := by
      rw [← hL.perm.mem_iff, getElem!_pos L i h1]; exact List.getElem_mem h1
    obtain ⟨q, r, hq, hr, he⟩ := mem_gen.1 hm
    have ht := hts q hq
    generalize hx : p.ts.getD q default = t at hr he ht
    have hpair : 0 < i → dueLt L[i - 1]! L[i]! = true := fun h0 => by
      have := List.pairwise_iff_getElem.1 hL.asc (i - 1) i (by omega) h1 (by omega)
      rwa [getElem!_pos L (i - 1) (by omega), getElem!_pos L i h1]
    have hd0 : (L[i]!).task = (q : Int) := by rw [he]; rfl
    have hd1 : (L[i]!).round = (r : Int) := by rw [he]; rfl
    have hd2 : (L[i]!).at_ = t.start + (r : Int) * t.every := by rw [he]; rfl
    have hcount := ht.2.2.2.2.2.2.2.2.2.2
    obtain ⟨b1, b2, b3', b4⟩ := round_le ht.ok (r := r) (by omega)
    have e5 : IntKind.i64.wrap ((r : Int) * t.every) = (r : Int) * t.every := w64 (by omega)
    have e6 : IntKind.i64.wrap (t.start + (r : Int) * t.every) = t.start + (r : Int) * t.every := w64 (by omega)
    refine Sat.skip ?_
    simp only [thenK]
    (repeat refine Sat.seq ?_)
    refine Sat.block ?_
    (repeat refine Sat.seq ?_)
    refine Sat.region_qk (by kernel_rfl) (by kernel_rfl) fun k hk => ?_
    simp -implicitDefEqProofs only [evr, id, reduceCtorEq, reduceIte, Nat.reduceMul, Nat.reduceAdd, Nat.reduceLT, Nat.reduceLeDiff, Nat.reduceEqDiff, Int.reduceLT, Int.reduceBEq, Int.reduceBNe, Nat.reduceBEq, ptr, due_one, due_0, due_1, due_2, List.append_nil, Int.toNat_zero, Nat.sub_self, dueRow, tsk_one, tsk_0, tsk_1, tsk_2, tsk_3, tsk_4, tsk_5, tsk_6, planC, List.getElem!_toArray, hd0]
    refine ⟨by omega, fun h => absurd h (by omega), fun _ => ⟨by omega, ?_⟩⟩
    (refine hk _ ?_; clear hk k; try show Sat _ _ _ _ _)
    refine Sat.cond_b rfl (fun h => absurd h (by simp only [decide_eq_true_eq]; omega)) (fun _ => ?_)
    refine Sat.skip ?_
    simp only [thenK]
    (repeat refine Sat.seq ?_)
    (refine Sat.region_rows [⟨0, 55, 8, 0⟩, ⟨1, 56, 18014398509481984, 1⟩, ⟨0, 57, 16, 0⟩, ⟨0, 58, 128, 0⟩, ⟨12, 59, 216172782113783808, 0⟩, ⟨16, 60, 288230376151711744, 0⟩, ⟨32, 61, 576460752303423488, 1⟩, ⟨66, 62, 1188950301625810944, 0⟩, ⟨128, 63, 2305843009213693952, 1⟩, ⟨0, 9, 0, 2⟩, ⟨1023, 0, 4611686018427388160, 2⟩] [0, 2, 3, 4, 5, 1, 6, 7, 8] [(9, false), (10, false)] [9] (by kernel_rfl) (by kernel_rfl) (fun _ _ h => h) fun k hk => ?_; simp only [List.map_cons, List.map_nil, List.getD_cons_zero, List.getD_cons_succ, btseq_cons, btseq_free, btseq_nil]; simp -implicitDefEqProofs only [evr, id, reduceCtorEq, reduceIte, Nat.reduceMul, Nat.reduceAdd, Nat.reduceLT, Nat.reduceLeDiff, Nat.reduceEqDiff, Int.reduceLT, Int.reduceBEq, Int.reduceBNe, Nat.reduceBEq, ptr, due_one, due_0, due_1, due_2, List.append_nil, Int.toNat_zero, Nat.sub_self, dueRow, tsk_one, tsk_0, tsk_1, tsk_2, tsk_3, tsk_4, tsk_5, tsk_6, planC])
    simp only [List.getElem!_toArray, hd0, Int.toNat_natCast, evr, id, reduceCtorEq, reduceIte, Nat.reduceMul, Nat.reduceAdd, Nat.reduceLT, Nat.reduceLeDiff, Nat.reduceEqDiff, Int.reduceLT, Int.reduceBEq, Int.reduceBNe, Nat.reduceBEq, ptr, due_one, due_0, due_1, due_2, List.append_nil, Int.toNat_zero, Nat.sub_self, dueRow, tsk_one, tsk_0, tsk_1, tsk_2, tsk_3, tsk_4, tsk_5, tsk_6, planC, hx]
    refine ⟨by omega, by omega, ?_⟩
    intro b8
    (refine hk _ ?_; clear hk k; try show Sat _ _ _ _ _)
    (repeat refine Sat.seq ?_)
    refine Sat.region_qat (by kernel_rfl) (by kernel_rfl) ⟨174, [(97, .b false), (7, .i .i64 i), (5, .i .i64 (cntT p.ts p.ts.length)), (4, .sl aL L.length cL 3 (dueRd L.toArray)), (3, .op 1 b3 0)], [.gone, .box b3 28 (planC p)]⟩ (fun k hk => ?_) ?_
    · simp -implicitDefEqProofs only [evr, id, reduceCtorEq, reduceIte, Nat.reduceMul, Nat.reduceAdd, Nat.reduceLT, Nat.reduceLeDiff, Nat.reduceEqDiff, Int.reduceLT, Int.reduceBEq, Int.reduceBNe, Nat.reduceBEq, ptr, due_one, due_0, due_1, due_2, List.append_nil, Int.toNat_zero, Nat.sub_self, dueRow, tsk_one, tsk_0, tsk_1, tsk_2, tsk_3, tsk_4, tsk_5, tsk_6, planC, List.getElem!_toArray, hd0, hd1, hd2, e5, e6, bne_self_eq_false]
      refine ⟨by omega, fun h => absurd h (by omega), fun _ => ⟨by omega, fun h => absurd h (by omega), fun _ => ⟨by omega, by omega, ?_⟩⟩⟩
      refine hk _ ?_
      simp -implicitDefEqProofs only [evr, id, reduceCtorEq, reduceIte, Nat.reduceMul, Nat.reduceAdd, Nat.reduceLT, Nat.reduceLeDiff, Nat.reduceEqDiff, Int.reduceLT, Int.reduceBEq, Int.reduceBNe, Nat.reduceBEq, ptr, due_one, due_0, due_1, due_2, List.append_nil, Int.toNat_zero, Nat.sub_self, dueRow, tsk_one, tsk_0, tsk_1, tsk_2, tsk_3, tsk_4, tsk_5, tsk_6, planC, evl]
      repeat' (first | rfl | (refine And.intro ?_ ?_))
    refine Sat.cond_b rfl (fun h => absurd h (by decide)) (fun _ => ?_)
    refine Sat.skip ?_
    simp only [thenK]
    (repeat refine Sat.seq ?_)
    refine Sat.region_qat (by kernel_rfl) (by kernel_rfl) ⟨174, [(169, .b false), (7, .i .i64 i), (5, .i .i64 (cntT p.ts p.ts.length)), (4, .sl aL L.length cL 3 (dueRd L.toArray)), (3, .op 1 b3 0)], [.gone, .box b3 28 (planC p)]⟩ (fun k hk => ?_) ?_
    · simp only [List.append_eq, List.cons_append, List.nil_append]
      simp -implicitDefEqProofs only [evr, id, reduceCtorEq, reduceIte, Nat.reduceMul, Nat.reduceAdd, Nat.reduceLT, Nat.reduceLeDiff, Nat.reduceEqDiff, Int.reduceLT, Int.reduceBEq, Int.reduceBNe, Nat.reduceBEq, ptr, due_one, due_0, due_1, due_2, List.append_nil, Int.toNat_zero, Nat.sub_self, dueRow, tsk_one, tsk_0, tsk_1, tsk_2, tsk_3, tsk_4, tsk_5, tsk_6, planC, List.getElem!_toArray]
      simp only [beq_iff_eq]
      refine ⟨fun h0 => ?_, fun h0 => ?_⟩
      · have h0' : 0 < i := by omega
        have e7 : IntKind.i64.wrap ((i : Int) - 1) = ((i - 1 : Nat) : Int) := by rw [w64 (by omega)]; omega
        have key := (dueLt_iff _ _).1 (hpair h0')
        simp only [e7, Int.toNat_natCast]
        generalize L[i - 1]! = dd at key ⊢
        generalize L[i]! = ee at key ⊢
        repeat' (first
          | (refine And.intro ?_ ?_)
          | omega
          | (intro hh; first | (exfalso; omega) | skip)
          | (refine hk _ ?_
             first
             | (simp -implicitDefEqProofs only [evr, id, reduceCtorEq, reduceIte, Nat.reduceMul, Nat.reduceAdd, Nat.reduceLT, Nat.reduceLeDiff, Nat.reduceEqDiff, Int.reduceLT, Int.reduceBEq, Int.reduceBNe, Nat.reduceBEq, ptr, due_one, due_0, due_1, due_2, List.append_nil, Int.toNat_zero, Nat.sub_self, dueRow, tsk_one, tsk_0, tsk_1, tsk_2, tsk_3, tsk_4, tsk_5, tsk_6, planC, evl]; done)
             | (have e9 : decide (ee.round ≤ dd.round) = false := decide_eq_false (by omega)
                simp only [e9]
                simp -implicitDefEqProofs only [evr, id, reduceCtorEq, reduceIte, Nat.reduceMul, Nat.reduceAdd, Nat.reduceLT, Nat.reduceLeDiff, Nat.reduceEqDiff, Int.reduceLT, Int.reduceBEq, Int.reduceBNe, Nat.reduceBEq, ptr, due_one, due_0, due_1, due_2, List.append_nil, Int.toNat_zero, Nat.sub_self, dueRow, tsk_one, tsk_0, tsk_1, tsk_2, tsk_3, tsk_4, tsk_5, tsk_6, planC, evl])))
      · refine hk _ ?_
        simp -implicitDefEqProofs only [evr, id, reduceCtorEq, reduceIte, Nat.reduceMul, Nat.reduceAdd, Nat.reduceLT, Nat.reduceLeDiff, Nat.reduceEqDiff, Int.reduceLT, Int.reduceBEq, Int.reduceBNe, Nat.reduceBEq, ptr, due_one, due_0, due_1, due_2, List.append_nil, Int.toNat_zero, Nat.sub_self, dueRow, tsk_one, tsk_0, tsk_1, tsk_2, tsk_3, tsk_4, tsk_5, tsk_6, planC, evl]
        repeat' (first | rfl | (refine And.intro ?_ ?_))
    simp only [planC]
    refine Sat.cond_b rfl (fun h => absurd h (by decide)) (fun _ => ?_)
    refine Sat.skip ?_
    simp only [thenK, blockK]
    refine Sat.region_k fun k hk => ?_
    simp -implicitDefEqProofs only [evr, id, reduceCtorEq, reduceIte, Nat.reduceMul, Nat.reduceAdd, Nat.reduceLT, Nat.reduceLeDiff, Nat.reduceEqDiff, Int.reduceLT, Int.reduceBEq, Int.reduceBNe, Nat.reduceBEq, ptr, due_one, due_0, due_1, due_2, List.append_nil, Int.toNat_zero, Nat.sub_self, dueRow, tsk_one, tsk_0, tsk_1, tsk_2, tsk_3, tsk_4, tsk_5, tsk_6, planC, e3]
    refine hk _ ?_
    simp only [thenK, blockK]
    refine ⟨i + 1, by omega, by omega, ?_⟩
    simp -implicitDefEqProofs only [evr, id, reduceCtorEq, reduceIte, Nat.reduceMul, Nat.reduceAdd, Nat.reduceLT, Nat.reduceLeDiff, Nat.reduceEqDiff, Int.reduceLT, Int.reduceBEq, Int.reduceBNe, Nat.reduceBEq, ptr, due_one, due_0, due_1, due_2, List.append_nil, Int.toNat_zero, Nat.sub_self, dueRow, tsk_one, tsk_0, tsk_1, tsk_2, tsk_3, tsk_4, tsk_5, tsk_6, planC, evl]
    repeat' (first | rfl | (refine And.intro ?_ ?_))
  have h1 : i = L.length := by simp only [decide_eq_false_iff_not] at h; omega
  subst h1
  refine Sat.exit ?_
  simp only [thenK, blockK, reduceIte]
  (repeat refine Sat.seq ?_)
  (refine Sat.region_k fun k hk => ?_; simp -implicitDefEqProofs only [evr, id, reduceCtorEq, reduceIte, Nat.reduceMul, Nat.reduceAdd, Nat.reduceLT, Nat.reduceLeDiff, Nat.reduceEqDiff, Int.reduceLT, Int.reduceBEq, Int.reduceBNe, Nat.reduceBEq, ptr, due_one, due_0, due_1, due_2, List.append_nil, Int.toNat_zero, Nat.sub_self, dueRow, tsk_one, tsk_0, tsk_1, tsk_2, tsk_3, tsk_4, tsk_5, tsk_6, planC])
  (refine hk _ ?_; clear hk k; try show Sat _ _ _ _ _)
  refine Sat.ret ?_
  simp only [Try.results3, evr, id, reduceCtorEq, reduceIte, Nat.reduceMul, Nat.reduceAdd, Nat.reduceLT, Nat.reduceLeDiff, Nat.reduceEqDiff, Int.reduceLT, Int.reduceBEq, Int.reduceBNe, Nat.reduceBEq, ptr, due_one, due_0, due_1, due_2, List.append_nil, Int.toNat_zero, Nat.sub_self, dueRow, tsk_one, tsk_0, tsk_1, tsk_2, tsk_3, tsk_4, tsk_5, tsk_6, planC, hLl, beq_self_eq_true]

theorem rounds_holds : Rows.ScheduleRoundsSaid := scheduleRounds.of_walk fun a0 z0 w ⟨h, hz⟩ => by
  obtain ⟨a, cap, rfl, hok⟩ := slB_of h
  exact walk_of (roundsC a cap z0 hz) (fun s hs => by rw [List.mem_singleton.1 hs]; exact hok)
end Go.Proofs.Ytgimngpcfenoaaa
