/- It is proved that the statement ScheduleLimits holds for every input: in each closed window at most as many probes are sent as the limit allows, and without a limit all are sent. No conditions. -/
import Derived.Test.YtgimngpcfenoaaaDoorLimP
import Derived.Test.YtgimngpcfenoaaaDoorWalkE
import Derived.Test.YtgimngpcfenoaaaDoorShScheduleLimits
set_option linter.unusedSimpArgs false
set_option linter.unusedVariables false
namespace Go.Proofs.YtgimngpcfenoaaaDoor
open Go.Sort Eng Go.RowKit
theorem slB_bytesR (a : Option Addr) (cap : Nat) (z : List Int) (hz : ∀ n ∈ z, (Lit.int .u8 n).wf = true) : isBytes (slB a cap z) :=
  ⟨a, z.length, cap, _, rfl, fun i hi => ⟨z.getD i 0, by have := bounds_u8 (hz _ (getD_mem (d := 0) hi)); omega, by have := bounds_u8 (hz _ (getD_mem (d := 0) hi)); omega, rfl⟩⟩
theorem get_bang {L : List Due} {i : Nat} (h : i < L.length) : L[i]? = some L.toArray[i]! := by simp [getElem!_def, h]
set_option maxHeartbeats 2000000 in
set_option maxRecDepth 100000 in
theorem limitsC (a : Option Addr) (cap : Nat) (z : List Int) (hz : ∀ n ∈ z, (Lit.int .u8 n).wf = true) : Contract FrT Tryd.prog 3 [slB a cap z] (fun r => r = .b true) := by
  have hb := slB_bytesR a cap z hz
  refine contract_of Tryd.func3 rfl (by kernel_rfl) ?_
  simp only [Tryd.ntmps3, argEnv]
  (repeat refine Sat.seq ?_)
  (refine Sat.region_k fun k hk => ?_; simp -implicitDefEqProofs only [evr, id, reduceCtorEq, reduceIte, Nat.reduceMul, Nat.reduceAdd, Nat.reduceLT, Nat.reduceLeDiff, Nat.reduceEqDiff, Int.reduceLT, Int.reduceBEq, Int.reduceBNe, Nat.reduceBEq, ptr, due_one, due_0, due_1, due_2, planC, sh1, evn]; refine hk _ ?_; clear hk k; try show Sat _ _ _ _ _)
  (repeat refine Sat.seq ?_)
  (refine Sat.region_k fun k hk => ?_; simp -implicitDefEqProofs only [evr, id, reduceCtorEq, reduceIte, Nat.reduceMul, Nat.reduceAdd, Nat.reduceLT, Nat.reduceLeDiff, Nat.reduceEqDiff, Int.reduceLT, Int.reduceBEq, Int.reduceBNe, Nat.reduceBEq, ptr, due_one, due_0, due_1, due_2, planC, sh1, evn])
  refine wcall_plain (awakeC FrT) rfl (by rintro _ rfl; exact ok_plain rfl) ?_
  rintro r rfl
  simp -implicitDefEqProofs only [evr, id, reduceCtorEq, reduceIte, Nat.reduceMul, Nat.reduceAdd, Nat.reduceLT, Nat.reduceLeDiff, Nat.reduceEqDiff, Int.reduceLT, Int.reduceBEq, Int.reduceBNe, Nat.reduceBEq, ptr, due_one, due_0, due_1, due_2, planC, sh1, evn]
  (refine hk _ ?_; clear hk k; try show Sat _ _ _ _ _)
  (repeat refine Sat.seq ?_)
  refine Sat.cond_b rfl (fun h => absurd h (by decide)) (fun _ => ?_)
  refine Sat.skip ?_
  simp only [thenK]
  (repeat refine Sat.seq ?_)
  (refine Sat.region_k fun k hk => ?_; simp -implicitDefEqProofs only [evr, id, reduceCtorEq, reduceIte, Nat.reduceMul, Nat.reduceAdd, Nat.reduceLT, Nat.reduceLeDiff, Nat.reduceEqDiff, Int.reduceLT, Int.reduceBEq, Int.reduceBNe, Nat.reduceBEq, ptr, due_one, due_0, due_1, due_2, planC, sh1, evn])
  refine wcall_make (newRC (slB a cap z) hb 200 (by decide)) ?_
  intro cb
  simp -implicitDefEqProofs only [evr, id, reduceCtorEq, reduceIte, Nat.reduceMul, Nat.reduceAdd, Nat.reduceLT, Nat.reduceLeDiff, Nat.reduceEqDiff, Int.reduceLT, Int.reduceBEq, Int.reduceBNe, Nat.reduceBEq, ptr, due_one, due_0, due_1, due_2, planC, sh1, evn]
  refine wcall_mut 0 (useMF (F' := Frm.codes cb) (fun b => Iff.rfl) (rightC cb)) rfl rfl ?_
  rintro r o1 ⟨⟨p, hp, rfl⟩, rfl⟩
  simp -implicitDefEqProofs only [evr, id, reduceCtorEq, reduceIte, Nat.reduceMul, Nat.reduceAdd, Nat.reduceLT, Nat.reduceLeDiff, Nat.reduceEqDiff, Int.reduceLT, Int.reduceBEq, Int.reduceBNe, Nat.reduceBEq, ptr, due_one, due_0, due_1, due_2, planC, sh1, planS, renM, evn]
  intro b3
  (refine hk _ ?_; clear hk k; try show Sat _ _ _ _ _)
  obtain ⟨L, hL, hat, hlen, hby⟩ := plan_list p hp
  have hn : p.ts.length ≤ 1000 := by have := hp.len; omega
  have hok : ∀ t ∈ p.ts, tskOk t := fun t ht => (hp.ts t ht).ok
  have hbu : 0 ≤ p.burst ∧ p.burst ≤ 65536 := by rcases hp.buck with h | h <;> omega
  have hev : 0 ≤ p.every ∧ p.every ≤ 1073741824 := by rcases hp.buck with h | h <;> omega
  have snC := sentC FrT p hn hok hbu hev L hL hat (by omega)
  have skC := skippedC FrT p hn hok hbu hev L hL hat (by omega)
  have alC := allDueC FrT p hn hok
  have ckC := checkC p (fun t ht => by have := (hp.ts t ht).1; omega)
  rw [right_ok hp] at ckC
  have hwin : 0 < p.burst → ∀ i m : Nat, i ≤ m → m < (sentG p.burst p.every ⟨p.burst * p.every, 0⟩ L).length → _ := fun h0 i m him hm =>
    sent_most (by omega) (by rcases hp.buck with h | h <;> omega) hby (fun d hd => (hat d hd).1) him (get_bang (Nat.lt_of_le_of_lt him hm)) (get_bang hm)
  have hall : ¬ 0 < p.burst → sentG p.burst p.every ⟨p.burst * p.every, 0⟩ L = L := fun h0 => by
    rcases hp.buck with ⟨h, h'⟩ | h
    · rw [h, h']; exact sent_all _ _
    · omega
  have hSsub := (sentG_sub p.burst p.every ⟨p.burst * p.every, 0⟩ L)
  have hSat : ∀ i, i < (sentG p.burst p.every ⟨p.burst * p.every, 0⟩ L).length → 0 ≤ ((sentG p.burst p.every ⟨p.burst * p.every, 0⟩ L).toArray[i]!).at_ ∧ ((sentG p.burst p.every ⟨p.burst * p.every, 0⟩ L).toArray[i]!).at_ ≤ 1125899906842624 := fun i hi =>
    hat _ (hSsub.subset (List.mem_of_getElem? (get_bang hi)))
  have hSlen : (sentG p.burst p.every ⟨p.burst * p.every, 0⟩ L).length ≤ L.length := hSsub.length_le
  generalize sentG p.burst p.every ⟨p.burst * p.every, 0⟩ L = S at snC skC hwin hall hSsub hSat hSlen
  (repeat refine Sat.seq ?_)
  (refine Sat.region_k fun k hk => ?_; simp -implicitDefEqProofs only [evr, id, reduceCtorEq, reduceIte, Nat.reduceMul, Nat.reduceAdd, Nat.reduceLT, Nat.reduceLeDiff, Nat.reduceEqDiff, Int.reduceLT, Int.reduceBEq, Int.reduceBNe, Nat.reduceBEq, ptr, due_one, due_0, due_1, due_2, planC, sh1, evn])
  refine wcall_slice snC rfl (by simp -implicitDefEqProofs only [evr, id, reduceCtorEq, reduceIte, Nat.reduceMul, Nat.reduceAdd, Nat.reduceLT, Nat.reduceLeDiff, Nat.reduceEqDiff, Int.reduceLT, Int.reduceBEq, Int.reduceBNe, Nat.reduceBEq, ptr, due_one, due_0, due_1, due_2, planC, sh1, planS, evn]) ?_
  rintro r ⟨aS, cS, rfl⟩
  simp -implicitDefEqProofs only [evr, id, reduceCtorEq, reduceIte, Nat.reduceMul, Nat.reduceAdd, Nat.reduceLT, Nat.reduceLeDiff, Nat.reduceEqDiff, Int.reduceLT, Int.reduceBEq, Int.reduceBNe, Nat.reduceBEq, ptr, due_one, due_0, due_1, due_2, planC, sh1, evn]
  (refine hk _ ?_; clear hk k; try show Sat _ _ _ _ _)
  (repeat refine Sat.seq ?_)
  (refine Sat.region_k fun k hk => ?_; simp -implicitDefEqProofs only [evr, id, reduceCtorEq, reduceIte, Nat.reduceMul, Nat.reduceAdd, Nat.reduceLT, Nat.reduceLeDiff, Nat.reduceEqDiff, Int.reduceLT, Int.reduceBEq, Int.reduceBNe, Nat.reduceBEq, ptr, due_one, due_0, due_1, due_2, planC, sh1, evn]; refine hk _ ?_; clear hk k; try show Sat _ _ _ _ _)
  try refine Sat.seq ?_
  refine Sat.block ?_
  refine Sat.loop (ι := Nat) (fun i => ⟨79, [(5, .i .i64 i), (4, .sl aS S.length cS 3 (dueRd S.toArray)), (3, .op 1 b3 0)], [.gone, .box b3 28 [.sl p.a p.ts.length p.cap 7 (tskRd p.ts), .i .i64 p.burst, .i .i64 p.every]]⟩)
    (fun i => i ≤ S.length) (fun i => S.length - i) 0 (Nat.zero_le _) (by simp -implicitDefEqProofs only [evr, id, reduceCtorEq, reduceIte, Nat.reduceMul, Nat.reduceAdd, Nat.reduceLT, Nat.reduceLeDiff, Nat.reduceEqDiff, Int.reduceLT, Int.reduceBEq, Int.reduceBNe, Nat.reduceBEq, ptr, due_one, due_0, due_1, due_2, planC, sh1, evl, evn]; repeat' (first | rfl | (refine And.intro ?_ ?_))) ?_
  intro i hi
  (repeat refine Sat.seq ?_)
  refine Sat.region_at ⟨79, [(24, .b (decide (i < S.length ∧ 0 < p.burst))), (5, .i .i64 i), (4, .sl aS S.length cS 3 (dueRd S.toArray)), (3, .op 1 b3 0)], [.gone, .box b3 28 [.sl p.a p.ts.length p.cap 7 (tskRd p.ts), .i .i64 p.burst, .i .i64 p.every]]⟩ (fun k hk => ?_) ?_
  · simp -implicitDefEqProofs only [evr, id, reduceCtorEq, reduceIte, Nat.reduceMul, Nat.reduceAdd, Nat.reduceLT, Nat.reduceLeDiff, Nat.reduceEqDiff, Int.reduceLT, Int.reduceBEq, Int.reduceBNe, Nat.reduceBEq, ptr, due_one, due_0, due_1, due_2, planC, sh1, evn]
    refine ⟨fun h => ?_, fun h => ?_⟩
    · have e9 : decide (i < S.length ∧ 0 < p.burst) = decide (0 < p.burst) := by
        apply Bool.eq_iff_iff.2
        simp only [decide_eq_true_eq]
        omega
      refine hk _ ?_
      simp only [e9]
      simp -implicitDefEqProofs only [evr, id, reduceCtorEq, reduceIte, Nat.reduceMul, Nat.reduceAdd, Nat.reduceLT, Nat.reduceLeDiff, Nat.reduceEqDiff, Int.reduceLT, Int.reduceBEq, Int.reduceBNe, Nat.reduceBEq, ptr, due_one, due_0, due_1, due_2, planC, sh1, evl, evn]
      repeat' (first | rfl | (refine And.intro ?_ ?_))
    · have e9 : decide (i < S.length ∧ 0 < p.burst) = false := decide_eq_false (by omega)
      refine hk _ ?_
      simp only [e9]
      simp -implicitDefEqProofs only [evr, id, reduceCtorEq, reduceIte, Nat.reduceMul, Nat.reduceAdd, Nat.reduceLT, Nat.reduceLeDiff, Nat.reduceEqDiff, Int.reduceLT, Int.reduceBEq, Int.reduceBNe, Nat.reduceBEq, ptr, due_one, due_0, due_1, due_2, planC, sh1, evl, evn]
      repeat' (first | rfl | (refine And.intro ?_ ?_))
  refine Sat.cond_b rfl (fun h => ?_) (fun h => ?_)
  · obtain ⟨h1, hpos⟩ := of_decide_eq_true h
    clear h
    have e3 : IntKind.i64.wrap ((i : Int) + 1) = ((i + 1 : Nat) : Int) := by rw [w64 (by omega)]; omega
    refine Sat.skip ?_
    simp only [thenK]
    (repeat refine Sat.seq ?_)
    refine Sat.block ?_
    (repeat refine Sat.seq ?_)
    (refine Sat.region_k fun k hk => ?_; simp -implicitDefEqProofs only [evr, id, reduceCtorEq, reduceIte, Nat.reduceMul, Nat.reduceAdd, Nat.reduceLT, Nat.reduceLeDiff, Nat.reduceEqDiff, Int.reduceLT, Int.reduceBEq, Int.reduceBNe, Nat.reduceBEq, ptr, due_one, due_0, due_1, due_2, planC, sh1, evn]; refine hk _ ?_; clear hk k; try show Sat _ _ _ _ _)
    (repeat refine Sat.seq ?_)
    try refine Sat.seq ?_
    refine Sat.block ?_
    refine Sat.loop (ι := Nat) (fun m => ⟨79, [(6, .i .i64 m), (5, .i .i64 i), (4, .sl aS S.length cS 3 (dueRd S.toArray)), (3, .op 1 b3 0)], [.gone, .box b3 28 [.sl p.a p.ts.length p.cap 7 (tskRd p.ts), .i .i64 p.burst, .i .i64 p.every]]⟩)
      (fun m => i ≤ m ∧ m ≤ S.length) (fun m => S.length - m) i ⟨Nat.le_refl _, hi⟩ (by simp -implicitDefEqProofs only [evr, id, reduceCtorEq, reduceIte, Nat.reduceMul, Nat.reduceAdd, Nat.reduceLT, Nat.reduceLeDiff, Nat.reduceEqDiff, Int.reduceLT, Int.reduceBEq, Int.reduceBNe, Nat.reduceBEq, ptr, due_one, due_0, due_1, due_2, planC, sh1, evl, evn]; repeat' (first | rfl | (refine And.intro ?_ ?_))) ?_
    rintro m ⟨him, hm⟩
    (repeat refine Sat.seq ?_)
    (refine Sat.region_k fun k hk => ?_; simp -implicitDefEqProofs only [evr, id, reduceCtorEq, reduceIte, Nat.reduceMul, Nat.reduceAdd, Nat.reduceLT, Nat.reduceLeDiff, Nat.reduceEqDiff, Int.reduceLT, Int.reduceBEq, Int.reduceBNe, Nat.reduceBEq, ptr, due_one, due_0, due_1, due_2, planC, sh1, evn]; refine hk _ ?_; clear hk k; try show Sat _ _ _ _ _)
    (repeat refine Sat.seq ?_)
    refine Sat.cond_b rfl (fun h => ?_) (fun h => ?_)
    · have h2 : m < S.length := by simp only [decide_eq_true_eq] at h; omega
      have e4 : IntKind.i64.wrap ((m : Int) + 1) = ((m + 1 : Nat) : Int) := by rw [w64 (by omega)]; omega
      obtain ⟨hw0, hw1⟩ := hwin hpos i m him h2
      have a1 := hSat i h1
      have a2 := hSat m h2
      have ev1 : 1 ≤ p.every := by rcases hp.buck with h | h <;> omega
      have mC := mostC FrT p.burst p.every ((S.toArray[m]!).at_ - (S.toArray[i]!).at_) (by omega) (by omega) (by omega)
      have e5 : IntKind.i64.wrap ((S.toArray[m]!).at_ - (S.toArray[i]!).at_) = (S.toArray[m]!).at_ - (S.toArray[i]!).at_ := w64 (by omega)
      have e6 : IntKind.i64.wrap ((m : Int) - i) = (m : Int) - i := w64 (by omega)
      have e7 : IntKind.i64.wrap ((m : Int) - i + 1) = (m : Int) - i + 1 := w64 (by omega)
      refine Sat.skip ?_
      simp only [thenK]
      (repeat refine Sat.seq ?_)
      refine Sat.block ?_
      (repeat refine Sat.seq ?_)
      (refine Sat.region_rows [⟨0, 35, 64, 0⟩, ⟨0, 36, 32, 0⟩, ⟨3, 37, 51539607552, 0⟩, ⟨4, 38, 68719476736, 0⟩, ⟨0, 39, 8, 0⟩, ⟨16, 40, 274877906944, 1⟩, ⟨0, 41, 16, 0⟩, ⟨0, 42, 64, 0⟩, ⟨192, 43, 3298534883328, 0⟩, ⟨256, 44, 4398046511104, 0⟩, ⟨512, 45, 8796093022208, 1⟩, ⟨0, 46, 16, 0⟩, ⟨0, 47, 32, 0⟩, ⟨6144, 48, 105553116266496, 0⟩, ⟨8192, 49, 140737488355328, 0⟩, ⟨16384, 50, 281474976710656, 1⟩, ⟨33792, 51, 580542139465728, 0⟩, ⟨65568, 52, 1126449662656512, 2⟩, ⟨131080, 53, 2251937252638720, 0⟩] [0, 1, 2, 3, 4, 6, 7, 8, 9, 11, 12, 13, 14, 5, 10, 15, 16] [(17, false), (18, false)] [] (by kernel_rfl) (by kernel_rfl) (fun _ _ h => h) fun k hk => ?_; simp only [List.map_cons, List.map_nil, List.getD_cons_zero, List.getD_cons_succ, btseq_cons, btseq_free, btseq_nil]; simp -implicitDefEqProofs only [evr, id, reduceCtorEq, reduceIte, Nat.reduceMul, Nat.reduceAdd, Nat.reduceLT, Nat.reduceLeDiff, Nat.reduceEqDiff, Int.reduceLT, Int.reduceBEq, Int.reduceBNe, Nat.reduceBEq, ptr, due_one, due_0, due_1, due_2, planC, sh1, evn])
      refine ⟨by omega, by omega, ?_⟩
      simp only [e5]
      refine wcall_plain mC rfl (by rintro _ rfl; exact ok_plain rfl) ?_
      rintro r rfl
      simp -implicitDefEqProofs only [evr, id, reduceCtorEq, reduceIte, Nat.reduceMul, Nat.reduceAdd, Nat.reduceLT, Nat.reduceLeDiff, Nat.reduceEqDiff, Int.reduceLT, Int.reduceBEq, Int.reduceBNe, Nat.reduceBEq, ptr, due_one, due_0, due_1, due_2, planC, sh1, e6, e7, evn]
      (refine hk _ ?_; clear hk k; try show Sat _ _ _ _ _)
      refine Sat.cond_b rfl (fun h => absurd (of_decide_eq_true h) (by omega)) (fun _ => ?_)
      refine Sat.skip ?_
      simp only [thenK, blockK]
      refine Sat.region_k fun k hk => ?_
      simp -implicitDefEqProofs only [evr, id, reduceCtorEq, reduceIte, Nat.reduceMul, Nat.reduceAdd, Nat.reduceLT, Nat.reduceLeDiff, Nat.reduceEqDiff, Int.reduceLT, Int.reduceBEq, Int.reduceBNe, Nat.reduceBEq, ptr, due_one, due_0, due_1, due_2, planC, sh1, e4, evn]
      refine hk _ ?_
      simp only [thenK, blockK]
      refine ⟨m + 1, ⟨by omega, by omega⟩, by omega, ?_⟩
      simp -implicitDefEqProofs only [evr, id, reduceCtorEq, reduceIte, Nat.reduceMul, Nat.reduceAdd, Nat.reduceLT, Nat.reduceLeDiff, Nat.reduceEqDiff, Int.reduceLT, Int.reduceBEq, Int.reduceBNe, Nat.reduceBEq, ptr, due_one, due_0, due_1, due_2, planC, sh1, evl, evn]
      repeat' (first | rfl | (refine And.intro ?_ ?_))
    · refine Sat.exit ?_
      simp only [thenK, blockK, reduceIte]
      refine Sat.region_k fun k hk => ?_
      simp -implicitDefEqProofs only [evr, id, reduceCtorEq, reduceIte, Nat.reduceMul, Nat.reduceAdd, Nat.reduceLT, Nat.reduceLeDiff, Nat.reduceEqDiff, Int.reduceLT, Int.reduceBEq, Int.reduceBNe, Nat.reduceBEq, ptr, due_one, due_0, due_1, due_2, planC, sh1, e3, evn]
      refine hk _ ?_
      simp only [thenK, blockK]
      refine ⟨i + 1, by omega, by omega, ?_⟩
      simp -implicitDefEqProofs only [evr, id, reduceCtorEq, reduceIte, Nat.reduceMul, Nat.reduceAdd, Nat.reduceLT, Nat.reduceLeDiff, Nat.reduceEqDiff, Int.reduceLT, Int.reduceBEq, Int.reduceBNe, Nat.reduceBEq, ptr, due_one, due_0, due_1, due_2, planC, sh1, evl, evn]
      repeat' (first | rfl | (refine And.intro ?_ ?_))
  refine Sat.exit ?_
  simp only [thenK, blockK, reduceIte]
  clear h
  (repeat refine Sat.seq ?_)
  (refine Sat.region_k fun k hk => ?_; simp -implicitDefEqProofs only [evr, id, reduceCtorEq, reduceIte, Nat.reduceMul, Nat.reduceAdd, Nat.reduceLT, Nat.reduceLeDiff, Nat.reduceEqDiff, Int.reduceLT, Int.reduceBEq, Int.reduceBNe, Nat.reduceBEq, ptr, due_one, due_0, due_1, due_2, planC, sh1, evn])
  refine wcall_slice alC rfl (by simp -implicitDefEqProofs only [evr, id, reduceCtorEq, reduceIte, Nat.reduceMul, Nat.reduceAdd, Nat.reduceLT, Nat.reduceLeDiff, Nat.reduceEqDiff, Int.reduceLT, Int.reduceBEq, Int.reduceBNe, Nat.reduceBEq, ptr, due_one, due_0, due_1, due_2, planC, sh1, planS, evn]) ?_
  rintro r ⟨aL, cL, L', hS, rfl⟩
  obtain rfl := hL _ hS
  simp -implicitDefEqProofs only [evr, id, reduceCtorEq, reduceIte, Nat.reduceMul, Nat.reduceAdd, Nat.reduceLT, Nat.reduceLeDiff, Nat.reduceEqDiff, Int.reduceLT, Int.reduceBEq, Int.reduceBNe, Nat.reduceBEq, ptr, due_one, due_0, due_1, due_2, planC, sh1, evn]
  (refine hk _ ?_; clear hk k; try show Sat _ _ _ _ _)
  (repeat refine Sat.seq ?_)
  have f1 : IntKind.i64.wrap ((S.length : Int) + ((L'.length : Int) - S.length)) = L'.length := by rw [w64 (by omega)]; omega
  by_cases hpos : 0 < p.burst
  · have g1 : decide (0 < p.burst) = true := decide_eq_true hpos
    refine Sat.region_k fun k hk => ?_
    simp -implicitDefEqProofs only [evr, id, reduceCtorEq, reduceIte, Nat.reduceMul, Nat.reduceAdd, Nat.reduceLT, Nat.reduceLeDiff, Nat.reduceEqDiff, Int.reduceLT, Int.reduceBEq, Int.reduceBNe, Nat.reduceBEq, ptr, due_one, due_0, due_1, due_2, planC, sh1, evn]
    refine wcall_plain ckC (by simp -implicitDefEqProofs only [evr, id, reduceCtorEq, reduceIte, Nat.reduceMul, Nat.reduceAdd, Nat.reduceLT, Nat.reduceLeDiff, Nat.reduceEqDiff, Int.reduceLT, Int.reduceBEq, Int.reduceBNe, Nat.reduceBEq, ptr, due_one, due_0, due_1, due_2, planC, sh1, planS, evn]) (by rintro _ rfl; exact ok_plain rfl) ?_
    rintro r rfl
    simp -implicitDefEqProofs only [evr, id, reduceCtorEq, reduceIte, Nat.reduceMul, Nat.reduceAdd, Nat.reduceLT, Nat.reduceLeDiff, Nat.reduceEqDiff, Int.reduceLT, Int.reduceBEq, Int.reduceBNe, Nat.reduceBEq, ptr, due_one, due_0, due_1, due_2, planC, sh1, beq_self_eq_true, evn]
    refine wcall_plain skC (by simp -implicitDefEqProofs only [evr, id, reduceCtorEq, reduceIte, Nat.reduceMul, Nat.reduceAdd, Nat.reduceLT, Nat.reduceLeDiff, Nat.reduceEqDiff, Int.reduceLT, Int.reduceBEq, Int.reduceBNe, Nat.reduceBEq, ptr, due_one, due_0, due_1, due_2, planC, sh1, planS, evn]) (by rintro _ rfl; exact ok_plain rfl) ?_
    rintro r rfl
    simp -implicitDefEqProofs only [evr, id, reduceCtorEq, reduceIte, Nat.reduceMul, Nat.reduceAdd, Nat.reduceLT, Nat.reduceLeDiff, Nat.reduceEqDiff, Int.reduceLT, Int.reduceBEq, Int.reduceBNe, Nat.reduceBEq, ptr, due_one, due_0, due_1, due_2, planC, sh1, f1, beq_self_eq_true, g1, evn]
    (refine hk _ ?_; clear hk k; try show Sat _ _ _ _ _)
    refine Sat.ret ?_
    simp only [Tryd.results3, evr, id, reduceCtorEq, reduceIte, Nat.reduceMul, Nat.reduceAdd, Nat.reduceLT, Nat.reduceLeDiff, Nat.reduceEqDiff, Int.reduceLT, Int.reduceBEq, Int.reduceBNe, Nat.reduceBEq, ptr, due_one, due_0, due_1, due_2, List.append_nil, Int.toNat_zero, Nat.sub_self, planC, sh1]
    try rfl
  · have g1 : decide (0 < p.burst) = false := decide_eq_false hpos
    obtain rfl := hall hpos
    have sm := sameC FrT S (by omega)
    refine Sat.region_k fun k hk => ?_
    simp -implicitDefEqProofs only [evr, id, reduceCtorEq, reduceIte, Nat.reduceMul, Nat.reduceAdd, Nat.reduceLT, Nat.reduceLeDiff, Nat.reduceEqDiff, Int.reduceLT, Int.reduceBEq, Int.reduceBNe, Nat.reduceBEq, ptr, due_one, due_0, due_1, due_2, planC, sh1, evn]
    refine wcall_plain ckC (by simp -implicitDefEqProofs only [evr, id, reduceCtorEq, reduceIte, Nat.reduceMul, Nat.reduceAdd, Nat.reduceLT, Nat.reduceLeDiff, Nat.reduceEqDiff, Int.reduceLT, Int.reduceBEq, Int.reduceBNe, Nat.reduceBEq, ptr, due_one, due_0, due_1, due_2, planC, sh1, planS, evn]) (by rintro _ rfl; exact ok_plain rfl) ?_
    rintro r rfl
    simp -implicitDefEqProofs only [evr, id, reduceCtorEq, reduceIte, Nat.reduceMul, Nat.reduceAdd, Nat.reduceLT, Nat.reduceLeDiff, Nat.reduceEqDiff, Int.reduceLT, Int.reduceBEq, Int.reduceBNe, Nat.reduceBEq, ptr, due_one, due_0, due_1, due_2, planC, sh1, beq_self_eq_true, evn]
    refine wcall_plain skC (by simp -implicitDefEqProofs only [evr, id, reduceCtorEq, reduceIte, Nat.reduceMul, Nat.reduceAdd, Nat.reduceLT, Nat.reduceLeDiff, Nat.reduceEqDiff, Int.reduceLT, Int.reduceBEq, Int.reduceBNe, Nat.reduceBEq, ptr, due_one, due_0, due_1, due_2, planC, sh1, planS, evn]) (by rintro _ rfl; exact ok_plain rfl) ?_
    rintro r rfl
    simp -implicitDefEqProofs only [evr, id, reduceCtorEq, reduceIte, Nat.reduceMul, Nat.reduceAdd, Nat.reduceLT, Nat.reduceLeDiff, Nat.reduceEqDiff, Int.reduceLT, Int.reduceBEq, Int.reduceBNe, Nat.reduceBEq, ptr, due_one, due_0, due_1, due_2, planC, sh1, f1, beq_self_eq_true, g1, evn]
    refine wcall_plain (sm aS aL cS cL) rfl (by rintro _ rfl; exact ok_plain rfl) ?_
    rintro r rfl
    simp -implicitDefEqProofs only [evr, id, reduceCtorEq, reduceIte, Nat.reduceMul, Nat.reduceAdd, Nat.reduceLT, Nat.reduceLeDiff, Nat.reduceEqDiff, Int.reduceLT, Int.reduceBEq, Int.reduceBNe, Nat.reduceBEq, ptr, due_one, due_0, due_1, due_2, planC, sh1, evn]
    (refine hk _ ?_; clear hk k; try show Sat _ _ _ _ _)
    refine Sat.ret ?_
    simp only [Tryd.results3, evr, id, reduceCtorEq, reduceIte, Nat.reduceMul, Nat.reduceAdd, Nat.reduceLT, Nat.reduceLeDiff, Nat.reduceEqDiff, Int.reduceLT, Int.reduceBEq, Int.reduceBNe, Nat.reduceBEq, ptr, due_one, due_0, due_1, due_2, List.append_nil, Int.toNat_zero, Nat.sub_self, planC, sh1]
    try rfl
theorem limits_holds : Rows.ScheduleLimitsCardSaid := scheduleLimits.card_of_walk fun v z w hL ⟨h, hz⟩ => by
  obtain ⟨a, cap, rfl, hok⟩ := slB_of h
  obtain ⟨hT, hN⟩ := blk_of_laid hL (by decide +kernel) (by simp [Rows.scheduleLimitsRow]; rfl)
  exact walk_ofT (limitsC a cap z hz) hN hT (fun s hs => by rw [List.mem_singleton.1 hs]; exact hok)
end Go.Proofs.YtgimngpcfenoaaaDoor
