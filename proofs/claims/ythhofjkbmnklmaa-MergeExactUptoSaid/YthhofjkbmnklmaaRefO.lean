/- The reference of merge, by the evaluator: Of. -/
import Derived.Test.YthhofjkbmnklmaaRefS
set_option linter.unusedSimpArgs false
set_option linter.unusedVariables false
namespace Go.Proofs.Ythhofjkbmnklmaa
open Go.Sort Eng

def ofEnv (blk2 blk3 : Nat) (sa : Option Addr) (sc : Nat) (S : List Res) (i : Nat) : List (Nat × SV) := [(5, .i .i64 i), (4, .sl sa S.length sc 17 (resRd S.toArray)), (3, .op 1 blk3 0), (2, .op 0 blk2 0)]
def ofOwn (blk2 blk3 : Nat) (ya : Option Addr) (yc : Nat) (rs : List Res) (za : Option Addr) (zc : Nat) (cs : List CftP) (r : List Eng.Own) : List Eng.Own :=
  .box blk2 30 [.sl none 0 0 0 fun _ _ => .v undef, .sl none 0 0 0 fun _ _ => .v undef] :: .box blk3 30 [.os 2 ya rs.length yc, .os 3 za cs.length zc] ::
    .row ya 39 rs.length yc 17 (resRd rs.toArray) :: .row za 59 cs.length zc 4 (cftRd cs) :: r
theorem res_one1 {d : Array Res} {q : Nat} {l17 : List SV} (h : l17 = (List.range 17).map (resRd d q)) : rdEq 1 17 (rdL l17 17) (resRd [d[q]!].toArray) := by
  subst h
  intro i j hi hj
  have e : i = 0 := by omega
  subst e
  unfold rdL
  simp only [Nat.zero_mul, Nat.zero_add]
  have hg : ((List.range 17).map (resRd d q)).getD j default = resRd d q j := by simp [List.getD, hj]
  rw [hg]
  rfl
set_option maxRecDepth 100000 in
theorem ofC0 (F : Frm) (a : Option Addr) (cap : Nat) (xs : List Res) (hl : xs.length ≤ 1000000000) (hw : ∀ x ∈ xs, wfR x) :
    Contract F Try.prog 17 [.sl a xs.length cap 17 (resRd xs.toArray)] (fun r => ∃ (p : LedP) (c : List Res) (f : Nat → SV), Canon c xs ∧ p.led = ledOf c ∧ p.cs.length ≤ c.length ∧ c.length ≤ xs.length ∧ r = .agg 2 f ∧ f 0 = SV.sl p.a0 p.rs.length p.c0 17 (resRd p.rs.toArray) ∧ f 1 = SV.sl p.a1 p.cs.length p.c1 4 (cftRd p.cs)) := by
  refine contract_of Try.func17 rfl (by kernel_rfl) ?_
  simp only [Try.ntmps17, argEnv]
  (repeat refine Sat.seq ?_)
  (refine Sat.region_k fun k hk => ?_; simp -implicitDefEqProofs only [evr, id, reduceCtorEq, reduceIte, Nat.reduceMul, Nat.reduceAdd, Nat.reduceLT, Nat.reduceLeDiff, Nat.reduceEqDiff, Int.reduceLT, Int.reduceBEq, Int.reduceBNe, Nat.reduceBEq, res_one, List.append_nil, Int.toNat_zero, Nat.sub_self, cft_one, cft_0, cft_1, cft_2, cft_3, resRow, ofEnv, ofOwn, res_eqr])
  intro blk2
  (refine hk _ ?_; clear hk k; try show Sat _ _ _ _ _)
  (repeat refine Sat.seq ?_)
  (refine Sat.region_k fun k hk => ?_; simp -implicitDefEqProofs only [evr, id, reduceCtorEq, reduceIte, Nat.reduceMul, Nat.reduceAdd, Nat.reduceLT, Nat.reduceLeDiff, Nat.reduceEqDiff, Int.reduceLT, Int.reduceBEq, Int.reduceBNe, Nat.reduceBEq, res_one, List.append_nil, Int.toNat_zero, Nat.sub_self, cft_one, cft_0, cft_1, cft_2, cft_3, resRow, ofEnv, ofOwn, res_eqr])
  intro blk3
  (refine hk _ ?_; clear hk k; try show Sat _ _ _ _ _)
  (repeat refine Sat.seq ?_)
  (refine Sat.region_k fun k hk => ?_; simp -implicitDefEqProofs only [evr, id, reduceCtorEq, reduceIte, Nat.reduceMul, Nat.reduceAdd, Nat.reduceLT, Nat.reduceLeDiff, Nat.reduceEqDiff, Int.reduceLT, Int.reduceBEq, Int.reduceBNe, Nat.reduceBEq, res_one, List.append_nil, Int.toNat_zero, Nat.sub_self, cft_one, cft_0, cft_1, cft_2, cft_3, resRow, ofEnv, ofOwn, res_eqr])
  refine wcall_slice (sortC F xs.length a cap xs (Nat.le_refl _) hl hw) rfl rfl ?_
  rintro r ⟨sa, sc, S, hperm, hup, rfl⟩
  have hSl : S.length = xs.length := hperm.length_eq
  simp -implicitDefEqProofs only [evr, id, reduceCtorEq, reduceIte, Nat.reduceMul, Nat.reduceAdd, Nat.reduceLT, Nat.reduceLeDiff, Nat.reduceEqDiff, Int.reduceLT, Int.reduceBEq, Int.reduceBNe, Nat.reduceBEq, res_one, List.append_nil, Int.toNat_zero, Nat.sub_self, cft_one, cft_0, cft_1, cft_2, cft_3, resRow, ofEnv, ofOwn, res_eqr]
  (refine hk _ ?_; clear hk k; try show Sat _ _ _ _ _)
  have hcan : Canon (compact S) xs := canon_compact hup fun r => hperm.mem_iff
  have hcl : (compact S).length ≤ xs.length := by rw [← hSl]; exact compact_len S
  refine Sat.adoptBox 1 0 39 17 (resRd #[]) rfl rfl ?_
  simp -implicitDefEqProofs only [evr, id, reduceCtorEq, reduceIte, Nat.reduceMul, Nat.reduceAdd, Nat.reduceLT, Nat.reduceLeDiff, Nat.reduceEqDiff, Int.reduceLT, Int.reduceBEq, Int.reduceBNe, Nat.reduceBEq, res_one, List.append_nil, Int.toNat_zero, Nat.sub_self, cft_one, cft_0, cft_1, cft_2, cft_3, resRow, ofEnv, ofOwn, res_eqr]
  refine Sat.adoptBox 1 1 59 4 (cftRd []) rfl rfl ?_
  simp -implicitDefEqProofs only [evr, id, reduceCtorEq, reduceIte, Nat.reduceMul, Nat.reduceAdd, Nat.reduceLT, Nat.reduceLeDiff, Nat.reduceEqDiff, Int.reduceLT, Int.reduceBEq, Int.reduceBNe, Nat.reduceBEq, res_one, List.append_nil, Int.toNat_zero, Nat.sub_self, cft_one, cft_0, cft_1, cft_2, cft_3, resRow, ofEnv, ofOwn, res_eqr]
  (repeat refine Sat.seq ?_)
  (refine Sat.region_k fun k hk => ?_; simp -implicitDefEqProofs only [evr, id, reduceCtorEq, reduceIte, Nat.reduceMul, Nat.reduceAdd, Nat.reduceLT, Nat.reduceLeDiff, Nat.reduceEqDiff, Int.reduceLT, Int.reduceBEq, Int.reduceBNe, Nat.reduceBEq, res_one, List.append_nil, Int.toNat_zero, Nat.sub_self, cft_one, cft_0, cft_1, cft_2, cft_3, resRow, ofEnv, ofOwn, res_eqr]; refine hk _ ?_; clear hk k; try show Sat _ _ _ _ _)
  (repeat refine Sat.seq ?_)
  refine Sat.block ?_
  refine Sat.loop (ι := Nat × (Option Addr × Nat × List Res) × Option Addr × Nat × List CftP) (fun x => ⟨92, ofEnv blk2 blk3 sa sc S x.1, ofOwn blk2 blk3 x.2.1.1 x.2.1.2.1 x.2.1.2.2 x.2.2.1 x.2.2.2.1 x.2.2.2.2 []⟩)
    (fun x => x.1 ≤ S.length ∧ LgI (compact S) (compact (S.drop x.1)) x.2.1.2.2 x.2.2.2.2) (fun x => S.length - x.1) (0, (none, 0, []), none, 0, []) ⟨Nat.zero_le _, LgI.init _⟩ (by simp -implicitDefEqProofs only [evr, id, reduceCtorEq, reduceIte, Nat.reduceMul, Nat.reduceAdd, Nat.reduceLT, Nat.reduceLeDiff, Nat.reduceEqDiff, Int.reduceLT, Int.reduceBEq, Int.reduceBNe, Nat.reduceBEq, res_one, List.append_nil, Int.toNat_zero, Nat.sub_self, cft_one, cft_0, cft_1, cft_2, cft_3, resRow, ofEnv, ofOwn, res_eqr, evl]; first | rfl | trace_state) ?_
  rintro ⟨i, ⟨ya, yc, rs⟩, za, zc, cs⟩ ⟨hi, hI⟩
  simp only at hi hI ⊢
  have hle := hI.le
  have et : ∀ q, S.toArray[q]! = S[q]! := fun q => by rw [List.getElem!_toArray]
  (repeat refine Sat.seq ?_)
  (refine Sat.region_k fun k hk => ?_; simp -implicitDefEqProofs only [evr, id, reduceCtorEq, reduceIte, Nat.reduceMul, Nat.reduceAdd, Nat.reduceLT, Nat.reduceLeDiff, Nat.reduceEqDiff, Int.reduceLT, Int.reduceBEq, Int.reduceBNe, Nat.reduceBEq, res_one, List.append_nil, Int.toNat_zero, Nat.sub_self, cft_one, cft_0, cft_1, cft_2, cft_3, resRow, ofEnv, ofOwn, res_eqr]; refine hk _ ?_; clear hk k; try show Sat _ _ _ _ _)
  (repeat refine Sat.seq ?_)
  refine Sat.cond_b rfl (fun h => ?_) (fun h => ?_)
  · have h1 : i < S.length := by simp only [decide_eq_true_eq] at h; omega
    refine Sat.skip ?_
    simp only [thenK]
    (repeat refine Sat.seq ?_)
    refine Sat.block ?_
    (repeat refine Sat.seq ?_)
    (refine Sat.region_k fun k hk => ?_; simp -implicitDefEqProofs only [evr, id, reduceCtorEq, reduceIte, Nat.reduceMul, Nat.reduceAdd, Nat.reduceLT, Nat.reduceLeDiff, Nat.reduceEqDiff, Int.reduceLT, Int.reduceBEq, Int.reduceBNe, Nat.reduceBEq, res_one, List.append_nil, Int.toNat_zero, Nat.sub_self, cft_one, cft_0, cft_1, cft_2, cft_3, resRow, ofEnv, ofOwn, res_eqr])
    refine ⟨by omega, ?_⟩
    intro blkg

    (refine hk _ ?_; clear hk k; try show Sat _ _ _ _ _)
    have e1 : IntKind.i64.wrap ((i : Int) + 1) = ((i + 1 : Nat) : Int) := by rw [w64 (by omega)]; omega
    (repeat refine Sat.seq ?_)
    refine Sat.region_k fun k hk => ?_
    simp -implicitDefEqProofs only [evr, id, reduceCtorEq, reduceIte, Nat.reduceMul, Nat.reduceAdd, Nat.reduceLT, Nat.reduceLeDiff, Nat.reduceEqDiff, Int.reduceLT, Int.reduceBEq, Int.reduceBNe, Nat.reduceBEq, res_one, List.append_nil, Int.toNat_zero, Nat.sub_self, cft_one, cft_0, cft_1, cft_2, cft_3, resRow, ofEnv, ofOwn, res_eqr, e1]
    (refine hk _ ?_; clear hk k; try show Sat _ _ _ _ _)
    (repeat refine Sat.seq ?_)
    refine Sat.block ?_
    have hdr : (S.drop i).length = S.length - i := List.length_drop
    have hd0 : (S.drop i)[0]! = S[i]! := by rw [getElem!_pos _ _ (by omega), List.getElem_drop, getElem!_pos S i h1]; rfl
    refine Sat.loop (ι := Nat × Option Addr × Nat × List Res) (fun x => ⟨92, (7, .i .i64 x.1) :: (6, .os 4 x.2.1 x.2.2.2.length x.2.2.1) :: ofEnv blk2 blk3 sa sc S i, ofOwn blk2 blk3 ya yc rs za zc cs [.row x.2.1 39 x.2.2.2.length x.2.2.1 17 (resRd x.2.2.2.toArray)]⟩)
      (fun x => i < x.1 ∧ x.1 ≤ S.length ∧ x.2.2.2 = compact ((S.drop i).take (x.1 - i)) ∧ ∀ q, q < x.1 - i → sameId (S.drop i)[q]! (S.drop i)[0]! = true) (fun x => S.length - x.1) (i + 1, some ⟨blkg, 0, none⟩, 1, [S[i]!])
      ⟨Nat.lt_succ_self _, h1, ?_, fun q hq => ?_⟩ ?_ ?_
    · rw [show i + 1 - i = 0 + 1 by omega, take_snoc (by omega), hd0]
      rfl
    · have : q = 0 := by simp only at hq; omega
      subst this
      exact sameId_refl _
    · have ea := res_one1 (d := S.toArray) (q := i) (l17 := (List.range 17).map (resRd S.toArray i)) rfl
      rw [et] at ea
      simp -implicitDefEqProofs only [evr, id, reduceCtorEq, reduceIte, Nat.reduceMul, Nat.reduceAdd, Nat.reduceLT, Nat.reduceLeDiff, Nat.reduceEqDiff, Int.reduceLT, Int.reduceBEq, Int.reduceBNe, Nat.reduceBEq, res_one, List.append_nil, Int.toNat_zero, Nat.sub_self, cft_one, cft_0, cft_1, cft_2, cft_3, resRow, ofEnv, ofOwn, res_eqr, evl]
      exact ea
    rintro ⟨n, ga, gc, g⟩ ⟨hn1, hn2, hg, hn3⟩
    simp only at hn1 hn2 hg hn3 ⊢
    have hdn : ∀ q, (S.drop i)[q]! = S[i + q]! := fun q => by simp [getElem!_def, List.getElem?_drop]
    have hgl : g.length ≤ n - i := by
      rw [hg]
      have := compact_len ((S.drop i).take (n - i))
      rw [List.length_take] at this
      omega
    have hgp : 1 ≤ g.length := by
      rw [hg]
      refine List.length_pos_iff.2 (compact_ne fun e => ?_)
      have := congrArg List.length e
      rw [List.length_take, List.length_nil] at this
      omega
    have e3 : IntKind.i64.wrap ((n : Int) + 1) = ((n + 1 : Nat) : Int) := by rw [w64 (by omega)]; omega
    (repeat refine Sat.seq ?_)
    refine Sat.region_qat (by kernel_rfl) (by kernel_rfl) ⟨92, (35, .b (decide (n < S.length) && sameId S[n]! S[i]!)) :: (7, .i .i64 n) :: (6, .os 4 ga g.length gc) :: ofEnv blk2 blk3 sa sc S i, ofOwn blk2 blk3 ya yc rs za zc cs [.row ga 39 g.length gc 17 (resRd g.toArray)]⟩ (fun k hk => ?_) ?_
    · simp -implicitDefEqProofs only [evr, id, reduceCtorEq, reduceIte, Nat.reduceMul, Nat.reduceAdd, Nat.reduceLT, Nat.reduceLeDiff, Nat.reduceEqDiff, Int.reduceLT, Int.reduceBEq, Int.reduceBNe, Nat.reduceBEq, res_one, List.append_nil, Int.toNat_zero, Nat.sub_self, cft_one, cft_0, cft_1, cft_2, cft_3, resRow, ofEnv, ofOwn, res_eqr]
      refine ⟨fun h0 => ?_, fun h0 => ?_⟩
      · refine ⟨by omega, by omega, ?_⟩
        refine qcall (sameIdC Frm.nil S.toArray[n]! S.toArray[i]!) rfl (ok_plain rfl) ?_
        simp -implicitDefEqProofs only [evr, id, reduceCtorEq, reduceIte, Nat.reduceMul, Nat.reduceAdd, Nat.reduceLT, Nat.reduceLeDiff, Nat.reduceEqDiff, Int.reduceLT, Int.reduceBEq, Int.reduceBNe, Nat.reduceBEq, res_one, List.append_nil, Int.toNat_zero, Nat.sub_self, cft_one, cft_0, cft_1, cft_2, cft_3, resRow, ofEnv, ofOwn, res_eqr]
        refine hk _ ?_
        have e4 : (decide (n < S.length) && sameId S[n]! S[i]!) = sameId S[n]! S[i]! := by
          simp only [show n < S.length by omega, decide_true, Bool.true_and]
        simp only [e4, et]
        simp -implicitDefEqProofs only [evr, id, reduceCtorEq, reduceIte, Nat.reduceMul, Nat.reduceAdd, Nat.reduceLT, Nat.reduceLeDiff, Nat.reduceEqDiff, Int.reduceLT, Int.reduceBEq, Int.reduceBNe, Nat.reduceBEq, res_one, List.append_nil, Int.toNat_zero, Nat.sub_self, cft_one, cft_0, cft_1, cft_2, cft_3, resRow, ofEnv, ofOwn, res_eqr, evl]
      · refine hk _ ?_
        have e4 : (decide (n < S.length) && sameId S[n]! S[i]!) = false := by
          simp only [show ¬ n < S.length by omega, decide_false, Bool.false_and]
        simp only [e4]
        simp -implicitDefEqProofs only [evr, id, reduceCtorEq, reduceIte, Nat.reduceMul, Nat.reduceAdd, Nat.reduceLT, Nat.reduceLeDiff, Nat.reduceEqDiff, Int.reduceLT, Int.reduceBEq, Int.reduceBNe, Nat.reduceBEq, res_one, List.append_nil, Int.toNat_zero, Nat.sub_self, cft_one, cft_0, cft_1, cft_2, cft_3, resRow, ofEnv, ofOwn, res_eqr, evl]
    simp only [thenK]
    refine Sat.cond_b rfl (fun h3 => ?_) (fun h3 => ?_)
    · simp only [Bool.and_eq_true, decide_eq_true_eq] at h3
      have htk : (S.drop i).take (n + 1 - i) = (S.drop i).take (n - i) ++ [S[n]!] := by
        rw [show n + 1 - i = n - i + 1 by omega, take_snoc (by omega), hdn, show i + (n - i) = n by omega]
      have hne : (S.drop i).take (n - i) ≠ [] := fun e => by
        have := congrArg List.length e
        rw [List.length_take, List.length_nil] at this
        omega
      have hps := compact_push hne S[n]!
      rw [← htk, ← hg] at hps
      have hn3' : ∀ q, q < n + 1 - i → sameId (S.drop i)[q]! (S.drop i)[0]! = true := fun q hq => by
        by_cases e : q = n - i
        · subst e
          rw [hdn, hd0, show i + (n - i) = n by omega]
          exact h3.2
        · exact hn3 q (by omega)
      have e5 : IntKind.i64.wrap ((g.length : Int) - 1) = ((g.length - 1 : Nat) : Int) := by rw [w64 (by omega)]; omega
      refine Sat.skip ?_
      simp only [thenK]
      (repeat refine Sat.seq ?_)
      refine Sat.block ?_
      (repeat refine Sat.seq ?_)
      (refine Sat.region_qk (by kernel_rfl) (by kernel_rfl) fun k hk => ?_; simp -implicitDefEqProofs only [evr, id, reduceCtorEq, reduceIte, Nat.reduceMul, Nat.reduceAdd, Nat.reduceLT, Nat.reduceLeDiff, Nat.reduceEqDiff, Int.reduceLT, Int.reduceBEq, Int.reduceBNe, Nat.reduceBEq, res_one, List.append_nil, Int.toNat_zero, Nat.sub_self, cft_one, cft_0, cft_1, cft_2, cft_3, resRow, ofEnv, ofOwn, res_eqr])
      simp only [e5, evr, id, reduceCtorEq, reduceIte, Nat.reduceMul, Nat.reduceAdd, Nat.reduceLT, Nat.reduceLeDiff, Nat.reduceEqDiff, Int.reduceLT, Int.reduceBEq, Int.reduceBNe, Nat.reduceBEq, res_one, List.append_nil, Int.toNat_zero, Nat.sub_self, cft_one, cft_0, cft_1, cft_2, cft_3, resRow, ofEnv, ofOwn, res_eqr]
      refine ⟨by omega, by omega, by omega, ?_⟩
      (refine hk _ ?_; clear hk k; try show Sat _ _ _ _ _)
      refine Sat.cond_b rfl (fun h6 => ?_) (fun h6 => ?_)
      · have h7 : ¬ S[n]! = g[g.length - 1]! := by simpa using h6
        rw [if_neg h7] at hps
        (refine Sat.region_k fun k hk => ?_; simp -implicitDefEqProofs only [evr, id, reduceCtorEq, reduceIte, Nat.reduceMul, Nat.reduceAdd, Nat.reduceLT, Nat.reduceLeDiff, Nat.reduceEqDiff, Int.reduceLT, Int.reduceBEq, Int.reduceBNe, Nat.reduceBEq, res_one, List.append_nil, Int.toNat_zero, Nat.sub_self, cft_one, cft_0, cft_1, cft_2, cft_3, resRow, ofEnv, ofOwn, res_eqr])
        refine ⟨by omega, ?_⟩
        intro blkh
        refine ⟨⟨by unfold maxLen; omega, by omega⟩, fun a2 cap2 => ?_⟩
        (refine hk _ ?_; clear hk k; try show Sat _ _ _ _ _)
        refine Sat.region_k fun k hk => ?_
        simp -implicitDefEqProofs only [evr, id, reduceCtorEq, reduceIte, Nat.reduceMul, Nat.reduceAdd, Nat.reduceLT, Nat.reduceLeDiff, Nat.reduceEqDiff, Int.reduceLT, Int.reduceBEq, Int.reduceBNe, Nat.reduceBEq, res_one, List.append_nil, Int.toNat_zero, Nat.sub_self, cft_one, cft_0, cft_1, cft_2, cft_3, resRow, ofEnv, ofOwn, res_eqr, e3]
        refine hk _ ?_
        simp only [thenK, blockK]
        refine ⟨(n + 1, a2, cap2, g ++ [S[n]!]), ⟨by simp only; omega, by simp only; omega, hps.symm, hn3'⟩, by simp only; omega, ?_⟩
        have ea := res_app1 (xs := g) (d := S.toArray) (q := n) (l17 := (List.range 17).map (resRd S.toArray n)) rfl
        rw [et] at ea
        simp only [List.length_append]
        simp -implicitDefEqProofs only [evr, id, reduceCtorEq, reduceIte, Nat.reduceMul, Nat.reduceAdd, Nat.reduceLT, Nat.reduceLeDiff, Nat.reduceEqDiff, Int.reduceLT, Int.reduceBEq, Int.reduceBNe, Nat.reduceBEq, res_one, List.append_nil, Int.toNat_zero, Nat.sub_self, cft_one, cft_0, cft_1, cft_2, cft_3, resRow, ofEnv, ofOwn, res_eqr, evl]
        exact ea
      · have h7 : S[n]! = g[g.length - 1]! := by simpa using h6
        rw [if_pos h7] at hps
        refine Sat.skip ?_
        simp only [thenK]
        refine Sat.region_k fun k hk => ?_
        simp -implicitDefEqProofs only [evr, id, reduceCtorEq, reduceIte, Nat.reduceMul, Nat.reduceAdd, Nat.reduceLT, Nat.reduceLeDiff, Nat.reduceEqDiff, Int.reduceLT, Int.reduceBEq, Int.reduceBNe, Nat.reduceBEq, res_one, List.append_nil, Int.toNat_zero, Nat.sub_self, cft_one, cft_0, cft_1, cft_2, cft_3, resRow, ofEnv, ofOwn, res_eqr, e3]
        refine hk _ ?_
        simp only [thenK, blockK]
        refine ⟨(n + 1, ga, gc, g), ⟨by simp only; omega, by simp only; omega, hps.symm, hn3'⟩, by simp only; omega, ?_⟩
        simp -implicitDefEqProofs only [evr, id, reduceCtorEq, reduceIte, Nat.reduceMul, Nat.reduceAdd, Nat.reduceLT, Nat.reduceLeDiff, Nat.reduceEqDiff, Int.reduceLT, Int.reduceBEq, Int.reduceBNe, Nat.reduceBEq, res_one, List.append_nil, Int.toNat_zero, Nat.sub_self, cft_one, cft_0, cft_1, cft_2, cft_3, resRow, ofEnv, ofOwn, res_eqr, evl]
    · have hn4 : n - i = (S.drop i).length ∨ sameId (S.drop i)[n - i]! (S.drop i)[0]! = false := by
        by_cases hlt : n < S.length
        · right
          rw [hdn, hd0, show i + (n - i) = n by omega]
          simpa [hlt] using h3
        · left; omega
      obtain ⟨s1, s2, s3, s4, s5, s6, s7⟩ := of_step (rest := S.drop i) (n := n - i) (by omega) (by omega) hn3 hn4
      rw [← hg] at s1 s2 s3 s4 s6 s7
      rw [List.drop_drop, show i + (n - i) = n by omega] at s4
      rw [hd0] at s5
      refine Sat.exit ?_
      simp only [thenK, blockK, reduceIte]
      (repeat refine Sat.seq ?_)
      (refine Sat.region_k fun k hk => ?_; simp -implicitDefEqProofs only [evr, id, reduceCtorEq, reduceIte, Nat.reduceMul, Nat.reduceAdd, Nat.reduceLT, Nat.reduceLeDiff, Nat.reduceEqDiff, Int.reduceLT, Int.reduceBEq, Int.reduceBNe, Nat.reduceBEq, res_one, List.append_nil, Int.toNat_zero, Nat.sub_self, cft_one, cft_0, cft_1, cft_2, cft_3, resRow, ofEnv, ofOwn, res_eqr]; refine hk _ ?_; clear hk k; try show Sat _ _ _ _ _)
      refine Sat.cond_b rfl (fun h5 => ?_) (fun h5 => ?_)
      · have h6 : g.length = 1 := by simp only [beq_iff_eq] at h5; omega
        rw [h6] at s2 s4 s7
        (repeat refine Sat.seq ?_)
        (refine Sat.region_rows [⟨0, 60, 8, 0⟩, ⟨1, 61, 576460752303423488, 1⟩, ⟨0, 62, 16, 0⟩, ⟨0, 63, 32, 0⟩, ⟨12, 64, 6917529027641081856, 0⟩, ⟨16, 65, 9223372036854775808, 1⟩, ⟨32, 66, 18446744073709551616, 2⟩, ⟨66, 67, 38046409652025950208, 2⟩, ⟨255, 68, 8, 0⟩, ⟨511, 0, 221360928884514619392, 2⟩] [0, 2, 3, 4, 1, 5] [(6, false), (7, false), (8, false), (9, false)] [6] (by kernel_rfl) (by kernel_rfl) (fun _ _ h => h) fun k hk => ?_; simp only [List.map_cons, List.map_nil, List.getD_cons_zero, List.getD_cons_succ, btseq_cons, btseq_free, btseq_nil]; simp -implicitDefEqProofs only [evr, id, reduceCtorEq, reduceIte, Nat.reduceMul, Nat.reduceAdd, Nat.reduceLT, Nat.reduceLeDiff, Nat.reduceEqDiff, Int.reduceLT, Int.reduceBEq, Int.reduceBNe, Nat.reduceBEq, res_one, List.append_nil, Int.toNat_zero, Nat.sub_self, cft_one, cft_0, cft_1, cft_2, cft_3, resRow, ofEnv, ofOwn, res_eqr])
        refine ⟨by omega, ?_⟩
        intro blkh
        refine ⟨⟨by unfold maxLen; omega, by omega⟩, fun a2 cap2 => ?_⟩
        (refine hk _ ?_; clear hk k; try show Sat _ _ _ _ _)
        refine Sat.region_k fun k hk => ?_
        simp -implicitDefEqProofs only [evr, id, reduceCtorEq, reduceIte, Nat.reduceMul, Nat.reduceAdd, Nat.reduceLT, Nat.reduceLeDiff, Nat.reduceEqDiff, Int.reduceLT, Int.reduceBEq, Int.reduceBNe, Nat.reduceBEq, res_one, List.append_nil, Int.toNat_zero, Nat.sub_self, cft_one, cft_0, cft_1, cft_2, cft_3, resRow, ofEnv, ofOwn, res_eqr]
        refine hk _ ?_
        simp only [thenK, blockK]
        have hI2 := hI.one s2 s7
        rw [s4, s5] at hI2
        refine ⟨(n, (a2, cap2, rs ++ [S[i]!]), za, zc, cs), ⟨hn2, hI2⟩, by simp only; omega, ?_⟩
        have ea := res_app1 (xs := rs) (d := S.toArray) (q := i) (l17 := (List.range 17).map (resRd S.toArray i)) rfl
        rw [et] at ea
        simp only [List.length_append]
        simp -implicitDefEqProofs only [evr, id, reduceCtorEq, reduceIte, Nat.reduceMul, Nat.reduceAdd, Nat.reduceLT, Nat.reduceLeDiff, Nat.reduceEqDiff, Int.reduceLT, Int.reduceBEq, Int.reduceBNe, Nat.reduceBEq, res_one, List.append_nil, Int.toNat_zero, Nat.sub_self, cft_one, cft_0, cft_1, cft_2, cft_3, resRow, ofEnv, ofOwn, res_eqr, evl]
        exact ⟨by rw [List.length_append]; rfl, by simp, ea⟩
      · have h6 : 2 ≤ g.length := by
          have : ¬ (g.length : Int) = 1 := by simpa using h5
          omega
        refine Sat.settle2 6 rfl rfl ?_
        simp -implicitDefEqProofs only [evr, id, reduceCtorEq, reduceIte, Nat.reduceMul, Nat.reduceAdd, Nat.reduceLT, Nat.reduceLeDiff, Nat.reduceEqDiff, Int.reduceLT, Int.reduceBEq, Int.reduceBNe, Nat.reduceBEq, res_one, List.append_nil, Int.toNat_zero, Nat.sub_self, cft_one, cft_0, cft_1, cft_2, cft_3, resRow, ofEnv, ofOwn, res_eqr]
        (repeat refine Sat.seq ?_)
        (refine Sat.region_rows [⟨0, 69, 8, 0⟩, ⟨1, 70, 295147905179352825856, 1⟩, ⟨0, 71, 16, 0⟩, ⟨0, 72, 32, 0⟩, ⟨12, 73, 3541774862152233910272, 0⟩, ⟨16, 74, 4722366482869645213696, 0⟩, ⟨32, 75, 9444732965739290427392, 1⟩, ⟨0, 76, 16, 0⟩, ⟨0, 77, 32, 0⟩, ⟨384, 78, 113336795588871485128704, 0⟩, ⟨512, 79, 151115727451828646838272, 0⟩, ⟨1024, 80, 302231454903657293676544, 1⟩, ⟨0, 81, 16, 0⟩, ⟨0, 82, 32, 0⟩, ⟨12288, 83, 3626777458843887524118528, 0⟩, ⟨16384, 84, 4835703278458516698824704, 0⟩, ⟨32768, 85, 9671406556917033397649408, 1⟩, ⟨0, 86, 64, 0⟩, ⟨198720, 87, 58651791717240993554104320, 2⟩, ⟨262144, 88, 77371252455336267181195264, 2⟩, ⟨524290, 89, 154743095206482893068042240, 2⟩, ⟨2097151, 90, 8, 0⟩, ⟨4194303, 0, 928455029464035206174343168, 2⟩] [0, 2, 3, 4, 5, 7, 8, 9, 10, 12, 13, 14, 15, 17, 1, 6, 11, 16] [(18, false), (19, false), (20, false), (21, false), (22, false)] [18, 19] (by kernel_rfl) (by kernel_rfl) (fun _ _ h => h) fun k hk => ?_; simp only [List.map_cons, List.map_nil, List.getD_cons_zero, List.getD_cons_succ, btseq_cons, btseq_free, btseq_nil]; simp -implicitDefEqProofs only [evr, id, reduceCtorEq, reduceIte, Nat.reduceMul, Nat.reduceAdd, Nat.reduceLT, Nat.reduceLeDiff, Nat.reduceEqDiff, Int.reduceLT, Int.reduceBEq, Int.reduceBNe, Nat.reduceBEq, res_one, List.append_nil, Int.toNat_zero, Nat.sub_self, cft_one, cft_0, cft_1, cft_2, cft_3, resRow, ofEnv, ofOwn, res_eqr])
        simp -implicitDefEqProofs only [evr, id, reduceCtorEq, reduceIte, Nat.reduceMul, Nat.reduceAdd, Nat.reduceLT, Nat.reduceLeDiff, Nat.reduceEqDiff, Int.reduceLT, Int.reduceBEq, Int.reduceBNe, Nat.reduceBEq, res_one, List.append_nil, Int.toNat_zero, Nat.sub_self, cft_one, cft_0, cft_1, cft_2, cft_3, resRow, ofEnv, ofOwn, res_eqr, res_0, res_1, res_2]
        refine ⟨by omega, by omega, by omega, ?_⟩
        intro blkh
        refine ⟨⟨by unfold maxLen; omega, by omega⟩, fun a2 cap2 => ?_⟩
        (refine hk _ ?_; clear hk k; try show Sat _ _ _ _ _)
        refine Sat.region_k fun k hk => ?_
        simp -implicitDefEqProofs only [evr, id, reduceCtorEq, reduceIte, Nat.reduceMul, Nat.reduceAdd, Nat.reduceLT, Nat.reduceLeDiff, Nat.reduceEqDiff, Int.reduceLT, Int.reduceBEq, Int.reduceBNe, Nat.reduceBEq, res_one, List.append_nil, Int.toNat_zero, Nat.sub_self, cft_one, cft_0, cft_1, cft_2, cft_3, resRow, ofEnv, ofOwn, res_eqr]
        refine hk _ ?_
        simp only [thenK, blockK]
        have hI2 := hI.more h6 s2 s6 s7 ga gc
        rw [s3, s4, s5] at hI2
        refine ⟨(n, (ya, yc, rs), a2, cap2, cs ++ [⟨⟨(S[i]!).vantage, (S[i]!).run, (S[i]!).number, g⟩, ga, gc⟩]), ⟨hn2, hI2⟩, by simp only; omega, ?_⟩
        have ea := cft_app1 cs ⟨⟨(S[i]!).vantage, (S[i]!).run, (S[i]!).number, g⟩, ga, gc⟩
        simp only [cftCs] at ea
        simp only [List.length_append, et]
        simp -implicitDefEqProofs only [evr, id, reduceCtorEq, reduceIte, Nat.reduceMul, Nat.reduceAdd, Nat.reduceLT, Nat.reduceLeDiff, Nat.reduceEqDiff, Int.reduceLT, Int.reduceBEq, Int.reduceBNe, Nat.reduceBEq, res_one, List.append_nil, Int.toNat_zero, Nat.sub_self, cft_one, cft_0, cft_1, cft_2, cft_3, resRow, ofEnv, ofOwn, res_eqr, evl]
        exact ea
  · have h1 : i = S.length := by simp only [decide_eq_false_iff_not] at h; omega
    subst h1
    rw [List.drop_length] at hI
    refine Sat.exit ?_
    simp only [thenK, blockK, reduceIte]
    (repeat refine Sat.seq ?_)
    (refine Sat.region_k fun k hk => ?_; simp -implicitDefEqProofs only [evr, id, reduceCtorEq, reduceIte, Nat.reduceMul, Nat.reduceAdd, Nat.reduceLT, Nat.reduceLeDiff, Nat.reduceEqDiff, Int.reduceLT, Int.reduceBEq, Int.reduceBNe, Nat.reduceBEq, res_one, List.append_nil, Int.toNat_zero, Nat.sub_self, cft_one, cft_0, cft_1, cft_2, cft_3, resRow, ofEnv, ofOwn, res_eqr]; refine hk _ ?_; clear hk k; try show Sat _ _ _ _ _)
    refine Sat.ret ?_
    simp only [Try.results17, evr, id, reduceCtorEq, reduceIte, Nat.reduceMul, Nat.reduceAdd, Nat.reduceLT, Nat.reduceLeDiff, Nat.reduceEqDiff, Int.reduceLT, Int.reduceBEq, Int.reduceBNe, Nat.reduceBEq, res_one, List.append_nil, Int.toNat_zero, Nat.sub_self, cft_one, cft_0, cft_1, cft_2, cft_3, resRow, ofEnv, ofOwn, res_eqr]
    refine ⟨⟨ya, yc, rs, za, zc, cs⟩, compact S, _, hcan, hI.fin, by show cs.length ≤ (compact S).length; omega, hcl, rfl, ?_, ?_⟩
    · simp -implicitDefEqProofs only [evr, id, reduceCtorEq, reduceIte, Nat.reduceMul, Nat.reduceAdd, Nat.reduceLT, Nat.reduceLeDiff, Nat.reduceEqDiff, Int.reduceLT, Int.reduceBEq, Int.reduceBNe, Nat.reduceBEq, res_one, List.append_nil, Int.toNat_zero, Nat.sub_self, cft_one, cft_0, cft_1, cft_2, cft_3, resRow, ofEnv, ofOwn, res_eqr]
    · simp -implicitDefEqProofs only [evr, id, reduceCtorEq, reduceIte, Nat.reduceMul, Nat.reduceAdd, Nat.reduceLT, Nat.reduceLeDiff, Nat.reduceEqDiff, Int.reduceLT, Int.reduceBEq, Int.reduceBNe, Nat.reduceBEq, res_one, List.append_nil, Int.toNat_zero, Nat.sub_self, cft_one, cft_0, cft_1, cft_2, cft_3, resRow, ofEnv, ofOwn, res_eqr]
/-- Of: the ledger of the set of results -/
theorem ofC (F : Frm) (a : Option Addr) (cap : Nat) (xs : List Res) (hl : xs.length ≤ 1000000000) (hw : ∀ x ∈ xs, wfR x) :
    Contract F Try.prog 17 [.sl a xs.length cap 17 (resRd xs.toArray)] (fun r => ∃ (p : LedP) (c : List Res), Canon c xs ∧ p.led = ledOf c ∧ p.cs.length ≤ c.length ∧ c.length ≤ xs.length ∧ r = ledS p) :=
  (ofC0 F a cap xs hl hw).same fun r ⟨p, c, f, h1, h2, h3, h4, h5, h6, h7⟩ => ⟨ledS p, by
    rw [h5]
    exact sim_agg2 (by rw [h6]; exact sim_refl _) (by rw [h7]; exact sim_refl _), p, c, h1, h2, h3, h4, rfl⟩
end Go.Proofs.Ythhofjkbmnklmaa
