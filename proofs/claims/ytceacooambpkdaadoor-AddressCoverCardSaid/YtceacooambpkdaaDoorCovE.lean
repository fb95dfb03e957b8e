/- address.Cover and the reference's: both give the one list. -/
import Derived.Test.YtceacooambpkdaaDoorCovN
import Derived.Test.YtceacooambpkdaaDoorTzE
import Derived.Test.YtceacooambpkdaaDoorRfaE
set_option linter.unusedSimpArgs false
set_option linter.unusedVariables false
namespace Go.Proofs.YtceacooambpkdaaDoor
open Go.Sort Eng

/-- a list of prefixes as it is read -/
def prRd (ps : List Prf) (i j : Nat) : SV := (prC (ps.getD i default)).getD j default
def covX (low high : Nat) : List Prf := covL low (high + 1 - low)
def CovPost (low high : Nat) (r : SV) : Prop := ∃ a cap, r = .sl a (covX low high).length cap 2 (prRd (covX low high))
theorem w64u (n : Int) (h0 : 0 ≤ n) (h1 : n < 18446744073709551616) : IntKind.u64.wrap n = n := by rw [IntKind.wrap_u64]; omega
structure CovInv (low0 high : Nat) (i low : Nat) : Prop where
  le : low ≤ 2 ^ 32
  drop : covL low (high + 1 - low) = (covX low0 high).drop i
  len : i ≤ (covX low0 high).length
theorem CovInv.here {low0 high i low : Nat} (h : CovInv low0 high i low) (hl : low ≤ high) : i < (covX low0 high).length ∧ (covX low0 high).getD i default = ⟨low, 32 - (bestK low (high + 1 - low) : Int)⟩ := by
  have h1 := h.drop
  rw [covL_cons (by omega)] at h1
  have h2 : i < (covX low0 high).length := by
    rcases Nat.lt_or_ge i (covX low0 high).length with h9 | h9
    · exact h9
    · rw [List.drop_eq_nil_of_le h9] at h1; cases h1
  rw [List.drop_eq_getElem_cons h2] at h1
  injection h1 with h3 h4
  exact ⟨h2, by rw [List.getD_eq_getElem?_getD, List.getElem?_eq_getElem h2, Option.getD_some, ← h3]⟩
theorem CovInv.next {low0 high i low : Nat} (h : CovInv low0 high i low) (hl : low ≤ high) (hh : high < 2 ^ 32) : CovInv low0 high (i + 1) (low + 2 ^ bestK low (high + 1 - low)) := by
  have h1 := h.drop
  have h2 := (h.here hl).1
  have h5 := (bestK_spec (low := low) (w := high + 1 - low) (by omega)).2.1.2
  rw [covL_cons (by omega), List.drop_eq_getElem_cons h2] at h1
  injection h1 with h3 h4
  refine ⟨by omega, ?_, h2⟩
  rw [← h4]
  congr 1
  omega
theorem CovInv.done {low0 high i low : Nat} (h : CovInv low0 high i low) (hl : ¬ low ≤ high) : i = (covX low0 high).length := by
  have h1 := h.drop
  rw [show high + 1 - low = 0 by omega, covL_nil] at h1
  have h2 := h.len
  rcases Nat.lt_or_ge i (covX low0 high).length with h9 | h9
  · rw [List.drop_eq_getElem_cons h9] at h1; cases h1
  · omega
set_option maxRecDepth 100000 in
theorem coverC (low0 high : Nat) (h0 : low0 < 2 ^ 32) (hh : high < 2 ^ 32) : Contract FrZ Tryd.prog 24 [.agg 2 fun j => [SV.i .u32 low0, .i .u32 high].getD j default] (CovPost low0 high) := by
  have c0 : IntKind.u64.wrap (low0 : Int) = (low0 : Int) := w64u _ (by omega) (by omega)
  have c1 : IntKind.u64.wrap (high : Int) = (high : Int) := w64u _ (by omega) (by omega)
  refine contract_of Tryd.func24 rfl (by kernel_rfl) ?_
  simp only [Tryd.ntmps24, argEnv]
  (repeat refine Sat.seq ?_)
  (refine Sat.region_k fun k hk => ?_; simp -implicitDefEqProofs only [evr, id, reduceCtorEq, reduceIte, Nat.reduceMul, Nat.reduceAdd, Nat.reduceLT, Nat.reduceLeDiff, Nat.reduceEqDiff, Int.reduceLT, Int.reduceBEq, Int.reduceBNe, Nat.reduceBEq, List.append_nil, Int.toNat_zero, Nat.sub_self, Int.reduceNeg])
  intro b1
  (refine hk _ ?_; clear hk k; try show Sat _ _ _ _ _)
  (repeat refine Sat.seq ?_)
  (refine Sat.region_k fun k hk => ?_; simp -implicitDefEqProofs only [evr, id, reduceCtorEq, reduceIte, Nat.reduceMul, Nat.reduceAdd, Nat.reduceLT, Nat.reduceLeDiff, Nat.reduceEqDiff, Int.reduceLT, Int.reduceBEq, Int.reduceBNe, Nat.reduceBEq, List.append_nil, Int.toNat_zero, Nat.sub_self, Int.reduceNeg]; refine hk _ ?_; clear hk k; try show Sat _ _ _ _ _)
  (repeat refine Sat.seq ?_)
  (refine Sat.region_rows [⟨0, 8, 2, 0⟩, ⟨1, 9, 128, 1⟩, ⟨2, 10, 256, 1⟩, ⟨0, 11, 2, 0⟩, ⟨8, 12, 1024, 1⟩, ⟨16, 13, 2048, 1⟩, ⟨7, 5, 512, 0⟩, ⟨127, 6, 4096, 0⟩] [0, 3, 1, 2, 4, 5, 6, 7] [] [] (by kernel_rfl) (by kernel_rfl) (fun _ _ h => h) fun k hk => ?_; simp only [List.map_cons, List.map_nil, List.getD_cons_zero, List.getD_cons_succ, btseq_cons, btseq_free, btseq_nil]; simp -implicitDefEqProofs only [evr, id, reduceCtorEq, reduceIte, Nat.reduceMul, Nat.reduceAdd, Nat.reduceLT, Nat.reduceLeDiff, Nat.reduceEqDiff, Int.reduceLT, Int.reduceBEq, Int.reduceBNe, Nat.reduceBEq, List.append_nil, Int.toNat_zero, Nat.sub_self, Int.reduceNeg])
  simp only [c0, c1]
  (refine hk _ ?_; clear hk k; try show Sat _ _ _ _ _)
  (repeat refine Sat.seq ?_)
  refine Sat.block ?_
  refine Sat.adopt 3 25 2 (prRd (covX low0 high)) rfl ?_
  refine Sat.loop (ι := (Nat × Nat) × Option Addr × Nat) (fun x => ⟨39, [(4, .i .u64 x.1.2), (5, .i .u64 high), (3, .os 1 x.2.1 x.1.1 x.2.2)], [.gone, .row x.2.1 25 x.1.1 x.2.2 2 (prRd (covX low0 high))]⟩)
    (fun x => CovInv low0 high x.1.1 x.1.2) (fun x => (covX low0 high).length - x.1.1) ((0, low0), none, 0) ⟨by show low0 ≤ 2 ^ 32; omega, rfl, Nat.zero_le _⟩ (by simp -implicitDefEqProofs only [evr, id, reduceCtorEq, reduceIte, Nat.reduceMul, Nat.reduceAdd, Nat.reduceLT, Nat.reduceLeDiff, Nat.reduceEqDiff, Int.reduceLT, Int.reduceBEq, Int.reduceBNe, Nat.reduceBEq, List.append_nil, Int.toNat_zero, Nat.sub_self, Int.reduceNeg, evl]; try rfl) ?_
  rintro ⟨⟨i, low⟩, a, c⟩ hI
  simp only at hI ⊢
  (repeat refine Sat.seq ?_)
  (refine Sat.region_k fun k hk => ?_; simp -implicitDefEqProofs only [evr, id, reduceCtorEq, reduceIte, Nat.reduceMul, Nat.reduceAdd, Nat.reduceLT, Nat.reduceLeDiff, Nat.reduceEqDiff, Int.reduceLT, Int.reduceBEq, Int.reduceBNe, Nat.reduceBEq, List.append_nil, Int.toNat_zero, Nat.sub_self, Int.reduceNeg]; refine hk _ ?_; clear hk k; try show Sat _ _ _ _ _)
  (repeat refine Sat.seq ?_)
  refine Sat.cond_b rfl (fun h => ?_) (fun h => ?_)
  · have hl : low ≤ high := by simp only [decide_eq_true_eq] at h; omega
    obtain ⟨hi, hget⟩ := hI.here hl
    have hN := hI.next hl hh
    obtain ⟨g1, g2, g3⟩ := bestK_spec (low := low) (w := high + 1 - low) (by omega)
    have hlow : low < 2 ^ 32 := by omega
    have e1 : bits .or .u64 (low : Int) 4294967296 = ((low + 2 ^ 32 : Nat) : Int) := by
      have := bits_or_u64_nat low 4294967296 (by omega) (by omega)
      rw [or_top hlow] at this
      exact this
    have e2 : IntKind.u64.wrap ((high : Int) - low) = ((high - low : Nat) : Int) := by rw [w64u _ (by omega) (by omega)]; omega
    have e3 : IntKind.u64.wrap (((high - low : Nat) : Int) + 1) = ((high + 1 - low : Nat) : Int) := by rw [w64u _ (by omega) (by omega)]; omega
    have hbm := best_min2 hl hh
    obtain ⟨l1, l2⟩ := bitLen_pred hl hh
    generalize hw : high + 1 - low = w at *
    have cL := len64C FrZ w (by omega)
    have cT := tz64C (low + 2 ^ 32) (by omega)
    generalize Lib.bitLen w = bl at *
    generalize ht : Lib.ctz 64 (low + 2 ^ 32) = t at *
    have e4 : IntKind.i64.wrap ((bl : Int) - 1) = ((bl - 1 : Nat) : Int) := by rw [w64 (by omega)]; omega
    refine Sat.skip ?_
    simp only [thenK]
    (repeat refine Sat.seq ?_)
    refine Sat.block ?_
    (repeat refine Sat.seq ?_)
    refine Sat.region_k fun k hk => ?_
    simp -implicitDefEqProofs only [evr, id, reduceCtorEq, reduceIte, Nat.reduceMul, Nat.reduceAdd, Nat.reduceLT, Nat.reduceLeDiff, Nat.reduceEqDiff, Int.reduceLT, Int.reduceBEq, Int.reduceBNe, Nat.reduceBEq, List.append_nil, Int.toNat_zero, Nat.sub_self, Int.reduceNeg, e1]
    refine wcall_plain cT rfl (by rintro _ rfl; exact ok_plain rfl) ?_
    rintro r rfl
    simp -implicitDefEqProofs only [evr, id, reduceCtorEq, reduceIte, Nat.reduceMul, Nat.reduceAdd, Nat.reduceLT, Nat.reduceLeDiff, Nat.reduceEqDiff, Int.reduceLT, Int.reduceBEq, Int.reduceBNe, Nat.reduceBEq, List.append_nil, Int.toNat_zero, Nat.sub_self, Int.reduceNeg, e2, e3]
    refine wcall_plain cL rfl (by rintro _ rfl; exact ok_plain rfl) ?_
    rintro r rfl
    simp -implicitDefEqProofs only [evr, id, reduceCtorEq, reduceIte, Nat.reduceMul, Nat.reduceAdd, Nat.reduceLT, Nat.reduceLeDiff, Nat.reduceEqDiff, Int.reduceLT, Int.reduceBEq, Int.reduceBNe, Nat.reduceBEq, List.append_nil, Int.toNat_zero, Nat.sub_self, Int.reduceNeg, e4]
    have em : min (t : Int) ((bl - 1 : Nat) : Int) = (bestK low w : Int) := by omega
    simp only [em]
    clear cL cT e1 e2 e3 e4 em hbm
    generalize bestK low w = K at *
    have f1 : IntKind.u32.wrap (low : Int) = (low : Int) := w32u _ (Int.natCast_nonneg _) (by omega)
    have f2 : IntKind.i64.wrap (32 - (K : Int)) = 32 - (K : Int) := w64 (by omega)
    have hpl := pow_le32 g1
    have f3 : IntKind.u64.wrap (1 * 2 ^ min K IntKind.u64.bits) = ((2 ^ K : Nat) : Int) := by
      have e : min K IntKind.u64.bits = K := by show min K 64 = K; omega
      have pe : (2 : Int) ^ K = ((2 ^ K : Nat) : Int) := by simp
      rw [e, Int.one_mul, pe]
      exact w64u _ (Int.natCast_nonneg _) (by omega)
    have f4' : ∀ q : Nat, q ≤ 2 ^ 32 → IntKind.u64.wrap ((low : Int) + (q : Int)) = ((low + q : Nat) : Int) := fun q hq => by rw [w64u _ (by omega) (by omega)]; omega
    have f4 := f4' (2 ^ K) hpl
    (refine hk _ ?_; clear hk k; try show Sat _ _ _ _ _)
    (repeat refine Sat.seq ?_)
    refine Sat.region_k fun k hk => ?_
    simp -implicitDefEqProofs only [evr, id, reduceCtorEq, reduceIte, Nat.reduceMul, Nat.reduceAdd, Nat.reduceLT, Nat.reduceLeDiff, Nat.reduceEqDiff, Int.reduceLT, Int.reduceBEq, Int.reduceBNe, Nat.reduceBEq, List.append_nil, Int.toNat_zero, Nat.sub_self, Int.reduceNeg, f1, f2]
    intro blk
    have hlen62 : (covX low0 high).length ≤ 62 := cov_len (low := low0) (w := high + 1 - low0) (by omega)
    refine ⟨⟨by unfold maxLen; omega, by omega⟩, fun a2 cap2 => ?_⟩
    (refine hk _ ?_; clear hk k; try show Sat _ _ _ _ _)
    (repeat refine Sat.seq ?_)
    refine Sat.region_k fun k hk => ?_
    simp -implicitDefEqProofs only [evr, id, reduceCtorEq, reduceIte, Nat.reduceMul, Nat.reduceAdd, Nat.reduceLT, Nat.reduceLeDiff, Nat.reduceEqDiff, Int.reduceLT, Int.reduceBEq, Int.reduceBNe, Nat.reduceBEq, List.append_nil, Int.toNat_zero, Nat.sub_self, Int.reduceNeg, Int.toNat_natCast, f3, f4]
    refine hk _ ?_
    simp only [thenK, blockK]
    refine ⟨((i + 1, low + 2 ^ K), a2, cap2), hN, by show (covX low0 high).length - (i + 1) < (covX low0 high).length - i; omega, ?_⟩
    simp -implicitDefEqProofs only [evr, id, reduceCtorEq, reduceIte, Nat.reduceMul, Nat.reduceAdd, Nat.reduceLT, Nat.reduceLeDiff, Nat.reduceEqDiff, Int.reduceLT, Int.reduceBEq, Int.reduceBNe, Nat.reduceBEq, List.append_nil, Int.toNat_zero, Nat.sub_self, Int.reduceNeg, evl]
    refine rdEq_snoc (rdEq_refl _ _ _) fun j hj => ?_
    unfold prRd
    rw [hget]
    rcases (show j = 0 ∨ j = 1 by omega) with rfl | rfl <;> rfl
  · have hd := hI.done (by simp only [decide_eq_false_iff_not] at h; omega)
    refine Sat.exit ?_
    simp only [thenK, blockK, reduceIte]
    (repeat refine Sat.seq ?_)
    (refine Sat.region_k fun k hk => ?_; simp -implicitDefEqProofs only [evr, id, reduceCtorEq, reduceIte, Nat.reduceMul, Nat.reduceAdd, Nat.reduceLT, Nat.reduceLeDiff, Nat.reduceEqDiff, Int.reduceLT, Int.reduceBEq, Int.reduceBNe, Nat.reduceBEq, List.append_nil, Int.toNat_zero, Nat.sub_self, Int.reduceNeg]; refine hk _ ?_; clear hk k; try show Sat _ _ _ _ _)
    refine Sat.ret ?_
    simp only [Tryd.results24, evr, id, reduceCtorEq, reduceIte, Nat.reduceMul, Nat.reduceAdd, Nat.reduceLT, Nat.reduceLeDiff, Nat.reduceEqDiff, Int.reduceLT, Int.reduceBEq, Int.reduceBNe, Nat.reduceBEq, List.append_nil, Int.toNat_zero, Nat.sub_self, Int.reduceNeg]
    unfold CovPost
    rw [← hd]
    exact ⟨_, _, rfl⟩
end Go.Proofs.YtceacooambpkdaaDoor
