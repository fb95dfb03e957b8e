/- Ledgers, by the evaluator: slices.BinarySearchFunc, merge.Find. -/
import Derived.Test.YthhofjkbmnklmaaLedH
set_option linter.unusedSimpArgs false
set_option linter.unusedVariables false
namespace Go.Proofs.Ythhofjkbmnklmaa
open Go.Sort Eng

/-- where the target is to be found -/
structure AtB (xs : List Res) (t : Res) (i : Nat) : Prop where
  le : i ≤ xs.length
  lo : ∀ q, q < i → resIdent xs[q]! t < 0
  hi : ∀ q, i ≤ q → q < xs.length → 0 ≤ resIdent xs[q]! t
def mono (xs : List Res) (t : Res) : Prop := ∀ i j, i < j → j < xs.length → resIdent xs[j]! t < 0 → resIdent xs[i]! t < 0

set_option maxRecDepth 100000 in
theorem bsearchC (F : Frm) (a : Option Addr) (cap : Nat) (xs : List Res) (hl : xs.length ≤ 1000000000) (t : Res) (hm : mono xs t) (rdc : Nat → SV) :
    Contract F Try.prog 36 [.sl a xs.length cap 17 (resRd xs.toArray), resAg t, .fn 37 0 rdc]
      (fun r => ∃ i, AtB xs t i ∧ r = tupL [.i .i64 i, .b (decide (i < xs.length) && decide (resIdent xs[i]! t = 0))]) := by
  have et : ∀ q, xs.toArray[q]! = xs[q]! := fun q => by rw [List.getElem!_toArray]
  refine contract_of Try.func36 rfl (by kernel_rfl) ?_
  simp only [Try.ntmps36, argEnv, resAg, Res.cs]
  (repeat refine Sat.seq ?_)
  (refine Sat.region_k fun k hk => ?_; simp -implicitDefEqProofs only [evr, id, reduceCtorEq, reduceIte, Nat.reduceMul, Nat.reduceAdd, Nat.reduceLT, Nat.reduceLeDiff, Nat.reduceEqDiff, Int.reduceLT, Int.reduceBEq, Int.reduceBNe, Nat.reduceBEq, res_one, res_ro, List.append_nil, Int.toNat_zero, Nat.sub_self, resRow, resAg])
  intro blk4
  (refine hk _ ?_; clear hk k; try show Sat _ _ _ _ _)
  (repeat refine Sat.seq ?_)
  (refine Sat.region_k fun k hk => ?_; simp -implicitDefEqProofs only [evr, id, reduceCtorEq, reduceIte, Nat.reduceMul, Nat.reduceAdd, Nat.reduceLT, Nat.reduceLeDiff, Nat.reduceEqDiff, Int.reduceLT, Int.reduceBEq, Int.reduceBNe, Nat.reduceBEq, res_one, res_ro, List.append_nil, Int.toNat_zero, Nat.sub_self, resRow, resAg]; refine hk _ ?_; clear hk k; try show Sat _ _ _ _ _)
  (repeat refine Sat.seq ?_)
  (refine Sat.region_k fun k hk => ?_; simp -implicitDefEqProofs only [evr, id, reduceCtorEq, reduceIte, Nat.reduceMul, Nat.reduceAdd, Nat.reduceLT, Nat.reduceLeDiff, Nat.reduceEqDiff, Int.reduceLT, Int.reduceBEq, Int.reduceBNe, Nat.reduceBEq, res_one, res_ro, List.append_nil, Int.toNat_zero, Nat.sub_self, resRow, resAg]; refine hk _ ?_; clear hk k; try show Sat _ _ _ _ _)
  (repeat refine Sat.seq ?_)
  refine Sat.block ?_
  refine Sat.loop (ι := Nat × Nat) (fun x => ⟨49, [(9, .i .i64 x.1), (10, .i .i64 x.2), (8, .i .i64 xs.length), (0, .sl a xs.length cap 17 (resRd xs.toArray)), (2, .fn 37 0 rdc), (4, .op 0 blk4 0)], [.box blk4 39 (Res.cs t)]⟩)
    (fun x => x.1 ≤ x.2 ∧ x.2 ≤ xs.length ∧ (∀ q, q < x.1 → resIdent xs[q]! t < 0) ∧ ∀ q, x.2 ≤ q → q < xs.length → 0 ≤ resIdent xs[q]! t) (fun x => x.2 - x.1) (0, xs.length)
    ⟨Nat.zero_le _, Nat.le_refl _, fun q hq => absurd hq (Nat.not_lt_zero _), fun q h1 h2 => by simp only at h1; omega⟩ (by simp only [Res.cs]; simp -implicitDefEqProofs only [evr, id, reduceCtorEq, reduceIte, Nat.reduceMul, Nat.reduceAdd, Nat.reduceLT, Nat.reduceLeDiff, Nat.reduceEqDiff, Int.reduceLT, Int.reduceBEq, Int.reduceBNe, Nat.reduceBEq, res_one, res_ro, List.append_nil, Int.toNat_zero, Nat.sub_self, resRow, resAg, evl]; first | rfl | exact ⟨rfl, rfl⟩) ?_
  rintro ⟨i, j⟩ ⟨hij, hj, hlo, hhi⟩
  simp only [Res.cs] at hij hj hlo hhi ⊢
  (repeat refine Sat.seq ?_)
  (refine Sat.region_k fun k hk => ?_; simp -implicitDefEqProofs only [evr, id, reduceCtorEq, reduceIte, Nat.reduceMul, Nat.reduceAdd, Nat.reduceLT, Nat.reduceLeDiff, Nat.reduceEqDiff, Int.reduceLT, Int.reduceBEq, Int.reduceBNe, Nat.reduceBEq, res_one, res_ro, List.append_nil, Int.toNat_zero, Nat.sub_self, resRow, resAg]; refine hk _ ?_; clear hk k; try show Sat _ _ _ _ _)
  (repeat refine Sat.seq ?_)
  refine Sat.cond_b rfl (fun h => ?_) (fun h => ?_)
  · have h1 : i < j := by simp only [decide_eq_true_eq] at h; omega
    have e1 : IntKind.i64.wrap ((i : Int) + (j : Int)) = ((i + j : Nat) : Int) := by rw [w64 (by omega)]; omega
    have e2 : IntKind.u64.wrap ((i + j : Nat) : Int) = ((i + j : Nat) : Int) := IntWalk.u64_in _ (by omega)
    have e3 : ((i + j : Nat) : Int).fdiv (2 ^ (min (1 : Int).toNat IntKind.u64.bits)) = (((i + j) / 2 : Nat) : Int) := by
      have : min (1 : Int).toNat IntKind.u64.bits = 1 := by decide
      rw [this, Int.fdiv_eq_ediv_of_nonneg _ (by decide)]
      omega
    have e4 : IntKind.i64.wrap (((i + j) / 2 : Nat) : Int) = (((i + j) / 2 : Nat) : Int) := w64 (by omega)
    have hm1 : i ≤ (i + j) / 2 := by omega
    have hm2 : (i + j) / 2 < j := by omega
    refine Sat.skip ?_
    simp only [thenK]
    (repeat refine Sat.seq ?_)
    refine Sat.block ?_
    (repeat refine Sat.seq ?_)
    refine Sat.region_k fun k hk => ?_
    simp -implicitDefEqProofs only [evr, id, reduceCtorEq, reduceIte, Nat.reduceMul, Nat.reduceAdd, Nat.reduceLT, Nat.reduceLeDiff, Nat.reduceEqDiff, Int.reduceLT, Int.reduceBEq, Int.reduceBNe, Nat.reduceBEq, res_one, res_ro, List.append_nil, Int.toNat_zero, Nat.sub_self, resRow, resAg, e1, e2, e3, e4]
    refine ⟨by decide, hk _ ?_⟩
    simp only [thenK, blockK]
    generalize hmd : (i + j) / 2 = m at hm1 hm2 ⊢
    have e5 : IntKind.i64.wrap ((m : Int) + 1) = ((m + 1 : Nat) : Int) := by rw [w64 (by omega)]; omega
    (repeat refine Sat.seq ?_)
    refine Sat.region_qk (by kernel_rfl) (by kernel_rfl) fun k hk => ?_
    simp -implicitDefEqProofs only [evr, id, reduceCtorEq, reduceIte, Nat.reduceMul, Nat.reduceAdd, Nat.reduceLT, Nat.reduceLeDiff, Nat.reduceEqDiff, Int.reduceLT, Int.reduceBEq, Int.reduceBNe, Nat.reduceBEq, res_one, res_ro, List.append_nil, Int.toNat_zero, Nat.sub_self, resRow, resAg]
    refine ⟨by omega, ?_⟩
    refine qcall (identityC Frm.nil xs.toArray[m]! t) rfl (ok_plain rfl) ?_
    simp -implicitDefEqProofs only [evr, id, reduceCtorEq, reduceIte, Nat.reduceMul, Nat.reduceAdd, Nat.reduceLT, Nat.reduceLeDiff, Nat.reduceEqDiff, Int.reduceLT, Int.reduceBEq, Int.reduceBNe, Nat.reduceBEq, res_one, res_ro, List.append_nil, Int.toNat_zero, Nat.sub_self, resRow, resAg]
    (refine hk _ ?_; clear hk k; try show Sat _ _ _ _ _)
    refine Sat.cond_b rfl (fun h3 => ?_) (fun h3 => ?_)
    · simp only [decide_eq_true_eq, et] at h3
      refine Sat.region_k fun k hk => ?_
      simp -implicitDefEqProofs only [evr, id, reduceCtorEq, reduceIte, Nat.reduceMul, Nat.reduceAdd, Nat.reduceLT, Nat.reduceLeDiff, Nat.reduceEqDiff, Int.reduceLT, Int.reduceBEq, Int.reduceBNe, Nat.reduceBEq, res_one, res_ro, List.append_nil, Int.toNat_zero, Nat.sub_self, resRow, resAg, e5]
      refine hk _ ?_
      simp only [thenK, blockK]
      refine ⟨(m + 1, j), ⟨by simp only; omega, hj, fun q hq => ?_, hhi⟩, by simp only; omega, ?_⟩
      · simp only at hq
        by_cases e : q = m
        · subst e; exact h3
        · exact hm q m (by omega) (by omega) h3
      · simp -implicitDefEqProofs only [evr, id, reduceCtorEq, reduceIte, Nat.reduceMul, Nat.reduceAdd, Nat.reduceLT, Nat.reduceLeDiff, Nat.reduceEqDiff, Int.reduceLT, Int.reduceBEq, Int.reduceBNe, Nat.reduceBEq, res_one, res_ro, List.append_nil, Int.toNat_zero, Nat.sub_self, resRow, resAg, evl]
    · simp only [decide_eq_false_iff_not, et] at h3
      refine Sat.region_k fun k hk => ?_
      simp -implicitDefEqProofs only [evr, id, reduceCtorEq, reduceIte, Nat.reduceMul, Nat.reduceAdd, Nat.reduceLT, Nat.reduceLeDiff, Nat.reduceEqDiff, Int.reduceLT, Int.reduceBEq, Int.reduceBNe, Nat.reduceBEq, res_one, res_ro, List.append_nil, Int.toNat_zero, Nat.sub_self, resRow, resAg]
      refine hk _ ?_
      simp only [thenK, blockK]
      refine ⟨(i, m), ⟨hm1, by simp only; omega, hlo, fun q hq hq2 => ?_⟩, by simp only; omega, ?_⟩
      · simp only at hq
        by_cases e : q = m
        · subst e; omega
        · have h4 : ¬ resIdent xs[q]! t < 0 := fun h5 => h3 (hm m q (by omega) hq2 h5)
          omega
      · simp -implicitDefEqProofs only [evr, id, reduceCtorEq, reduceIte, Nat.reduceMul, Nat.reduceAdd, Nat.reduceLT, Nat.reduceLeDiff, Nat.reduceEqDiff, Int.reduceLT, Int.reduceBEq, Int.reduceBNe, Nat.reduceBEq, res_one, res_ro, List.append_nil, Int.toNat_zero, Nat.sub_self, resRow, resAg, evl]
  · have h1 : i = j := by simp only [decide_eq_false_iff_not] at h; omega
    subst h1
    refine Sat.exit ?_
    simp only [thenK, blockK, reduceIte]
    refine Sat.seq ?_
    refine Sat.region_qat (by kernel_rfl) (by kernel_rfl) ⟨49, [(6, .i .i64 i), (7, .b (decide (i < xs.length) && decide (resIdent xs[i]! t = 0)))], []⟩ (fun k hk => ?_) ?_
    · simp -implicitDefEqProofs only [evr, id, reduceCtorEq, reduceIte, Nat.reduceMul, Nat.reduceAdd, Nat.reduceLT, Nat.reduceLeDiff, Nat.reduceEqDiff, Int.reduceLT, Int.reduceBEq, Int.reduceBNe, Nat.reduceBEq, res_one, res_ro, List.append_nil, Int.toNat_zero, Nat.sub_self, resRow, resAg]
      refine ⟨fun h0 => ?_, fun h0 => ?_⟩
      · have hlt : i < xs.length := by omega
        refine ⟨by omega, ?_⟩
        refine qcall (identityC Frm.nil xs.toArray[i]! t) rfl (ok_plain rfl) ?_
        simp -implicitDefEqProofs only [evr, id, reduceCtorEq, reduceIte, Nat.reduceMul, Nat.reduceAdd, Nat.reduceLT, Nat.reduceLeDiff, Nat.reduceEqDiff, Int.reduceLT, Int.reduceBEq, Int.reduceBNe, Nat.reduceBEq, res_one, res_ro, List.append_nil, Int.toNat_zero, Nat.sub_self, resRow, resAg]
        refine hk _ ?_
        have e4 : (decide (i < xs.length) && decide (resIdent xs[i]! t = 0)) = (resIdent xs[i]! t == 0) := by
          simp only [hlt, decide_true, Bool.true_and]
          rfl
        simp only [e4, et]
        simp -implicitDefEqProofs only [evr, id, reduceCtorEq, reduceIte, Nat.reduceMul, Nat.reduceAdd, Nat.reduceLT, Nat.reduceLeDiff, Nat.reduceEqDiff, Int.reduceLT, Int.reduceBEq, Int.reduceBNe, Nat.reduceBEq, res_one, res_ro, List.append_nil, Int.toNat_zero, Nat.sub_self, resRow, resAg, evl]
      · have hlt : ¬ i < xs.length := by omega
        refine hk _ ?_
        have e4 : (decide (i < xs.length) && decide (resIdent xs[i]! t = 0)) = false := by
          simp only [hlt, decide_false, Bool.false_and]
        simp only [e4]
        simp -implicitDefEqProofs only [evr, id, reduceCtorEq, reduceIte, Nat.reduceMul, Nat.reduceAdd, Nat.reduceLT, Nat.reduceLeDiff, Nat.reduceEqDiff, Int.reduceLT, Int.reduceBEq, Int.reduceBNe, Nat.reduceBEq, res_one, res_ro, List.append_nil, Int.toNat_zero, Nat.sub_self, resRow, resAg, evl]
    simp only [thenK]
    refine Sat.ret ?_
    simp only [Try.results36, evr, id, reduceCtorEq, reduceIte, Nat.reduceMul, Nat.reduceAdd, Nat.reduceLT, Nat.reduceLeDiff, Nat.reduceEqDiff, Int.reduceLT, Int.reduceBEq, Int.reduceBNe, Nat.reduceBEq, res_one, res_ro, List.append_nil, Int.toNat_zero, Nat.sub_self, resRow, resAg]
    exact ⟨i, ⟨hj, hlo, hhi⟩, rfl⟩

/-- a key -/
def keyR (v r n : Int) : Res := { (default : Res) with vantage := v, run := r, number := n }
/-- the one with a key -/
def findR (xs : List Res) (v r n : Int) : Option Res := xs.find? fun x => decide (x.idk = [v, r, n])
def asc (xs : List Res) : Prop := xs.Pairwise fun a b => resIdent a b < 0
theorem ident_trans {a b c : Res} (h : resIdent a b < 0) (k : resIdent b c ≤ 0) : resIdent a c < 0 := by
  rcases Int.lt_or_eq_of_le k with k | k
  · exact cmpL_trans a.idk b.idk c.idk rfl rfl h k
  · have := resIdent_zero.1 k
    unfold resIdent at h ⊢
    rw [← this]; exact h
theorem asc_mono {xs : List Res} (h : asc xs) (t : Res) : mono xs t := by
  intro i j hij hj hlt
  have := (List.pairwise_iff_getElem.1 h) i j (by omega) hj hij
  have e1 : xs[i]! = xs[i] := by simp [getElem!_def, show i < xs.length by omega]
  have e2 : xs[j]! = xs[j] := by simp [getElem!_def, hj]
  rw [e2] at hlt
  rw [e1]
  exact ident_trans this (by omega)
theorem findR_at {xs : List Res} (h : asc xs) {v r n : Int} {i : Nat} (ha : AtB xs (keyR v r n) i) : findR xs v r n = if i < xs.length ∧ resIdent xs[i]! (keyR v r n) = 0 then some xs[i]! else none := by
  have hk : ∀ x : Res, (resIdent x (keyR v r n) = 0 ↔ x.idk = [v, r, n]) := fun x => resIdent_zero
  unfold findR
  split
  · rename_i hc
    obtain ⟨hlt, hz⟩ := hc
    rw [List.find?_eq_some_iff_getElem]
    refine ⟨by simpa using (hk _).1 hz, i, hlt, by simp [getElem!_def, hlt], fun j hj => ?_⟩
    have := ha.lo j hj
    have e : xs[j]! = xs[j] := by simp [getElem!_def, show j < xs.length by omega]
    rw [e] at this
    have hne : ¬ (xs[j]).idk = [v, r, n] := fun h9 => by have := (hk xs[j]).2 h9; omega
    simpa using hne
  · rename_i hc
    rw [List.find?_eq_none]
    intro x hx
    obtain ⟨q, hq, rfl⟩ := List.getElem_of_mem hx
    have e : xs[q]! = xs[q] := by simp [getElem!_def, hq]
    simp only [decide_eq_true_eq]
    intro h9
    have hz := (hk xs[q]).2 h9
    rcases Nat.lt_or_ge q i with hqi | hqi
    · have := ha.lo q hqi
      rw [e] at this; omega
    · have hi : i < xs.length := by omega
      have h10 := ha.hi i (Nat.le_refl _) hi
      have h11 : resIdent xs[i]! (keyR v r n) ≠ 0 := fun h => hc ⟨hi, h⟩
      by_cases hqe : q = i
      · subst hqe; rw [e] at h11; exact h11 hz
      · have hm := (List.pairwise_iff_getElem.1 h) i q hi hq (by omega)
        have e1 : xs[i]! = xs[i] := by simp [getElem!_def, hi]
        have := ident_trans hm (c := keyR v r n) (by omega)
        rw [e1] at h10
        omega

set_option maxRecDepth 100000 in
theorem findC (F : Frm) (p : LedP) (hl : p.rs.length ≤ 1000000000) (hasc : asc p.rs) (v r n : Int) : Contract F Try.prog 13 [ledS p, .i .i64 v, .i .i64 r, .i .i64 n]
    (fun s => s = tupL [resAg ((findR p.rs v r n).getD default), .b (findR p.rs v r n).isSome]) := by
  refine contract_of Try.func13 rfl (by kernel_rfl) ?_
  simp only [Try.ntmps13, argEnv, ledS]
  (repeat refine Sat.seq ?_)
  (refine Sat.region_k fun k hk => ?_; simp -implicitDefEqProofs only [evr, id, reduceCtorEq, reduceIte, Nat.reduceMul, Nat.reduceAdd, Nat.reduceLT, Nat.reduceLeDiff, Nat.reduceEqDiff, Int.reduceLT, Int.reduceBEq, Int.reduceBNe, Nat.reduceBEq, res_one, res_ro, List.append_nil, Int.toNat_zero, Nat.sub_self, resRow, resAg])
  intro blk1 blk2
  (refine hk _ ?_; clear hk k; try show Sat _ _ _ _ _)
  (repeat refine Sat.seq ?_)
  (refine Sat.region_k fun k hk => ?_; simp -implicitDefEqProofs only [evr, id, reduceCtorEq, reduceIte, Nat.reduceMul, Nat.reduceAdd, Nat.reduceLT, Nat.reduceLeDiff, Nat.reduceEqDiff, Int.reduceLT, Int.reduceBEq, Int.reduceBNe, Nat.reduceBEq, res_one, res_ro, List.append_nil, Int.toNat_zero, Nat.sub_self, resRow, resAg])
  refine wcall_plain (bsearchC F p.a0 p.c0 p.rs hl (keyR v r n) (asc_mono hasc _) _) rfl (by rintro _ ⟨i, _, rfl⟩; exact ok_tupL rfl) ?_
  rintro s ⟨i, hat, rfl⟩
  have hf := findR_at hasc hat
  simp -implicitDefEqProofs only [evr, id, reduceCtorEq, reduceIte, Nat.reduceMul, Nat.reduceAdd, Nat.reduceLT, Nat.reduceLeDiff, Nat.reduceEqDiff, Int.reduceLT, Int.reduceBEq, Int.reduceBNe, Nat.reduceBEq, res_one, res_ro, List.append_nil, Int.toNat_zero, Nat.sub_self, resRow, resAg]
  (refine hk _ ?_; clear hk k; try show Sat _ _ _ _ _)
  (repeat refine Sat.seq ?_)
  (refine Sat.region_k fun k hk => ?_; simp -implicitDefEqProofs only [evr, id, reduceCtorEq, reduceIte, Nat.reduceMul, Nat.reduceAdd, Nat.reduceLT, Nat.reduceLeDiff, Nat.reduceEqDiff, Int.reduceLT, Int.reduceBEq, Int.reduceBNe, Nat.reduceBEq, res_one, res_ro, List.append_nil, Int.toNat_zero, Nat.sub_self, resRow, resAg]; refine hk _ ?_; clear hk k; try show Sat _ _ _ _ _)
  (repeat refine Sat.seq ?_)
  refine Sat.cond_b rfl (fun h => ?_) (fun h => ?_)
  · have hf2 : findR p.rs v r n = none := by rw [hf, if_neg (fun hc => by rw [decide_eq_true hc.1, decide_eq_true hc.2] at h; cases h)]
    rw [hf2]
    (repeat refine Sat.seq ?_)
    (refine Sat.region_k fun k hk => ?_; simp -implicitDefEqProofs only [evr, id, reduceCtorEq, reduceIte, Nat.reduceMul, Nat.reduceAdd, Nat.reduceLT, Nat.reduceLeDiff, Nat.reduceEqDiff, Int.reduceLT, Int.reduceBEq, Int.reduceBNe, Nat.reduceBEq, res_one, res_ro, List.append_nil, Int.toNat_zero, Nat.sub_self, resRow, resAg]; refine hk _ ?_; clear hk k; try show Sat _ _ _ _ _)
    refine Sat.ret ?_
    simp only [Try.results13, evr, id, reduceCtorEq, reduceIte, Nat.reduceMul, Nat.reduceAdd, Nat.reduceLT, Nat.reduceLeDiff, Nat.reduceEqDiff, Int.reduceLT, Int.reduceBEq, Int.reduceBNe, Nat.reduceBEq, res_one, res_ro, List.append_nil, Int.toNat_zero, Nat.sub_self, resRow, resAg]
    rfl
  · have h2 : i < p.rs.length ∧ resIdent p.rs[i]! (keyR v r n) = 0 := by simpa using h
    rw [hf, if_pos h2]
    refine Sat.skip ?_
    simp only [thenK]
    (repeat refine Sat.seq ?_)
    (refine Sat.region_k fun k hk => ?_; simp -implicitDefEqProofs only [evr, id, reduceCtorEq, reduceIte, Nat.reduceMul, Nat.reduceAdd, Nat.reduceLT, Nat.reduceLeDiff, Nat.reduceEqDiff, Int.reduceLT, Int.reduceBEq, Int.reduceBNe, Nat.reduceBEq, res_one, res_ro, List.append_nil, Int.toNat_zero, Nat.sub_self, resRow, resAg])
    refine ⟨by omega, ?_⟩
    (refine hk _ ?_; clear hk k; try show Sat _ _ _ _ _)
    refine Sat.ret ?_
    simp only [Try.results13, evr, id, reduceCtorEq, reduceIte, Nat.reduceMul, Nat.reduceAdd, Nat.reduceLT, Nat.reduceLeDiff, Nat.reduceEqDiff, Int.reduceLT, Int.reduceBEq, Int.reduceBNe, Nat.reduceBEq, res_one, res_ro, List.append_nil, Int.toNat_zero, Nat.sub_self, resRow, resAg]
    rw [← List.getElem!_toArray]
    rfl
end Go.Proofs.Ythhofjkbmnklmaa
