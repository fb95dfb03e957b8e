/- Results up to a time, by the evaluator: slices.IndexFunc, slices.DeleteFunc, merge.Until. -/
import Derived.Test.YthhofjkbmnklmaaUniM
import Derived.Test.YthhofjkbmnklmaaEngT
import Derived.Test.YthhofjkbmnklmaaEngL
import Derived.Test.YthhofjkbmnklmaaMem
import Derived.OpenShut
import Derived.Test.YthhofjkbmnklmaaRows
import Derived.WalkKit
import Derived.ProofKit
import Derived.ShutString
import Derived.ChangeOld
import Derived.Below
set_option linter.unusedSimpArgs false
set_option linter.unusedVariables false
namespace Go.Proofs.Ythhofjkbmnklmaa
open Go.Sort Eng

/-- a function (with what it has captured) that answers p -/
def resDel (g : FuncId) (cc : Nat → SV) (p : Res → Bool) : Prop := (∀ own, roArg own (cc 0) = cc 0 ∧ (fun j => roPtr own (cc j)) = cc) ∧ ∀ x F, Contract F Try.prog g [resAg x, cc 0] (fun r => r = .b (p x))
theorem res_plain (d : Array Res) (i j : Nat) (h : j < 17) : plainS (resRd d i j) = true := by
  rcases (show j = 0 ∨ j = 1 ∨ j = 2 ∨ j = 3 ∨ j = 4 ∨ j = 5 ∨ j = 6 ∨ j = 7 ∨ j = 8 ∨ j = 9 ∨ j = 10 ∨ j = 11 ∨ j = 12 ∨ j = 13 ∨ j = 14 ∨ j = 15 ∨ j = 16 by omega) with rfl | rfl | rfl | rfl | rfl | rfl | rfl | rfl | rfl | rfl | rfl | rfl | rfl | rfl | rfl | rfl | rfl <;> rfl

set_option maxRecDepth 100000 in
theorem untilFnC (F : Frm) (x : Res) (blk : Nat) (n : Int) : Contract F Try.prog 49 [resAg x, .el ⟨blk, 0, none⟩ 1 (fun j => [SV.i .i64 n].getD (0 + j) default)] (fun r => r = .b (decide (n < x.back))) := by
  refine contract_of Try.func49 rfl (by kernel_rfl) ?_
  simp only [Try.ntmps49, argEnv, resAg, Res.cs]
  (repeat refine Sat.seq ?_)
  (refine Sat.region_k fun k hk => ?_; simp -implicitDefEqProofs only [evr, id, reduceCtorEq, reduceIte, Nat.reduceMul, Nat.reduceAdd, Nat.reduceLT, Nat.reduceLeDiff, Nat.reduceEqDiff, Int.reduceLT, Int.reduceBEq, Int.reduceBNe, Nat.reduceBEq, res_one, res_ro, List.append_nil, Int.toNat_zero, Nat.sub_self, resRow])
  intro blk2
  (refine hk _ ?_; clear hk k; try show Sat _ _ _ _ _)
  (repeat refine Sat.seq ?_)
  (refine Sat.region_k fun k hk => ?_; simp -implicitDefEqProofs only [evr, id, reduceCtorEq, reduceIte, Nat.reduceMul, Nat.reduceAdd, Nat.reduceLT, Nat.reduceLeDiff, Nat.reduceEqDiff, Int.reduceLT, Int.reduceBEq, Int.reduceBNe, Nat.reduceBEq, res_one, res_ro, List.append_nil, Int.toNat_zero, Nat.sub_self, resRow]; refine hk _ ?_; clear hk k; try show Sat _ _ _ _ _)
  refine Sat.ret ?_
  simp only [Try.results49, evr, id, reduceCtorEq, reduceIte, Nat.reduceMul, Nat.reduceAdd, Nat.reduceLT, Nat.reduceLeDiff, Nat.reduceEqDiff, Int.reduceLT, Int.reduceBEq, Int.reduceBNe, Nat.reduceBEq, res_one, res_ro, List.append_nil, Int.toNat_zero, Nat.sub_self, resRow]

set_option maxRecDepth 100000 in
theorem indexFuncC (F : Frm) (g : FuncId) (cc : Nat → SV) (p : Res → Bool) (hg : resDel g cc p) (a : Option Addr) (cap : Nat) (d : Array Res) (hl : d.size ≤ 1000000000) :
    Contract F Try.prog 65 [.sl a d.size cap 17 (resRd d), .fn g 1 cc] (fun r => (r = .i .i64 (-1) ∧ ∀ q, q < d.size → p d[q]! = false) ∨ ∃ i : Nat, i < d.size ∧ p d[i]! = true ∧ (∀ q, q < i → p d[q]! = false) ∧ r = .i .i64 i) := by
  obtain ⟨hg1, hg2⟩ := hg
  refine contract_of Try.func65 rfl (by kernel_rfl) ?_
  simp only [Try.ntmps65, argEnv]
  (repeat refine Sat.seq ?_)
  (refine Sat.region_k fun k hk => ?_; simp -implicitDefEqProofs only [evr, id, reduceCtorEq, reduceIte, Nat.reduceMul, Nat.reduceAdd, Nat.reduceLT, Nat.reduceLeDiff, Nat.reduceEqDiff, Int.reduceLT, Int.reduceBEq, Int.reduceBNe, Nat.reduceBEq, res_one, res_ro, List.append_nil, Int.toNat_zero, Nat.sub_self, resRow]; refine hk _ ?_; clear hk k; try show Sat _ _ _ _ _)
  (repeat refine Sat.seq ?_)
  (refine Sat.region_k fun k hk => ?_; simp -implicitDefEqProofs only [evr, id, reduceCtorEq, reduceIte, Nat.reduceMul, Nat.reduceAdd, Nat.reduceLT, Nat.reduceLeDiff, Nat.reduceEqDiff, Int.reduceLT, Int.reduceBEq, Int.reduceBNe, Nat.reduceBEq, res_one, res_ro, List.append_nil, Int.toNat_zero, Nat.sub_self, resRow]; refine hk _ ?_; clear hk k; try show Sat _ _ _ _ _)
  (repeat refine Sat.seq ?_)
  refine Sat.block ?_
  refine Sat.loop (ι := Nat) (fun i => ⟨19, [(8, .i .i64 i), (7, .i .i64 d.size), (0, .sl a d.size cap 17 (resRd d)), (1, .fn g 1 cc)], []⟩)
    (fun i => i ≤ d.size ∧ ∀ q, q < i → p d[q]! = false) (fun i => d.size - i) 0 ⟨Nat.zero_le _, fun q h => by omega⟩ (by simp -implicitDefEqProofs only [evr, id, reduceCtorEq, reduceIte, Nat.reduceMul, Nat.reduceAdd, Nat.reduceLT, Nat.reduceLeDiff, Nat.reduceEqDiff, Int.reduceLT, Int.reduceBEq, Int.reduceBNe, Nat.reduceBEq, res_one, res_ro, List.append_nil, Int.toNat_zero, Nat.sub_self, resRow, evl]; first | rfl | trace_state) ?_
  rintro i ⟨hi, hq⟩
  (repeat refine Sat.seq ?_)
  (refine Sat.region_k fun k hk => ?_; simp -implicitDefEqProofs only [evr, id, reduceCtorEq, reduceIte, Nat.reduceMul, Nat.reduceAdd, Nat.reduceLT, Nat.reduceLeDiff, Nat.reduceEqDiff, Int.reduceLT, Int.reduceBEq, Int.reduceBNe, Nat.reduceBEq, res_one, res_ro, List.append_nil, Int.toNat_zero, Nat.sub_self, resRow]; refine hk _ ?_; clear hk k; try show Sat _ _ _ _ _)
  (repeat refine Sat.seq ?_)
  refine Sat.cond_b rfl (fun h => ?_) (fun h => ?_)
  · have h1 : i < d.size := by simp only [decide_eq_true_eq] at h; omega
    have e3 : IntKind.i64.wrap ((i : Int) + 1) = ((i + 1 : Nat) : Int) := by rw [w64 (by omega)]; omega
    refine Sat.skip ?_
    simp only [thenK]
    (repeat refine Sat.seq ?_)
    refine Sat.block ?_
    (repeat refine Sat.seq ?_)
    (refine Sat.region_k fun k hk => ?_; simp -implicitDefEqProofs only [evr, id, reduceCtorEq, reduceIte, Nat.reduceMul, Nat.reduceAdd, Nat.reduceLT, Nat.reduceLeDiff, Nat.reduceEqDiff, Int.reduceLT, Int.reduceBEq, Int.reduceBNe, Nat.reduceBEq, res_one, res_ro, List.append_nil, Int.toNat_zero, Nat.sub_self, resRow]; refine hk _ ?_; clear hk k; try show Sat _ _ _ _ _)
    (repeat refine Sat.seq ?_)
    (refine Sat.region_k fun k hk => ?_; simp -implicitDefEqProofs only [evr, id, reduceCtorEq, reduceIte, Nat.reduceMul, Nat.reduceAdd, Nat.reduceLT, Nat.reduceLeDiff, Nat.reduceEqDiff, Int.reduceLT, Int.reduceBEq, Int.reduceBNe, Nat.reduceBEq, res_one, res_ro, List.append_nil, Int.toNat_zero, Nat.sub_self, resRow])
    refine ⟨by omega, ?_⟩
    refine wcall_plain (hg2 d[i]! F) (by simp -implicitDefEqProofs only [evr, id, reduceCtorEq, reduceIte, Nat.reduceMul, Nat.reduceAdd, Nat.reduceLT, Nat.reduceLeDiff, Nat.reduceEqDiff, Int.reduceLT, Int.reduceBEq, Int.reduceBNe, Nat.reduceBEq, res_one, res_ro, List.append_nil, Int.toNat_zero, Nat.sub_self, resRow, (hg1 _).1]; rfl) (by rintro _ rfl; exact ok_plain rfl) ?_
    rintro r rfl
    simp -implicitDefEqProofs only [evr, id, reduceCtorEq, reduceIte, Nat.reduceMul, Nat.reduceAdd, Nat.reduceLT, Nat.reduceLeDiff, Nat.reduceEqDiff, Int.reduceLT, Int.reduceBEq, Int.reduceBNe, Nat.reduceBEq, res_one, res_ro, List.append_nil, Int.toNat_zero, Nat.sub_self, resRow]
    (refine hk _ ?_; clear hk k; try show Sat _ _ _ _ _)
    refine Sat.cond_b rfl (fun h2 => ?_) (fun h2 => ?_)
    · (repeat refine Sat.seq ?_)
      (refine Sat.region_k fun k hk => ?_; simp -implicitDefEqProofs only [evr, id, reduceCtorEq, reduceIte, Nat.reduceMul, Nat.reduceAdd, Nat.reduceLT, Nat.reduceLeDiff, Nat.reduceEqDiff, Int.reduceLT, Int.reduceBEq, Int.reduceBNe, Nat.reduceBEq, res_one, res_ro, List.append_nil, Int.toNat_zero, Nat.sub_self, resRow]; refine hk _ ?_; clear hk k; try show Sat _ _ _ _ _)
      refine Sat.ret ?_
      simp only [blockK, Try.results65, evr, id, reduceCtorEq, reduceIte, Nat.reduceMul, Nat.reduceAdd, Nat.reduceLT, Nat.reduceLeDiff, Nat.reduceEqDiff, Int.reduceLT, Int.reduceBEq, Int.reduceBNe, Nat.reduceBEq, res_one, res_ro, List.append_nil, Int.toNat_zero, Nat.sub_self, resRow]
      exact .inr ⟨i, h1, h2, hq, rfl⟩
    · refine Sat.skip ?_
      simp only [thenK, blockK]
      refine Sat.region_k fun k hk => ?_
      simp -implicitDefEqProofs only [evr, id, reduceCtorEq, reduceIte, Nat.reduceMul, Nat.reduceAdd, Nat.reduceLT, Nat.reduceLeDiff, Nat.reduceEqDiff, Int.reduceLT, Int.reduceBEq, Int.reduceBNe, Nat.reduceBEq, res_one, res_ro, List.append_nil, Int.toNat_zero, Nat.sub_self, resRow, e3]
      refine hk _ ?_
      simp only [thenK, blockK]
      refine ⟨i + 1, ⟨h1, fun q hq2 => ?_⟩, by omega, ?_⟩
      · by_cases e : q = i
        · subst e; exact h2
        · exact hq q (by omega)
      · simp -implicitDefEqProofs only [evr, id, reduceCtorEq, reduceIte, Nat.reduceMul, Nat.reduceAdd, Nat.reduceLT, Nat.reduceLeDiff, Nat.reduceEqDiff, Int.reduceLT, Int.reduceBEq, Int.reduceBNe, Nat.reduceBEq, res_one, res_ro, List.append_nil, Int.toNat_zero, Nat.sub_self, resRow, evl]
  · have h1 : i = d.size := by simp only [decide_eq_false_iff_not] at h; omega
    subst h1
    refine Sat.exit ?_
    simp only [thenK, blockK, reduceIte]
    (repeat refine Sat.seq ?_)
    (refine Sat.region_k fun k hk => ?_; simp -implicitDefEqProofs only [evr, id, reduceCtorEq, reduceIte, Nat.reduceMul, Nat.reduceAdd, Nat.reduceLT, Nat.reduceLeDiff, Nat.reduceEqDiff, Int.reduceLT, Int.reduceBEq, Int.reduceBNe, Nat.reduceBEq, res_one, res_ro, List.append_nil, Int.toNat_zero, Nat.sub_self, resRow]; refine hk _ ?_; clear hk k; try show Sat _ _ _ _ _)
    refine Sat.ret ?_
    simp only [Try.results65, evr, id, reduceCtorEq, reduceIte, Nat.reduceMul, Nat.reduceAdd, Nat.reduceLT, Nat.reduceLeDiff, Nat.reduceEqDiff, Int.reduceLT, Int.reduceBEq, Int.reduceBNe, Nat.reduceBEq, res_one, res_ro, List.append_nil, Int.toNat_zero, Nat.sub_self, resRow]
    exact .inl hq

theorem filter_take (d : Array Res) (p : Res → Bool) (j : Nat) (h : j < d.size) : (d.toList.take (j + 1)).filter (fun x => !p x) = if p d[j]! = true then (d.toList.take j).filter (fun x => !p x) else (d.toList.take j).filter (fun x => !p x) ++ [d[j]!] := by
  have hl : j < d.toList.length := by simpa using h
  rw [List.take_succ_eq_append_getElem hl, List.filter_append]
  have e1 : d[j]! = d.toList[j] := by simp [getElem!_def, h]
  rw [e1]
  cases hp : p d.toList[j]
  · rw [List.filter_cons_of_pos (by simp only [hp, Bool.not_false])]; simp
  · rw [List.filter_cons_of_neg (by simp only [hp, Bool.not_true]; decide)]; simp
theorem filter_none (d : Array Res) (p : Res → Bool) (j : Nat) (h : j ≤ d.size) (hq : ∀ q, q < j → p d[q]! = false) : (d.toList.take j).filter (fun x => !p x) = d.toList.take j := by
  rw [List.filter_eq_self]
  intro x hx
  obtain ⟨q, hq2, rfl⟩ := List.getElem_of_mem hx
  have h2 : q < j ∧ q < d.size := by rw [List.length_take] at hq2; simp at hq2; omega
  have := hq q h2.1
  rw [getElem!_pos d q h2.2] at this
  simpa using this
theorem del_row {ad : Option Addr} {N N' cap : Nat} (d d' : Array Res) : (resRow ad N cap d').blk = (resRow ad N' cap d).blk := by cases ad <;> rfl
def delL (p : Res → Bool) (d : Array Res) : List Res := d.toList.filter fun x => !p x

set_option maxRecDepth 100000 in
theorem deleteC (F : Frm) (g : FuncId) (cc : Nat → SV) (p : Res → Bool) (hg : resDel g cc p) (ad : Option Addr) (cap N : Nat) (hN : N ≤ 1000000000) (d : Array Res) (hd : d.size = N) :
    ContractM F Try.prog 48 [.os 0 ad N cap, .fn g 1 cc] (resRow ad N cap d)
      (fun r o1 => r = .os 0 ad (delL p d).length cap ∧ o1 = resRow ad (delL p d).length cap (delL p d).toArray) := by
  refine contractM_of Try.func48 rfl (by kernel_rfl) (by rintro r o1 ⟨_, rfl⟩; exact del_row _ _) ?_
  simp only [Try.ntmps48, argEnv]
  refine Sat.know_row 0 rfl fun hcap => ?_
  (repeat refine Sat.seq ?_)
  (refine Sat.region_k fun k hk => ?_; simp -implicitDefEqProofs only [evr, id, reduceCtorEq, reduceIte, Nat.reduceMul, Nat.reduceAdd, Nat.reduceLT, Nat.reduceLeDiff, Nat.reduceEqDiff, Int.reduceLT, Int.reduceBEq, Int.reduceBNe, Nat.reduceBEq, res_one, res_ro, List.append_nil, Int.toNat_zero, Nat.sub_self, resRow]; refine hk _ ?_; clear hk k; try show Sat _ _ _ _ _)
  (repeat refine Sat.seq ?_)
  subst hd
  (refine Sat.region_k fun k hk => ?_; simp -implicitDefEqProofs only [evr, id, reduceCtorEq, reduceIte, Nat.reduceMul, Nat.reduceAdd, Nat.reduceLT, Nat.reduceLeDiff, Nat.reduceEqDiff, Int.reduceLT, Int.reduceBEq, Int.reduceBNe, Nat.reduceBEq, res_one, res_ro, List.append_nil, Int.toNat_zero, Nat.sub_self, resRow])
  have hg1 := hg.1
  refine wcall_plain (indexFuncC F g cc p hg ad cap d (by omega)) (by simp -implicitDefEqProofs only [evr, id, reduceCtorEq, reduceIte, Nat.reduceMul, Nat.reduceAdd, Nat.reduceLT, Nat.reduceLeDiff, Nat.reduceEqDiff, Int.reduceLT, Int.reduceBEq, Int.reduceBNe, Nat.reduceBEq, res_one, res_ro, List.append_nil, Int.toNat_zero, Nat.sub_self, resRow, (hg1 _).2]) (by rintro _ (⟨rfl, _⟩ | ⟨i, _, _, _, rfl⟩) <;> exact ok_plain rfl) ?_
  rintro r (⟨rfl, hq⟩ | ⟨i, hi, hpi, hq, rfl⟩)
  · simp -implicitDefEqProofs only [evr, id, reduceCtorEq, reduceIte, Nat.reduceMul, Nat.reduceAdd, Nat.reduceLT, Nat.reduceLeDiff, Nat.reduceEqDiff, Int.reduceLT, Int.reduceBEq, Int.reduceBNe, Nat.reduceBEq, res_one, res_ro, List.append_nil, Int.toNat_zero, Nat.sub_self, resRow]
    (refine hk _ ?_; clear hk k; try show Sat _ _ _ _ _)
    have hall : delL p d = d.toList := by
      have := filter_none d p d.size (Nat.le_refl _) hq
      rwa [List.take_of_length_le (by simp)] at this
    rw [hall]
    (repeat refine Sat.seq ?_)
    (refine Sat.region_k fun k hk => ?_; simp -implicitDefEqProofs only [evr, id, reduceCtorEq, reduceIte, Nat.reduceMul, Nat.reduceAdd, Nat.reduceLT, Nat.reduceLeDiff, Nat.reduceEqDiff, Int.reduceLT, Int.reduceBEq, Int.reduceBNe, Nat.reduceBEq, res_one, res_ro, List.append_nil, Int.toNat_zero, Nat.sub_self, resRow]; refine hk _ ?_; clear hk k; try show Sat _ _ _ _ _)
    (repeat refine Sat.seq ?_)
    refine Sat.cond_b rfl (fun _ => ?_) (fun h => absurd h (by decide))
    (repeat refine Sat.seq ?_)
    (refine Sat.region_k fun k hk => ?_; simp -implicitDefEqProofs only [evr, id, reduceCtorEq, reduceIte, Nat.reduceMul, Nat.reduceAdd, Nat.reduceLT, Nat.reduceLeDiff, Nat.reduceEqDiff, Int.reduceLT, Int.reduceBEq, Int.reduceBNe, Nat.reduceBEq, res_one, res_ro, List.append_nil, Int.toNat_zero, Nat.sub_self, resRow]; refine hk _ ?_; clear hk k; try show Sat _ _ _ _ _)
    refine Sat.ret ?_
    simp only [Try.results48, evr, id, reduceCtorEq, reduceIte, Nat.reduceMul, Nat.reduceAdd, Nat.reduceLT, Nat.reduceLeDiff, Nat.reduceEqDiff, Int.reduceLT, Int.reduceBEq, Int.reduceBNe, Nat.reduceBEq, res_one, res_ro, List.append_nil, Int.toNat_zero, Nat.sub_self, resRow]
    exact ⟨by simp [okM], _, _, rfl, by simp, by simp⟩
  · simp -implicitDefEqProofs only [evr, id, reduceCtorEq, reduceIte, Nat.reduceMul, Nat.reduceAdd, Nat.reduceLT, Nat.reduceLeDiff, Nat.reduceEqDiff, Int.reduceLT, Int.reduceBEq, Int.reduceBNe, Nat.reduceBEq, res_one, res_ro, List.append_nil, Int.toNat_zero, Nat.sub_self, resRow]
    (refine hk _ ?_; clear hk k; try show Sat _ _ _ _ _)
    have e1 : IntKind.i64.wrap ((i : Int) + 1) = ((i + 1 : Nat) : Int) := by rw [w64 (by omega)]; omega
    (repeat refine Sat.seq ?_)
    (refine Sat.region_k fun k hk => ?_; simp -implicitDefEqProofs only [evr, id, reduceCtorEq, reduceIte, Nat.reduceMul, Nat.reduceAdd, Nat.reduceLT, Nat.reduceLeDiff, Nat.reduceEqDiff, Int.reduceLT, Int.reduceBEq, Int.reduceBNe, Nat.reduceBEq, res_one, res_ro, List.append_nil, Int.toNat_zero, Nat.sub_self, resRow]; refine hk _ ?_; clear hk k; try show Sat _ _ _ _ _)
    (repeat refine Sat.seq ?_)
    refine Sat.cond_b rfl (fun h => absurd h (by simp)) (fun _ => ?_)
    refine Sat.skip ?_
    simp only [thenK]
    (repeat refine Sat.seq ?_)
    refine Sat.region_k fun k hk => ?_
    simp -implicitDefEqProofs only [evr, id, reduceCtorEq, reduceIte, Nat.reduceMul, Nat.reduceAdd, Nat.reduceLT, Nat.reduceLeDiff, Nat.reduceEqDiff, Int.reduceLT, Int.reduceBEq, Int.reduceBNe, Nat.reduceBEq, res_one, res_ro, List.append_nil, Int.toNat_zero, Nat.sub_self, resRow, e1]
    (refine hk _ ?_; clear hk k; try show Sat _ _ _ _ _)
    have hft := filter_take d p i hi
    rw [if_pos hpi, filter_none d p i (by omega) hq] at hft
    (repeat refine Sat.seq ?_)
    refine Sat.block ?_
    refine Sat.loop (ι := Nat × Nat × Array Res) (fun x => ⟨42, [(5, .i .i64 x.1), (6, .i .i64 x.2.1), (0, .os 0 ad d.size cap), (1, .fn g 1 cc)], [resRow ad d.size cap x.2.2]⟩)
      (fun x => x.1 < x.2.1 ∧ x.2.1 ≤ d.size ∧ x.2.2.size = d.size ∧ (∀ q, x.2.1 ≤ q → x.2.2[q]! = d[q]!) ∧ x.2.2.toList.take x.1 = (d.toList.take x.2.1).filter fun x => !p x) (fun x => d.size - x.2.1) (i, i + 1, d) ⟨Nat.lt_succ_self _, by show i + 1 ≤ d.size; omega, rfl, fun _ _ => rfl, hft.symm⟩ (by simp -implicitDefEqProofs only [evr, id, reduceCtorEq, reduceIte, Nat.reduceMul, Nat.reduceAdd, Nat.reduceLT, Nat.reduceLeDiff, Nat.reduceEqDiff, Int.reduceLT, Int.reduceBEq, Int.reduceBNe, Nat.reduceBEq, res_one, res_ro, List.append_nil, Int.toNat_zero, Nat.sub_self, resRow, evl]; first | rfl | trace_state) ?_
    rintro ⟨w, j, d2⟩ ⟨hw, hj, hd2, hq2, ht⟩
    simp only at hw hj hd2 hq2 ht ⊢
    have hsz : d2.toList.length = d.size := by simpa using hd2
    (repeat refine Sat.seq ?_)
    (refine Sat.region_k fun k hk => ?_; simp -implicitDefEqProofs only [evr, id, reduceCtorEq, reduceIte, Nat.reduceMul, Nat.reduceAdd, Nat.reduceLT, Nat.reduceLeDiff, Nat.reduceEqDiff, Int.reduceLT, Int.reduceBEq, Int.reduceBNe, Nat.reduceBEq, res_one, res_ro, List.append_nil, Int.toNat_zero, Nat.sub_self, resRow]; refine hk _ ?_; clear hk k; try show Sat _ _ _ _ _)
    (repeat refine Sat.seq ?_)
    refine Sat.cond_b rfl (fun h => ?_) (fun h => ?_)
    · have h1 : j < d.size := by simp only [decide_eq_true_eq] at h; omega
      have e2 : IntKind.i64.wrap ((j : Int) + 1) = ((j + 1 : Nat) : Int) := by rw [w64 (by omega)]; omega
      have e3 : IntKind.i64.wrap ((w : Int) + 1) = ((w + 1 : Nat) : Int) := by rw [w64 (by omega)]; omega
      have q1 := hq2 j (Nat.le_refl _)
      have hft2 := filter_take d p j h1
      refine Sat.skip ?_
      simp only [thenK]
      (repeat refine Sat.seq ?_)
      refine Sat.block ?_
      (repeat refine Sat.seq ?_)
      (refine Sat.region_k fun k hk => ?_; simp -implicitDefEqProofs only [evr, id, reduceCtorEq, reduceIte, Nat.reduceMul, Nat.reduceAdd, Nat.reduceLT, Nat.reduceLeDiff, Nat.reduceEqDiff, Int.reduceLT, Int.reduceBEq, Int.reduceBNe, Nat.reduceBEq, res_one, res_ro, List.append_nil, Int.toNat_zero, Nat.sub_self, resRow])
      refine ⟨by omega, by omega, ?_⟩
      intro blk
      (refine hk _ ?_; clear hk k; try show Sat _ _ _ _ _)
      have e5 : [resRd d2 j 0, resRd d2 j 1, resRd d2 j 2, resRd d2 j 3, resRd d2 j 4, resRd d2 j 5, resRd d2 j 6, resRd d2 j 7, resRd d2 j 8, resRd d2 j 9, resRd d2 j 10, resRd d2 j 11, resRd d2 j 12, resRd d2 j 13, resRd d2 j 14, resRd d2 j 15, resRd d2 j 16] = Res.cs d[j]! := by rw [← q1]; rfl
      rw [e5]
      simp only [Res.cs]
      (repeat refine Sat.seq ?_)
      (refine Sat.region_k fun k hk => ?_; simp -implicitDefEqProofs only [evr, id, reduceCtorEq, reduceIte, Nat.reduceMul, Nat.reduceAdd, Nat.reduceLT, Nat.reduceLeDiff, Nat.reduceEqDiff, Int.reduceLT, Int.reduceBEq, Int.reduceBNe, Nat.reduceBEq, res_one, res_ro, List.append_nil, Int.toNat_zero, Nat.sub_self, resRow])
      refine wcall_plain (hg.2 d[j]! F) (by simp -implicitDefEqProofs only [evr, id, reduceCtorEq, reduceIte, Nat.reduceMul, Nat.reduceAdd, Nat.reduceLT, Nat.reduceLeDiff, Nat.reduceEqDiff, Int.reduceLT, Int.reduceBEq, Int.reduceBNe, Nat.reduceBEq, res_one, res_ro, List.append_nil, Int.toNat_zero, Nat.sub_self, resRow, (hg1 _).1]; rfl) (by rintro _ rfl; exact ok_plain rfl) ?_
      rintro r rfl
      simp -implicitDefEqProofs only [evr, id, reduceCtorEq, reduceIte, Nat.reduceMul, Nat.reduceAdd, Nat.reduceLT, Nat.reduceLeDiff, Nat.reduceEqDiff, Int.reduceLT, Int.reduceBEq, Int.reduceBNe, Nat.reduceBEq, res_one, res_ro, List.append_nil, Int.toNat_zero, Nat.sub_self, resRow]
      (refine hk _ ?_; clear hk k; try show Sat _ _ _ _ _)
      (repeat refine Sat.seq ?_)
      refine Sat.cond_b rfl (fun h2 => ?_) (fun h2 => ?_)
      · have h3 : ¬ p d[j]! = true := by simpa using h2
        rw [if_neg h3] at hft2
        (repeat refine Sat.seq ?_)
        (refine Sat.region_k fun k hk => ?_; simp -implicitDefEqProofs only [evr, id, reduceCtorEq, reduceIte, Nat.reduceMul, Nat.reduceAdd, Nat.reduceLT, Nat.reduceLeDiff, Nat.reduceEqDiff, Int.reduceLT, Int.reduceBEq, Int.reduceBNe, Nat.reduceBEq, res_one, res_ro, List.append_nil, Int.toNat_zero, Nat.sub_self, resRow])
        refine ⟨by omega, by omega, ?_⟩
        (refine hk _ ?_; clear hk k; try show Sat _ _ _ _ _)
        (repeat refine Sat.seq ?_)
        refine Sat.region_k fun k hk => ?_
        simp -implicitDefEqProofs only [evr, id, reduceCtorEq, reduceIte, Nat.reduceMul, Nat.reduceAdd, Nat.reduceLT, Nat.reduceLeDiff, Nat.reduceEqDiff, Int.reduceLT, Int.reduceBEq, Int.reduceBNe, Nat.reduceBEq, res_one, res_ro, List.append_nil, Int.toNat_zero, Nat.sub_self, resRow, e3]
        refine hk _ ?_
        simp only [thenK, blockK]
        refine Sat.region_k fun k hk => ?_
        simp -implicitDefEqProofs only [evr, id, reduceCtorEq, reduceIte, Nat.reduceMul, Nat.reduceAdd, Nat.reduceLT, Nat.reduceLeDiff, Nat.reduceEqDiff, Int.reduceLT, Int.reduceBEq, Int.reduceBNe, Nat.reduceBEq, res_one, res_ro, List.append_nil, Int.toNat_zero, Nat.sub_self, resRow, e2]
        refine hk _ ?_
        simp only [thenK, blockK]
        have ea := res_set hd2 (show w < d.size by omega) j
        have e6 : (List.range 17).map (resRd d2 j) = Res.cs d[j]! := by rw [← q1]; rfl
        rw [e6, q1] at ea
        refine ⟨(w + 1, j + 1, d2.setIfInBounds w d[j]!), ⟨by simp only; omega, by simp only; omega, by simp [hd2], fun q hq' => ?_, ?_⟩, by simp only; omega, ?_⟩
        · have hne : w ≠ q := by simp only at hq'; omega
          have := hq2 q (by simp only at hq'; omega)
          rw [← this]
          simp [getElem!_def, hne]
        · show (d2.setIfInBounds w d[j]!).toList.take (w + 1) = (d.toList.take (j + 1)).filter fun x => !p x
          rw [hft2, ← ht, Array.toList_setIfInBounds, List.take_succ_eq_append_getElem (by simp; omega), List.take_set_of_le (Nat.le_refl _)]
          simp
        · simp -implicitDefEqProofs only [evr, id, reduceCtorEq, reduceIte, Nat.reduceMul, Nat.reduceAdd, Nat.reduceLT, Nat.reduceLeDiff, Nat.reduceEqDiff, Int.reduceLT, Int.reduceBEq, Int.reduceBNe, Nat.reduceBEq, res_one, res_ro, List.append_nil, Int.toNat_zero, Nat.sub_self, resRow, evl]
          exact ea
      · have h3 : p d[j]! = true := by simpa using h2
        rw [if_pos h3] at hft2
        refine Sat.skip ?_
        simp only [thenK, blockK]
        refine Sat.region_k fun k hk => ?_
        simp -implicitDefEqProofs only [evr, id, reduceCtorEq, reduceIte, Nat.reduceMul, Nat.reduceAdd, Nat.reduceLT, Nat.reduceLeDiff, Nat.reduceEqDiff, Int.reduceLT, Int.reduceBEq, Int.reduceBNe, Nat.reduceBEq, res_one, res_ro, List.append_nil, Int.toNat_zero, Nat.sub_self, resRow, e2]
        refine hk _ ?_
        simp only [thenK, blockK]
        refine ⟨(w, j + 1, d2), ⟨by simp only; omega, by simp only; omega, hd2, fun q hq' => hq2 q (by simp only at hq'; omega), by rw [hft2]; exact ht⟩, by simp only; omega, ?_⟩
        simp -implicitDefEqProofs only [evr, id, reduceCtorEq, reduceIte, Nat.reduceMul, Nat.reduceAdd, Nat.reduceLT, Nat.reduceLeDiff, Nat.reduceEqDiff, Int.reduceLT, Int.reduceBEq, Int.reduceBNe, Nat.reduceBEq, res_one, res_ro, List.append_nil, Int.toNat_zero, Nat.sub_self, resRow, evl]
    · have h1 : j = d.size := by simp only [decide_eq_false_iff_not] at h; omega
      subst h1
      have hfin : delL p d = d2.toList.take w := by rw [ht, List.take_of_length_le (by simp)]; rfl
      have hlen : (delL p d).length = w := by rw [hfin, List.length_take]; omega
      refine Sat.exit ?_
      simp only [thenK, blockK, reduceIte]
      (repeat refine Sat.seq ?_)
      (refine Sat.region_k fun k hk => ?_; simp -implicitDefEqProofs only [evr, id, reduceCtorEq, reduceIte, Nat.reduceMul, Nat.reduceAdd, Nat.reduceLT, Nat.reduceLeDiff, Nat.reduceEqDiff, Int.reduceLT, Int.reduceBEq, Int.reduceBNe, Nat.reduceBEq, res_one, res_ro, List.append_nil, Int.toNat_zero, Nat.sub_self, resRow])
      refine ⟨by omega, ⟨by omega, by omega⟩, ?_⟩
      (refine hk _ ?_; clear hk k; try show Sat _ _ _ _ _)
      (repeat refine Sat.seq ?_)
      (refine Sat.region_k fun k hk => ?_; simp -implicitDefEqProofs only [evr, id, reduceCtorEq, reduceIte, Nat.reduceMul, Nat.reduceAdd, Nat.reduceLT, Nat.reduceLeDiff, Nat.reduceEqDiff, Int.reduceLT, Int.reduceBEq, Int.reduceBNe, Nat.reduceBEq, res_one, res_ro, List.append_nil, Int.toNat_zero, Nat.sub_self, resRow])
      refine ⟨by omega, ?_⟩
      (refine hk _ ?_; clear hk k; try show Sat _ _ _ _ _)
      refine Sat.le (st' := ⟨42, [(4, .os 0 ad w cap)], [resRow ad w cap (d2.toList.take w).toArray]⟩) ?_ ?_
      · refine Sat.ret ?_
        rw [hlen, hfin]
        simp only [Try.results48, evr, id, reduceCtorEq, reduceIte, Nat.reduceMul, Nat.reduceAdd, Nat.reduceLT, Nat.reduceLeDiff, Nat.reduceEqDiff, Int.reduceLT, Int.reduceBEq, Int.reduceBNe, Nat.reduceBEq, res_one, res_ro, List.append_nil, Int.toNat_zero, Nat.sub_self, resRow]
        exact ⟨rfl, _, _, rfl, rfl⟩
      · simp -implicitDefEqProofs only [evr, id, reduceCtorEq, reduceIte, Nat.reduceMul, Nat.reduceAdd, Nat.reduceLT, Nat.reduceLeDiff, Nat.reduceEqDiff, Int.reduceLT, Int.reduceBEq, Int.reduceBNe, Nat.reduceBEq, res_one, res_ro, List.append_nil, Int.toNat_zero, Nat.sub_self, resRow, evl]
        intro p q hp hq'
        unfold rdCat
        rw [if_pos hp]
        unfold resRd
        simp [getElem!_def, List.getElem?_take, hp]

theorem capt {own : List Eng.Own} {blk ty : Nat} {t : Int} (h : own[1]? = some (.box blk ty [.i .i64 t])) : resDel 49 (fun j => roPtr own ([SV.op 1 blk 0].getD j default)) (fun x => decide (t < x.back)) := by
  have e0 : roPtr own (.op 1 blk 0) = .el ⟨blk, 0, none⟩ 1 (fun j => [SV.i .i64 t].getD (0 + j) default) := by simp [roPtr, h]
  refine ⟨fun own' => ⟨?_, funext fun j => ?_⟩, fun x F => ?_⟩
  · show roArg own' (roPtr own (.op 1 blk 0)) = roPtr own (.op 1 blk 0)
    rw [e0]; rfl
  · cases j with
    | zero =>
      show roPtr own' (roPtr own (.op 1 blk 0)) = roPtr own (.op 1 blk 0)
      rw [e0]; rfl
    | succ j => rfl
  · show Contract F Try.prog _ [resAg x, roPtr own (.op 1 blk 0)] _
    rw [e0]
    exact untilFnC F x blk t
def upTo (xs : List Res) (t : Int) : List Res := xs.filter fun x => !decide (t < x.back)
set_option maxRecDepth 100000 in
theorem untilC0 (F : Frm) (p : LedP) (hl : p.led.size ≤ 1000000000) (hcl : p.cs.length ≤ 1000000000) (t : Int) :
    Contract F Try.prog 20 [ledS p, .i .i64 t] (fun r => ∃ (p' : LedP) (c : List Res) (f : Nat → SV), Canon c (upTo p.led.all t) ∧ p'.led = ledOf c ∧ p'.cs.length ≤ c.length ∧ c.length ≤ (upTo p.led.all t).length ∧ r = .agg 2 f ∧ sim (f 0) (SV.sl p'.a0 p'.rs.length p'.c0 17 (resRd p'.rs.toArray)) ∧ sim (f 1) (SV.sl p'.a1 p'.cs.length p'.c1 4 (cftRd p'.cs))) := by
  have hsz : p.led.all.length = p.led.size := rfl
  refine contract_of Try.func20 rfl (by kernel_rfl) ?_
  simp only [Try.ntmps20, argEnv, ledS]
  (repeat refine Sat.seq ?_)
  (refine Sat.region_k fun k hk => ?_; simp -implicitDefEqProofs only [evr, id, reduceCtorEq, reduceIte, Nat.reduceMul, Nat.reduceAdd, Nat.reduceLT, Nat.reduceLeDiff, Nat.reduceEqDiff, Int.reduceLT, Int.reduceBEq, Int.reduceBNe, Nat.reduceBEq, res_one, res_ro, List.append_nil, Int.toNat_zero, Nat.sub_self, resRow])
  intro blk2 blk3 blk4
  (refine hk _ ?_; clear hk k; try show Sat _ _ _ _ _)
  (repeat refine Sat.seq ?_)
  (refine Sat.region_k fun k hk => ?_; simp -implicitDefEqProofs only [evr, id, reduceCtorEq, reduceIte, Nat.reduceMul, Nat.reduceAdd, Nat.reduceLT, Nat.reduceLeDiff, Nat.reduceEqDiff, Int.reduceLT, Int.reduceBEq, Int.reduceBNe, Nat.reduceBEq, res_one, res_ro, List.append_nil, Int.toNat_zero, Nat.sub_self, resRow])
  refine wcall_new (allC F p (by omega) (by omega)) rfl rfl ?_
  rintro ra ty len rc sz rrd ⟨ra', rc', e⟩
  simp only [resRow, Own.row.injEq] at e
  obtain ⟨rfl, rfl, rfl, rfl, rfl, rfl⟩ := e
  simp -implicitDefEqProofs only [evr, id, reduceCtorEq, reduceIte, Nat.reduceMul, Nat.reduceAdd, Nat.reduceLT, Nat.reduceLeDiff, Nat.reduceEqDiff, Int.reduceLT, Int.reduceBEq, Int.reduceBNe, Nat.reduceBEq, res_one, res_ro, List.append_nil, Int.toNat_zero, Nat.sub_self, resRow]
  refine wcall_mutF 3 (deleteC F _ _ _ (capt (t := t) rfl) ra rc _ ?_ p.led.all.toArray ?_) ?_ rfl rfl ?_
  · omega
  · simp
  · rintro r o1 ⟨rfl, rfl⟩
    exact ⟨rfl, fun i j _ hj => res_plain _ _ _ hj⟩
  rintro r o1 ⟨rfl, rfl⟩
  have hde : delL (fun x => decide (t < x.back)) p.led.all.toArray = upTo p.led.all t := rfl
  have hul : (upTo p.led.all t).length ≤ p.led.all.length := List.length_filter_le _ _
  simp -implicitDefEqProofs only [evr, id, reduceCtorEq, reduceIte, Nat.reduceMul, Nat.reduceAdd, Nat.reduceLT, Nat.reduceLeDiff, Nat.reduceEqDiff, Int.reduceLT, Int.reduceBEq, Int.reduceBNe, Nat.reduceBEq, res_one, res_ro, List.append_nil, Int.toNat_zero, Nat.sub_self, resRow, hde]
  refine wcall_slice (ledgerC F ra rc (upTo p.led.all t) (by omega)) rfl (by simp -implicitDefEqProofs only [evr, id, reduceCtorEq, reduceIte, Nat.reduceMul, Nat.reduceAdd, Nat.reduceLT, Nat.reduceLeDiff, Nat.reduceEqDiff, Int.reduceLT, Int.reduceBEq, Int.reduceBNe, Nat.reduceBEq, res_one, res_ro, List.append_nil, Int.toNat_zero, Nat.sub_self, resRow]) ?_
  rintro r ⟨p', c, h1, h2, h3, h4, rfl⟩
  simp -implicitDefEqProofs only [evr, id, reduceCtorEq, reduceIte, Nat.reduceMul, Nat.reduceAdd, Nat.reduceLT, Nat.reduceLeDiff, Nat.reduceEqDiff, Int.reduceLT, Int.reduceBEq, Int.reduceBNe, Nat.reduceBEq, res_one, res_ro, List.append_nil, Int.toNat_zero, Nat.sub_self, resRow, ledS]
  (refine hk _ ?_; clear hk k; try show Sat _ _ _ _ _)
  refine Sat.ret ?_
  simp only [Try.results20, evr, id, reduceCtorEq, reduceIte, Nat.reduceMul, Nat.reduceAdd, Nat.reduceLT, Nat.reduceLeDiff, Nat.reduceEqDiff, Int.reduceLT, Int.reduceBEq, Int.reduceBNe, Nat.reduceBEq, res_one, res_ro, List.append_nil, Int.toNat_zero, Nat.sub_self, resRow]
  refine ⟨p', c, _, h1, h2, h3, h4, rfl, ?_, ?_⟩
  · simp -implicitDefEqProofs only [evr, id, reduceCtorEq, reduceIte, Nat.reduceMul, Nat.reduceAdd, Nat.reduceLT, Nat.reduceLeDiff, Nat.reduceEqDiff, Int.reduceLT, Int.reduceBEq, Int.reduceBNe, Nat.reduceBEq, res_one, res_ro, List.append_nil, Int.toNat_zero, Nat.sub_self, resRow]
    exact sim_refl _
  · simp -implicitDefEqProofs only [evr, id, reduceCtorEq, reduceIte, Nat.reduceMul, Nat.reduceAdd, Nat.reduceLT, Nat.reduceLeDiff, Nat.reduceEqDiff, Int.reduceLT, Int.reduceBEq, Int.reduceBNe, Nat.reduceBEq, res_one, res_ro, List.append_nil, Int.toNat_zero, Nat.sub_self, resRow]
    exact sim_refl _
theorem untilC (F : Frm) (p : LedP) (hl : p.led.size ≤ 1000000000) (hcl : p.cs.length ≤ 1000000000) (t : Int) :
    Contract F Try.prog 20 [ledS p, .i .i64 t] (fun r => ∃ (p' : LedP) (c : List Res), Canon c (upTo p.led.all t) ∧ p'.led = ledOf c ∧ p'.cs.length ≤ c.length ∧ c.length ≤ (upTo p.led.all t).length ∧ r = ledS p') :=
  (untilC0 F p hl hcl t).same fun r ⟨p', c, f, h1, h2, h3, h4, h5, h6, h7⟩ => ⟨ledS p', by
    rw [h5]
    exact sim_agg2 h6 h7, p', c, h1, h2, h3, h4, rfl⟩
theorem upTo_mem {xs : List Res} {t : Int} {r : Res} : r ∈ upTo xs t ↔ r ∈ xs ∧ r.back ≤ t := by
  unfold upTo
  rw [List.mem_filter]
  simp
theorem untilL (F : Frm) {p : LedP} {xs : List Res} {n : Nat} (h : IsL p xs n) (hn : n ≤ 1000000000) (t : Int) :
    Contract F Try.prog 20 [ledS p, .i .i64 t] (fun r => ∃ s, IsL s (upTo xs t) n ∧ r = ledS s) := by
  have h1 := h.size; have h3 := h.cs
  refine (untilC F p (by omega) (by omega) t).mono ?_
  rintro r ⟨s, c, g1, g2, g3, g4, rfl⟩
  have hu : (upTo p.led.all t).length ≤ p.led.all.length := List.length_filter_le _ _
  have hz : p.led.all.length ≤ n := h1
  refine ⟨s, ⟨c, ⟨g1.asc, fun r => (g1.mem r).trans ?_⟩, g2, by omega, by omega⟩, rfl⟩
  rw [upTo_mem, upTo_mem, h.mem]
end Go.Proofs.Ythhofjkbmnklmaa

/- From a contract to the walk of a law: bytes that came in. -/
set_option linter.unusedSimpArgs false
set_option linter.unusedVariables false
namespace Go.Proofs.Ythhofjkbmnklmaa
open Go.RowKit Eng

/-- bytes that came in -/
def slB (a : Option Addr) (cap : Nat) (z : List Int) : SV := .sl a z.length cap 1 fun i _ => .i .u8 (z.getD i 0)
theorem slB_of {w : World} {v : Value} {z : List Int} (h : Rd .u8 w v z) : ∃ a cap, v = (slB a cap z).den ∧ (slB a cap z).ok (fun b => b < w.heap.size) w := by
  obtain ⟨ad, cap, rfl, h1, h2, h3⟩ := h
  refine ⟨ad, cap, rfl, h1, h2, ?_⟩
  rcases h3 with h3 | ⟨b, off, rfl, hlt, hc⟩
  · exact .inl h3
  · refine .inr ⟨b, off, rfl, hlt, fun i j hi hj => ?_⟩
    obtain rfl : j = 0 := by omega
    rw [Nat.mul_one]
    exact ⟨hc i hi, rfl, trivial⟩

/-- the call returns true, and what was there is as it was -/
theorem walk_of {P : Program} {f : FuncId} {args : List SV} (h : Contract Frm.nil P f args (fun r => r = .b true)) {w : World} (ha : ∀ s ∈ args, s.ok (fun b => b < w.heap.size) w) :
    Calls P f (args.map SV.den).toArray w fun e w' => e = .returned (.bool true) ∧ Below w.heap.size w w' :=
  (h.calls _ w trivial ha (fun b hb => ⟨hb, fun h => h⟩)).mono fun e w' ⟨r, he, hr, _, hevo, _⟩ => by
    subst hr
    exact ⟨he, ⟨hevo.os, hevo.tape, hevo.output, hevo.size, fun b hb => hevo.block b hb (fun h => h)⟩⟩
end Go.Proofs.Ythhofjkbmnklmaa

/- The frame of the proof of 'Rows.MergeUntilSaid': from the walk of the Go function to the given statement. Written by a program (wip/shell.py). -/
namespace Go.Proofs.Ythhofjkbmnklmaa.mergeUntil
open Go.ChangeShapes Go.WideShapes Go.ChangeAt Go.RowKit
open Go.ChangeMaps (open_string shut_string)
set_option linter.unusedVariables false

theorem own : ownKnob Try.prog.godebug = none := by kernel_rfl
theorem laidOut : laidOutB Try.prog = true := by kernel_rfl

/-- the walk: whatever the input, the call returns true, and what was there is as it was -/
def Walk : Prop := ∀ (a0 : Value) (z0 : List Int) (a1 : Int) (a2 : Int) (w : World), (Rd .u8 w a0 z0 ∧ ∀ n ∈ z0, (Lit.int .u8 n).wf = true) → (Lit.int .u8 a1).wf = true → (Lit.int .u8 a2).wf = true →
    Calls Try.prog 6 #[a0, .int .u8 a1, .int .u8 a2] w fun e w' => e = .returned (.bool true) ∧ Below w.heap.size w w'

set_option maxRecDepth 100000 in
theorem lifted (walk : Walk) (os : Os) (started : os.Started) (H : Type) (enc : TypeId × Value → H) :
    ReturnsInHanded {} Try.checked os 6 .any (Rows.mergeUntilSpec.pre6 enc Try.prog Try.f6 Rows.mergeUntilRow.domain false) (Rows.mergeUntilSpec.post enc Try.prog Try.f6 false true false false) := by
  refine returnsInHanded_of_change (C := Try.checked) own started (by kernel_rfl) Try.func6
    (ChangeSpec.witness6 (enc := enc) (C := Try.checked) false ⟨#[], #[.slice none 0 0, .int .u8 0, .int .u8 0], []⟩ 8 (by kernel_rfl) (by kernel_rfl) (by kernel_rfl) (by kernel_rfl)) ?_
  intro W base args ds gs before hval0 hW hcnd _
  have hval : ∀ (j : Nat) t v, Try.f6.params[j]? = some t → args[j]? = some v → Value.okWide Try.prog W .any base t v := hval0
  have hW' := hW
  obtain ⟨p, q, hA0, hV, rfl, hfz, hnd⟩ := hW
  have hA : DataW.TrodAll enc Try.prog W 0 (fun _ => true) true Try.f6.params.toList args.toList ds p := hA0
  rw [Try.params6] at hA hval
  obtain ⟨v0, vs0, d0, ds0, p0, q0, hargs, rfl, rfl, h0, r0⟩ := trodAll_cons hA
  obtain ⟨v1, vs1, d1, ds1, p1, q1, rfl, rfl, rfl, h1, r1⟩ := trodAll_cons r0
  obtain ⟨v2, vs2, d2, ds2, p2, q2, rfl, rfl, rfl, h2, r2⟩ := trodAll_cons r1
  obtain ⟨rfl, rfl, rfl⟩ := trodAll_nil r2
  obtain rfl : args = #[v0, v1, v2] := by cases args; simp_all
  obtain ⟨rfl, rfl⟩ := trodVars_none hV
  obtain ⟨ad0, len0, cap0, rfl⟩ := okWide_slice Try.underlying22 (hval 0 22 v0 rfl rfl)
  have k0 := h0
  have lt0 : ∀ x ∈ p0, x.block < W.heap.size := by obtain ⟨m, hm⟩ := k0; exact DataW.trod_lt m _ _ _ hm
  obtain ⟨z0, w0⟩ : ∃ zs, Rd .u8 W (.slice ad0 len0 cap0) zs ∧ ∀ n ∈ zs, (Lit.int .u8 n).wf = true := by
    obtain ⟨fuel, hf⟩ := h0
    rcases open_ints Try.underlying22 Try.underlying5 (by kernel_rfl) hf with ⟨hcs, _⟩ | ⟨x, l, c, zs, hcs, _, hl, hm, hz, _, hcell, hwz⟩
    · simp [Value.cells] at hcs
      obtain ⟨rfl, rfl, rfl⟩ := hcs
      exact ⟨[], Rd.nil _ _, by simp⟩
    · simp [Value.cells] at hcs
      obtain ⟨rfl, rfl, rfl⟩ := hcs
      exact ⟨zs.take len0, rd_of_ints hl hm hz hcell, fun n hn => hwz n (List.mem_of_mem_take hn)⟩
  obtain ⟨a1, rfl, rfl, rfl, w1⟩ := open_int Try.underlying5 (hval 1 5 v1 rfl rfl) h1
  obtain ⟨a2, rfl, rfl, rfl, w2⟩ := open_int Try.underlying5 (hval 2 5 v2 rfl rfl) h2
  clear hA0 hval0
  refine (walk _ z0 a1 a2 W w0 w1 w2).mono fun e W' ⟨he, bel⟩ => ?_
  subst he
  exact ⟨_, rfl, _, _, _, [], _, [], hW', trodAll_mk1 (shut_bool Try.underlying4 _), (trodAll_cons_mk (Below.trod laidOut (by kernel_rfl) (of_decide_eq_true (by kernel_rfl)) k0 bel lt0) (trodAll_cons_mk (shut_int Try.underlying5 w1) (trodAll_cons_mk (shut_int Try.underlying5 w2) trodAll_mk0))), rfl, bel.frame _, fun h => by cases h⟩

theorem of_walk (walk : Walk) : Rows.MergeUntilSaid :=
  OpenClaim.holds_of_wide 6 Try.f6 rfl rfl rfl rfl rfl rfl rfl ⟨rfl, rfl, rfl, rfl, rfl⟩ rfl rfl rfl rfl rfl (by kernel_rfl) Try.func6 (by kernel_rfl)
    (of_decide_eq_true (by kernel_rfl)) (by unfold Func.isWrapper; first | (rw [if_pos (by decide +kernel)]; kernel_rfl) | (rw [if_neg (by decide +kernel)]; exact ⟨rfl, rfl⟩))
    (fun os started H enc _ => lifted walk os started H enc)
end Go.Proofs.Ythhofjkbmnklmaa.mergeUntil
