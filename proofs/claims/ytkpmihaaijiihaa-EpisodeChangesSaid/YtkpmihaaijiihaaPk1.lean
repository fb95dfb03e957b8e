/- Rows of traces: slices.Compact. -/
import Derived.Test.YtkpmihaaijiihaaTreSrt0
import Derived.Test.YtkpmihaaijiihaaTreMath
import Derived.Test.YtkpmihaaijiihaaEngR
import Derived.Test.YtkpmihaaijiihaaWitE
import Derived.Test.YtkpmihaaijiihaaTreSrt7
import Derived.Test.YtkpmihaaijiihaaCmqE
import Derived.Scope
import Derived.Test.YtkpmihaaijiihaaEngCut
import Derived.Test.YtkpmihaaijiihaaEngL
import Derived.WalkKit
import Derived.Carry
import Derived.Deep.Draws
import Derived.OpenShut
import Derived.Test.YtkpmihaaijiihaaProg
import Derived.Lib.Hide
import Derived.Deep.LoopGhost
import Derived.Deep.QuietTactic
import Derived.BigQuiet
import Derived.Outline
import Derived.Test.YtkpmihaaijiihaaEv
import Derived.Test.YtkpmihaaijiihaaEngO
import Derived.Test.YtkpmihaaijiihaaRows
import Derived.ProofKit
import Derived.ShutString
import Derived.ChangeOld
import Derived.Below
set_option linter.unusedSimpArgs false
set_option linter.unusedVariables false
namespace Go.Proofs.Ytkpmihaaijiihaa
open Go.Sort Eng

theorem tre_ro (own : List Own) (d : Array Tre) (i j : Nat) (h : j < 3) : roArg own (treRd d i j) = treRd d i j := by
  rcases (show j = 0 ∨ j = 1 ∨ j = 2 by omega) with rfl | rfl | rfl <;> rfl
theorem tre_cat (xs ys : List Tre) : rdEq (xs.length + ys.length) 3 (rdCat xs.length (treRd xs.toArray) (treRd ys.toArray)) (treRd (xs ++ ys).toArray) := by
  intro p q hp hq
  unfold rdCat treRd
  by_cases h : p < xs.length
  · rw [if_pos h]
    simp [getElem!_def, List.getElem?_append, h]
  · rw [if_neg h]
    simp [getElem!_def, List.getElem?_append, h]

theorem tre_eqs (s t : Tre) : aggEq Try.prog 64 3 (fun j => (Tre.cs s).getD j default) 3 (fun j => (Tre.cs t).getD j default) = some ([s.van == t.van, s.dst == t.dst, s.pro == t.pro].all id) := by kernel_rfl
theorem tre_eq (s t : Tre) : aggEq Try.prog 64 3 (fun j => (Tre.cs s).getD j default) 3 (fun j => (Tre.cs t).getD j default) = some (decide (s = t)) := by
  rw [tre_eqs]
  congr 1
  apply Bool.eq_iff_iff.2
  cases s; cases t
  simp
theorem tre_eqr (d e : Array Tre) (i k : Nat) : aggEq Try.prog 64 3 (treRd d i) 3 (treRd e k) = some (decide (d[i]! = e[k]!)) := tre_eq _ _
theorem tre_set {d : Array Tre} {N k : Nat} (hN : d.size = N) (hk : k < N) (q : Nat) : rdEq N 3 (rdSet (treRd d) k 0 ((List.range 3).map (treRd d q))) (treRd (d.setIfInBounds k d[q]!)) := by
  intro p j hp hj
  unfold rdSet
  have hl : ((List.range 3).map (treRd d q)).length = 3 := by simp
  have hg : ((List.range 3).map (treRd d q)).getD (j - 0) default = treRd d q j := by simp [List.getD, hj]
  simp only [hl, hg, Nat.zero_le, Nat.zero_add, hj, and_true, true_and]
  by_cases e : p = k
  · subst e
    simp [treRd, getElem!_def, hN, hk]
  · rw [if_neg e]
    unfold treRd
    simp [getElem!_def, Ne.symm e]

theorem compactT_snoc : ∀ (l : List Tre) (a b : Tre), compactT (l ++ [a, b]) = if a = b then compactT (l ++ [a]) else compactT (l ++ [a]) ++ [b]
  | [], a, b => by by_cases h : a = b <;> simp [compactT, h]
  | [x], a, b => by
    simp only [List.cons_append, List.nil_append, compactT]
    by_cases h1 : x = a <;> by_cases h2 : a = b <;> simp [h1, h2]
  | x :: y :: l, a, b => by
    have ih := compactT_snoc (y :: l) a b
    simp only [List.cons_append] at ih ⊢
    simp only [compactT]
    rw [ih]
    by_cases h1 : x = y <;> by_cases h2 : a = b <;> simp [h1, h2]
theorem compactT_take (d : Array Tre) (j : Nat) (h1 : 1 ≤ j) (h2 : j < d.size) : compactT (d.toList.take (j + 1)) = if d[j]! = d[j - 1]! then compactT (d.toList.take j) else compactT (d.toList.take j) ++ [d[j]!] := by
  obtain ⟨q, rfl⟩ : ∃ q, j = q + 1 := ⟨j - 1, by omega⟩
  have hl : q + 1 < d.toList.length := by simpa using h2
  rw [List.take_succ_eq_append_getElem hl, List.take_succ_eq_append_getElem (show q < d.toList.length by omega), List.append_assoc]
  simp only [List.cons_append, List.nil_append, Nat.add_sub_cancel]
  rw [compactT_snoc]
  have e1 : d[q + 1]! = d.toList[q + 1] := by simp [getElem!_def, h2]
  have e2 : d[q]! = d.toList[q] := by simp [getElem!_def, show q < d.size by omega]
  rw [e1, e2]
  by_cases h : d.toList[q] = d.toList[q + 1]
  · rw [if_pos h, if_pos h.symm]
  · rw [if_neg h, if_neg (Ne.symm h)]
theorem tre_blk2 {ad : Option Addr} {N N' cap : Nat} (d d' : Array Tre) : (treRow ad N cap d').blk = (treRow ad N' cap d).blk := by cases ad <;> rfl

set_option maxRecDepth 100000 in
theorem compactTC (F : Frm) (ad : Option Addr) (cap N : Nat) (hN : N ≤ 1000000000000) (d : Array Tre) (hd : d.size = N) :
    ContractM F Try.prog 54 [.os 0 ad N cap] (treRow ad N cap d)
      (fun r o1 => r = .os 0 ad (compactT d.toList).length cap ∧ o1 = treRow ad (compactT d.toList).length cap (compactT d.toList).toArray) := by
  refine contractM_of Try.func54 rfl (by kernel_rfl) (by rintro r o1 ⟨_, rfl⟩; exact tre_blk2 _ _) ?_
  simp only [Try.ntmps54, argEnv]
  refine Sat.know_row 0 rfl fun hcap => ?_
  have same : ∀ {n : Nat} {env : List (Nat × SV)}, compactT d.toList = d.toList → Eng.look env 2 = some (.os 0 ad N cap) → retM Try.prog [.tmp 2] (fun r o1 => r = .os 0 ad (compactT d.toList).length cap ∧ o1 = treRow ad (compactT d.toList).length cap (compactT d.toList).toArray) .ret ⟨n, env, [treRow ad N cap d]⟩ := by
    intro n env hc hl
    rw [hc]
    simp -implicitDefEqProofs only [evr, id, reduceCtorEq, reduceIte, Nat.reduceMul, Nat.reduceAdd, Nat.reduceLT, Nat.reduceLeDiff, Nat.reduceEqDiff, Int.reduceLT, Int.reduceBEq, Int.reduceBNe, Nat.reduceBEq, tre_one, List.append_nil, Int.toNat_zero, Nat.sub_self, treRow, tre_eqr, tre_ro, hl]
    refine ⟨by simp [okM], _, _, rfl, ?_, ?_⟩
    · simp [hd]
    · simp [hd]
  (repeat refine Sat.seq ?_)
  (refine Sat.region_k fun k hk => ?_; simp -implicitDefEqProofs only [evr, id, reduceCtorEq, reduceIte, Nat.reduceMul, Nat.reduceAdd, Nat.reduceLT, Nat.reduceLeDiff, Nat.reduceEqDiff, Int.reduceLT, Int.reduceBEq, Int.reduceBNe, Nat.reduceBEq, tre_one, List.append_nil, Int.toNat_zero, Nat.sub_self, treRow, tre_eqr, tre_ro]; refine hk _ ?_; clear hk k; try show Sat _ _ _ _ _)
  (repeat refine Sat.seq ?_)
  (refine Sat.region_k fun k hk => ?_; simp -implicitDefEqProofs only [evr, id, reduceCtorEq, reduceIte, Nat.reduceMul, Nat.reduceAdd, Nat.reduceLT, Nat.reduceLeDiff, Nat.reduceEqDiff, Int.reduceLT, Int.reduceBEq, Int.reduceBNe, Nat.reduceBEq, tre_one, List.append_nil, Int.toNat_zero, Nat.sub_self, treRow, tre_eqr, tre_ro]; refine hk _ ?_; clear hk k; try show Sat _ _ _ _ _)
  (repeat refine Sat.seq ?_)
  refine Sat.cond_b rfl (fun h => ?_) (fun h => ?_)
  · have hlt : N < 2 := by simp only [decide_eq_true_eq] at h; omega
    (repeat refine Sat.seq ?_)
    (refine Sat.region_k fun k hk => ?_; simp -implicitDefEqProofs only [evr, id, reduceCtorEq, reduceIte, Nat.reduceMul, Nat.reduceAdd, Nat.reduceLT, Nat.reduceLeDiff, Nat.reduceEqDiff, Int.reduceLT, Int.reduceBEq, Int.reduceBNe, Nat.reduceBEq, tre_one, List.append_nil, Int.toNat_zero, Nat.sub_self, treRow, tre_eqr, tre_ro]; refine hk _ ?_; clear hk k; try show Sat _ _ _ _ _)
    refine Sat.ret ?_
    refine same ?_ rfl
    have hl : d.toList.length < 2 := by simpa [hd] using hlt
    match d.toList, hl with
    | [], _ => rfl
    | [x], _ => rfl
    | _ :: _ :: _, hl => exact absurd hl (by simp only [List.length_cons]; omega)
  · have hge : 2 ≤ N := by simp only [decide_eq_false_iff_not] at h; omega
    refine Sat.skip ?_
    simp only [thenK]
    (repeat refine Sat.seq ?_)
    (refine Sat.region_k fun k hk => ?_; simp -implicitDefEqProofs only [evr, id, reduceCtorEq, reduceIte, Nat.reduceMul, Nat.reduceAdd, Nat.reduceLT, Nat.reduceLeDiff, Nat.reduceEqDiff, Int.reduceLT, Int.reduceBEq, Int.reduceBNe, Nat.reduceBEq, tre_one, List.append_nil, Int.toNat_zero, Nat.sub_self, treRow, tre_eqr, tre_ro]; refine hk _ ?_; clear hk k; try show Sat _ _ _ _ _)
    (repeat refine Sat.seq ?_)
    refine Sat.block ?_
    refine Sat.loop (ι := Nat) (fun i => ⟨61, [(3, .i .i64 i), (0, .os 0 ad N cap)], [treRow ad N cap d]⟩)
      (fun i => 1 ≤ i ∧ i ≤ N ∧ compactT (d.toList.take i) = d.toList.take i) (fun i => N - i) 1 ⟨Nat.le_refl _, by omega, by
        have hl : d.toList.length = N := by simpa using hd
        match h : d.toList, hl with
        | [], hl => rfl
        | x :: t, hl => rfl⟩ (by simp -implicitDefEqProofs only [evr, id, reduceCtorEq, reduceIte, Nat.reduceMul, Nat.reduceAdd, Nat.reduceLT, Nat.reduceLeDiff, Nat.reduceEqDiff, Int.reduceLT, Int.reduceBEq, Int.reduceBNe, Nat.reduceBEq, tre_one, List.append_nil, Int.toNat_zero, Nat.sub_self, treRow, tre_eqr, tre_ro, evl]; rfl) ?_
    rintro i ⟨hi1, hi2, hi3⟩
    (repeat refine Sat.seq ?_)
    (refine Sat.region_k fun k hk => ?_; simp -implicitDefEqProofs only [evr, id, reduceCtorEq, reduceIte, Nat.reduceMul, Nat.reduceAdd, Nat.reduceLT, Nat.reduceLeDiff, Nat.reduceEqDiff, Int.reduceLT, Int.reduceBEq, Int.reduceBNe, Nat.reduceBEq, tre_one, List.append_nil, Int.toNat_zero, Nat.sub_self, treRow, tre_eqr, tre_ro]; refine hk _ ?_; clear hk k; try show Sat _ _ _ _ _)
    (repeat refine Sat.seq ?_)
    refine Sat.cond_b rfl (fun h => ?_) (fun h => ?_)
    · have h1 : i < N := by simp only [decide_eq_true_eq] at h; omega
      have e2 : IntKind.i64.wrap ((i : Int) - 1) = ((i - 1 : Nat) : Int) := by rw [w64 (by omega)]; omega
      have e3 : IntKind.i64.wrap ((i : Int) + 1) = ((i + 1 : Nat) : Int) := by rw [w64 (by omega)]; omega
      have hct := compactT_take d i hi1 (by omega)
      refine Sat.skip ?_
      simp only [thenK]
      (repeat refine Sat.seq ?_)
      refine Sat.block ?_
      (repeat refine Sat.seq ?_)
      refine Sat.region_qk (by kernel_rfl) (by kernel_rfl) fun k hk => ?_
      simp -implicitDefEqProofs only [evr, id, reduceCtorEq, reduceIte, Nat.reduceMul, Nat.reduceAdd, Nat.reduceLT, Nat.reduceLeDiff, Nat.reduceEqDiff, Int.reduceLT, Int.reduceBEq, Int.reduceBNe, Nat.reduceBEq, tre_one, List.append_nil, Int.toNat_zero, Nat.sub_self, treRow, tre_eqr, tre_ro, e2]
      refine ⟨by omega, by omega, by omega, by omega, ?_⟩
      (refine hk _ ?_; clear hk k; try show Sat _ _ _ _ _)
      (repeat refine Sat.seq ?_)
      refine Sat.cond_b rfl (fun h3 => ?_) (fun h3 => ?_)
      · simp only [decide_eq_true_eq] at h3
        rw [if_pos h3, hi3] at hct
        (repeat refine Sat.seq ?_)
        (refine Sat.region_k fun k hk => ?_; simp -implicitDefEqProofs only [evr, id, reduceCtorEq, reduceIte, Nat.reduceMul, Nat.reduceAdd, Nat.reduceLT, Nat.reduceLeDiff, Nat.reduceEqDiff, Int.reduceLT, Int.reduceBEq, Int.reduceBNe, Nat.reduceBEq, tre_one, List.append_nil, Int.toNat_zero, Nat.sub_self, treRow, tre_eqr, tre_ro])
        refine ⟨by omega, ?_⟩
        (refine hk _ ?_; clear hk k; try show Sat _ _ _ _ _)
        (repeat refine Sat.seq ?_)
        (refine Sat.region_k fun k hk => ?_; simp -implicitDefEqProofs only [evr, id, reduceCtorEq, reduceIte, Nat.reduceMul, Nat.reduceAdd, Nat.reduceLT, Nat.reduceLeDiff, Nat.reduceEqDiff, Int.reduceLT, Int.reduceBEq, Int.reduceBNe, Nat.reduceBEq, tre_one, List.append_nil, Int.toNat_zero, Nat.sub_self, treRow, tre_eqr, tre_ro]; refine hk _ ?_; clear hk k; try show Sat _ _ _ _ _)
        (repeat refine Sat.seq ?_)
        refine Sat.block ?_
        refine Sat.loop (ι := Nat × Nat × Array Tre) (fun x => ⟨61, [(3, .i .i64 x.1), (5, .i .i64 x.2.1), (0, .os 0 ad N cap), (4, .ow 0 ad 3 i (N - i) (cap - i))], [treRow ad N cap x.2.2]⟩)
          (fun x => 1 ≤ x.2.1 ∧ x.2.1 ≤ N - i ∧ x.1 ≤ i + x.2.1 - 1 ∧ x.2.2.size = N ∧ (∀ q, i + x.2.1 - 1 ≤ q → x.2.2[q]! = d[q]!) ∧ x.2.2.toList.take x.1 = compactT (d.toList.take (i + x.2.1))) (fun x => N - x.2.1) (i, 1, d) ⟨Nat.le_refl _, by show 1 ≤ N - i; omega, by show i ≤ i + 1 - 1; omega, hd, fun _ _ => rfl, hct.symm⟩ (by simp -implicitDefEqProofs only [evr, id, reduceCtorEq, reduceIte, Nat.reduceMul, Nat.reduceAdd, Nat.reduceLT, Nat.reduceLeDiff, Nat.reduceEqDiff, Int.reduceLT, Int.reduceBEq, Int.reduceBNe, Nat.reduceBEq, tre_one, List.append_nil, Int.toNat_zero, Nat.sub_self, treRow, tre_eqr, tre_ro, evl]; first | rfl | exact ⟨rfl, rfl⟩) ?_
        rintro ⟨w, r, d2⟩ ⟨hr1, hr2, hw, hd2, hq, ht⟩
        simp only at hr1 hr2 hw hd2 hq ht ⊢
        (repeat refine Sat.seq ?_)
        (refine Sat.region_k fun k hk => ?_; simp -implicitDefEqProofs only [evr, id, reduceCtorEq, reduceIte, Nat.reduceMul, Nat.reduceAdd, Nat.reduceLT, Nat.reduceLeDiff, Nat.reduceEqDiff, Int.reduceLT, Int.reduceBEq, Int.reduceBNe, Nat.reduceBEq, tre_one, List.append_nil, Int.toNat_zero, Nat.sub_self, treRow, tre_eqr, tre_ro]; refine hk _ ?_; clear hk k; try show Sat _ _ _ _ _)
        (repeat refine Sat.seq ?_)
        refine Sat.cond_b rfl (fun h => ?_) (fun h => ?_)
        · have h1 : r < N - i := by simp only [decide_eq_true_eq] at h; omega
          have e4 : IntKind.i64.wrap ((r : Int) - 1) = ((r - 1 : Nat) : Int) := by rw [w64 (by omega)]; omega
          have e5 : IntKind.i64.wrap ((r : Int) + 1) = ((r + 1 : Nat) : Int) := by rw [w64 (by omega)]; omega
          have e6 : IntKind.i64.wrap ((w : Int) + 1) = ((w + 1 : Nat) : Int) := by rw [w64 (by omega)]; omega
          have hct2 := compactT_take d (i + r) (by omega) (by omega)
          have q1 := hq (i + r) (by omega)
          have q2 := hq (i + r - 1) (by omega)
          have hsz : d2.toList.length = N := by simpa using hd2
          refine Sat.skip ?_
          simp only [thenK]
          (repeat refine Sat.seq ?_)
          refine Sat.block ?_
          (repeat refine Sat.seq ?_)
          refine Sat.region_qk (by kernel_rfl) (by kernel_rfl) fun k hk => ?_
          simp -implicitDefEqProofs only [evr, id, reduceCtorEq, reduceIte, Nat.reduceMul, Nat.reduceAdd, Nat.reduceLT, Nat.reduceLeDiff, Nat.reduceEqDiff, Int.reduceLT, Int.reduceBEq, Int.reduceBNe, Nat.reduceBEq, tre_one, List.append_nil, Int.toNat_zero, Nat.sub_self, treRow, tre_eqr, tre_ro, e4]
          refine ⟨⟨by omega, by omega⟩, by omega, by omega, ⟨by omega, by omega⟩, by omega, by omega, ?_⟩
          (refine hk _ ?_; clear hk k; try show Sat _ _ _ _ _)
          (repeat refine Sat.seq ?_)
          refine Sat.cond_b rfl (fun h4 => ?_) (fun h4 => ?_)
          · simp only [Bool.not_eq_true', decide_eq_false_iff_not] at h4
            rw [show i + (r - 1) = i + r - 1 by omega, q1, q2] at h4
            rw [if_neg h4] at hct2
            (repeat refine Sat.seq ?_)
            (refine Sat.region_k fun k hk => ?_; simp -implicitDefEqProofs only [evr, id, reduceCtorEq, reduceIte, Nat.reduceMul, Nat.reduceAdd, Nat.reduceLT, Nat.reduceLeDiff, Nat.reduceEqDiff, Int.reduceLT, Int.reduceBEq, Int.reduceBNe, Nat.reduceBEq, tre_one, List.append_nil, Int.toNat_zero, Nat.sub_self, treRow, tre_eqr, tre_ro])
            refine ⟨⟨by omega, by omega⟩, by omega, by omega, by omega, by omega, ?_⟩
            (refine hk _ ?_; clear hk k; try show Sat _ _ _ _ _)
            (repeat refine Sat.seq ?_)
            refine Sat.region_k fun k hk => ?_
            simp -implicitDefEqProofs only [evr, id, reduceCtorEq, reduceIte, Nat.reduceMul, Nat.reduceAdd, Nat.reduceLT, Nat.reduceLeDiff, Nat.reduceEqDiff, Int.reduceLT, Int.reduceBEq, Int.reduceBNe, Nat.reduceBEq, tre_one, List.append_nil, Int.toNat_zero, Nat.sub_self, treRow, tre_eqr, tre_ro, e6]
            refine hk _ ?_
            simp only [thenK, blockK]
            (repeat refine Sat.seq ?_)
            refine Sat.region_k fun k hk => ?_
            simp -implicitDefEqProofs only [evr, id, reduceCtorEq, reduceIte, Nat.reduceMul, Nat.reduceAdd, Nat.reduceLT, Nat.reduceLeDiff, Nat.reduceEqDiff, Int.reduceLT, Int.reduceBEq, Int.reduceBNe, Nat.reduceBEq, tre_one, List.append_nil, Int.toNat_zero, Nat.sub_self, treRow, tre_eqr, tre_ro, e5]
            refine hk _ ?_
            simp only [thenK, blockK]
            refine ⟨(w + 1, r + 1, d2.setIfInBounds w d2[i + r]!), ⟨by simp only; omega, by simp only; omega, by simp only; omega, by simp [hd2], fun q hq' => ?_, ?_⟩, by show N - (r + 1) < N - r; omega, ?_⟩
            · have hne : w ≠ q := by simp only at hq'; omega
              have := hq q (by simp only at hq'; omega)
              rw [← this]
              simp [getElem!_def, hne]
            · show (d2.setIfInBounds w d2[i + r]!).toList.take (w + 1) = compactT (d.toList.take (i + (r + 1)))
              rw [← Nat.add_assoc, hct2, ← ht, q1, Array.toList_setIfInBounds, List.take_succ_eq_append_getElem (by simp; omega), List.take_set_of_le (Nat.le_refl _)]
              simp
            · simp -implicitDefEqProofs only [evr, id, reduceCtorEq, reduceIte, Nat.reduceMul, Nat.reduceAdd, Nat.reduceLT, Nat.reduceLeDiff, Nat.reduceEqDiff, Int.reduceLT, Int.reduceBEq, Int.reduceBNe, Nat.reduceBEq, tre_one, List.append_nil, Int.toNat_zero, Nat.sub_self, treRow, tre_eqr, tre_ro, evl]
              exact tre_set hd2 (by omega) _
          · simp only [Bool.not_eq_false', decide_eq_true_eq] at h4
            rw [show i + (r - 1) = i + r - 1 by omega, q1, q2] at h4
            rw [if_pos h4] at hct2
            refine Sat.skip ?_
            simp only [thenK, blockK]
            refine Sat.region_k fun k hk => ?_
            simp -implicitDefEqProofs only [evr, id, reduceCtorEq, reduceIte, Nat.reduceMul, Nat.reduceAdd, Nat.reduceLT, Nat.reduceLeDiff, Nat.reduceEqDiff, Int.reduceLT, Int.reduceBEq, Int.reduceBNe, Nat.reduceBEq, tre_one, List.append_nil, Int.toNat_zero, Nat.sub_self, treRow, tre_eqr, tre_ro, e5]
            refine hk _ ?_
            simp only [thenK, blockK]
            refine ⟨(w, r + 1, d2), ⟨by simp only; omega, by simp only; omega, by simp only; omega, hd2, fun q hq' => hq q (by simp only at hq'; omega), ?_⟩, by show N - (r + 1) < N - r; omega, ?_⟩
            · show d2.toList.take w = compactT (d.toList.take (i + (r + 1)))
              rw [← Nat.add_assoc, hct2, ht]
            · simp -implicitDefEqProofs only [evr, id, reduceCtorEq, reduceIte, Nat.reduceMul, Nat.reduceAdd, Nat.reduceLT, Nat.reduceLeDiff, Nat.reduceEqDiff, Int.reduceLT, Int.reduceBEq, Int.reduceBNe, Nat.reduceBEq, tre_one, List.append_nil, Int.toNat_zero, Nat.sub_self, treRow, tre_eqr, tre_ro, evl]
        · have h1 : r = N - i := by simp only [decide_eq_false_iff_not] at h; omega
          subst h1
          have hsz : d2.toList.length = N := by simpa using hd2
          have hfin : compactT d.toList = d2.toList.take w := by rw [ht, List.take_of_length_le (by simp [hd]; omega)]
          have hlen : (compactT d.toList).length = w := by rw [hfin, List.length_take]; omega
          refine Sat.exit ?_
          simp only [thenK, blockK, reduceIte]
          (repeat refine Sat.seq ?_)
          (refine Sat.region_k fun k hk => ?_; simp -implicitDefEqProofs only [evr, id, reduceCtorEq, reduceIte, Nat.reduceMul, Nat.reduceAdd, Nat.reduceLT, Nat.reduceLeDiff, Nat.reduceEqDiff, Int.reduceLT, Int.reduceBEq, Int.reduceBNe, Nat.reduceBEq, tre_one, List.append_nil, Int.toNat_zero, Nat.sub_self, treRow, tre_eqr, tre_ro])
          refine ⟨by omega, ⟨by omega, by omega⟩, ?_⟩
          (refine hk _ ?_; clear hk k; try show Sat _ _ _ _ _)
          (repeat refine Sat.seq ?_)
          (refine Sat.region_k fun k hk => ?_; simp -implicitDefEqProofs only [evr, id, reduceCtorEq, reduceIte, Nat.reduceMul, Nat.reduceAdd, Nat.reduceLT, Nat.reduceLeDiff, Nat.reduceEqDiff, Int.reduceLT, Int.reduceBEq, Int.reduceBNe, Nat.reduceBEq, tre_one, List.append_nil, Int.toNat_zero, Nat.sub_self, treRow, tre_eqr, tre_ro])
          refine ⟨by omega, ?_⟩
          (refine hk _ ?_; clear hk k; try show Sat _ _ _ _ _)
          refine Sat.le (st' := ⟨61, [(2, .os 0 ad w cap)], [treRow ad w cap (d2.toList.take w).toArray]⟩) ?_ ?_
          · refine Sat.ret ?_
            rw [hlen, hfin]
            simp only [Try.results54, evr, id, reduceCtorEq, reduceIte, Nat.reduceMul, Nat.reduceAdd, Nat.reduceLT, Nat.reduceLeDiff, Nat.reduceEqDiff, Int.reduceLT, Int.reduceBEq, Int.reduceBNe, Nat.reduceBEq, tre_one, List.append_nil, Int.toNat_zero, Nat.sub_self, treRow, tre_eqr, tre_ro]
            exact ⟨rfl, _, _, rfl, rfl⟩
          · simp -implicitDefEqProofs only [evr, id, reduceCtorEq, reduceIte, Nat.reduceMul, Nat.reduceAdd, Nat.reduceLT, Nat.reduceLeDiff, Nat.reduceEqDiff, Int.reduceLT, Int.reduceBEq, Int.reduceBNe, Nat.reduceBEq, tre_one, List.append_nil, Int.toNat_zero, Nat.sub_self, treRow, tre_eqr, tre_ro, evl]
            intro p q hp hq'
            unfold rdCat
            rw [if_pos hp]
            unfold treRd
            simp [getElem!_def, List.getElem?_take, hp]
      · simp only [decide_eq_false_iff_not] at h3
        rw [if_neg h3, hi3] at hct
        refine Sat.skip ?_
        simp only [thenK, blockK]
        refine Sat.region_k fun k hk => ?_
        simp -implicitDefEqProofs only [evr, id, reduceCtorEq, reduceIte, Nat.reduceMul, Nat.reduceAdd, Nat.reduceLT, Nat.reduceLeDiff, Nat.reduceEqDiff, Int.reduceLT, Int.reduceBEq, Int.reduceBNe, Nat.reduceBEq, tre_one, List.append_nil, Int.toNat_zero, Nat.sub_self, treRow, tre_eqr, tre_ro, e3]
        refine hk _ ?_
        simp only [thenK, blockK]
        refine ⟨i + 1, ⟨by omega, by omega, ?_⟩, by omega, ?_⟩
        · rw [hct, List.take_succ_eq_append_getElem (by simp [hd]; omega)]
          simp [getElem!_def, hd, h1]
        · simp -implicitDefEqProofs only [evr, id, reduceCtorEq, reduceIte, Nat.reduceMul, Nat.reduceAdd, Nat.reduceLT, Nat.reduceLeDiff, Nat.reduceEqDiff, Int.reduceLT, Int.reduceBEq, Int.reduceBNe, Nat.reduceBEq, tre_one, List.append_nil, Int.toNat_zero, Nat.sub_self, treRow, tre_eqr, tre_ro, evl]
    · have h1 : i = N := by simp only [decide_eq_false_iff_not] at h; omega
      subst h1
      refine Sat.exit ?_
      simp only [thenK, blockK, reduceIte]
      (repeat refine Sat.seq ?_)
      (refine Sat.region_k fun k hk => ?_; simp -implicitDefEqProofs only [evr, id, reduceCtorEq, reduceIte, Nat.reduceMul, Nat.reduceAdd, Nat.reduceLT, Nat.reduceLeDiff, Nat.reduceEqDiff, Int.reduceLT, Int.reduceBEq, Int.reduceBNe, Nat.reduceBEq, tre_one, List.append_nil, Int.toNat_zero, Nat.sub_self, treRow, tre_eqr, tre_ro]; refine hk _ ?_; clear hk k; try show Sat _ _ _ _ _)
      refine Sat.ret ?_
      refine same ?_ rfl
      rwa [List.take_of_length_le (by simp [hd])] at hi3

end Go.Proofs.Ytkpmihaaijiihaa

/- The traces of results, by the evaluator: paths.Traces. -/
set_option linter.unusedSimpArgs false
set_option linter.unusedVariables false
namespace Go.Proofs.Ytkpmihaaijiihaa
open Go.Sort Eng

set_option maxRecDepth 100000 in
theorem trcFnC (F : Frm) (x y : Tre) : Contract F Try.prog 50 [treAg x, treAg y] (fun r => r = .i .i64 (treCmpI x y)) := by
  refine contract_of Try.func50 rfl (by kernel_rfl) ?_
  simp only [Try.ntmps50, argEnv, treAg, Tre.cs]
  (repeat refine Sat.seq ?_)
  (refine Sat.region_k fun k hk => ?_; simp -implicitDefEqProofs only [evr, id, reduceCtorEq, reduceIte, Nat.reduceMul, Nat.reduceAdd, Nat.reduceLT, Nat.reduceLeDiff, Nat.reduceEqDiff, Int.reduceLT, Int.reduceBEq, Int.reduceBNe, Nat.reduceBEq, res_one, List.append_nil, Int.toNat_zero, Nat.sub_self, Int.reduceToNat, resRow, res_ro, treRow, tre_one, tre_ro])
  intro blk1 blk2
  (refine hk _ ?_; clear hk k; try show Sat _ _ _ _ _)
  (repeat refine Sat.seq ?_)
  (refine Sat.region_tree (OT.keep [0, 2, 5, 7, 10, 12, 1, 3, 6, 8, 11, 13] [4, 9] (BT.one 4 (BT.one 9 (BT.one 14 (BT.one 15 (BT.one 16 (BT.one 17 BT.done))))))) (by kernel_rfl) (by kernel_rfl) (fun _ _ h => h) fun k hk => ?_; simp only [WOT, List.map_cons, List.map_nil, List.getD_cons_zero, List.getD_cons_succ]; simp -implicitDefEqProofs only [evr, id, reduceCtorEq, reduceIte, Nat.reduceMul, Nat.reduceAdd, Nat.reduceLT, Nat.reduceLeDiff, Nat.reduceEqDiff, Int.reduceLT, Int.reduceBEq, Int.reduceBNe, Nat.reduceBEq, res_one, List.append_nil, Int.toNat_zero, Nat.sub_self, Int.reduceToNat, resRow, res_ro, treRow, tre_one, tre_ro, WOT])
  refine wcall_plain (cmpC F x.van y.van) rfl (by rintro _ rfl; exact ok_plain rfl) ?_
  rintro r rfl
  simp -implicitDefEqProofs only [evr, id, reduceCtorEq, reduceIte, Nat.reduceMul, Nat.reduceAdd, Nat.reduceLT, Nat.reduceLeDiff, Nat.reduceEqDiff, Int.reduceLT, Int.reduceBEq, Int.reduceBNe, Nat.reduceBEq, res_one, List.append_nil, Int.toNat_zero, Nat.sub_self, Int.reduceToNat, resRow, res_ro, treRow, tre_one, tre_ro]
  refine wcall_plain (cmpAC F x.dst y.dst) rfl (by rintro _ rfl; exact ok_plain rfl) ?_
  rintro r rfl
  simp -implicitDefEqProofs only [evr, id, reduceCtorEq, reduceIte, Nat.reduceMul, Nat.reduceAdd, Nat.reduceLT, Nat.reduceLeDiff, Nat.reduceEqDiff, Int.reduceLT, Int.reduceBEq, Int.reduceBNe, Nat.reduceBEq, res_one, List.append_nil, Int.toNat_zero, Nat.sub_self, Int.reduceToNat, resRow, res_ro, treRow, tre_one, tre_ro]
  refine wcall_plain (cmpC F x.pro y.pro) rfl (by rintro _ rfl; exact ok_plain rfl) ?_
  rintro r rfl
  simp -implicitDefEqProofs only [evr, id, reduceCtorEq, reduceIte, Nat.reduceMul, Nat.reduceAdd, Nat.reduceLT, Nat.reduceLeDiff, Nat.reduceEqDiff, Int.reduceLT, Int.reduceBEq, Int.reduceBNe, Nat.reduceBEq, res_one, List.append_nil, Int.toNat_zero, Nat.sub_self, Int.reduceToNat, resRow, res_ro, treRow, tre_one, tre_ro]
  intro blk3
  refine wcall_plain (orC F (some ⟨blk3, 0, none⟩) 3 [ordI x.van y.van, ordI x.dst y.dst, ordI x.pro y.pro] (by simp)) (by simp -implicitDefEqProofs only [evr, id, reduceCtorEq, reduceIte, Nat.reduceMul, Nat.reduceAdd, Nat.reduceLT, Nat.reduceLeDiff, Nat.reduceEqDiff, Int.reduceLT, Int.reduceBEq, Int.reduceBNe, Nat.reduceBEq, res_one, List.append_nil, Int.toNat_zero, Nat.sub_self, Int.reduceToNat, resRow, res_ro, treRow, tre_one, tre_ro, intsRd]) (by rintro _ rfl; exact ok_plain rfl) ?_
  rintro r rfl
  simp -implicitDefEqProofs only [evr, id, reduceCtorEq, reduceIte, Nat.reduceMul, Nat.reduceAdd, Nat.reduceLT, Nat.reduceLeDiff, Nat.reduceEqDiff, Int.reduceLT, Int.reduceBEq, Int.reduceBNe, Nat.reduceBEq, res_one, List.append_nil, Int.toNat_zero, Nat.sub_self, Int.reduceToNat, resRow, res_ro, treRow, tre_one, tre_ro]
  (refine hk _ ?_; clear hk k; try show Sat _ _ _ _ _)
  refine Sat.ret ?_
  simp only [Try.results50, evr, id, reduceCtorEq, reduceIte, Nat.reduceMul, Nat.reduceAdd, Nat.reduceLT, Nat.reduceLeDiff, Nat.reduceEqDiff, Int.reduceLT, Int.reduceBEq, Int.reduceBNe, Nat.reduceBEq, res_one, List.append_nil, Int.toNat_zero, Nat.sub_self, Int.reduceToNat, resRow, res_ro, treRow, tre_one, tre_ro]
  rfl
theorem treCmp1 : treCmp 50 treLt := fun x y => ⟨treCmpI x y, rfl, fun F => trcFnC F x y⟩

theorem trcAg_ok (x : Res) (R : Nat → Prop) (w : World) : (trcAg x).ok R w := by
  intro j hj
  rcases (show j = 0 ∨ j = 1 ∨ j = 2 by omega) with rfl | rfl | rfl <;> trivial
def Res.tre (r : Res) : Tre := ⟨r.vantage, r.dst, r.proto⟩
/-- the traces of the valid results of a list, in order, each once -/
def TracesOf (xs : List Res) (ts : List Tre) : Prop := (ts.Pairwise fun a b => treLt a b = true) ∧ ∀ t, t ∈ ts ↔ ∃ r ∈ xs, validR r = true ∧ r.tre = t
theorem tre_sorted {xs : List Res} {N : Nat} {fs : List Tre} {d' : Array Tre} (hf : fs = (xs.filter validR).map Res.tre) (hN : fs.length = N) (hd : d'.size = N) (hp : PermIn 0 N fs.toArray d') (hs : SortedIn treLt 0 N d') : TracesOf xs (compactT d'.toList) ∧ (compactT d'.toList).length ≤ N := by
  subst hN
  have h := hp.2.2
  have e1 : (d'.extract 0 fs.length) = d' := by rw [← hd]; simp
  have e2 : (fs.toArray.extract 0 fs.length) = fs.toArray := by simp
  rw [e1, e2] at h
  have hm : ∀ r, r ∈ d'.toList ↔ r ∈ fs := fun r => by simpa using h.mem_iff
  have hs' : d'.toList.Pairwise fun a b => treLt b a = false := by
    rw [List.pairwise_iff_getElem]
    intro i j hi hj hij
    have hi' : i < d'.size := by simpa using hi
    have hj' : j < d'.size := by simpa using hj
    have := hs i j (Nat.zero_le _) hij (by omega)
    simpa [getElem!_def, hi', hj'] using this
  refine ⟨⟨compactT_asc _ hs', fun t => (compactT_mem _ t).trans ((hm t).trans ?_)⟩, ?_⟩
  · rw [hf]
    simp only [List.mem_map, List.mem_filter]
    exact ⟨fun ⟨r, ⟨h1, h2⟩, h3⟩ => ⟨r, h1, h2, h3⟩, fun ⟨r, h1, h2, h3⟩ => ⟨r, ⟨h1, h2⟩, h3⟩⟩
  · have := compactT_le d'.toList
    simp only [Array.length_toList] at this
    omega
theorem tre_app {ys : List Tre} {x : Tre} {cs : List SV} (h : cs = Tre.cs x) : rdEq (ys.length + 1) 3 (rdCat ys.length (treRd ys.toArray) (rdL cs 3)) (treRd (ys ++ [x]).toArray) := by
  subst h
  refine rdEq_snoc (fun i j hi hj => ?_) (fun j hj => ?_)
  · unfold treRd
    simp [getElem!_def, List.getElem?_append, hi]
  · unfold treRd
    simp [getElem!_def]
theorem TracesOf.one {xs : List Res} {ts : List Tre} (h : TracesOf xs ts) : ts.length ≤ 1 ↔ ∀ r ∈ xs, ∀ s ∈ xs, validR r = true → validR s = true → r.tre = s.tre := by
  constructor
  · intro hl r hr s hs vr vs
    have h1 := (h.2 r.tre).2 ⟨r, hr, vr, rfl⟩
    have h2 := (h.2 s.tre).2 ⟨s, hs, vs, rfl⟩
    match ts, hl, h1, h2 with
    | [t], _, h1, h2 => simp at h1 h2; rw [h1, h2]
  · intro ha
    match ts, h with
    | [], _ => simp
    | [t], _ => simp
    | t :: u :: l, h =>
      obtain ⟨r, hr, vr, er⟩ := (h.2 t).1 (by simp)
      obtain ⟨s, hs, vs, es⟩ := (h.2 u).1 (by simp)
      have hlt := (List.pairwise_cons.1 h.1).1 u (by simp)
      rw [← er, ← es, ha r hr s hs vr vs, treLt_irrefl] at hlt
      cases hlt

set_option maxRecDepth 100000 in
theorem tracesC (F : Frm) (ad : Option Addr) (cap : Nat) (xs : List Res) (hl : xs.length ≤ 1000000000) :
    ContractN F Try.prog 33 [.sl ad xs.length cap 17 (resRd xs.toArray)] (fun o => ∃ a cap ts, TracesOf xs ts ∧ ts.length ≤ xs.length ∧ o = treRow a ts.length cap ts.toArray) := by
  refine contractN_of Try.func33 rfl (by kernel_rfl) ?_
  simp only [Try.ntmps33, argEnv]
  (repeat refine Sat.seq ?_)
  (refine Sat.region_k fun k hk => ?_; simp -implicitDefEqProofs only [evr, id, reduceCtorEq, reduceIte, Nat.reduceMul, Nat.reduceAdd, Nat.reduceLT, Nat.reduceLeDiff, Nat.reduceEqDiff, Int.reduceLT, Int.reduceBEq, Int.reduceBNe, Nat.reduceBEq, res_one, List.append_nil, Int.toNat_zero, Nat.sub_self, Int.reduceToNat, resRow, res_ro, treRow, tre_one, tre_ro]; refine hk _ ?_; clear hk k; try show Sat _ _ _ _ _)
  (repeat refine Sat.seq ?_)
  (refine Sat.region_k fun k hk => ?_; simp -implicitDefEqProofs only [evr, id, reduceCtorEq, reduceIte, Nat.reduceMul, Nat.reduceAdd, Nat.reduceLT, Nat.reduceLeDiff, Nat.reduceEqDiff, Int.reduceLT, Int.reduceBEq, Int.reduceBNe, Nat.reduceBEq, res_one, List.append_nil, Int.toNat_zero, Nat.sub_self, Int.reduceToNat, resRow, res_ro, treRow, tre_one, tre_ro]; refine hk _ ?_; clear hk k; try show Sat _ _ _ _ _)
  (repeat refine Sat.seq ?_)
  (refine Sat.region_k fun k hk => ?_; simp -implicitDefEqProofs only [evr, id, reduceCtorEq, reduceIte, Nat.reduceMul, Nat.reduceAdd, Nat.reduceLT, Nat.reduceLeDiff, Nat.reduceEqDiff, Int.reduceLT, Int.reduceBEq, Int.reduceBNe, Nat.reduceBEq, res_one, List.append_nil, Int.toNat_zero, Nat.sub_self, Int.reduceToNat, resRow, res_ro, treRow, tre_one, tre_ro]; refine hk _ ?_; clear hk k; try show Sat _ _ _ _ _)
  (repeat refine Sat.seq ?_)
  refine Sat.adopt 3 64 3 (treRd #[]) rfl ?_
  refine Sat.block ?_
  refine Sat.loop (ι := Nat × Option Addr × Nat × List Tre) (fun z => ⟨24, [(8, .i .i64 z.1), (7, .i .i64 xs.length), (6, .sl ad xs.length cap 17 (resRd xs.toArray)), (3, .os 0 z.2.1 z.2.2.2.length z.2.2.1)], [treRow z.2.1 z.2.2.2.length z.2.2.1 z.2.2.2.toArray]⟩)
    (fun z => z.1 ≤ xs.length ∧ z.2.2.2 = ((xs.take z.1).filter validR).map Res.tre) (fun z => xs.length - z.1) (0, none, 0, []) ⟨Nat.zero_le _, rfl⟩ (by simp -implicitDefEqProofs only [evr, id, reduceCtorEq, reduceIte, Nat.reduceMul, Nat.reduceAdd, Nat.reduceLT, Nat.reduceLeDiff, Nat.reduceEqDiff, Int.reduceLT, Int.reduceBEq, Int.reduceBNe, Nat.reduceBEq, res_one, List.append_nil, Int.toNat_zero, Nat.sub_self, Int.reduceToNat, resRow, res_ro, treRow, tre_one, tre_ro, evl]; rfl) ?_
  rintro ⟨i, a, c, ys⟩ ⟨hi, hy⟩
  simp only [treRow] at hi hy ⊢
  have hyl : ys.length ≤ i := by rw [hy, List.length_map]; exact filter_take_len
  (repeat refine Sat.seq ?_)
  (refine Sat.region_k fun k hk => ?_; simp -implicitDefEqProofs only [evr, id, reduceCtorEq, reduceIte, Nat.reduceMul, Nat.reduceAdd, Nat.reduceLT, Nat.reduceLeDiff, Nat.reduceEqDiff, Int.reduceLT, Int.reduceBEq, Int.reduceBNe, Nat.reduceBEq, res_one, List.append_nil, Int.toNat_zero, Nat.sub_self, Int.reduceToNat, resRow, res_ro, treRow, tre_one, tre_ro]; refine hk _ ?_; clear hk k; try show Sat _ _ _ _ _)
  (repeat refine Sat.seq ?_)
  refine Sat.cond_b rfl (fun h => ?_) (fun h => ?_)
  · have h1 : i < xs.length := by simp only [decide_eq_true_eq] at h; omega
    have e2 : IntKind.i64.wrap ((i : Int) + 1) = ((i + 1 : Nat) : Int) := by rw [w64 (by omega)]; omega
    have hstep := filter_take_succ (p := validR) h1
    refine Sat.skip ?_
    simp only [thenK]
    (repeat refine Sat.seq ?_)
    refine Sat.block ?_
    (repeat refine Sat.seq ?_)
    (refine Sat.region_k fun k hk => ?_; simp -implicitDefEqProofs only [evr, id, reduceCtorEq, reduceIte, Nat.reduceMul, Nat.reduceAdd, Nat.reduceLT, Nat.reduceLeDiff, Nat.reduceEqDiff, Int.reduceLT, Int.reduceBEq, Int.reduceBNe, Nat.reduceBEq, res_one, List.append_nil, Int.toNat_zero, Nat.sub_self, Int.reduceToNat, resRow, res_ro, treRow, tre_one, tre_ro])
    refine ⟨by omega, ?_⟩
    intro b2
    (refine hk _ ?_; clear hk k; try show Sat _ _ _ _ _)
    (repeat refine Sat.seq ?_)
    (refine Sat.region_k fun k hk => ?_; simp -implicitDefEqProofs only [evr, id, reduceCtorEq, reduceIte, Nat.reduceMul, Nat.reduceAdd, Nat.reduceLT, Nat.reduceLeDiff, Nat.reduceEqDiff, Int.reduceLT, Int.reduceBEq, Int.reduceBNe, Nat.reduceBEq, res_one, List.append_nil, Int.toNat_zero, Nat.sub_self, Int.reduceToNat, resRow, res_ro, treRow, tre_one, tre_ro])
    refine wcall_plain (validC F xs.toArray[i]!) rfl (by rintro _ rfl; exact ok_plain rfl) ?_
    rintro r rfl
    simp -implicitDefEqProofs only [evr, id, reduceCtorEq, reduceIte, Nat.reduceMul, Nat.reduceAdd, Nat.reduceLT, Nat.reduceLeDiff, Nat.reduceEqDiff, Int.reduceLT, Int.reduceBEq, Int.reduceBNe, Nat.reduceBEq, res_one, List.append_nil, Int.toNat_zero, Nat.sub_self, Int.reduceToNat, resRow, res_ro, treRow, tre_one, tre_ro]
    (refine hk _ ?_; clear hk k; try show Sat _ _ _ _ _)
    (repeat refine Sat.seq ?_)
    refine Sat.cond_b rfl (fun h2 => ?_) (fun h2 => ?_)
    · (repeat refine Sat.seq ?_)
      (refine Sat.region_k fun k hk => ?_; simp -implicitDefEqProofs only [evr, id, reduceCtorEq, reduceIte, Nat.reduceMul, Nat.reduceAdd, Nat.reduceLT, Nat.reduceLeDiff, Nat.reduceEqDiff, Int.reduceLT, Int.reduceBEq, Int.reduceBNe, Nat.reduceBEq, res_one, List.append_nil, Int.toNat_zero, Nat.sub_self, Int.reduceToNat, resRow, res_ro, treRow, tre_one, tre_ro])
      refine wcall_plain (traceOfC F xs.toArray[i]!) rfl (by rintro _ rfl; exact trcAg_ok _) ?_
      rintro r rfl
      simp only [trcAg, evr, id, reduceCtorEq, reduceIte, Nat.reduceMul, Nat.reduceAdd, Nat.reduceLT, Nat.reduceLeDiff, Nat.reduceEqDiff, Int.reduceLT, Int.reduceBEq, Int.reduceBNe, Nat.reduceBEq, res_one, List.append_nil, Int.toNat_zero, Nat.sub_self, Int.reduceToNat, resRow, res_ro, treRow, tre_one, tre_ro]
      intro b3
      refine ⟨⟨by unfold maxLen; omega, by omega⟩, fun a2 cap2 => ?_⟩
      (refine hk _ ?_; clear hk k; try show Sat _ _ _ _ _)
      refine Sat.region_k fun k hk => ?_
      simp -implicitDefEqProofs only [evr, id, reduceCtorEq, reduceIte, Nat.reduceMul, Nat.reduceAdd, Nat.reduceLT, Nat.reduceLeDiff, Nat.reduceEqDiff, Int.reduceLT, Int.reduceBEq, Int.reduceBNe, Nat.reduceBEq, res_one, List.append_nil, Int.toNat_zero, Nat.sub_self, Int.reduceToNat, resRow, res_ro, treRow, tre_one, tre_ro, e2]
      refine hk _ ?_
      simp only [thenK, blockK]
      have e3 : ys ++ [xs[i].tre] = ((xs.take (i + 1)).filter validR).map Res.tre := by
        rw [getB h1] at h2
        rw [hstep, List.map_append, ← hy, if_pos h2]; rfl
      refine ⟨(i + 1, a2, cap2, ys ++ [xs[i].tre]), ⟨by simp only; omega, e3⟩, by simp only; omega, ?_⟩
      simp only [List.length_append, List.length_singleton]
      simp -implicitDefEqProofs only [evr, id, reduceCtorEq, reduceIte, Nat.reduceMul, Nat.reduceAdd, Nat.reduceLT, Nat.reduceLeDiff, Nat.reduceEqDiff, Int.reduceLT, Int.reduceBEq, Int.reduceBNe, Nat.reduceBEq, res_one, List.append_nil, Int.toNat_zero, Nat.sub_self, Int.reduceToNat, resRow, res_ro, treRow, tre_one, tre_ro, evl]
      exact tre_app (by rw [getB h1]; rfl)
    · refine Sat.skip ?_
      simp only [thenK, blockK]
      refine Sat.region_k fun k hk => ?_
      simp -implicitDefEqProofs only [evr, id, reduceCtorEq, reduceIte, Nat.reduceMul, Nat.reduceAdd, Nat.reduceLT, Nat.reduceLeDiff, Nat.reduceEqDiff, Int.reduceLT, Int.reduceBEq, Int.reduceBNe, Nat.reduceBEq, res_one, List.append_nil, Int.toNat_zero, Nat.sub_self, Int.reduceToNat, resRow, res_ro, treRow, tre_one, tre_ro, e2]
      refine hk _ ?_
      simp only [thenK, blockK]
      refine ⟨(i + 1, a, c, ys), ⟨by simp only; omega, ?_⟩, by simp only; omega, ?_⟩
      · rw [getB h1] at h2
        simp only
        rw [hstep, List.map_append, ← hy, if_neg (by rw [h2]; simp), List.map_nil, List.append_nil]
      · simp -implicitDefEqProofs only [evr, id, reduceCtorEq, reduceIte, Nat.reduceMul, Nat.reduceAdd, Nat.reduceLT, Nat.reduceLeDiff, Nat.reduceEqDiff, Int.reduceLT, Int.reduceBEq, Int.reduceBNe, Nat.reduceBEq, res_one, List.append_nil, Int.toNat_zero, Nat.sub_self, Int.reduceToNat, resRow, res_ro, treRow, tre_one, tre_ro, evl]
  · have h1 : i = xs.length := by simp only [decide_eq_false_iff_not] at h; omega
    have hys : ys = (xs.filter validR).map Res.tre := by rw [hy, h1, List.take_length]
    refine Sat.exit ?_
    simp only [thenK, blockK, reduceIte]
    (repeat refine Sat.seq ?_)
    (refine Sat.region_k fun k hk => ?_; simp -implicitDefEqProofs only [evr, id, reduceCtorEq, reduceIte, Nat.reduceMul, Nat.reduceAdd, Nat.reduceLT, Nat.reduceLeDiff, Nat.reduceEqDiff, Int.reduceLT, Int.reduceBEq, Int.reduceBNe, Nat.reduceBEq, res_one, List.append_nil, Int.toNat_zero, Nat.sub_self, Int.reduceToNat, resRow, res_ro, treRow, tre_one, tre_ro])
    refine wcall_mut 0 (treSortC F treLt_swo treCmp1 a c ys.length (by omega) ys.toArray (by simp)) rfl rfl ?_
    rintro r o1 ⟨rfl, d', hd', ⟨hperm, hsort⟩, rfl⟩
    simp -implicitDefEqProofs only [evr, id, reduceCtorEq, reduceIte, Nat.reduceMul, Nat.reduceAdd, Nat.reduceLT, Nat.reduceLeDiff, Nat.reduceEqDiff, Int.reduceLT, Int.reduceBEq, Int.reduceBNe, Nat.reduceBEq, res_one, List.append_nil, Int.toNat_zero, Nat.sub_self, Int.reduceToNat, resRow, res_ro, treRow, tre_one, tre_ro]
    (refine hk _ ?_; clear hk k; try show Sat _ _ _ _ _)
    (repeat refine Sat.seq ?_)
    (refine Sat.region_k fun k hk => ?_; simp -implicitDefEqProofs only [evr, id, reduceCtorEq, reduceIte, Nat.reduceMul, Nat.reduceAdd, Nat.reduceLT, Nat.reduceLeDiff, Nat.reduceEqDiff, Int.reduceLT, Int.reduceBEq, Int.reduceBNe, Nat.reduceBEq, res_one, List.append_nil, Int.toNat_zero, Nat.sub_self, Int.reduceToNat, resRow, res_ro, treRow, tre_one, tre_ro])
    refine wcall_mut 0 (compactTC F a c ys.length (by omega) d' hd') rfl rfl ?_
    rintro r o1 ⟨rfl, rfl⟩
    simp -implicitDefEqProofs only [evr, id, reduceCtorEq, reduceIte, Nat.reduceMul, Nat.reduceAdd, Nat.reduceLT, Nat.reduceLeDiff, Nat.reduceEqDiff, Int.reduceLT, Int.reduceBEq, Int.reduceBNe, Nat.reduceBEq, res_one, List.append_nil, Int.toNat_zero, Nat.sub_self, Int.reduceToNat, resRow, res_ro, treRow, tre_one, tre_ro]
    (refine hk _ ?_; clear hk k; try show Sat _ _ _ _ _)
    refine Sat.ret ?_
    simp only [Try.results33, evr, id, reduceCtorEq, reduceIte, Nat.reduceMul, Nat.reduceAdd, Nat.reduceLT, Nat.reduceLeDiff, Nat.reduceEqDiff, Int.reduceLT, Int.reduceBEq, Int.reduceBNe, Nat.reduceBEq, res_one, List.append_nil, Int.toNat_zero, Nat.sub_self, Int.reduceToNat, resRow, res_ro, treRow, tre_one, tre_ro, retN, retNK, newRow]
    obtain ⟨g1, g2⟩ := tre_sorted hys rfl hd' hperm hsort
    exact ⟨⟨rfl, rfl, rfl⟩, a, c, compactT d'.toList, g1, by omega, rfl⟩
end Go.Proofs.Ytkpmihaaijiihaa

/- Cutting results into episodes, by the evaluator: slices.IndexFunc, slices.ContainsFunc, episode.Cut, episode.Fewest. -/
set_option linter.unusedSimpArgs false
set_option linter.unusedVariables false
namespace Go.Proofs.Ytkpmihaaijiihaa
open Go.Sort Eng

namespace Eng
/-- a scope without jumps -/
def scopeK (K : Exit → St → Prop) : Exit → St → Prop
  | .goto _, _ => False
  | e, st => K e st
theorem Sat.scope {P : Program} {F : Frm} {st : St} {K : Exit → St → Prop} {c : Code} (h : Sat P F c st (scopeK K)) : Sat P F (.scope c) st K := by
  intro R0 w0 a w hr
  refine wp_scope_straight (wp_mono (h R0 w0 a w hr) ?_)
  rintro e a' w' ⟨st', hk, hr'⟩
  cases e with
  | goto l => exact hk.elim
  | _ => exact ⟨st', hk, hr'⟩
end Eng

/-- episodes -/
def epRd (l : List (Nat × Nat)) : Nat → Nat → SV := fun i j => [SV.i .i64 ((l.getD i (0, 0)).1 : Nat), .i .i64 ((l.getD i (0, 0)).2 : Nat)].getD j default
def epRow (a : Option Addr) (cap : Nat) (l : List (Nat × Nat)) : Own := .row a 57 l.length cap 2 (epRd l)
theorem ep_one (l : List (Nat × Nat)) (i j : Nat) (h : j < 2) : oneS (epRd l i j) = true := by
  rcases (show j = 0 ∨ j = 1 by omega) with rfl | rfl <;> rfl
theorem ep_app {l : List (Nat × Nat)} {a b : Nat} {cs : List SV} (h : cs = [.i .i64 (a : Nat), .i .i64 (b : Nat)]) : rdEq (l.length + 1) 2 (rdCat l.length (epRd l) (rdL cs 2)) (epRd (l ++ [(a, b)])) := by
  subst h
  refine rdEq_snoc (fun i j hi hj => ?_) (fun j hj => ?_)
  · unfold epRd
    simp [List.getD, List.getElem?_append, hi]
  · unfold epRd
    simp [List.getD]
/-- a function without captures that answers p -/
def resAsk (g : FuncId) (p : Res → Bool) : Prop := ∀ x F, Contract F Try.prog g [resAg x] (fun r => r = .b (p x))
set_option maxRecDepth 100000 in
theorem indexFuncC (F : Frm) (g : FuncId) (cc : Nat → SV) (p : Res → Bool) (hg : resAsk g p) (a : Option Addr) (cap : Nat) (d : Array Res) (hl : d.size ≤ 1000000000) :
    Contract F Try.prog 47 [.sl a d.size cap 17 (resRd d), .fn g 0 cc] (fun r => (r = .i .i64 (-1) ∧ ∀ q, q < d.size → p d[q]! = false) ∨ ∃ i : Nat, i < d.size ∧ p d[i]! = true ∧ r = .i .i64 i) := by
  refine contract_of Try.func47 rfl (by kernel_rfl) ?_
  simp only [Try.ntmps47, argEnv]
  (repeat refine Sat.seq ?_)
  (refine Sat.region_k fun k hk => ?_; simp -implicitDefEqProofs only [evr, id, reduceCtorEq, reduceIte, Nat.reduceMul, Nat.reduceAdd, Nat.reduceLT, Nat.reduceLeDiff, Nat.reduceEqDiff, Int.reduceLT, Int.reduceBEq, Int.reduceBNe, Nat.reduceBEq, res_one, List.append_nil, Int.toNat_zero, Nat.sub_self, Int.reduceToNat, resRow, res_ro, epRow, ep_one]; refine hk _ ?_; clear hk k; try show Sat _ _ _ _ _)
  (repeat refine Sat.seq ?_)
  (refine Sat.region_k fun k hk => ?_; simp -implicitDefEqProofs only [evr, id, reduceCtorEq, reduceIte, Nat.reduceMul, Nat.reduceAdd, Nat.reduceLT, Nat.reduceLeDiff, Nat.reduceEqDiff, Int.reduceLT, Int.reduceBEq, Int.reduceBNe, Nat.reduceBEq, res_one, List.append_nil, Int.toNat_zero, Nat.sub_self, Int.reduceToNat, resRow, res_ro, epRow, ep_one]; refine hk _ ?_; clear hk k; try show Sat _ _ _ _ _)
  (repeat refine Sat.seq ?_)
  refine Sat.block ?_
  refine Sat.loop (ι := Nat) (fun i => ⟨19, [(8, .i .i64 i), (7, .i .i64 d.size), (0, .sl a d.size cap 17 (resRd d)), (1, .fn g 0 cc)], []⟩)
    (fun i => i ≤ d.size ∧ ∀ q, q < i → p d[q]! = false) (fun i => d.size - i) 0 ⟨Nat.zero_le _, fun q h => by omega⟩ (by simp -implicitDefEqProofs only [evr, id, reduceCtorEq, reduceIte, Nat.reduceMul, Nat.reduceAdd, Nat.reduceLT, Nat.reduceLeDiff, Nat.reduceEqDiff, Int.reduceLT, Int.reduceBEq, Int.reduceBNe, Nat.reduceBEq, res_one, List.append_nil, Int.toNat_zero, Nat.sub_self, Int.reduceToNat, resRow, res_ro, epRow, ep_one, evl]; first | rfl | trace_state) ?_
  rintro i ⟨hi, hq⟩
  (repeat refine Sat.seq ?_)
  (refine Sat.region_k fun k hk => ?_; simp -implicitDefEqProofs only [evr, id, reduceCtorEq, reduceIte, Nat.reduceMul, Nat.reduceAdd, Nat.reduceLT, Nat.reduceLeDiff, Nat.reduceEqDiff, Int.reduceLT, Int.reduceBEq, Int.reduceBNe, Nat.reduceBEq, res_one, List.append_nil, Int.toNat_zero, Nat.sub_self, Int.reduceToNat, resRow, res_ro, epRow, ep_one]; refine hk _ ?_; clear hk k; try show Sat _ _ _ _ _)
  (repeat refine Sat.seq ?_)
  refine Sat.cond_b rfl (fun h => ?_) (fun h => ?_)
  · have h1 : i < d.size := by simp only [decide_eq_true_eq] at h; omega
    have e3 : IntKind.i64.wrap ((i : Int) + 1) = ((i + 1 : Nat) : Int) := by rw [w64 (by omega)]; omega
    refine Sat.skip ?_
    simp only [thenK]
    (repeat refine Sat.seq ?_)
    refine Sat.block ?_
    (repeat refine Sat.seq ?_)
    (refine Sat.region_k fun k hk => ?_; simp -implicitDefEqProofs only [evr, id, reduceCtorEq, reduceIte, Nat.reduceMul, Nat.reduceAdd, Nat.reduceLT, Nat.reduceLeDiff, Nat.reduceEqDiff, Int.reduceLT, Int.reduceBEq, Int.reduceBNe, Nat.reduceBEq, res_one, List.append_nil, Int.toNat_zero, Nat.sub_self, Int.reduceToNat, resRow, res_ro, epRow, ep_one]; refine hk _ ?_; clear hk k; try show Sat _ _ _ _ _)
    (repeat refine Sat.seq ?_)
    (refine Sat.region_k fun k hk => ?_; simp -implicitDefEqProofs only [evr, id, reduceCtorEq, reduceIte, Nat.reduceMul, Nat.reduceAdd, Nat.reduceLT, Nat.reduceLeDiff, Nat.reduceEqDiff, Int.reduceLT, Int.reduceBEq, Int.reduceBNe, Nat.reduceBEq, res_one, List.append_nil, Int.toNat_zero, Nat.sub_self, Int.reduceToNat, resRow, res_ro, epRow, ep_one])
    refine ⟨by omega, ?_⟩
    refine wcall_plain (hg d[i]! F) (by simp -implicitDefEqProofs only [evr, id, reduceCtorEq, reduceIte, Nat.reduceMul, Nat.reduceAdd, Nat.reduceLT, Nat.reduceLeDiff, Nat.reduceEqDiff, Int.reduceLT, Int.reduceBEq, Int.reduceBNe, Nat.reduceBEq, res_one, List.append_nil, Int.toNat_zero, Nat.sub_self, Int.reduceToNat, resRow, res_ro, epRow, ep_one]; rfl) (by rintro _ rfl; exact ok_plain rfl) ?_
    rintro r rfl
    simp -implicitDefEqProofs only [evr, id, reduceCtorEq, reduceIte, Nat.reduceMul, Nat.reduceAdd, Nat.reduceLT, Nat.reduceLeDiff, Nat.reduceEqDiff, Int.reduceLT, Int.reduceBEq, Int.reduceBNe, Nat.reduceBEq, res_one, List.append_nil, Int.toNat_zero, Nat.sub_self, Int.reduceToNat, resRow, res_ro, epRow, ep_one]
    (refine hk _ ?_; clear hk k; try show Sat _ _ _ _ _)
    refine Sat.cond_b rfl (fun h2 => ?_) (fun h2 => ?_)
    · (repeat refine Sat.seq ?_)
      (refine Sat.region_k fun k hk => ?_; simp -implicitDefEqProofs only [evr, id, reduceCtorEq, reduceIte, Nat.reduceMul, Nat.reduceAdd, Nat.reduceLT, Nat.reduceLeDiff, Nat.reduceEqDiff, Int.reduceLT, Int.reduceBEq, Int.reduceBNe, Nat.reduceBEq, res_one, List.append_nil, Int.toNat_zero, Nat.sub_self, Int.reduceToNat, resRow, res_ro, epRow, ep_one]; refine hk _ ?_; clear hk k; try show Sat _ _ _ _ _)
      refine Sat.ret ?_
      simp only [blockK, Try.results47, evr, id, reduceCtorEq, reduceIte, Nat.reduceMul, Nat.reduceAdd, Nat.reduceLT, Nat.reduceLeDiff, Nat.reduceEqDiff, Int.reduceLT, Int.reduceBEq, Int.reduceBNe, Nat.reduceBEq, res_one, List.append_nil, Int.toNat_zero, Nat.sub_self, Int.reduceToNat, resRow, res_ro, epRow, ep_one]
      exact .inr ⟨i, h1, h2, rfl⟩
    · refine Sat.skip ?_
      simp only [thenK, blockK]
      refine Sat.region_k fun k hk => ?_
      simp -implicitDefEqProofs only [evr, id, reduceCtorEq, reduceIte, Nat.reduceMul, Nat.reduceAdd, Nat.reduceLT, Nat.reduceLeDiff, Nat.reduceEqDiff, Int.reduceLT, Int.reduceBEq, Int.reduceBNe, Nat.reduceBEq, res_one, List.append_nil, Int.toNat_zero, Nat.sub_self, Int.reduceToNat, resRow, res_ro, epRow, ep_one, e3]
      refine hk _ ?_
      simp only [thenK, blockK]
      refine ⟨i + 1, ⟨h1, fun q hq2 => ?_⟩, by omega, ?_⟩
      · by_cases e : q = i
        · subst e; exact h2
        · exact hq q (by omega)
      · simp -implicitDefEqProofs only [evr, id, reduceCtorEq, reduceIte, Nat.reduceMul, Nat.reduceAdd, Nat.reduceLT, Nat.reduceLeDiff, Nat.reduceEqDiff, Int.reduceLT, Int.reduceBEq, Int.reduceBNe, Nat.reduceBEq, res_one, List.append_nil, Int.toNat_zero, Nat.sub_self, Int.reduceToNat, resRow, res_ro, epRow, ep_one, evl]
  · have h1 : i = d.size := by simp only [decide_eq_false_iff_not] at h; omega
    subst h1
    refine Sat.exit ?_
    simp only [thenK, blockK, reduceIte]
    (repeat refine Sat.seq ?_)
    (refine Sat.region_k fun k hk => ?_; simp -implicitDefEqProofs only [evr, id, reduceCtorEq, reduceIte, Nat.reduceMul, Nat.reduceAdd, Nat.reduceLT, Nat.reduceLeDiff, Nat.reduceEqDiff, Int.reduceLT, Int.reduceBEq, Int.reduceBNe, Nat.reduceBEq, res_one, List.append_nil, Int.toNat_zero, Nat.sub_self, Int.reduceToNat, resRow, res_ro, epRow, ep_one]; refine hk _ ?_; clear hk k; try show Sat _ _ _ _ _)
    refine Sat.ret ?_
    simp only [Try.results47, evr, id, reduceCtorEq, reduceIte, Nat.reduceMul, Nat.reduceAdd, Nat.reduceLT, Nat.reduceLeDiff, Nat.reduceEqDiff, Int.reduceLT, Int.reduceBEq, Int.reduceBNe, Nat.reduceBEq, res_one, List.append_nil, Int.toNat_zero, Nat.sub_self, Int.reduceToNat, resRow, res_ro, epRow, ep_one]
    exact .inl hq

set_option maxRecDepth 100000 in
theorem containsFuncC (F : Frm) (g : FuncId) (cc : Nat → SV) (p : Res → Bool) (hg : resAsk g p) (a : Option Addr) (cap : Nat) (xs : List Res) (hl : xs.length ≤ 1000000000) :
    Contract F Try.prog 30 [.sl a xs.length cap 17 (resRd xs.toArray), .fn g 0 cc] (fun r => r = .b (xs.any p)) := by
  refine contract_of Try.func30 rfl (by kernel_rfl) ?_
  simp only [Try.ntmps30, argEnv]
  (repeat refine Sat.seq ?_)
  (refine Sat.region_k fun k hk => ?_; simp -implicitDefEqProofs only [evr, id, reduceCtorEq, reduceIte, Nat.reduceMul, Nat.reduceAdd, Nat.reduceLT, Nat.reduceLeDiff, Nat.reduceEqDiff, Int.reduceLT, Int.reduceBEq, Int.reduceBNe, Nat.reduceBEq, res_one, List.append_nil, Int.toNat_zero, Nat.sub_self, Int.reduceToNat, resRow, res_ro, epRow, ep_one]; refine hk _ ?_; clear hk k; try show Sat _ _ _ _ _)
  (repeat refine Sat.seq ?_)
  (refine Sat.region_k fun k hk => ?_; simp -implicitDefEqProofs only [evr, id, reduceCtorEq, reduceIte, Nat.reduceMul, Nat.reduceAdd, Nat.reduceLT, Nat.reduceLeDiff, Nat.reduceEqDiff, Int.reduceLT, Int.reduceBEq, Int.reduceBNe, Nat.reduceBEq, res_one, List.append_nil, Int.toNat_zero, Nat.sub_self, Int.reduceToNat, resRow, res_ro, epRow, ep_one])
  have hc := indexFuncC F g (fun j => roPtr [] (cc j)) p hg a cap xs.toArray (by simp; omega)
  simp only [List.size_toArray] at hc
  refine wcall_plain hc (by simp -implicitDefEqProofs only [evr, id, reduceCtorEq, reduceIte, Nat.reduceMul, Nat.reduceAdd, Nat.reduceLT, Nat.reduceLeDiff, Nat.reduceEqDiff, Int.reduceLT, Int.reduceBEq, Int.reduceBNe, Nat.reduceBEq, res_one, List.append_nil, Int.toNat_zero, Nat.sub_self, Int.reduceToNat, resRow, res_ro, epRow, ep_one]) (by rintro _ (⟨rfl, _⟩ | ⟨i, _, _, rfl⟩) <;> exact ok_plain rfl) ?_
  rintro r (⟨rfl, hno⟩ | ⟨i, hi, hp, rfl⟩)
  · simp -implicitDefEqProofs only [evr, id, reduceCtorEq, reduceIte, Nat.reduceMul, Nat.reduceAdd, Nat.reduceLT, Nat.reduceLeDiff, Nat.reduceEqDiff, Int.reduceLT, Int.reduceBEq, Int.reduceBNe, Nat.reduceBEq, res_one, List.append_nil, Int.toNat_zero, Nat.sub_self, Int.reduceToNat, resRow, res_ro, epRow, ep_one]
    (refine hk _ ?_; clear hk k; try show Sat _ _ _ _ _)
    refine Sat.ret ?_
    simp only [Try.results30, evr, id, reduceCtorEq, reduceIte, Nat.reduceMul, Nat.reduceAdd, Nat.reduceLT, Nat.reduceLeDiff, Nat.reduceEqDiff, Int.reduceLT, Int.reduceBEq, Int.reduceBNe, Nat.reduceBEq, res_one, List.append_nil, Int.toNat_zero, Nat.sub_self, Int.reduceToNat, resRow, res_ro, epRow, ep_one]
    have : xs.any p = false := by
      rw [List.any_eq_false]
      intro x hx
      obtain ⟨q, hq, rfl⟩ := List.getElem_of_mem hx
      have := hno q hq
      rw [getB hq] at this
      simp [this]
    rw [this]; rfl
  · simp -implicitDefEqProofs only [evr, id, reduceCtorEq, reduceIte, Nat.reduceMul, Nat.reduceAdd, Nat.reduceLT, Nat.reduceLeDiff, Nat.reduceEqDiff, Int.reduceLT, Int.reduceBEq, Int.reduceBNe, Nat.reduceBEq, res_one, List.append_nil, Int.toNat_zero, Nat.sub_self, Int.reduceToNat, resRow, res_ro, epRow, ep_one]
    (refine hk _ ?_; clear hk k; try show Sat _ _ _ _ _)
    refine Sat.ret ?_
    simp only [Try.results30, evr, id, reduceCtorEq, reduceIte, Nat.reduceMul, Nat.reduceAdd, Nat.reduceLT, Nat.reduceLeDiff, Nat.reduceEqDiff, Int.reduceLT, Int.reduceBEq, Int.reduceBNe, Nat.reduceBEq, res_one, List.append_nil, Int.toNat_zero, Nat.sub_self, Int.reduceToNat, resRow, res_ro, epRow, ep_one]
    have : xs.any p = true := by
      rw [List.any_eq_true]
      exact ⟨xs[i], List.getElem_mem hi, by rw [getB hi] at hp; exact hp⟩
    rw [this]

set_option maxRecDepth 100000 in
theorem cutFnC : resAsk 31 (fun x => !validR x) := by
  intro x F
  refine contract_of Try.func31 rfl (by kernel_rfl) ?_
  simp only [Try.ntmps31, argEnv, resAg, Res.cs]
  (repeat refine Sat.seq ?_)
  (refine Sat.region_k fun k hk => ?_; simp -implicitDefEqProofs only [evr, id, reduceCtorEq, reduceIte, Nat.reduceMul, Nat.reduceAdd, Nat.reduceLT, Nat.reduceLeDiff, Nat.reduceEqDiff, Int.reduceLT, Int.reduceBEq, Int.reduceBNe, Nat.reduceBEq, res_one, List.append_nil, Int.toNat_zero, Nat.sub_self, Int.reduceToNat, resRow, res_ro, epRow, ep_one])
  intro blk2
  (refine hk _ ?_; clear hk k; try show Sat _ _ _ _ _)
  (repeat refine Sat.seq ?_)
  (refine Sat.region_k fun k hk => ?_; simp -implicitDefEqProofs only [evr, id, reduceCtorEq, reduceIte, Nat.reduceMul, Nat.reduceAdd, Nat.reduceLT, Nat.reduceLeDiff, Nat.reduceEqDiff, Int.reduceLT, Int.reduceBEq, Int.reduceBNe, Nat.reduceBEq, res_one, List.append_nil, Int.toNat_zero, Nat.sub_self, Int.reduceToNat, resRow, res_ro, epRow, ep_one])
  refine wcall_plain (validC F x) rfl (by rintro _ rfl; exact ok_plain rfl) ?_
  rintro r rfl
  simp -implicitDefEqProofs only [evr, id, reduceCtorEq, reduceIte, Nat.reduceMul, Nat.reduceAdd, Nat.reduceLT, Nat.reduceLeDiff, Nat.reduceEqDiff, Int.reduceLT, Int.reduceBEq, Int.reduceBNe, Nat.reduceBEq, res_one, List.append_nil, Int.toNat_zero, Nat.sub_self, Int.reduceToNat, resRow, res_ro, epRow, ep_one]
  (refine hk _ ?_; clear hk k; try show Sat _ _ _ _ _)
  refine Sat.ret ?_
  simp only [Try.results31, evr, id, reduceCtorEq, reduceIte, Nat.reduceMul, Nat.reduceAdd, Nat.reduceLT, Nat.reduceLeDiff, Nat.reduceEqDiff, Int.reduceLT, Int.reduceBEq, Int.reduceBNe, Nat.reduceBEq, res_one, List.append_nil, Int.toNat_zero, Nat.sub_self, Int.reduceToNat, resRow, res_ro, epRow, ep_one]

theorem res_11 (d : Array Res) (i : Nat) : resRd d i 11 = .i .u32 (d[i]!).from_ := rfl
def oneT (xs : List Res) : Prop := ∀ r ∈ xs, ∀ s ∈ xs, r.tre = s.tre
def CutRes (xs : List Res) (l : List (Nat × Nat)) (e : Int) : Prop :=
  (e = 1 ∧ l = [] ∧ ∃ x ∈ xs, validR x = false) ∨ ((∀ x ∈ xs, validR x = true) ∧ ∃ ys, OrdOf xs ys ∧ ((e = 5 ∧ l = [] ∧ 512 < ys.length) ∨ (e = 35 ∧ l = [] ∧ ys.length ≤ 512 ∧ ¬ oneT ys) ∨ (e = 0 ∧ ys.length ≤ 512 ∧ oneT ys ∧ Cuts (fun i => ys.toArray[i]!) ys.length l)))

set_option maxRecDepth 100000 in
theorem cutC (F : Frm) (ad : Option Addr) (cap : Nat) (xs : List Res) (hl : xs.length ≤ 1000000000) (hin : ∀ r ∈ xs, RgR r) :
    Contract F Try.prog 18 [.sl ad xs.length cap 17 (resRd xs.toArray)] (fun r => ∃ (a : Option Addr) (cap : Nat) (l : List (Nat × Nat)) (e : Int), CutRes xs l e ∧ l.length ≤ 1000 ∧ r = tupL [.sl a l.length cap 2 (epRd l), .i .i64 e]) := by
  refine contract_of Try.func18 rfl (by kernel_rfl) ?_
  simp only [Try.ntmps18, argEnv]
  (repeat refine Sat.seq ?_)
  (refine Sat.region_k fun k hk => ?_; simp -implicitDefEqProofs only [evr, id, reduceCtorEq, reduceIte, Nat.reduceMul, Nat.reduceAdd, Nat.reduceLT, Nat.reduceLeDiff, Nat.reduceEqDiff, Int.reduceLT, Int.reduceBEq, Int.reduceBNe, Nat.reduceBEq, res_one, List.append_nil, Int.toNat_zero, Nat.sub_self, Int.reduceToNat, resRow, res_ro, epRow, ep_one]; refine hk _ ?_; clear hk k; try show Sat _ _ _ _ _)
  refine Sat.scope ?_
  (repeat refine Sat.seq ?_)
  (refine Sat.region_k fun k hk => ?_; simp -implicitDefEqProofs only [evr, id, reduceCtorEq, reduceIte, Nat.reduceMul, Nat.reduceAdd, Nat.reduceLT, Nat.reduceLeDiff, Nat.reduceEqDiff, Int.reduceLT, Int.reduceBEq, Int.reduceBNe, Nat.reduceBEq, res_one, List.append_nil, Int.toNat_zero, Nat.sub_self, Int.reduceToNat, resRow, res_ro, epRow, ep_one])
  refine wcall_plain (containsFuncC F _ _ _ cutFnC ad cap xs hl) (by simp -implicitDefEqProofs only [evr, id, reduceCtorEq, reduceIte, Nat.reduceMul, Nat.reduceAdd, Nat.reduceLT, Nat.reduceLeDiff, Nat.reduceEqDiff, Int.reduceLT, Int.reduceBEq, Int.reduceBNe, Nat.reduceBEq, res_one, List.append_nil, Int.toNat_zero, Nat.sub_self, Int.reduceToNat, resRow, res_ro, epRow, ep_one]; rfl) (by rintro _ rfl; exact ok_plain rfl) ?_
  rintro r rfl
  simp -implicitDefEqProofs only [evr, id, reduceCtorEq, reduceIte, Nat.reduceMul, Nat.reduceAdd, Nat.reduceLT, Nat.reduceLeDiff, Nat.reduceEqDiff, Int.reduceLT, Int.reduceBEq, Int.reduceBNe, Nat.reduceBEq, res_one, List.append_nil, Int.toNat_zero, Nat.sub_self, Int.reduceToNat, resRow, res_ro, epRow, ep_one]
  (refine hk _ ?_; clear hk k; try show Sat _ _ _ _ _)
  (repeat refine Sat.seq ?_)
  refine Sat.cond_b rfl (fun h => ?_) (fun h => ?_)
  · (repeat refine Sat.seq ?_)
    (refine Sat.region_k fun k hk => ?_; simp -implicitDefEqProofs only [evr, id, reduceCtorEq, reduceIte, Nat.reduceMul, Nat.reduceAdd, Nat.reduceLT, Nat.reduceLeDiff, Nat.reduceEqDiff, Int.reduceLT, Int.reduceBEq, Int.reduceBNe, Nat.reduceBEq, res_one, List.append_nil, Int.toNat_zero, Nat.sub_self, Int.reduceToNat, resRow, res_ro, epRow, ep_one]; refine hk _ ?_; clear hk k; try show Sat _ _ _ _ _)
    refine Sat.adopt 2 57 2 (epRd []) rfl ?_
    refine Sat.ret ?_
    simp only [scopeK, thenK, Try.results18, evr, id, reduceCtorEq, reduceIte, Nat.reduceMul, Nat.reduceAdd, Nat.reduceLT, Nat.reduceLeDiff, Nat.reduceEqDiff, Int.reduceLT, Int.reduceBEq, Int.reduceBNe, Nat.reduceBEq, res_one, List.append_nil, Int.toNat_zero, Nat.sub_self, Int.reduceToNat, resRow, res_ro, epRow, ep_one]
    obtain ⟨x, hx, hv⟩ := List.any_eq_true.1 h
    exact ⟨none, 0, [], 1, .inl ⟨rfl, rfl, x, hx, by simpa using hv⟩, by simp, rfl⟩
  refine Sat.skip ?_
  simp only [thenK]
  have hval : ∀ x ∈ xs, validR x = true := fun x hx => by
    have := (List.any_eq_false.1 h) x hx
    simpa using this
  (repeat refine Sat.seq ?_)
  (refine Sat.region_k fun k hk => ?_; simp -implicitDefEqProofs only [evr, id, reduceCtorEq, reduceIte, Nat.reduceMul, Nat.reduceAdd, Nat.reduceLT, Nat.reduceLeDiff, Nat.reduceEqDiff, Int.reduceLT, Int.reduceBEq, Int.reduceBNe, Nat.reduceBEq, res_one, List.append_nil, Int.toNat_zero, Nat.sub_self, Int.reduceToNat, resRow, res_ro, epRow, ep_one])
  refine wcall_new (orderC F ad cap xs hl hin) rfl rfl ?_
  rintro ra ty len rc sz rrd ⟨a, c, ys, ho, hyl, e⟩
  simp only [resRow, Own.row.injEq] at e
  obtain ⟨rfl, rfl, rfl, rfl, rfl, rfl⟩ := e
  simp -implicitDefEqProofs only [evr, id, reduceCtorEq, reduceIte, Nat.reduceMul, Nat.reduceAdd, Nat.reduceLT, Nat.reduceLeDiff, Nat.reduceEqDiff, Int.reduceLT, Int.reduceBEq, Int.reduceBNe, Nat.reduceBEq, res_one, List.append_nil, Int.toNat_zero, Nat.sub_self, Int.reduceToNat, resRow, res_ro, epRow, ep_one]
  (refine hk _ ?_; clear hk k; try show Sat _ _ _ _ _)
  refine Sat.settle2 4 rfl rfl ?_
  simp -implicitDefEqProofs only [evr, id, reduceCtorEq, reduceIte, Nat.reduceMul, Nat.reduceAdd, Nat.reduceLT, Nat.reduceLeDiff, Nat.reduceEqDiff, Int.reduceLT, Int.reduceBEq, Int.reduceBNe, Nat.reduceBEq, res_one, List.append_nil, Int.toNat_zero, Nat.sub_self, Int.reduceToNat, resRow, res_ro, epRow, ep_one]
  (repeat refine Sat.seq ?_)
  (refine Sat.region_k fun k hk => ?_; simp -implicitDefEqProofs only [evr, id, reduceCtorEq, reduceIte, Nat.reduceMul, Nat.reduceAdd, Nat.reduceLT, Nat.reduceLeDiff, Nat.reduceEqDiff, Int.reduceLT, Int.reduceBEq, Int.reduceBNe, Nat.reduceBEq, res_one, List.append_nil, Int.toNat_zero, Nat.sub_self, Int.reduceToNat, resRow, res_ro, epRow, ep_one]; refine hk _ ?_; clear hk k; try show Sat _ _ _ _ _)
  (repeat refine Sat.seq ?_)
  refine Sat.cond_b rfl (fun h2 => ?_) (fun h2 => ?_)
  · (repeat refine Sat.seq ?_)
    (refine Sat.region_k fun k hk => ?_; simp -implicitDefEqProofs only [evr, id, reduceCtorEq, reduceIte, Nat.reduceMul, Nat.reduceAdd, Nat.reduceLT, Nat.reduceLeDiff, Nat.reduceEqDiff, Int.reduceLT, Int.reduceBEq, Int.reduceBNe, Nat.reduceBEq, res_one, List.append_nil, Int.toNat_zero, Nat.sub_self, Int.reduceToNat, resRow, res_ro, epRow, ep_one]; refine hk _ ?_; clear hk k; try show Sat _ _ _ _ _)
    refine Sat.adopt 2 57 2 (epRd []) rfl ?_
    refine Sat.ret ?_
    simp only [scopeK, thenK, Try.results18, evr, id, reduceCtorEq, reduceIte, Nat.reduceMul, Nat.reduceAdd, Nat.reduceLT, Nat.reduceLeDiff, Nat.reduceEqDiff, Int.reduceLT, Int.reduceBEq, Int.reduceBNe, Nat.reduceBEq, res_one, List.append_nil, Int.toNat_zero, Nat.sub_self, Int.reduceToNat, resRow, res_ro, epRow, ep_one]
    exact ⟨none, 0, [], 5, .inr ⟨hval, ys, ho, .inl ⟨rfl, rfl, by simp only [decide_eq_true_eq] at h2; omega⟩⟩, by simp, rfl⟩
  refine Sat.skip ?_
  simp only [thenK]
  have hn : ys.length ≤ 512 := by simp only [decide_eq_false_iff_not] at h2; omega
  (repeat refine Sat.seq ?_)
  (refine Sat.region_k fun k hk => ?_; simp -implicitDefEqProofs only [evr, id, reduceCtorEq, reduceIte, Nat.reduceMul, Nat.reduceAdd, Nat.reduceLT, Nat.reduceLeDiff, Nat.reduceEqDiff, Int.reduceLT, Int.reduceBEq, Int.reduceBNe, Nat.reduceBEq, res_one, List.append_nil, Int.toNat_zero, Nat.sub_self, Int.reduceToNat, resRow, res_ro, epRow, ep_one])
  refine wcall_slice ((tracesC F ra rc ys (by omega)).toC) rfl (by simp -implicitDefEqProofs only [evr, id, reduceCtorEq, reduceIte, Nat.reduceMul, Nat.reduceAdd, Nat.reduceLT, Nat.reduceLeDiff, Nat.reduceEqDiff, Int.reduceLT, Int.reduceBEq, Int.reduceBNe, Nat.reduceBEq, res_one, List.append_nil, Int.toNat_zero, Nat.sub_self, Int.reduceToNat, resRow, res_ro, epRow, ep_one]) ?_
  rintro r ⟨ta, tty, tn, tc, tsz, trd, rfl, ⟨a3, c3, ts, htr, htl, e⟩⟩
  simp only [treRow, Own.row.injEq] at e
  obtain ⟨rfl, rfl, rfl, rfl, rfl, rfl⟩ := e
  simp -implicitDefEqProofs only [evr, id, reduceCtorEq, reduceIte, Nat.reduceMul, Nat.reduceAdd, Nat.reduceLT, Nat.reduceLeDiff, Nat.reduceEqDiff, Int.reduceLT, Int.reduceBEq, Int.reduceBNe, Nat.reduceBEq, res_one, List.append_nil, Int.toNat_zero, Nat.sub_self, Int.reduceToNat, resRow, res_ro, epRow, ep_one]
  (refine hk _ ?_; clear hk k; try show Sat _ _ _ _ _)
  have hone : ts.length ≤ 1 ↔ oneT ys := htr.one.trans ⟨fun h r hr s hs => h r hr s hs ((ho.2 r).1 hr).2 ((ho.2 s).1 hs).2, fun h r hr s hs _ _ => h r hr s hs⟩
  (repeat refine Sat.seq ?_)
  refine Sat.cond_b rfl (fun h3 => ?_) (fun h3 => ?_)
  · (repeat refine Sat.seq ?_)
    (refine Sat.region_k fun k hk => ?_; simp -implicitDefEqProofs only [evr, id, reduceCtorEq, reduceIte, Nat.reduceMul, Nat.reduceAdd, Nat.reduceLT, Nat.reduceLeDiff, Nat.reduceEqDiff, Int.reduceLT, Int.reduceBEq, Int.reduceBNe, Nat.reduceBEq, res_one, List.append_nil, Int.toNat_zero, Nat.sub_self, Int.reduceToNat, resRow, res_ro, epRow, ep_one]; refine hk _ ?_; clear hk k; try show Sat _ _ _ _ _)
    refine Sat.adopt 2 57 2 (epRd []) rfl ?_
    refine Sat.ret ?_
    simp only [scopeK, thenK, Try.results18, evr, id, reduceCtorEq, reduceIte, Nat.reduceMul, Nat.reduceAdd, Nat.reduceLT, Nat.reduceLeDiff, Nat.reduceEqDiff, Int.reduceLT, Int.reduceBEq, Int.reduceBNe, Nat.reduceBEq, res_one, List.append_nil, Int.toNat_zero, Nat.sub_self, Int.reduceToNat, resRow, res_ro, epRow, ep_one]
    exact ⟨none, 0, [], 35, .inr ⟨hval, ys, ho, .inr (.inl ⟨rfl, rfl, hn, fun h => by have := hone.2 h; simp only [decide_eq_true_eq] at h3; omega⟩)⟩, by simp, rfl⟩
  refine Sat.skip ?_
  simp only [thenK]
  have h1t : oneT ys := hone.1 (by simp only [decide_eq_false_iff_not] at h3; omega)
  (repeat refine Sat.seq ?_)
  (refine Sat.region_k fun k hk => ?_; simp -implicitDefEqProofs only [evr, id, reduceCtorEq, reduceIte, Nat.reduceMul, Nat.reduceAdd, Nat.reduceLT, Nat.reduceLeDiff, Nat.reduceEqDiff, Int.reduceLT, Int.reduceBEq, Int.reduceBNe, Nat.reduceBEq, res_one, List.append_nil, Int.toNat_zero, Nat.sub_self, Int.reduceToNat, resRow, res_ro, epRow, ep_one]; refine hk _ ?_; clear hk k; try show Sat _ _ _ _ _)
  (repeat refine Sat.seq ?_)
  refine Sat.label ?_
  simp only [thenK]
  (repeat refine Sat.seq ?_)
  (refine Sat.region_k fun k hk => ?_; simp -implicitDefEqProofs only [evr, id, reduceCtorEq, reduceIte, Nat.reduceMul, Nat.reduceAdd, Nat.reduceLT, Nat.reduceLeDiff, Nat.reduceEqDiff, Int.reduceLT, Int.reduceBEq, Int.reduceBNe, Nat.reduceBEq, res_one, List.append_nil, Int.toNat_zero, Nat.sub_self, Int.reduceToNat, resRow, res_ro, epRow, ep_one]; refine hk _ ?_; clear hk k; try show Sat _ _ _ _ _)
  refine Sat.adopt 5 57 2 (epRd []) rfl ?_
  refine Sat.block ?_
  refine Sat.loop (ι := Nat × Option Addr × Nat × List (Nat × Nat)) (fun z => ⟨86, [(6, .i .i64 z.1), (5, .os 1 z.2.1 z.2.2.2.length z.2.2.1), (4, .sl ra ys.length rc 17 (resRd ys.toArray))], [.gone, epRow z.2.1 z.2.2.1 z.2.2.2]⟩)
    (fun z => z.1 ≤ ys.length ∧ Pre (fun i => ys.toArray[i]!) z.2.2.2 z.1 ∧ (z.1 < ys.length ∨ z.1 = 0)) (fun z => ys.length - z.1) (0, none, 0, []) ⟨Nat.zero_le _, .nil, .inr rfl⟩ (by simp -implicitDefEqProofs only [evr, id, reduceCtorEq, reduceIte, Nat.reduceMul, Nat.reduceAdd, Nat.reduceLT, Nat.reduceLeDiff, Nat.reduceEqDiff, Int.reduceLT, Int.reduceBEq, Int.reduceBNe, Nat.reduceBEq, res_one, List.append_nil, Int.toNat_zero, Nat.sub_self, Int.reduceToNat, resRow, res_ro, epRow, ep_one, evl]; rfl) ?_
  rintro ⟨f0, a, c, l⟩ ⟨hf0, hpre, hz⟩
  simp only [epRow] at hf0 hpre hz ⊢
  have hll := hpre.bound
  (repeat refine Sat.seq ?_)
  (refine Sat.region_k fun k hk => ?_; simp -implicitDefEqProofs only [evr, id, reduceCtorEq, reduceIte, Nat.reduceMul, Nat.reduceAdd, Nat.reduceLT, Nat.reduceLeDiff, Nat.reduceEqDiff, Int.reduceLT, Int.reduceBEq, Int.reduceBNe, Nat.reduceBEq, res_one, List.append_nil, Int.toNat_zero, Nat.sub_self, Int.reduceToNat, resRow, res_ro, epRow, ep_one]; refine hk _ ?_; clear hk k; try show Sat _ _ _ _ _)
  (repeat refine Sat.seq ?_)
  refine Sat.cond_b rfl (fun h => ?_) (fun h => ?_)
  · have h0 : f0 < ys.length := by simp only [decide_eq_true_eq] at h; omega
    refine Sat.skip ?_
    simp only [thenK]
    (repeat refine Sat.seq ?_)
    refine Sat.block ?_
    (repeat refine Sat.seq ?_)
    (refine Sat.region_k fun k hk => ?_; simp -implicitDefEqProofs only [evr, id, reduceCtorEq, reduceIte, Nat.reduceMul, Nat.reduceAdd, Nat.reduceLT, Nat.reduceLeDiff, Nat.reduceEqDiff, Int.reduceLT, Int.reduceBEq, Int.reduceBNe, Nat.reduceBEq, res_one, List.append_nil, Int.toNat_zero, Nat.sub_self, Int.reduceToNat, resRow, res_ro, epRow, ep_one])
    intro b1
    (refine hk _ ?_; clear hk k; try show Sat _ _ _ _ _)
    (repeat refine Sat.seq ?_)
    (refine Sat.region_k fun k hk => ?_; simp -implicitDefEqProofs only [evr, id, reduceCtorEq, reduceIte, Nat.reduceMul, Nat.reduceAdd, Nat.reduceLT, Nat.reduceLeDiff, Nat.reduceEqDiff, Int.reduceLT, Int.reduceBEq, Int.reduceBNe, Nat.reduceBEq, res_one, List.append_nil, Int.toNat_zero, Nat.sub_self, Int.reduceToNat, resRow, res_ro, epRow, ep_one]; refine hk _ ?_; clear hk k; try show Sat _ _ _ _ _)
    (repeat refine Sat.seq ?_)
    refine Sat.block ?_
    refine Sat.loop (ι := Nat × (List Int → Option Int)) (fun z => ⟨86, [(8, .i .i64 z.1), (7, .mp 2 b1), (6, .i .i64 f0), (5, .os 1 a l.length c), (4, .sl ra ys.length rc 17 (resRd ys.toArray))], [.gone, .row a 57 l.length c 2 (epRd l), .mp b1 false [.i64, .u32, .i64, .i64, .i64] .u32 z.2]⟩)
      (fun z => f0 ≤ z.1 ∧ z.1 ≤ ys.length ∧ SeenI (fun i => ys.toArray[i]!) f0 z.1 z.2 ∧ Seg (fun i => ys.toArray[i]!) f0 z.1) (fun z => ys.length - z.1) (f0, fun _ => none) ⟨Nat.le_refl _, hf0, SeenI.empty _ _, Seg.nil _ _⟩ (by simp -implicitDefEqProofs only [evr, id, reduceCtorEq, reduceIte, Nat.reduceMul, Nat.reduceAdd, Nat.reduceLT, Nat.reduceLeDiff, Nat.reduceEqDiff, Int.reduceLT, Int.reduceBEq, Int.reduceBNe, Nat.reduceBEq, res_one, List.append_nil, Int.toNat_zero, Nat.sub_self, Int.reduceToNat, resRow, res_ro, epRow, ep_one, evl]; first | rfl | trace_state) ?_
    rintro ⟨i, f⟩ ⟨hfi, hi, hs, hseg⟩
    simp only at hfi hi hs hseg ⊢
    (repeat refine Sat.seq ?_)
    (refine Sat.region_k fun k hk => ?_; simp -implicitDefEqProofs only [evr, id, reduceCtorEq, reduceIte, Nat.reduceMul, Nat.reduceAdd, Nat.reduceLT, Nat.reduceLeDiff, Nat.reduceEqDiff, Int.reduceLT, Int.reduceBEq, Int.reduceBNe, Nat.reduceBEq, res_one, List.append_nil, Int.toNat_zero, Nat.sub_self, Int.reduceToNat, resRow, res_ro, epRow, ep_one]; refine hk _ ?_; clear hk k; try show Sat _ _ _ _ _)
    (repeat refine Sat.seq ?_)
    refine Sat.cond_b rfl (fun h => ?_) (fun h => ?_)
    · have h1 : i < ys.length := by simp only [decide_eq_true_eq] at h; omega
      have e2 : IntKind.i64.wrap ((i : Int) + 1) = ((i + 1 : Nat) : Int) := by rw [w64 (by omega)]; omega
      refine Sat.skip ?_
      simp only [thenK]
      (repeat refine Sat.seq ?_)
      refine Sat.block ?_
      (repeat refine Sat.seq ?_)
      (refine Sat.region_k fun k hk => ?_; simp -implicitDefEqProofs only [evr, id, reduceCtorEq, reduceIte, Nat.reduceMul, Nat.reduceAdd, Nat.reduceLT, Nat.reduceLeDiff, Nat.reduceEqDiff, Int.reduceLT, Int.reduceBEq, Int.reduceBNe, Nat.reduceBEq, res_one, List.append_nil, Int.toNat_zero, Nat.sub_self, Int.reduceToNat, resRow, res_ro, epRow, ep_one])
      refine ⟨by omega, ?_⟩
      refine wcall_plain (placeC F ys.toArray[i]!) rfl (by rintro _ rfl; exact placeS_ok _) ?_
      rintro r rfl
      simp only [placeS, spotAg, evr, id, reduceCtorEq, reduceIte, Nat.reduceMul, Nat.reduceAdd, Nat.reduceLT, Nat.reduceLeDiff, Nat.reduceEqDiff, Int.reduceLT, Int.reduceBEq, Int.reduceBNe, Nat.reduceBEq, res_one, List.append_nil, Int.toNat_zero, Nat.sub_self, Int.reduceToNat, resRow, res_ro, epRow, ep_one]
      intro b3
      (refine hk _ ?_; clear hk k; try show Sat _ _ _ _ _)
      (repeat refine Sat.seq ?_)
      (refine Sat.region_k fun k hk => ?_; simp -implicitDefEqProofs only [evr, id, reduceCtorEq, reduceIte, Nat.reduceMul, Nat.reduceAdd, Nat.reduceLT, Nat.reduceLeDiff, Nat.reduceEqDiff, Int.reduceLT, Int.reduceBEq, Int.reduceBNe, Nat.reduceBEq, res_one, List.append_nil, Int.toNat_zero, Nat.sub_self, Int.reduceToNat, resRow, res_ro, epRow, ep_one]; refine hk _ ?_; clear hk k; try show Sat _ _ _ _ _)
      (repeat refine Sat.seq ?_)
      refine Sat.cond_b rfl (fun h2 => ?_) (fun h2 => ?_)
      · have hp : placedR ys.toArray[i]! = false := by simpa using h2
        refine Sat.exit ?_
        simp only [blockK, thenK, reduceIte]
        refine Sat.region_k fun k hk => ?_
        simp -implicitDefEqProofs only [evr, id, reduceCtorEq, reduceIte, Nat.reduceMul, Nat.reduceAdd, Nat.reduceLT, Nat.reduceLeDiff, Nat.reduceEqDiff, Int.reduceLT, Int.reduceBEq, Int.reduceBNe, Nat.reduceBEq, res_one, List.append_nil, Int.toNat_zero, Nat.sub_self, Int.reduceToNat, resRow, res_ro, epRow, ep_one, e2]
        refine hk _ ?_
        simp only [thenK, blockK]
        have hn := hs.skip hp
        refine ⟨(i + 1, f), ⟨by simp only; omega, by simp only; omega, hn.1, hseg.snoc hn.2⟩, by simp only; omega, ?_⟩
        simp -implicitDefEqProofs only [evr, id, reduceCtorEq, reduceIte, Nat.reduceMul, Nat.reduceAdd, Nat.reduceLT, Nat.reduceLeDiff, Nat.reduceEqDiff, Int.reduceLT, Int.reduceBEq, Int.reduceBNe, Nat.reduceBEq, res_one, List.append_nil, Int.toNat_zero, Nat.sub_self, Int.reduceToNat, resRow, res_ro, epRow, ep_one, evl]
      · have hp : placedR ys.toArray[i]! = true := by simpa using h2
        refine Sat.skip ?_
        simp only [thenK]
        (repeat refine Sat.seq ?_)
        refine Sat.atF (ι := Option Int) (fun z => ⟨86, [(12, .b z.isSome), (11, .i .u32 (z.getD 0)), (9, .op 3 b3 0), (8, .i .i64 i), (7, .mp 2 b1), (6, .i .i64 f0), (5, .os 1 a l.length c), (4, .sl ra ys.length rc 17 (resRd ys.toArray))],
          [.gone, .row a 57 l.length c 2 (epRd l), .mp b1 false [.i64, .u32, .i64, .i64, .i64] .u32 f, .box b3 68 [.i .i64 (ys.toArray[i]!).vantage, .i .u32 (ys.toArray[i]!).dst, .i .i64 (ys.toArray[i]!).proto, .i .i64 (ys.toArray[i]!).flow, .i .i64 (ys.toArray[i]!).ttl]]⟩) (fun z => f (ys.toArray[i]!).spot = z) ?_ ?_
        · (refine Sat.region_k fun k hk => ?_; simp -implicitDefEqProofs only [evr, id, reduceCtorEq, reduceIte, Nat.reduceMul, Nat.reduceAdd, Nat.reduceLT, Nat.reduceLeDiff, Nat.reduceEqDiff, Int.reduceLT, Int.reduceBEq, Int.reduceBNe, Nat.reduceBEq, res_one, List.append_nil, Int.toNat_zero, Nat.sub_self, Int.reduceToNat, resRow, res_ro, epRow, ep_one])
          refine ⟨fun v hv => hk _ ?_, fun hv => hk _ ?_⟩
          · simp only [thenK]
            refine ⟨some v, hv, ?_⟩
            simp only [Option.isSome_some, Option.getD_some]
            simp -implicitDefEqProofs only [evr, id, reduceCtorEq, reduceIte, Nat.reduceMul, Nat.reduceAdd, Nat.reduceLT, Nat.reduceLeDiff, Nat.reduceEqDiff, Int.reduceLT, Int.reduceBEq, Int.reduceBNe, Nat.reduceBEq, res_one, List.append_nil, Int.toNat_zero, Nat.sub_self, Int.reduceToNat, resRow, res_ro, epRow, ep_one, evl]
            try rfl
          · simp only [thenK]
            refine ⟨none, hv, ?_⟩
            simp only [Option.isSome_none, Option.getD_none]
            simp -implicitDefEqProofs only [evr, id, reduceCtorEq, reduceIte, Nat.reduceMul, Nat.reduceAdd, Nat.reduceLT, Nat.reduceLeDiff, Nat.reduceEqDiff, Int.reduceLT, Int.reduceBEq, Int.reduceBNe, Nat.reduceBEq, res_one, List.append_nil, Int.toNat_zero, Nat.sub_self, Int.reduceToNat, resRow, res_ro, epRow, ep_one, evl]
            try rfl
        intro z hz2
        simp only [thenK]
        (repeat refine Sat.seq ?_)
        refine Sat.at ⟨86, [(62, .b (z.isSome && (z.getD 0 != (ys.toArray[i]!).from_))), (9, .op 3 b3 0), (8, .i .i64 i), (7, .mp 2 b1), (6, .i .i64 f0), (5, .os 1 a l.length c), (4, .sl ra ys.length rc 17 (resRd ys.toArray))],
          [.gone, .row a 57 l.length c 2 (epRd l), .mp b1 false [.i64, .u32, .i64, .i64, .i64] .u32 f, .box b3 68 [.i .i64 (ys.toArray[i]!).vantage, .i .u32 (ys.toArray[i]!).dst, .i .i64 (ys.toArray[i]!).proto, .i .i64 (ys.toArray[i]!).flow, .i .i64 (ys.toArray[i]!).ttl]]⟩ ?_ ?_
        · (refine Sat.region_k fun k hk => ?_; simp -implicitDefEqProofs only [evr, id, reduceCtorEq, reduceIte, Nat.reduceMul, Nat.reduceAdd, Nat.reduceLT, Nat.reduceLeDiff, Nat.reduceEqDiff, Int.reduceLT, Int.reduceBEq, Int.reduceBNe, Nat.reduceBEq, res_one, List.append_nil, Int.toNat_zero, Nat.sub_self, Int.reduceToNat, resRow, res_ro, epRow, ep_one])
          simp -implicitDefEqProofs only [evr, id, reduceCtorEq, reduceIte, Nat.reduceMul, Nat.reduceAdd, Nat.reduceLT, Nat.reduceLeDiff, Nat.reduceEqDiff, Int.reduceLT, Int.reduceBEq, Int.reduceBNe, Nat.reduceBEq, res_one, List.append_nil, Int.toNat_zero, Nat.sub_self, Int.reduceToNat, resRow, res_ro, epRow, ep_one, res_11]
          refine ⟨fun h3 => ⟨by omega, hk _ ?_⟩, fun h3 => hk _ ?_⟩
          · simp only [thenK, h3, Bool.true_and]
            simp -implicitDefEqProofs only [evr, id, reduceCtorEq, reduceIte, Nat.reduceMul, Nat.reduceAdd, Nat.reduceLT, Nat.reduceLeDiff, Nat.reduceEqDiff, Int.reduceLT, Int.reduceBEq, Int.reduceBNe, Nat.reduceBEq, res_one, List.append_nil, Int.toNat_zero, Nat.sub_self, Int.reduceToNat, resRow, res_ro, epRow, ep_one, evl]
          · simp only [thenK, h3, Bool.false_and]
            simp -implicitDefEqProofs only [evr, id, reduceCtorEq, reduceIte, Nat.reduceMul, Nat.reduceAdd, Nat.reduceLT, Nat.reduceLeDiff, Nat.reduceEqDiff, Int.reduceLT, Int.reduceBEq, Int.reduceBNe, Nat.reduceBEq, res_one, List.append_nil, Int.toNat_zero, Nat.sub_self, Int.reduceToNat, resRow, res_ro, epRow, ep_one, evl]
        simp only [thenK]
        (repeat refine Sat.seq ?_)
        refine Sat.cond_b rfl (fun h4 => ?_) (fun h4 => ?_)
        · simp only [Bool.and_eq_true, bne_iff_ne, ne_eq] at h4
          obtain ⟨v, rfl⟩ := Option.isSome_iff_exists.1 h4.1
          have hbad := hs.clash hp hz2 h4.2
          obtain ⟨w, hw1, hw2, _⟩ := hbad
          (repeat refine Sat.seq ?_)
          (refine Sat.region_k fun k hk => ?_; simp -implicitDefEqProofs only [evr, id, reduceCtorEq, reduceIte, Nat.reduceMul, Nat.reduceAdd, Nat.reduceLT, Nat.reduceLeDiff, Nat.reduceEqDiff, Int.reduceLT, Int.reduceBEq, Int.reduceBNe, Nat.reduceBEq, res_one, List.append_nil, Int.toNat_zero, Nat.sub_self, Int.reduceToNat, resRow, res_ro, epRow, ep_one])
          intro b4
          refine ⟨⟨by unfold maxLen; omega, by omega⟩, fun a2 cap2 => ?_⟩
          (refine hk _ ?_; clear hk k; try show Sat _ _ _ _ _)
          (repeat refine Sat.seq ?_)
          (refine Sat.region_k fun k hk => ?_; simp -implicitDefEqProofs only [evr, id, reduceCtorEq, reduceIte, Nat.reduceMul, Nat.reduceAdd, Nat.reduceLT, Nat.reduceLeDiff, Nat.reduceEqDiff, Int.reduceLT, Int.reduceBEq, Int.reduceBNe, Nat.reduceBEq, res_one, List.append_nil, Int.toNat_zero, Nat.sub_self, Int.reduceToNat, resRow, res_ro, epRow, ep_one]; refine hk _ ?_; clear hk k; try show Sat _ _ _ _ _)
          refine Sat.exit ?_
          simp only [thenK, blockK, reduceIte]
          refine ⟨(i, a2, cap2, l ++ [(f0, i)]), ⟨by simp only; omega, .snoc hpre (by omega) hseg (hs.clash hp hz2 h4.2), .inl (by simp only; omega)⟩, by simp only; omega, ?_⟩
          simp only [List.length_append, List.length_singleton]
          simp -implicitDefEqProofs only [evr, id, reduceCtorEq, reduceIte, Nat.reduceMul, Nat.reduceAdd, Nat.reduceLT, Nat.reduceLeDiff, Nat.reduceEqDiff, Int.reduceLT, Int.reduceBEq, Int.reduceBNe, Nat.reduceBEq, res_one, List.append_nil, Int.toNat_zero, Nat.sub_self, Int.reduceToNat, resRow, res_ro, epRow, ep_one, evl]
          exact ep_app rfl
        · refine Sat.skip ?_
          simp only [thenK]
          (refine Sat.region_tree (.keep [0, 2, 3, 4, 5, 6, 1, 7] [] (.one 8 .done)) (by kernel_rfl) (by kernel_rfl) (fun _ _ h => h) fun k hk => ?_; simp only [WOT, List.map_cons, List.map_nil, List.getD_cons_zero, List.getD_cons_succ]; simp -implicitDefEqProofs only [evr, id, reduceCtorEq, reduceIte, Nat.reduceMul, Nat.reduceAdd, Nat.reduceLT, Nat.reduceLeDiff, Nat.reduceEqDiff, Int.reduceLT, Int.reduceBEq, Int.reduceBNe, Nat.reduceBEq, res_one, List.append_nil, Int.toNat_zero, Nat.sub_self, Int.reduceToNat, resRow, res_ro, epRow, ep_one, WOT])
          simp -implicitDefEqProofs only [evr, id, reduceCtorEq, reduceIte, Nat.reduceMul, Nat.reduceAdd, Nat.reduceLT, Nat.reduceLeDiff, Nat.reduceEqDiff, Int.reduceLT, Int.reduceBEq, Int.reduceBNe, Nat.reduceBEq, res_one, List.append_nil, Int.toNat_zero, Nat.sub_self, Int.reduceToNat, resRow, res_ro, epRow, ep_one, res_11]
          refine ⟨by omega, ?_⟩
          (refine hk _ ?_; clear hk k; try show Sat _ _ _ _ _)
          refine Sat.region_k fun k hk => ?_
          simp -implicitDefEqProofs only [evr, id, reduceCtorEq, reduceIte, Nat.reduceMul, Nat.reduceAdd, Nat.reduceLT, Nat.reduceLeDiff, Nat.reduceEqDiff, Int.reduceLT, Int.reduceBEq, Int.reduceBNe, Nat.reduceBEq, res_one, List.append_nil, Int.toNat_zero, Nat.sub_self, Int.reduceToNat, resRow, res_ro, epRow, ep_one, e2]
          refine hk _ ?_
          simp only [thenK, blockK]
          have hn := hs.put hfi hp (fun x hx => by
            rw [hz2] at hx
            subst hx
            simpa using h4)
          refine ⟨(i + 1, fPut f (ys.toArray[i]!).spot (ys.toArray[i]!).from_), ⟨by simp only; omega, by simp only; omega, hn.1, hseg.snoc hn.2⟩, by simp only; omega, ?_⟩
          simp -implicitDefEqProofs only [evr, id, reduceCtorEq, reduceIte, Nat.reduceMul, Nat.reduceAdd, Nat.reduceLT, Nat.reduceLeDiff, Nat.reduceEqDiff, Int.reduceLT, Int.reduceBEq, Int.reduceBNe, Nat.reduceBEq, res_one, List.append_nil, Int.toNat_zero, Nat.sub_self, Int.reduceToNat, resRow, res_ro, epRow, ep_one, evl]
          exact fun _ => rfl
    · have h1 : i = ys.length := by simp only [decide_eq_false_iff_not] at h; omega
      refine Sat.exit ?_
      simp only [thenK, blockK, reduceIte]
      (repeat refine Sat.seq ?_)
      (refine Sat.region_k fun k hk => ?_; simp -implicitDefEqProofs only [evr, id, reduceCtorEq, reduceIte, Nat.reduceMul, Nat.reduceAdd, Nat.reduceLT, Nat.reduceLeDiff, Nat.reduceEqDiff, Int.reduceLT, Int.reduceBEq, Int.reduceBNe, Nat.reduceBEq, res_one, List.append_nil, Int.toNat_zero, Nat.sub_self, Int.reduceToNat, resRow, res_ro, epRow, ep_one])
      intro b4
      refine ⟨⟨by unfold maxLen; omega, by omega⟩, fun a2 cap2 => ?_⟩
      (refine hk _ ?_; clear hk k; try show Sat _ _ _ _ _)
      refine Sat.exit ?_
      simp only [thenK, blockK, reduceIte]
      (repeat refine Sat.seq ?_)
      (refine Sat.region_k fun k hk => ?_; simp -implicitDefEqProofs only [evr, id, reduceCtorEq, reduceIte, Nat.reduceMul, Nat.reduceAdd, Nat.reduceLT, Nat.reduceLeDiff, Nat.reduceEqDiff, Int.reduceLT, Int.reduceBEq, Int.reduceBNe, Nat.reduceBEq, res_one, List.append_nil, Int.toNat_zero, Nat.sub_self, Int.reduceToNat, resRow, res_ro, epRow, ep_one]; refine hk _ ?_; clear hk k; try show Sat _ _ _ _ _)
      refine Sat.le (st' := ⟨86, [(3, .i .i64 0), (2, .os 1 a2 (l ++ [(f0, ys.length)]).length cap2)], [.gone, epRow a2 cap2 (l ++ [(f0, ys.length)])]⟩) ?_ ?_
      · refine Sat.ret ?_
        simp only [scopeK, thenK, Try.results18, evr, id, reduceCtorEq, reduceIte, Nat.reduceMul, Nat.reduceAdd, Nat.reduceLT, Nat.reduceLeDiff, Nat.reduceEqDiff, Int.reduceLT, Int.reduceBEq, Int.reduceBNe, Nat.reduceBEq, res_one, List.append_nil, Int.toNat_zero, Nat.sub_self, Int.reduceToNat, resRow, res_ro, epRow, ep_one]
        exact ⟨a2, cap2, l ++ [(f0, ys.length)], 0, .inr ⟨hval, ys, ho, .inr (.inr ⟨rfl, hn, h1t, .inr ⟨l, f0, hpre, h0, h1 ▸ hseg, rfl⟩⟩)⟩, by simp; omega, rfl⟩
      · simp only [epRow]
        simp -implicitDefEqProofs only [evr, id, reduceCtorEq, reduceIte, Nat.reduceMul, Nat.reduceAdd, Nat.reduceLT, Nat.reduceLeDiff, Nat.reduceEqDiff, Int.reduceLT, Int.reduceBEq, Int.reduceBNe, Nat.reduceBEq, res_one, List.append_nil, Int.toNat_zero, Nat.sub_self, Int.reduceToNat, resRow, res_ro, epRow, ep_one, evl]
        exact ⟨by simp, by simp, ep_app rfl⟩
  · refine Sat.exit ?_
    simp only [thenK, blockK, reduceIte]
    (repeat refine Sat.seq ?_)
    (refine Sat.region_k fun k hk => ?_; simp -implicitDefEqProofs only [evr, id, reduceCtorEq, reduceIte, Nat.reduceMul, Nat.reduceAdd, Nat.reduceLT, Nat.reduceLeDiff, Nat.reduceEqDiff, Int.reduceLT, Int.reduceBEq, Int.reduceBNe, Nat.reduceBEq, res_one, List.append_nil, Int.toNat_zero, Nat.sub_self, Int.reduceToNat, resRow, res_ro, epRow, ep_one]; refine hk _ ?_; clear hk k; try show Sat _ _ _ _ _)
    refine Sat.ret ?_
    simp only [scopeK, thenK, Try.results18, evr, id, reduceCtorEq, reduceIte, Nat.reduceMul, Nat.reduceAdd, Nat.reduceLT, Nat.reduceLeDiff, Nat.reduceEqDiff, Int.reduceLT, Int.reduceBEq, Int.reduceBNe, Nat.reduceBEq, res_one, List.append_nil, Int.toNat_zero, Nat.sub_self, Int.reduceToNat, resRow, res_ro, epRow, ep_one]
    have h0 : f0 = 0 ∧ ys.length = 0 := by
      simp only [decide_eq_false_iff_not] at h
      omega
    have hl0 : l = [] := List.eq_nil_of_length_eq_zero (by omega)
    exact ⟨a, c, l, 0, .inr ⟨hval, ys, ho, .inr (.inr ⟨rfl, hn, h1t, .inl ⟨h0.2, hl0⟩⟩)⟩, by omega, rfl⟩

theorem cut_ok {a : Option Addr} {n cap : Nat} {rd : Nat → Nat → SV} {e : Int} : True := trivial
set_option maxRecDepth 100000 in
theorem fewestC (F : Frm) (ad : Option Addr) (cap : Nat) (xs : List Res) (hl : xs.length ≤ 1000000000) (hin : ∀ r ∈ xs, RgR r) :
    Contract F Try.prog 14 [.sl ad xs.length cap 17 (resRd xs.toArray)] (fun r => ∃ (l : List (Nat × Nat)) (e : Int), CutRes xs l e ∧ l.length ≤ 1000 ∧ r = tupL [.i .i64 (l.length : Nat), .i .i64 e]) := by
  refine contract_of Try.func14 rfl (by kernel_rfl) ?_
  simp only [Try.ntmps14, argEnv]
  (repeat refine Sat.seq ?_)
  (refine Sat.region_k fun k hk => ?_; simp -implicitDefEqProofs only [evr, id, reduceCtorEq, reduceIte, Nat.reduceMul, Nat.reduceAdd, Nat.reduceLT, Nat.reduceLeDiff, Nat.reduceEqDiff, Int.reduceLT, Int.reduceBEq, Int.reduceBNe, Nat.reduceBEq, res_one, List.append_nil, Int.toNat_zero, Nat.sub_self, Int.reduceToNat, resRow, res_ro, epRow, ep_one]; refine hk _ ?_; clear hk k; try show Sat _ _ _ _ _)
  (repeat refine Sat.seq ?_)
  (refine Sat.region_k fun k hk => ?_; simp -implicitDefEqProofs only [evr, id, reduceCtorEq, reduceIte, Nat.reduceMul, Nat.reduceAdd, Nat.reduceLT, Nat.reduceLeDiff, Nat.reduceEqDiff, Int.reduceLT, Int.reduceBEq, Int.reduceBNe, Nat.reduceBEq, res_one, List.append_nil, Int.toNat_zero, Nat.sub_self, Int.reduceToNat, resRow, res_ro, epRow, ep_one])
  refine wcall_slice (cutC F ad cap xs hl hin) rfl (by simp -implicitDefEqProofs only [evr, id, reduceCtorEq, reduceIte, Nat.reduceMul, Nat.reduceAdd, Nat.reduceLT, Nat.reduceLeDiff, Nat.reduceEqDiff, Int.reduceLT, Int.reduceBEq, Int.reduceBNe, Nat.reduceBEq, res_one, List.append_nil, Int.toNat_zero, Nat.sub_self, Int.reduceToNat, resRow, res_ro, epRow, ep_one]) ?_
  rintro r ⟨a, c, l, e, hc, hll, rfl⟩
  simp -implicitDefEqProofs only [evr, id, reduceCtorEq, reduceIte, Nat.reduceMul, Nat.reduceAdd, Nat.reduceLT, Nat.reduceLeDiff, Nat.reduceEqDiff, Int.reduceLT, Int.reduceBEq, Int.reduceBNe, Nat.reduceBEq, res_one, List.append_nil, Int.toNat_zero, Nat.sub_self, Int.reduceToNat, resRow, res_ro, epRow, ep_one]
  (refine hk _ ?_; clear hk k; try show Sat _ _ _ _ _)
  (repeat refine Sat.seq ?_)
  (refine Sat.region_k fun k hk => ?_; simp -implicitDefEqProofs only [evr, id, reduceCtorEq, reduceIte, Nat.reduceMul, Nat.reduceAdd, Nat.reduceLT, Nat.reduceLeDiff, Nat.reduceEqDiff, Int.reduceLT, Int.reduceBEq, Int.reduceBNe, Nat.reduceBEq, res_one, List.append_nil, Int.toNat_zero, Nat.sub_self, Int.reduceToNat, resRow, res_ro, epRow, ep_one]; refine hk _ ?_; clear hk k; try show Sat _ _ _ _ _)
  refine Sat.ret ?_
  simp only [Try.results14, evr, id, reduceCtorEq, reduceIte, Nat.reduceMul, Nat.reduceAdd, Nat.reduceLT, Nat.reduceLeDiff, Nat.reduceEqDiff, Int.reduceLT, Int.reduceBEq, Int.reduceBNe, Nat.reduceBEq, res_one, List.append_nil, Int.toNat_zero, Nat.sub_self, Int.reduceToNat, resRow, res_ro, epRow, ep_one]
  exact ⟨l, e, hc, hll, rfl⟩
/-- the results of an episode -/
def partL (ys : List Res) (a b : Int) : List Res := if 0 ≤ a ∧ a ≤ b ∧ b ≤ ys.length then (ys.take b.toNat).drop a.toNat else []
theorem part_rd {ys : List Res} {a b : Int} (h : 0 ≤ a ∧ a ≤ b ∧ b ≤ ys.length) : rdEq (b.toNat - a.toNat) 17 (fun i j => resRd ys.toArray (a.toNat + i) j) (resRd (partL ys a b).toArray) := by
  intro i j hi hj
  unfold resRd partL
  rw [if_pos h]
  have h1 : a.toNat + i < b.toNat := by omega
  have h2 : a.toNat + i < ys.length := by omega
  have h3 : i < ((ys.take b.toNat).drop a.toNat).length := by rw [List.length_drop, List.length_take]; omega
  show (Res.cs ys.toArray[a.toNat + i]!).getD j default = _
  rw [getB h2, getB h3, List.getElem_drop, List.getElem_take]
theorem ContractN.of_sim {F : Frm} {P : Program} {f : FuncId} {args args' : List SV} {post : Own → Prop} (h : ContractN F P f args' post) (hs : simA args args') : ContractN F P f args post :=
  ⟨h.enters, fun R w h1 h2 h3 => by rw [simA_den hs]; exact h.calls R w h1 (simA_ok hs h2) h3⟩
set_option maxRecDepth 100000 in
theorem partC (F : Frm) (ad : Option Addr) (cap : Nat) (xs : List Res) (hl : xs.length ≤ 1000000000) (hin : ∀ r ∈ xs, RgR r) (a b : Int) :
    ContractN F Try.prog 19 [.sl ad xs.length cap 17 (resRd xs.toArray), .agg 2 fun j => [SV.i .i64 a, .i .i64 b].getD j default] (fun o => ∃ a' cap ys, OrdOf xs ys ∧ o = resRow a' (partL ys a b).length cap (partL ys a b).toArray) := by
  refine contractN_of Try.func19 rfl (by kernel_rfl) ?_
  simp only [Try.ntmps19, argEnv]
  (repeat refine Sat.seq ?_)
  (refine Sat.region_k fun k hk => ?_; simp -implicitDefEqProofs only [evr, id, reduceCtorEq, reduceIte, Nat.reduceMul, Nat.reduceAdd, Nat.reduceLT, Nat.reduceLeDiff, Nat.reduceEqDiff, Int.reduceLT, Int.reduceBEq, Int.reduceBNe, Nat.reduceBEq, res_one, List.append_nil, Int.toNat_zero, Nat.sub_self, Int.reduceToNat, resRow, res_ro, epRow, ep_one])
  intro b1
  (refine hk _ ?_; clear hk k; try show Sat _ _ _ _ _)
  (repeat refine Sat.seq ?_)
  (refine Sat.region_k fun k hk => ?_; simp -implicitDefEqProofs only [evr, id, reduceCtorEq, reduceIte, Nat.reduceMul, Nat.reduceAdd, Nat.reduceLT, Nat.reduceLeDiff, Nat.reduceEqDiff, Int.reduceLT, Int.reduceBEq, Int.reduceBNe, Nat.reduceBEq, res_one, List.append_nil, Int.toNat_zero, Nat.sub_self, Int.reduceToNat, resRow, res_ro, epRow, ep_one])
  refine wcall_new (orderC F ad cap xs hl hin) rfl rfl ?_
  rintro ra ty len rc sz rrd ⟨a1, c, ys, ho, hyl, e⟩
  simp only [resRow, Own.row.injEq] at e
  obtain ⟨rfl, rfl, rfl, rfl, rfl, rfl⟩ := e
  simp -implicitDefEqProofs only [evr, id, reduceCtorEq, reduceIte, Nat.reduceMul, Nat.reduceAdd, Nat.reduceLT, Nat.reduceLeDiff, Nat.reduceEqDiff, Int.reduceLT, Int.reduceBEq, Int.reduceBNe, Nat.reduceBEq, res_one, List.append_nil, Int.toNat_zero, Nat.sub_self, Int.reduceToNat, resRow, res_ro, epRow, ep_one]
  (refine hk _ ?_; clear hk k; try show Sat _ _ _ _ _)
  refine Sat.settle2 5 rfl rfl ?_
  simp -implicitDefEqProofs only [evr, id, reduceCtorEq, reduceIte, Nat.reduceMul, Nat.reduceAdd, Nat.reduceLT, Nat.reduceLeDiff, Nat.reduceEqDiff, Int.reduceLT, Int.reduceBEq, Int.reduceBNe, Nat.reduceBEq, res_one, List.append_nil, Int.toNat_zero, Nat.sub_self, Int.reduceToNat, resRow, res_ro, epRow, ep_one]
  (repeat refine Sat.seq ?_)
  refine Sat.at ⟨32, [(24, .b (!decide (0 ≤ a ∧ a ≤ b ∧ b ≤ ys.length))), (5, .sl ra ys.length rc 17 (resRd ys.toArray)), (3, .op 0 b1 0), (4, .sl none 0 0 0 (fun _ _ => .v undef))], [.box b1 57 [.i .i64 a, .i .i64 b]]⟩ ?_ ?_
  · (refine Sat.region_k fun k hk => ?_; simp -implicitDefEqProofs only [evr, id, reduceCtorEq, reduceIte, Nat.reduceMul, Nat.reduceAdd, Nat.reduceLT, Nat.reduceLeDiff, Nat.reduceEqDiff, Int.reduceLT, Int.reduceBEq, Int.reduceBNe, Nat.reduceBEq, res_one, List.append_nil, Int.toNat_zero, Nat.sub_self, Int.reduceToNat, resRow, res_ro, epRow, ep_one])
    refine ⟨fun q1 => hk _ ?_, fun q1 => ⟨fun q2 => hk _ ?_, fun q2 => hk _ ?_⟩⟩
    · have e : decide (0 ≤ a ∧ a ≤ b ∧ b ≤ (ys.length : Int)) = false := decide_eq_false (by omega)
      simp only [thenK, e, Bool.not_false]
      simp -implicitDefEqProofs only [evr, id, reduceCtorEq, reduceIte, Nat.reduceMul, Nat.reduceAdd, Nat.reduceLT, Nat.reduceLeDiff, Nat.reduceEqDiff, Int.reduceLT, Int.reduceBEq, Int.reduceBNe, Nat.reduceBEq, res_one, List.append_nil, Int.toNat_zero, Nat.sub_self, Int.reduceToNat, resRow, res_ro, epRow, ep_one, evl]
    · have e : decide (0 ≤ a ∧ a ≤ b ∧ b ≤ (ys.length : Int)) = false := decide_eq_false (by omega)
      simp only [thenK, e, Bool.not_false]
      simp -implicitDefEqProofs only [evr, id, reduceCtorEq, reduceIte, Nat.reduceMul, Nat.reduceAdd, Nat.reduceLT, Nat.reduceLeDiff, Nat.reduceEqDiff, Int.reduceLT, Int.reduceBEq, Int.reduceBNe, Nat.reduceBEq, res_one, List.append_nil, Int.toNat_zero, Nat.sub_self, Int.reduceToNat, resRow, res_ro, epRow, ep_one, evl]
    · have e : decide ((ys.length : Int) < b) = !decide (0 ≤ a ∧ a ≤ b ∧ b ≤ (ys.length : Int)) := by
        by_cases h : (ys.length : Int) < b
        · rw [decide_eq_true h, decide_eq_false (by omega)]; rfl
        · rw [decide_eq_false h, decide_eq_true (by omega)]; rfl
      simp only [thenK, e]
      simp -implicitDefEqProofs only [evr, id, reduceCtorEq, reduceIte, Nat.reduceMul, Nat.reduceAdd, Nat.reduceLT, Nat.reduceLeDiff, Nat.reduceEqDiff, Int.reduceLT, Int.reduceBEq, Int.reduceBNe, Nat.reduceBEq, res_one, List.append_nil, Int.toNat_zero, Nat.sub_self, Int.reduceToNat, resRow, res_ro, epRow, ep_one, evl]
  simp only [thenK]
  (repeat refine Sat.seq ?_)
  refine Sat.cond_b rfl (fun h => ?_) (fun h => ?_)
  · have hno : ¬ (0 ≤ a ∧ a ≤ b ∧ b ≤ ys.length) := by
      intro hh
      rw [decide_eq_true hh] at h
      cases h
    (repeat refine Sat.seq ?_)
    (refine Sat.region_k fun k hk => ?_; simp -implicitDefEqProofs only [evr, id, reduceCtorEq, reduceIte, Nat.reduceMul, Nat.reduceAdd, Nat.reduceLT, Nat.reduceLeDiff, Nat.reduceEqDiff, Int.reduceLT, Int.reduceBEq, Int.reduceBNe, Nat.reduceBEq, res_one, List.append_nil, Int.toNat_zero, Nat.sub_self, Int.reduceToNat, resRow, res_ro, epRow, ep_one]; refine hk _ ?_; clear hk k; try show Sat _ _ _ _ _)
    refine Sat.adopt 4 39 17 (resRd #[]) rfl ?_
    refine Sat.ret ?_
    simp only [Try.results19, evr, id, reduceCtorEq, reduceIte, Nat.reduceMul, Nat.reduceAdd, Nat.reduceLT, Nat.reduceLeDiff, Nat.reduceEqDiff, Int.reduceLT, Int.reduceBEq, Int.reduceBNe, Nat.reduceBEq, res_one, List.append_nil, Int.toNat_zero, Nat.sub_self, Int.reduceToNat, resRow, res_ro, epRow, ep_one, retN, retNK, newRow]
    have e0 : partL ys a b = [] := if_neg hno
    exact ⟨⟨rfl, rfl, rfl⟩, _, _, ys, ho, by rw [e0]; rfl⟩
  · have hyes : 0 ≤ a ∧ a ≤ b ∧ b ≤ ys.length := by
      apply Classical.byContradiction
      intro hh
      rw [decide_eq_false hh] at h
      cases h
    refine Sat.skip ?_
    simp only [thenK]
    (repeat refine Sat.seq ?_)
    (refine Sat.region_k fun k hk => ?_; simp -implicitDefEqProofs only [evr, id, reduceCtorEq, reduceIte, Nat.reduceMul, Nat.reduceAdd, Nat.reduceLT, Nat.reduceLeDiff, Nat.reduceEqDiff, Int.reduceLT, Int.reduceBEq, Int.reduceBNe, Nat.reduceBEq, res_one, List.append_nil, Int.toNat_zero, Nat.sub_self, Int.reduceToNat, resRow, res_ro, epRow, ep_one])
    refine ⟨by omega, ?_⟩
    have hlen : (partL ys a b).length = b.toNat - a.toNat := by
      unfold partL
      rw [if_pos hyes, List.length_drop, List.length_take]
      omega
    have hcl := cloneC F (if rc = a.toNat then ra else Option.map (fun x => x.add (a.toNat * 17)) ra) (rc - a.toNat) (partL ys a b) (by omega)
    rw [hlen] at hcl
    refine wcall_new (ContractN.of_sim (args := [SV.sl (if rc = a.toNat then ra else Option.map (fun x => x.add (a.toNat * 17)) ra) (b.toNat - a.toNat) (rc - a.toNat) 17 fun i j => resRd ys.toArray (a.toNat + i) j]) hcl ⟨sim_sl (part_rd hyes), trivial⟩) rfl (by simp -implicitDefEqProofs only [evr, id, reduceCtorEq, reduceIte, Nat.reduceMul, Nat.reduceAdd, Nat.reduceLT, Nat.reduceLeDiff, Nat.reduceEqDiff, Int.reduceLT, Int.reduceBEq, Int.reduceBNe, Nat.reduceBEq, res_one, List.append_nil, Int.toNat_zero, Nat.sub_self, Int.reduceToNat, resRow, res_ro, epRow, ep_one]) ?_
    rintro ra2 ty len rc2 sz rrd ⟨a2, c2, e⟩
    simp only [resRow, Own.row.injEq] at e
    obtain ⟨rfl, rfl, rfl, rfl, rfl, rfl⟩ := e
    simp -implicitDefEqProofs only [evr, id, reduceCtorEq, reduceIte, Nat.reduceMul, Nat.reduceAdd, Nat.reduceLT, Nat.reduceLeDiff, Nat.reduceEqDiff, Int.reduceLT, Int.reduceBEq, Int.reduceBNe, Nat.reduceBEq, res_one, List.append_nil, Int.toNat_zero, Nat.sub_self, Int.reduceToNat, resRow, res_ro, epRow, ep_one]
    (refine hk _ ?_; clear hk k; try show Sat _ _ _ _ _)
    refine Sat.ret ?_
    simp only [Try.results19, evr, id, reduceCtorEq, reduceIte, Nat.reduceMul, Nat.reduceAdd, Nat.reduceLT, Nat.reduceLeDiff, Nat.reduceEqDiff, Int.reduceLT, Int.reduceBEq, Int.reduceBNe, Nat.reduceBEq, res_one, List.append_nil, Int.toNat_zero, Nat.sub_self, Int.reduceToNat, resRow, res_ro, epRow, ep_one, retN, retNK, newRow]
    exact ⟨⟨rfl, rfl, rfl⟩, _, _, ys, ho, by rw [hlen]⟩
end Go.Proofs.Ytkpmihaaijiihaa

/- The evaluator: a row of the call's own is read by another reader that yields the same values. -/
set_option linter.unusedSimpArgs false
set_option linter.unusedVariables false
namespace Go.Proofs.Ytkpmihaaijiihaa
namespace Eng
theorem cellsOf_sim {len sz : Nat} {rd rd' : Nat → Nat → SV} (h : ∀ i j, i < len → j < sz → sim (rd i j) (rd' i j)) : cellsOf len sz rd = cellsOf len sz rd' := by
  unfold cellsOf
  apply List.map_congr_left
  intro q hq
  have hq' : q < len * sz := by simpa using hq
  have hz : 0 < sz := by
    rcases Nat.eq_zero_or_pos sz with h0 | h0
    · subst h0; simp at hq'
    · exact h0
  exact (h _ _ ((Nat.div_lt_iff_lt_mul hz).2 hq') (Nat.mod_lt _ hz)).1
theorem Sat.reread {P : Program} {F : Frm} {n : Nat} {env : List (Nat × SV)} {own : List Own} {c : Code} {K : Exit → St → Prop} (id : Nat) {ad : Option Addr} {e len cap sz : Nat} {rd : Nat → Nat → SV} (rd' : Nat → Nat → SV)
    (hid : own[id]? = some (.row ad e len cap sz rd)) (hs : ∀ i j, i < len → j < sz → sim (rd i j) (rd' i j)) (h : Sat P F c ⟨n, env, own.set id (.row ad e len cap sz rd')⟩ K) : Sat P F c ⟨n, env, own⟩ K := by
  rintro R0 w0 a w ⟨ob, R, hr⟩
  refine h R0 w0 a w ⟨ob, R, ?_⟩
  have hidl : id < own.length := (List.getElem?_eq_some_iff.1 hid).1
  have hblk : (Own.row ad e len cap sz rd').blk = (Own.row ad e len cap sz rd).blk := by cases ad <;> rfl
  have hrow := hr.own _ _ hid
  have hok : (Own.row ad e len cap sz rd').ok R ob w := ⟨by rw [← cellsOf_sim hs]; exact hrow.1, hrow.2.1, fun i j hi hj => by
    have h1 := hrow.2.2 i j hi hj
    have h2 := hs i j hi hj
    exact ⟨by rw [← h2.1]; exact h1.1, h2.2 R w h1.2⟩⟩
  refine ⟨hr.defers, hr.env, hr.size, ?_, ?_, hr.evo, hr.inv, hr.obM, ?_, hr.obw, hr.rr, hr.r0⟩
  · intro i x hx
    rw [List.getElem?_set] at hx
    split at hx
    · simp only [hidl, if_true, Option.some.injEq] at hx
      subst hx
      exact hok
    · exact hr.own i x hx
  · intro i j x y hij hx hy b hb1 hb2
    rw [List.getElem?_set] at hx hy
    split at hx <;> split at hy
    · omega
    · rename_i e1 _
      subst e1
      simp only [hidl, if_true, Option.some.injEq] at hx
      subst hx
      exact hr.dist id j _ y hij hid hy b (hblk ▸ hb1) hb2
    · rename_i _ e1
      subst e1
      simp only [hidl, if_true, Option.some.injEq] at hy
      subst hy
      exact hr.dist i id x _ hij hx hid b hb1 (hblk ▸ hb2)
    · exact hr.dist i j x y hij hx hy b hb1 hb2
  · exact gb_set (m := w0.w.heap.size) (Nat.le_refl _) hr.gb hid fun b hb => .inl (hblk ▸ hb)
theorem simA_getD : ∀ {l l' : List SV}, simA l l' → ∀ j, sim (l.getD j default) (l'.getD j default)
  | [], [], _, j => sim_refl _
  | [], _ :: _, h, _ => h.elim
  | _ :: _, [], h, _ => h.elim
  | s :: l, s' :: l', h, 0 => h.1
  | s :: l, s' :: l', h, j + 1 => simA_getD (l := l) (l' := l') h.2 j
theorem sim_tt : sim .tt (.b true) := ⟨rfl, fun _ _ _ => trivial⟩
theorem sim_ff : sim .ff (.b false) := ⟨rfl, fun _ _ _ => trivial⟩
end Eng
end Go.Proofs.Ytkpmihaaijiihaa

/- The example of the chapter, by the evaluator: awake of law 26. -/
set_option linter.unusedSimpArgs false
set_option linter.unusedVariables false
namespace Go.Proofs.Ytkpmihaaijiihaa
open Go.Sort Eng

theorem res_appS {ys : List Res} {x : Res} {cs : List SV} (h : simA cs (Res.cs x)) : ∀ i j, i < ys.length + 1 → j < 17 → sim (rdCat ys.length (resRd ys.toArray) (rdL cs 17) i j) (resRd (ys ++ [x]).toArray i j) := by
  intro i j hi hj
  unfold rdCat
  by_cases e : i < ys.length
  · rw [if_pos e]
    have : resRd ys.toArray i j = resRd (ys ++ [x]).toArray i j := by unfold resRd; simp [getElem!_def, List.getElem?_append, e]
    rw [this]
    exact sim_refl _
  · obtain rfl : i = ys.length := by omega
    rw [if_neg e]
    have e1 : resRd (ys ++ [x]).toArray ys.length j = (Res.cs x).getD j default := by unfold resRd; simp [getElem!_def]
    have e2 : rdL cs 17 (ys.length - ys.length) j = cs.getD j default := by unfold rdL; simp
    rw [e1, e2]
    exact simA_getD h j
def awR (i : Nat) : Res := ⟨0, 0, i, i, 9, 17, 0, 1, true, false, (i : Int) + 1, if i = 2 then 2 else 1, 1, 0, 0, 0, 0⟩
def awL : List Res := [awR 0, awR 1, awR 2]
theorem aw_valid : ∀ r ∈ awL, validR r = true := by decide
theorem aw_asc : Asc awL := by unfold Asc; decide
theorem aw_in : ∀ r ∈ awL, RgR r := by unfold RgR; decide
theorem aw_ord : OrdOf awL awL := .self aw_asc aw_valid
theorem aw_c01 : contraR awL.toArray[0]! awL.toArray[1]! = false := by decide
theorem aw_c02 : contraR awL.toArray[0]! awL.toArray[2]! = true := by decide
theorem aw_bad1 : ¬ Bad (fun i => awL.toArray[i]!) 0 1 := by
  rintro ⟨i, h1, h2, h3⟩
  obtain rfl : i = 0 := by omega
  rw [aw_c01] at h3; cases h3
theorem aw_bad2 : Bad (fun i => awL.toArray[i]!) 0 2 := ⟨0, by omega, by omega, aw_c02⟩
theorem aw_one : oneT awL := by unfold oneT; decide
theorem aw_clash {k : Nat} (h : ClashAt (fun i => awL.toArray[i]!) 3 k) : k = 2 := by
  obtain ⟨h1, h2, h3⟩ := h
  rcases (show k = 0 ∨ k = 1 ∨ k = 2 ∨ k = 3 by omega) with rfl | rfl | rfl | rfl
  · obtain ⟨i, _, h, _⟩ := h3 (by omega); omega
  · exact absurd (h3 (by omega)) aw_bad1
  · rfl
  · exact absurd aw_bad2 (h2 2 (by omega) (by omega))
theorem aw_cuts {l : List (Nat × Nat)} (h : Cuts (fun i => awL.toArray[i]!) 3 l) : l = [(0, 2), (2, 3)] := by
  obtain ⟨h1, h2⟩ := h.spec
  match l with
  | [] => simp [endOf] at h1
  | p :: l =>
    obtain ⟨a1, a2, a3, a4, a5⟩ := h2 0 (by simp)
    simp only [List.getD_cons_zero, endOf, if_true] at a1 a2 a3 a4 a5
    obtain ⟨pa, pb⟩ := p
    simp only at a1 a2 a3 a4 a5
    subst a1
    have hpb : pb = 2 := by
      rcases (show pb = 1 ∨ pb = 2 ∨ pb = 3 by omega) with rfl | rfl | rfl
      · match l with
        | [] => simp [endOf] at h1
        | q :: l => exact absurd (a5 (by simp)) aw_bad1
      · rfl
      · exact absurd aw_bad2 (a4 2 (by omega) (by omega))
    subst hpb
    match l with
    | [] => simp [endOf] at h1
    | q :: l =>
      obtain ⟨b1, b2, b3, b4, b5⟩ := h2 1 (by simp)
      simp only [List.getD_cons_zero, List.getD_cons_succ, endOf] at b1 b2 b3 b4 b5
      obtain ⟨qa, qb⟩ := q
      simp only [Nat.sub_self, List.getD_cons_zero] at b1 b2 b3 b4 b5
      obtain rfl : qa = 2 := by simpa using b1
      obtain rfl : qb = 3 := by omega
      match l with
      | [] => rfl
      | r :: l =>
        obtain ⟨c1, c2, c3, c4, c5⟩ := h2 2 (by simp)
        simp [endOf, List.getD] at c1 c2 c3
        omega
theorem aw_cut {l : List (Nat × Nat)} {e : Int} (h : CutRes awL l e) : l = [(0, 2), (2, 3)] ∧ e = 0 := by
  rcases h with ⟨_, _, x, hx, hv⟩ | ⟨_, ys, ho, h⟩
  · rw [aw_valid x hx] at hv; cases hv
  · obtain rfl := ho.unique aw_ord
    rcases h with ⟨_, _, h⟩ | ⟨_, _, _, h⟩ | ⟨h1, _, _, h⟩
    · exact absurd h (by decide)
    · exact absurd aw_one h
    · exact ⟨aw_cuts h, h1⟩
theorem aw_wit {ys : List Res} {f : Nat → SV} (ho : OrdOf awL ys) (h : WitPost ys f) : f 0 = idL 0 0 0 ∧ f 1 = idL 0 0 2 ∧ f 2 = .b true := by
  obtain rfl := ho.unique aw_ord
  rcases h with ⟨h, _⟩ | ⟨i, k, ⟨h1, h2, h3, h4, h5⟩, e0, e1, e2⟩
  · exact absurd aw_bad2 (h 2 (by omega) (by decide))
  · obtain rfl := aw_clash h3
    have hi : i = 0 := by
      rcases Nat.eq_zero_or_pos i with h | h
      · exact h
      · have := h5 0 h; rw [aw_c02] at this; cases this
    subst hi
    exact ⟨e0, e1, e2⟩
theorem aw_cons {ys : List Res} {b : Bool} (ho : OrdOf awL ys) (h : b = true ↔ consR ys) : b = false := by
  obtain rfl := ho.unique aw_ord
  cases b with
  | false => rfl
  | true => exact absurd aw_bad2 (h.1 rfl 2 (by omega) (by decide))
def awL2 : List Res := [awR 0, awR 1]
theorem aw2_valid : ∀ r ∈ awL2, validR r = true := by decide
theorem aw2_asc : Asc awL2 := by unfold Asc; decide
theorem aw2_in : ∀ r ∈ awL2, RgR r := by unfold RgR; decide
theorem aw2_ord : OrdOf awL2 awL2 := .self aw2_asc aw2_valid
theorem aw2_cons {ys : List Res} {b : Bool} (ho : OrdOf awL2 ys) (h : b = true ↔ consR ys) : b = true := by
  obtain rfl := ho.unique aw2_ord
  refine h.2 ?_
  rintro k h1 h2 ⟨i, g1, g2, g3⟩
  have hk : k < 2 := h2
  obtain rfl : i = 0 := by omega
  obtain rfl : k = 1 := by omega
  exact absurd g3 (by decide)

def awC (i : Nat) : List SV := [SV.i .i64 0, .i .i64 0, .i .i64 i, .i .i64 i, .i .u32 9, .i .i64 17, .i .i64 0, .i .i64 1, .tt, .b false, .i .i64 ((i + 1 : Nat) : Int), .i .u32 (awR i).from_, .i .i64 1, .i .i64 0, .i .i64 0, .i .i64 0, .i .i64 0]
theorem aw_take {i : Nat} (h : i < 3) : awL.take i ++ [awR i] = awL.take (i + 1) := by
  rcases (show i = 0 ∨ i = 1 ∨ i = 2 by omega) with rfl | rfl | rfl <;> rfl
theorem aw_el {i : Nat} (h : i < 3) : rdL [SV.i .u32 1, SV.i .u32 1, SV.i .u32 2] 1 i 0 = .i .u32 (awR i).from_ := by
  rcases (show i = 0 ∨ i = 1 ∨ i = 2 by omega) with rfl | rfl | rfl <;> rfl
def awA (i : Nat) : Int := if i = 2 then 2 else 1
theorem aw_idE (a b c d e f : Int) : aggEq Try.prog 29 3 (fun j => [SV.i .i64 a, SV.i .i64 b, SV.i .i64 c].getD j default) 3 (fun j => [SV.i .i64 d, SV.i .i64 e, SV.i .i64 f].getD j default) = some ([a == d, b == e, c == f].all id) := by kernel_rfl
theorem aw_ep : aggEq Try.prog 57 2 (fun j => epRd [(0, 2), (2, 3)] 1 j) 2 (fun j => [SV.i .i64 2, SV.i .i64 3].getD j default) = some true := by kernel_rfl
theorem aw_id0 : aggEq Try.prog 29 3 (fun j => [SV.i .i64 0, SV.i .i64 0, SV.i .i64 0].getD j default) 3 (fun j => [SV.i .i64 0, SV.i .i64 0, SV.i .i64 0].getD j default) = some true := by kernel_rfl
theorem aw_id2 : aggEq Try.prog 29 3 (fun j => [SV.i .i64 0, SV.i .i64 0, SV.i .i64 2].getD j default) 3 (fun j => [SV.i .i64 0, SV.i .i64 0, SV.i .i64 2].getD j default) = some true := by kernel_rfl
theorem aw_epE (a b d e : Int) : aggEq Try.prog 57 2 (fun j => [SV.i .i64 a, SV.i .i64 b].getD j default) 2 (fun j => [SV.i .i64 d, SV.i .i64 e].getD j default) = some ([a == d, b == e].all id) := by kernel_rfl
set_option maxRecDepth 100000 in
theorem awakeC (F : Frm) : Contract F Try.prog 7 [] (fun r => r = .b true) := by
  refine contract_of Try.func7 rfl (by kernel_rfl) ?_
  simp only [Try.ntmps7, argEnv]
  (repeat refine Sat.seq ?_)
  (refine Sat.region_k fun k hk => ?_; simp -implicitDefEqProofs only [evr, id, reduceCtorEq, reduceIte, Nat.reduceMul, Nat.reduceAdd, Nat.reduceLT, Nat.reduceLeDiff, Nat.reduceEqDiff, Int.reduceLT, Int.reduceBEq, Int.reduceBNe, Nat.reduceBEq, res_one, List.append_nil, Int.toNat_zero, Nat.sub_self, Int.reduceToNat, resRow, res_ro, epRow, ep_one]; refine hk _ ?_; clear hk k; try show Sat _ _ _ _ _)
  (repeat refine Sat.seq ?_)
  (refine Sat.region_k fun k hk => ?_; simp -implicitDefEqProofs only [evr, id, reduceCtorEq, reduceIte, Nat.reduceMul, Nat.reduceAdd, Nat.reduceLT, Nat.reduceLeDiff, Nat.reduceEqDiff, Int.reduceLT, Int.reduceBEq, Int.reduceBNe, Nat.reduceBEq, res_one, List.append_nil, Int.toNat_zero, Nat.sub_self, Int.reduceToNat, resRow, res_ro, epRow, ep_one]; refine hk _ ?_; clear hk k; try show Sat _ _ _ _ _)
  (repeat refine Sat.seq ?_)
  (refine Sat.region_k fun k hk => ?_; simp -implicitDefEqProofs only [evr, id, reduceCtorEq, reduceIte, Nat.reduceMul, Nat.reduceAdd, Nat.reduceLT, Nat.reduceLeDiff, Nat.reduceEqDiff, Int.reduceLT, Int.reduceBEq, Int.reduceBNe, Nat.reduceBEq, res_one, List.append_nil, Int.toNat_zero, Nat.sub_self, Int.reduceToNat, resRow, res_ro, epRow, ep_one])
  intro b9
  (refine hk _ ?_; clear hk k; try show Sat _ _ _ _ _)
  refine Sat.adopt 1 39 17 (resRd #[]) rfl ?_
  refine Sat.settle2 9 rfl rfl ?_
  simp -implicitDefEqProofs only [evr, id, reduceCtorEq, reduceIte, Nat.reduceMul, Nat.reduceAdd, Nat.reduceLT, Nat.reduceLeDiff, Nat.reduceEqDiff, Int.reduceLT, Int.reduceBEq, Int.reduceBNe, Nat.reduceBEq, res_one, List.append_nil, Int.toNat_zero, Nat.sub_self, Int.reduceToNat, resRow, res_ro, epRow, ep_one]
  (repeat refine Sat.seq ?_)
  refine Sat.block ?_
  refine Sat.loop (ι := Nat × Option Addr × Nat) (fun z => ⟨84, [(11, .i .i64 z.1), (10, .i .i64 3), (9, .sl (some ⟨b9, 0, none⟩) 3 3 1 (rdL [.i .u32 1, .i .u32 1, .i .u32 2] 1)), (1, .os 1 z.2.1 z.1 z.2.2)], [.gone, resRow z.2.1 z.1 z.2.2 (awL.take z.1).toArray]⟩)
    (fun z => z.1 ≤ 3) (fun z => 3 - z.1) (0, none, 0) (Nat.zero_le _) (by simp -implicitDefEqProofs only [evr, id, reduceCtorEq, reduceIte, Nat.reduceMul, Nat.reduceAdd, Nat.reduceLT, Nat.reduceLeDiff, Nat.reduceEqDiff, Int.reduceLT, Int.reduceBEq, Int.reduceBNe, Nat.reduceBEq, res_one, List.append_nil, Int.toNat_zero, Nat.sub_self, Int.reduceToNat, resRow, res_ro, epRow, ep_one, evl]; exact ⟨rfl, rfl⟩) ?_
  rintro ⟨i, a, c⟩ hi
  simp only [resRow] at hi ⊢
  (repeat refine Sat.seq ?_)
  (refine Sat.region_k fun k hk => ?_; simp -implicitDefEqProofs only [evr, id, reduceCtorEq, reduceIte, Nat.reduceMul, Nat.reduceAdd, Nat.reduceLT, Nat.reduceLeDiff, Nat.reduceEqDiff, Int.reduceLT, Int.reduceBEq, Int.reduceBNe, Nat.reduceBEq, res_one, List.append_nil, Int.toNat_zero, Nat.sub_self, Int.reduceToNat, resRow, res_ro, epRow, ep_one]; refine hk _ ?_; clear hk k; try show Sat _ _ _ _ _)
  (repeat refine Sat.seq ?_)
  refine Sat.cond_b rfl (fun h => ?_) (fun h => ?_)
  · have h1 : i < 3 := by simp only [decide_eq_true_eq] at h; omega
    have e2 : IntKind.i64.wrap ((i : Int) + 1) = ((i + 1 : Nat) : Int) := by rw [w64 (by omega)]; omega
    refine Sat.skip ?_
    simp only [thenK]
    (repeat refine Sat.seq ?_)
    refine Sat.block ?_
    (repeat refine Sat.seq ?_)
    (refine Sat.region_k fun k hk => ?_; simp -implicitDefEqProofs only [evr, id, reduceCtorEq, reduceIte, Nat.reduceMul, Nat.reduceAdd, Nat.reduceLT, Nat.reduceLeDiff, Nat.reduceEqDiff, Int.reduceLT, Int.reduceBEq, Int.reduceBNe, Nat.reduceBEq, res_one, List.append_nil, Int.toNat_zero, Nat.sub_self, Int.reduceToNat, resRow, res_ro, epRow, ep_one])
    refine ⟨by omega, ?_⟩
    rw [aw_el h1]
    (refine hk _ ?_; clear hk k; try show Sat _ _ _ _ _)
    (repeat refine Sat.seq ?_)
    (refine Sat.region_k fun k hk => ?_; simp -implicitDefEqProofs only [evr, id, reduceCtorEq, reduceIte, Nat.reduceMul, Nat.reduceAdd, Nat.reduceLT, Nat.reduceLeDiff, Nat.reduceEqDiff, Int.reduceLT, Int.reduceBEq, Int.reduceBNe, Nat.reduceBEq, res_one, List.append_nil, Int.toNat_zero, Nat.sub_self, Int.reduceToNat, resRow, res_ro, epRow, ep_one])
    simp only [e2]
    intro b3
    refine ⟨⟨by unfold maxLen; omega, by omega⟩, fun a2 cap2 => ?_⟩
    (refine hk _ ?_; clear hk k; try show Sat _ _ _ _ _)
    have hle : (awL.take i).length = i := by rw [List.length_take]; show min i 3 = i; omega
    refine Sat.reread 1 (resRd (awL.take (i + 1)).toArray) rfl ?_ ?_
    · have e5 := res_appS (ys := awL.take i) (x := awR i) (cs := awC i) ?_
      · rw [hle, aw_take h1] at e5
        exact e5
      · simp only [awC, awR, Res.cs, simA]
        refine ⟨?_, ?_, ?_, ?_, ?_, ?_, ?_, ?_, ?_, ?_, ?_, ?_, ?_, ?_, ?_, ?_, ?_, trivial⟩ <;> first | exact sim_refl _ | exact sim_tt
    simp -implicitDefEqProofs only [evr, id, reduceCtorEq, reduceIte, Nat.reduceMul, Nat.reduceAdd, Nat.reduceLT, Nat.reduceLeDiff, Nat.reduceEqDiff, Int.reduceLT, Int.reduceBEq, Int.reduceBNe, Nat.reduceBEq, res_one, List.append_nil, Int.toNat_zero, Nat.sub_self, Int.reduceToNat, resRow, res_ro, epRow, ep_one]
    refine Sat.region_k fun k hk => ?_
    simp -implicitDefEqProofs only [evr, id, reduceCtorEq, reduceIte, Nat.reduceMul, Nat.reduceAdd, Nat.reduceLT, Nat.reduceLeDiff, Nat.reduceEqDiff, Int.reduceLT, Int.reduceBEq, Int.reduceBNe, Nat.reduceBEq, res_one, List.append_nil, Int.toNat_zero, Nat.sub_self, Int.reduceToNat, resRow, res_ro, epRow, ep_one, e2]
    refine hk _ ?_
    simp only [thenK, blockK]
    refine ⟨(i + 1, a2, cap2), by simp only; omega, by simp only; omega, ?_⟩
    simp -implicitDefEqProofs only [evr, id, reduceCtorEq, reduceIte, Nat.reduceMul, Nat.reduceAdd, Nat.reduceLT, Nat.reduceLeDiff, Nat.reduceEqDiff, Int.reduceLT, Int.reduceBEq, Int.reduceBNe, Nat.reduceBEq, res_one, List.append_nil, Int.toNat_zero, Nat.sub_self, Int.reduceToNat, resRow, res_ro, epRow, ep_one, evl]
  · have h1 : i = 3 := by simp only [decide_eq_false_iff_not] at h; omega
    subst h1
    refine Sat.exit ?_
    simp only [thenK, blockK, reduceIte]
    refine Sat.settle2 1 rfl rfl ?_
    simp -implicitDefEqProofs only [evr, id, reduceCtorEq, reduceIte, Nat.reduceMul, Nat.reduceAdd, Nat.reduceLT, Nat.reduceLeDiff, Nat.reduceEqDiff, Int.reduceLT, Int.reduceBEq, Int.reduceBNe, Nat.reduceBEq, res_one, List.append_nil, Int.toNat_zero, Nat.sub_self, Int.reduceToNat, resRow, res_ro, epRow, ep_one]
    (repeat refine Sat.seq ?_)
    (refine Sat.region_k fun k hk => ?_; simp -implicitDefEqProofs only [evr, id, reduceCtorEq, reduceIte, Nat.reduceMul, Nat.reduceAdd, Nat.reduceLT, Nat.reduceLeDiff, Nat.reduceEqDiff, Int.reduceLT, Int.reduceBEq, Int.reduceBNe, Nat.reduceBEq, res_one, List.append_nil, Int.toNat_zero, Nat.sub_self, Int.reduceToNat, resRow, res_ro, epRow, ep_one])
    have hl3 : awL.length = 3 := rfl
    have ht : awL.take 3 = awL := rfl
    rw [ht]
    refine wcall_slice (cutC F a c awL (by decide) aw_in) rfl (by simp -implicitDefEqProofs only [evr, id, reduceCtorEq, reduceIte, Nat.reduceMul, Nat.reduceAdd, Nat.reduceLT, Nat.reduceLeDiff, Nat.reduceEqDiff, Int.reduceLT, Int.reduceBEq, Int.reduceBNe, Nat.reduceBEq, res_one, List.append_nil, Int.toNat_zero, Nat.sub_self, Int.reduceToNat, resRow, res_ro, epRow, ep_one, hl3]) ?_
    rintro r ⟨ca, cc, l, e, hcut, _, rfl⟩
    obtain ⟨rfl, rfl⟩ := aw_cut hcut
    simp -implicitDefEqProofs only [evr, id, reduceCtorEq, reduceIte, Nat.reduceMul, Nat.reduceAdd, Nat.reduceLT, Nat.reduceLeDiff, Nat.reduceEqDiff, Int.reduceLT, Int.reduceBEq, Int.reduceBNe, Nat.reduceBEq, res_one, List.append_nil, Int.toNat_zero, Nat.sub_self, Int.reduceToNat, resRow, res_ro, epRow, ep_one]
    (refine hk _ ?_; clear hk k; try show Sat _ _ _ _ _)
    (repeat refine Sat.seq ?_)
    (refine Sat.region_k fun k hk => ?_; simp -implicitDefEqProofs only [evr, id, reduceCtorEq, reduceIte, Nat.reduceMul, Nat.reduceAdd, Nat.reduceLT, Nat.reduceLeDiff, Nat.reduceEqDiff, Int.reduceLT, Int.reduceBEq, Int.reduceBNe, Nat.reduceBEq, res_one, List.append_nil, Int.toNat_zero, Nat.sub_self, Int.reduceToNat, resRow, res_ro, epRow, ep_one])
    refine wcall_plain (witnessC F a c awL (by decide) aw_in) (by simp -implicitDefEqProofs only [evr, id, reduceCtorEq, reduceIte, Nat.reduceMul, Nat.reduceAdd, Nat.reduceLT, Nat.reduceLeDiff, Nat.reduceEqDiff, Int.reduceLT, Int.reduceBEq, Int.reduceBNe, Nat.reduceBEq, res_one, List.append_nil, Int.toNat_zero, Nat.sub_self, Int.reduceToNat, resRow, res_ro, epRow, ep_one, hl3]) (by rintro _ ⟨ys, f, _, hf, rfl⟩; exact hf.ok) ?_
    rintro r ⟨ys, f, ho, hf, rfl⟩
    obtain ⟨e0, e1, e2⟩ := aw_wit ho hf
    rw [e0, e1, e2]
    simp only [idL, evr, id, reduceCtorEq, reduceIte, Nat.reduceMul, Nat.reduceAdd, Nat.reduceLT, Nat.reduceLeDiff, Nat.reduceEqDiff, Int.reduceLT, Int.reduceBEq, Int.reduceBNe, Nat.reduceBEq, res_one, List.append_nil, Int.toNat_zero, Nat.sub_self, Int.reduceToNat, resRow, res_ro, epRow, ep_one]
    intro b6 b7
    (refine hk _ ?_; clear hk k; try show Sat _ _ _ _ _)
    (repeat refine Sat.seq ?_)
    (refine Sat.region_tree (.keep [0, 1, 2, 3, 4, 5, 6, 7, 8, 9, 11, 10, 12, 13, 14, 15, 16, 17, 19, 18, 20, 21, 22, 24, 23, 25, 26, 27, 28, 29, 31, 32, 30, 33] [] (.one 34 (.one 35 (.one 36 (.one 37 (.one 38 (.one 39 (.one 40 (.one 41 (.one 42 (.one 43 (.one 44 (.one 45 (.one 46 .done)))))))))))))) (by kernel_rfl) (by kernel_rfl) (fun _ _ h => h) fun k hk => ?_; simp only [WOT, List.map_cons, List.map_nil, List.getD_cons_zero, List.getD_cons_succ]; simp -implicitDefEqProofs only [evr, id, reduceCtorEq, reduceIte, Nat.reduceMul, Nat.reduceAdd, Nat.reduceLT, Nat.reduceLeDiff, Nat.reduceEqDiff, Int.reduceLT, Int.reduceBEq, Int.reduceBNe, Nat.reduceBEq, res_one, List.append_nil, Int.toNat_zero, Nat.sub_self, Int.reduceToNat, resRow, res_ro, epRow, ep_one, WOT])
    have c2 : ((2 : Nat) : Int) = 2 := rfl
    have c3 : ((3 : Nat) : Int) = 3 := rfl
    simp only [c2, c3, hl3, aw_ep, aw_id0, aw_id2, evr, id, reduceCtorEq, reduceIte, Nat.reduceMul, Nat.reduceAdd, Nat.reduceLT, Nat.reduceLeDiff, Nat.reduceEqDiff, Int.reduceLT, Int.reduceBEq, Int.reduceBNe, Nat.reduceBEq, res_one, List.append_nil, Int.toNat_zero, Nat.sub_self, Int.reduceToNat, resRow, res_ro, epRow, ep_one]
    refine ⟨by omega, by omega, by omega, ?_⟩
    refine wcall_plain (contradictC F awL.toArray[0]! awL.toArray[2]!) rfl (by rintro _ rfl; exact ok_plain rfl) ?_
    rintro r rfl
    simp only [aw_c02, evr, id, reduceCtorEq, reduceIte, Nat.reduceMul, Nat.reduceAdd, Nat.reduceLT, Nat.reduceLeDiff, Nat.reduceEqDiff, Int.reduceLT, Int.reduceBEq, Int.reduceBNe, Nat.reduceBEq, res_one, List.append_nil, Int.toNat_zero, Nat.sub_self, Int.reduceToNat, resRow, res_ro, epRow, ep_one]
    refine wcall_plain (consistentC F a c awL (by decide) aw_in) (by simp -implicitDefEqProofs only [evr, id, reduceCtorEq, reduceIte, Nat.reduceMul, Nat.reduceAdd, Nat.reduceLT, Nat.reduceLeDiff, Nat.reduceEqDiff, Int.reduceLT, Int.reduceBEq, Int.reduceBNe, Nat.reduceBEq, res_one, List.append_nil, Int.toNat_zero, Nat.sub_self, Int.reduceToNat, resRow, res_ro, epRow, ep_one, hl3]) (by rintro _ ⟨ys, b, _, _, rfl⟩; exact ok_plain rfl) ?_
    rintro r ⟨ys2, b, ho2, hb, rfl⟩
    obtain rfl := aw_cons ho2 hb
    simp -implicitDefEqProofs only [evr, id, reduceCtorEq, reduceIte, Nat.reduceMul, Nat.reduceAdd, Nat.reduceLT, Nat.reduceLeDiff, Nat.reduceEqDiff, Int.reduceLT, Int.reduceBEq, Int.reduceBNe, Nat.reduceBEq, res_one, List.append_nil, Int.toNat_zero, Nat.sub_self, Int.reduceToNat, resRow, res_ro, epRow, ep_one]
    refine ⟨⟨by omega, by omega, by omega⟩, ?_⟩
    have hc2 := consistentC F (if c = 0 then a else Option.map (fun x => x.add 0) a) (c - 0) awL2 (by decide) aw2_in
    refine wcall_plain (Contract.of_sim (args := [SV.sl (if c = 0 then a else Option.map (fun x => x.add 0) a) (2 - 0) (c - 0) 17 fun i j => resRd awL.toArray i j]) hc2 ⟨sim_sl fun i j hi hj => ?_, trivial⟩) (by simp -implicitDefEqProofs only [evr, id, reduceCtorEq, reduceIte, Nat.reduceMul, Nat.reduceAdd, Nat.reduceLT, Nat.reduceLeDiff, Nat.reduceEqDiff, Int.reduceLT, Int.reduceBEq, Int.reduceBNe, Nat.reduceBEq, res_one, List.append_nil, Int.toNat_zero, Nat.sub_self, Int.reduceToNat, resRow, res_ro, epRow, ep_one]) (by rintro _ ⟨ys, b, _, _, rfl⟩; exact ok_plain rfl) ?_
    · have : i < 2 := hi
      rcases (show i = 0 ∨ i = 1 by omega) with rfl | rfl <;> rfl
    rintro r ⟨ys3, b, ho3, hb, rfl⟩
    obtain rfl := aw2_cons ho3 hb
    simp -implicitDefEqProofs only [evr, id, reduceCtorEq, reduceIte, Nat.reduceMul, Nat.reduceAdd, Nat.reduceLT, Nat.reduceLeDiff, Nat.reduceEqDiff, Int.reduceLT, Int.reduceBEq, Int.reduceBNe, Nat.reduceBEq, res_one, List.append_nil, Int.toNat_zero, Nat.sub_self, Int.reduceToNat, resRow, res_ro, epRow, ep_one]
    (refine hk _ ?_; clear hk k; try show Sat _ _ _ _ _)
    refine Sat.ret ?_
    simp only [Try.results7, evr, id, reduceCtorEq, reduceIte, Nat.reduceMul, Nat.reduceAdd, Nat.reduceLT, Nat.reduceLeDiff, Nat.reduceEqDiff, Int.reduceLT, Int.reduceBEq, Int.reduceBNe, Nat.reduceBEq, res_one, List.append_nil, Int.toNat_zero, Nat.sub_self, Int.reduceToNat, resRow, res_ro, epRow, ep_one]
end Go.Proofs.Ytkpmihaaijiihaa

/- How a slice of integers reads in memory: 'Rd', and a row of integers of the call's own: 'Own'. -/
namespace Go.Proofs.Ytkpmihaaijiihaa
open Go.RowKit

/-- A slice value of elements of kind k (one cell each) reads as the list xs. -/
def Rd (k : IntKind) (w : World) (v : Value) (xs : List Int) : Prop :=
  ∃ ad cap, v = .slice ad xs.length cap ∧ xs.length ≤ cap ∧ cap ≤ maxLen ∧
    (xs.length = 0 ∨ ∃ b off, ad = some ⟨b, off, none⟩ ∧ b < w.heap.size ∧ ∀ i, i < xs.length → w.cell? ⟨b, off + i, none⟩ = some (.int k (xs.getD i 0)))

theorem Rd.nil (k : IntKind) (w : World) : Rd k w (.slice none 0 0) [] := ⟨none, 0, rfl, by simp, by simp [maxLen], .inl rfl⟩

theorem Rd.below {k : IntKind} {w w' : World} {v : Value} {xs : List Int} (h : Rd k w v xs) (hb : Below w.heap.size w w') : Rd k w' v xs := by
  obtain ⟨ad, cap, rfl, h1, h2, h3⟩ := h
  refine ⟨ad, cap, rfl, h1, h2, ?_⟩
  rcases h3 with h3 | ⟨b, off, rfl, hlt, hc⟩
  · exact .inl h3
  · exact .inr ⟨b, off, rfl, Nat.lt_of_lt_of_le hlt hb.size, fun i hi => (hb.cell (p := ⟨b, off + i, none⟩) hlt).trans (hc i hi)⟩

theorem Rd.take {k : IntKind} {w : World} {ad : Option Addr} {cap : Nat} {xs : List Int} (h : Rd k w (.slice ad xs.length cap) xs) (n : Nat) (hn : n ≤ xs.length) : Rd k w (.slice ad n cap) (xs.take n) := by
  obtain ⟨ad', cap', e, h1, h2, h3⟩ := h
  simp only [Value.slice.injEq] at e
  obtain ⟨rfl, _, rfl⟩ := e
  have hl : (xs.take n).length = n := by simp; omega
  refine ⟨ad, cap, by rw [hl], by omega, h2, ?_⟩
  rw [hl]
  rcases h3 with h3 | ⟨b, off, rfl, hlt, hc⟩
  · exact .inl (by omega)
  · refine .inr ⟨b, off, rfl, hlt, fun i hi => ?_⟩
    rw [hc i (by omega)]
    simp [List.getD, hi]

theorem rd_of_ints {k : IntKind} {w : World} {x : Addr} {l c : Nat} {zs : List Int} (hl : l ≤ c) (hm : c ≤ maxLen) (hz : zs.length = c) (hcell : ∀ i, i < zs.length → w.cell? (x.add i) = some (.int k (zs.getD i 0))) : Rd k w (.slice (some x) l c) (zs.take l) := by
  have hlen : (zs.take l).length = l := by simp; omega
  refine ⟨some x, c, by rw [hlen], by omega, hm, ?_⟩
  by_cases h0 : l = 0
  · exact .inl (by omega)
  · obtain ⟨b, off, spot⟩ := x
    have hc := hcell 0 (by omega)
    have hspot : spot = none := by simpa [Addr.add] using World.cell?_spot hc
    subst hspot
    refine .inr ⟨b, off, rfl, World.block_lt_of_cell? w _ hc, fun i hi => ?_⟩
    rw [hlen] at hi
    have := hcell i (by omega)
    rw [Addr.add_lit] at this
    rw [this]
    simp [List.getD, hi]

/-- n elements of type e, one cell each, at the head of block g, not frozen, which hold the numbers xs; g is none of the blocks below B. -/
def Own (k : IntKind) (e : TypeId) (B : Nat) (w : World) (g n : Nat) (xs : List Int) : Prop :=
  w.ownsRow B e 1 (.slice (some ⟨g, 0, none⟩) n n) n (xs.map (Value.int k))

section
variable {k : IntKind} {e : TypeId} {B : Nat} {w : World} {g n : Nat} {xs : List Int}

theorem Own.len (h : Own k e B w g n xs) : xs.length = n := by have := h.1; simpa using this
theorem Own.lt (h : Own k e B w g n xs) : B ≤ g ∧ g < w.heap.size := World.ownsRow.lt h g rfl
theorem Own.cell (h : Own k e B w g n xs) (i : Nat) (hi : i < n) : w.cell? ⟨g, i, none⟩ = some (.int k (xs.getD i 0)) := by
  have hl := h.len
  rw [World.ownsRow.cellAt h i (by omega)]
  simp [List.getD, show i < xs.length by omega]
theorem Own.frozen (h : Own k e B w g n xs) (i : Nat) : w.frozen? ⟨g, i, none⟩ = false := World.ownsRow.frozenAt h i
theorem Own.store (h : Own k e B w g n xs) (i : Nat) (v : Int) : Own k e B (w.setCell ⟨g, i, none⟩ (.int k v)) g n (xs.set i v) := by
  have := (World.ownsRow.stored h i (.int k v)).1
  unfold Own
  rwa [List.map_set]
theorem Own.below {w' : World} (h : Own k e B w g n xs) (hb : Below w.heap.size w w') : Own k e B w' g n xs :=
  World.ownsRow.kept h ⟨hb.os, hb.tape, hb.output, hb.size, fun i hi _ => hb.block i hi⟩ (row := none) (.inr (by simp [Value.ownBlock]))
theorem Own.cap (h : Own k e B w g n xs) : n ≤ maxLen := by
  rcases h.2 with ⟨h, _⟩ | ⟨_, cap, _, h, _, _, hn, hc, _⟩
  · cases h
  · simp only [Value.slice.injEq] at h; omega
theorem Own.rd (h : Own k e B w g n xs) : Rd k w (.slice (some ⟨g, 0, none⟩) n n) xs := by
  have hl := h.len
  refine ⟨some ⟨g, 0, none⟩, n, by rw [hl], by omega, h.cap, ?_⟩
  by_cases h0 : n = 0
  · exact .inl (by omega)
  · exact .inr ⟨g, 0, rfl, h.lt.2, fun i hi => by rw [Nat.zero_add]; exact h.cell i (by omega)⟩
end

theorem bcell {W w1 : World} (hb : Below W.heap.size W w1) : (∀ b o, b < W.heap.size → w1.cell? ⟨b, o, none⟩ = W.cell? ⟨b, o, none⟩) ∧ (∀ b o, b < W.heap.size → w1.frozen? ⟨b, o, none⟩ = W.frozen? ⟨b, o, none⟩) :=
  ⟨fun b o h => hb.cell (p := ⟨b, o, none⟩) h, fun b o h => hb.frozen (p := ⟨b, o, none⟩) h⟩

theorem Below.drewN' (w : World) (n : Nat) : Below w.heap.size w (w.drewN n) := ⟨rfl, rfl, rfl, Nat.le_refl _, fun _ _ => rfl⟩

theorem ret_int {k : IntKind} {a b : Int} (h : a = b) : Ending.returned (.int k a) = .returned (.int k b) := by rw [h]

/-! bits at int -/
theorem ofInt_i64 (a : Nat) (ha : a < 9223372036854775808) : (BitVec.ofInt 64 (a : Int)).toNat = a := by
  rw [BitVec.ofInt_natCast, BitVec.toNat_ofNat]; exact Nat.mod_eq_of_lt (by omega)

theorem and_limb (n : Int) : bits .and .i64 n 1073741823 = n % 1073741824 := by
  show IntKind.i64.wrap ((BitVec.ofInt 64 n &&& BitVec.ofInt 64 1073741823).toNat : Int) = _
  have e : (BitVec.ofInt 64 n &&& BitVec.ofInt 64 1073741823).toNat = (n % 18446744073709551616).toNat % 1073741824 := by
    rw [BitVec.toNat_and, BitVec.toNat_ofInt]
    exact Nat.and_two_pow_sub_one_eq_mod _ 30
  rw [e, IntKind.wrap_i64]
  omega

theorem or_limb (a b : Int) (ha : 0 ≤ a) (ha' : a < 8589934592) (hb : 0 ≤ b) (hb' : b < 1073741824) : bits .or .i64 (a * 1073741824) b = a * 1073741824 + b := by
  obtain ⟨x, rfl⟩ := Int.eq_ofNat_of_zero_le ha
  obtain ⟨y, rfl⟩ := Int.eq_ofNat_of_zero_le hb
  show IntKind.i64.wrap ((BitVec.ofInt 64 ((x : Int) * 1073741824) ||| BitVec.ofInt 64 (y : Int)).toNat : Int) = _
  have e1 : ((x : Int) * 1073741824) = ((x * 1073741824 : Nat) : Int) := by simp
  rw [e1, BitVec.toNat_or, ofInt_i64 _ (by omega), ofInt_i64 _ (by omega)]
  have e2 : x * 1073741824 ||| y = x * 1073741824 + y := nat_join 30 _ _ (by omega) (by omega)
  rw [e2, IntKind.wrap_i64]
  omega
end Go.Proofs.Ytkpmihaaijiihaa

/- From a contract to the walk of a law: bytes that came in. -/
set_option linter.unusedSimpArgs false
set_option linter.unusedVariables false
namespace Go.Proofs.Ytkpmihaaijiihaa
open Go.RowKit Eng

/-- bytes that came in -/
def slB (a : Option Addr) (cap : Nat) (z : List Int) : SV := .sl a z.length cap 1 fun i _ => .i .u8 (z.getD i 0)
theorem slB_of {w : World} {v : Value} {z : List Int} (h : Rd .u8 w v z) : ∃ a cap, v = (slB a cap z).den ∧ (slB a cap z).ok (fun b => b < w.heap.size) w := by
  obtain ⟨ad, cap, rfl, h1, h2, h3⟩ := h
  refine ⟨ad, cap, rfl, h1, h2, ?_⟩
  rcases h3 with h3 | ⟨b, off, rfl, hlt, hc⟩
  · exact .inl h3
  · refine .inr ⟨b, off, rfl, hlt, fun i j hi hj => ?_⟩
    obtain rfl : j = 0 := by omega
    rw [Nat.mul_one]
    exact ⟨hc i hi, rfl, trivial⟩

/-- the call returns true, and what was there is as it was -/
theorem walk_of {P : Program} {f : FuncId} {args : List SV} (h : Contract Frm.nil P f args (fun r => r = .b true)) {w : World} (ha : ∀ s ∈ args, s.ok (fun b => b < w.heap.size) w) :
    Calls P f (args.map SV.den).toArray w fun e w' => e = .returned (.bool true) ∧ Below w.heap.size w w' :=
  (h.calls _ w trivial ha (fun b hb => ⟨hb, fun h => h⟩)).mono fun e w' ⟨r, he, hr, _, hevo, _⟩ => by
    subst hr
    exact ⟨he, ⟨hevo.os, hevo.tape, hevo.output, hevo.size, fun b hb => hevo.block b hb (fun h => h)⟩⟩
end Go.Proofs.Ytkpmihaaijiihaa

/- routescopedraw.Codes: New makes choices; Next gives a number in its range, whatever the codes are. -/
namespace Go.Proofs.Ytkpmihaaijiihaa
open Go.RowKit

/-- Block cb holds choices: a list of codes, and the place of the next one. -/
def Codes (cb : Nat) (w : World) : Prop :=
  ∃ (ad : Option Addr) (n cap p : Nat), w.heap[cb]? = some (.cells #[.slice ad n cap, .int .i64 (p : Int)] 73 (0, 0)) ∧ n ≤ maxLen ∧ p ≤ n ∧
    (n = 0 ∨ ∃ b off, ad = some ⟨b, off, none⟩ ∧ b < cb ∧ ∀ i, i < n → ∃ x : Int, 0 ≤ x ∧ x < 256 ∧ w.cell? ⟨b, off + i, none⟩ = some (.int .u8 x))

theorem Codes.lt {cb : Nat} {w : World} (h : Codes cb w) : cb < w.heap.size := by
  obtain ⟨_, _, _, _, h, _⟩ := h
  exact (Array.getElem?_eq_some_iff.1 h).1

/-- what lies up to block cb is as it was -/
theorem Codes.kept {cb : Nat} {w w' : World} (h : Codes cb w) (hb : ∀ k, k ≤ cb → w'.heap[k]? = w.heap[k]?) : Codes cb w' := by
  obtain ⟨ad, n, cap, p, h1, h2, h3, h4⟩ := h
  refine ⟨ad, n, cap, p, (hb cb (Nat.le_refl _)).trans h1, h2, h3, ?_⟩
  rcases h4 with h4 | ⟨b, off, h5, h6, h8⟩
  · exact .inl h4
  · exact .inr ⟨b, off, h5, h6, fun i hi => let ⟨x, x0, x1, hx⟩ := h8 i hi; ⟨x, x0, x1, (World.cell?_of_block (w := w) (a := ⟨b, off + i, none⟩) (hb b (Nat.le_of_lt h6))).trans hx⟩⟩
theorem Codes.below {cb : Nat} {w w' : World} (h : Codes cb w) (hb : Below w.heap.size w w') : Codes cb w' :=
  h.kept fun k hk => hb.block k (Nat.lt_of_le_of_lt hk h.lt)
/-- a row that lies behind block cb is written -/
theorem Codes.grown {cb : Nat} {w w' : World} {row : Option Nat} (h : Codes cb w) (hg : w.grownBy w' row) (hr : ∀ k, row = some k → cb < k) : Codes cb w' :=
  h.kept fun k hk => hg.block k (Nat.lt_of_le_of_lt hk h.lt) fun e => by have := hr k e.symm; omega

theorem grown_trans {a b c : World} {row : Option Nat} (h : a.grownBy b row) (k : b.grownBy c row) : a.grownBy c row :=
  ⟨k.os.trans h.os, k.tape.trans h.tape, k.output.trans h.output, Nat.le_trans h.size k.size, fun i hi hne => (k.block i (Nat.lt_of_lt_of_le hi h.size) hne).trans (h.block i hi hne)⟩
theorem grown_of_below {a b : World} (h : Below a.heap.size a b) (row : Option Nat) : a.grownBy b row := ⟨h.os, h.tape, h.output, h.size, fun i hi _ => h.block i hi⟩
/-- the same, and then a row of one's own is written -/
theorem grown_own {a b c : World} {row row' : Option Nat} (h : a.grownBy b row) (k : b.grownBy c row') (hr : ∀ i, row' = some i → a.heap.size ≤ i) : a.grownBy c row :=
  ⟨k.os.trans h.os, k.tape.trans h.tape, k.output.trans h.output, Nat.le_trans h.size k.size, fun i hi hne => (k.block i (Nat.lt_of_lt_of_le hi h.size) (fun e => by have := hr i e.symm; omega)).trans (h.block i hi hne)⟩
theorem grown_alloc {a b : World} {row : Option Nat} (h : a.grownBy b row) (o : Obj) : a.grownBy (b.alloc o) row := grown_trans h (World.grownBy_alloc b o row)
/-- a row of one's own is kept while another block turns -/
theorem own_kept {w w' : World} {B cb : Nat} {e : TypeId} {size : Nat} {v : Value} {n : Nat} {xs : List Value} (h : w.ownsRow B e size v n xs) (hg : w.grownBy w' (some cb)) (hcb : cb < B) : w'.ownsRow B e size v n xs := by
  refine h.kept hg ?_
  cases hv : v.ownBlock with
  | none => exact .inl rfl
  | some k => have := (h.lt k hv).1; exact .inr (fun e => by injection e; omega)
theorem grown_drewN {a b : World} {row : Option Nat} (h : a.grownBy b row) (n : Nat) : a.grownBy (b.drewN n) row := ⟨h.os, h.tape, h.output, h.size, h.block⟩
theorem grown_setCell (w : World) (cb o : Nat) (u : Value) : w.grownBy (w.setCell ⟨cb, o, none⟩ u) (some cb) :=
  ⟨rfl, rfl, rfl, by simp [World.setCell], fun i _ hne => Below.heap_setCell w ⟨cb, o, none⟩ u i (fun e => hne (by rw [e]))⟩

/-- choices lie there whichever block of them is advanced -/
theorem Codes.advance {cb : Nat} {w : World} {ad : Option Addr} {n cap p : Nat} (h1 : w.heap[cb]? = some (.cells #[.slice ad n cap, .int .i64 (p : Int)] 73 (0, 0))) (h2 : n ≤ maxLen) (hp : p < n)
    (h4 : n = 0 ∨ ∃ b off, ad = some ⟨b, off, none⟩ ∧ b < cb ∧ ∀ i, i < n → ∃ x : Int, 0 ≤ x ∧ x < 256 ∧ w.cell? ⟨b, off + i, none⟩ = some (.int .u8 x)) :
    Codes cb (w.setCell ⟨cb, 1, none⟩ (.int .i64 ((p : Int) + 1))) := by
  refine ⟨ad, n, cap, p + 1, ?_, h2, hp, ?_⟩
  · rw [heap_setCell_same w cb 1 _ _ _ h1]; simp
  · rcases h4 with h4 | ⟨b, off, h5, h6, h8⟩
    · exact .inl h4
    · refine .inr ⟨b, off, h5, h6, fun i hi => ?_⟩
      obtain ⟨x, x0, x1, hx⟩ := h8 i hi
      refine ⟨x, x0, x1, ?_⟩
      rw [← hx]
      exact World.cell?_of_block (w := w) (Below.heap_setCell w ⟨cb, 1, none⟩ _ b (Nat.ne_of_lt h6))

/-- a number from 0 on, less than n (0 where n is less than 1); the choices have advanced, nothing else has turned -/
def RetNext (cb : Nat) (n : Int) (w : World) (e : Ending) (w' : World) : Prop :=
  ∃ r : Int, e = .returned (.int .i64 r) ∧ 0 ≤ r ∧ (r < n ∨ r = 0) ∧ Codes cb w' ∧ w.grownBy w' (some cb)

set_option maxHeartbeats 1000000 in
theorem next_small (cb : Nat) (n : Int) (w : World) (h : Codes cb w) (hn : n ≤ 256) (hn0 : -9223372036854775808 ≤ n) :
    Calls Try.prog 17 #[.pointer (some ⟨cb, 0, none⟩), .int .i64 n] w (RetNext cb n w) := by
  have hcodes := Lib.hid h
  obtain ⟨ad, l, cap, p, h1, h2, h3, h4⟩ := h
  have h4 := Lib.hid h4
  have c0 : w.cell? ⟨cb, 0, none⟩ = some (.slice ad l cap) := by rw [cell_of_row w cb 0 _ _ _ h1]; rfl
  have c1 : w.cell? ⟨cb, 1, none⟩ = some (.int .i64 (p : Int)) := by rw [cell_of_row w cb 1 _ _ _ h1]; rfl
  have f1 : w.frozen? ⟨cb, 1, none⟩ = false := frozen_of_row w cb 1 _ _ h1
  have H1 := Lib.hid h1
  clear h1
  unfold maxLen at h2
  by_cases hp : l ≤ p
  · have hd : decide (l ≤ p) = true := by simpa using hp
    go_enter Try.func17, Try.ntmps17
    go_wp2
    go_quiet (fail)
    go_wp2
    go_ret
    exact ⟨0, rfl, by omega, .inr rfl, hcodes.out.below (Below.drewN' _ _), grown_of_below (Below.drewN' _ _) _⟩
  · have hd : decide (l ≤ p) = false := by simpa using hp
    by_cases hn1 : n < 1
    · go_enter Try.func17, Try.ntmps17
      go_wp2
      go_quiet (fail)
      go_wp2
      go_ret
      exact ⟨0, rfl, by omega, .inr rfl, hcodes.out.below (Below.drewN' _ _), grown_of_below (Below.drewN' _ _) _⟩
    · have hd1 : decide (n < 1) = false := by simpa using hn1
      obtain ⟨b, off, rfl, hlt, hc⟩ : ∃ b off, ad = some ⟨b, off, none⟩ ∧ b < cb ∧ ∀ i, i < l → ∃ x : Int, 0 ≤ x ∧ x < 256 ∧ w.cell? ⟨b, off + i, none⟩ = some (.int .u8 x) := by
        rcases h4.out with h | h
        · omega
        · exact h
      obtain ⟨x, x0, x1, hx⟩ := hc p (by omega)
      clear hc
      go_enter Try.func17, Try.ntmps17
      go_wp2
      go_quiet (fail)
      go_wp2
      go_quiet (fail)
      go_wp2
      go_ret
      exact ⟨_, rfl, Int.emod_nonneg _ (by omega), .inl (Int.emod_lt_of_pos _ (by omega)), (Codes.advance H1.out (by unfold maxLen; exact h2) (by omega) h4.out).below (Below.drewN' _ _), grown_drewN (grown_setCell _ _ _ _) _⟩

set_option maxHeartbeats 1000000 in
theorem next_calls (cb : Nat) (n : Int) (w : World) (h : Codes cb w) (hn0 : -9223372036854775808 ≤ n) (hn2 : n ≤ 9223372036854775807) :
    Calls Try.prog 17 #[.pointer (some ⟨cb, 0, none⟩), .int .i64 n] w (RetNext cb n w) := by
  by_cases hn : n ≤ 256
  · exact next_small cb n w h hn hn0
  have hcodes := Lib.hid h
  obtain ⟨ad, l, cap, p, h1, h2, h3, h4⟩ := h
  have h4 := Lib.hid h4
  have c0 : w.cell? ⟨cb, 0, none⟩ = some (.slice ad l cap) := by rw [cell_of_row w cb 0 _ _ _ h1]; rfl
  have c1 : w.cell? ⟨cb, 1, none⟩ = some (.int .i64 (p : Int)) := by rw [cell_of_row w cb 1 _ _ _ h1]; rfl
  have f1 : w.frozen? ⟨cb, 1, none⟩ = false := frozen_of_row w cb 1 _ _ h1
  have H1 := Lib.hid h1
  clear h1
  unfold maxLen at h2
  by_cases hp : l ≤ p
  · have hd : decide (l ≤ p) = true := by simpa using hp
    go_enter Try.func17, Try.ntmps17
    go_wp2
    go_quiet (fail)
    go_wp2
    go_ret
    exact ⟨0, rfl, by omega, .inr rfl, hcodes.out.below (Below.drewN' _ _), grown_of_below (Below.drewN' _ _) _⟩
  · have hd : decide (l ≤ p) = false := by simpa using hp
    have hd1 : decide (n < 1) = false := by simp; omega
    obtain ⟨b, off, rfl, hlt, hc⟩ : ∃ b off, ad = some ⟨b, off, none⟩ ∧ b < cb ∧ ∀ i, i < l → ∃ x : Int, 0 ≤ x ∧ x < 256 ∧ w.cell? ⟨b, off + i, none⟩ = some (.int .u8 x) := by
      rcases h4.out with h | h
      · omega
      · exact h
    obtain ⟨x, x0, x1, hx⟩ := hc p (by omega)
    clear hc
    go_enter Try.func17, Try.ntmps17
    go_wp2
    go_quiet (fail)
    go_wp2
    go_quiet (fail)
    go_wp2_with fail
    refine (next_small cb 256 _ ((Codes.advance H1.out (by unfold maxLen; exact h2) (by omega) h4.out).below (Below.drewN' _ _)) (by omega) (by omega)).mono ?_
    rintro e w' ⟨r, rfl, hr0, hr1, hc', hg⟩
    have hr2 : r < 256 := by omega
    clear hr1
    have hg' := grown_trans (grown_drewN (grown_setCell _ _ _ _) _) hg
    clear hg
    go_wp2
    go_ret
    exact ⟨_, rfl, Int.emod_nonneg _ (by omega), .inl (Int.emod_lt_of_pos _ (by omega)), hc', hg'⟩

set_option maxHeartbeats 1000000 in
/-- New makes choices in a new block. -/
theorem new_calls (a : Value) (z : List Int) (w : World) (most : Nat) (h : Rd .u8 w a z) (hz : ∀ n ∈ z, (Lit.int .u8 n).wf = true) (hm : most ≤ 65536) :
    Calls Try.prog 20 #[a, .int .i64 (most : Int)] w fun e w' => e = .returned (.pointer (some ⟨w.heap.size, 0, none⟩)) ∧ Codes w.heap.size w' ∧ Below w.heap.size w w' := by
  obtain ⟨ad, cap, rfl, h1, h2, h3⟩ := h
  have codes : ∀ n, n ≤ z.length → Codes w.heap.size (w.alloc (.cells #[.slice ad n cap, .int .i64 0] 73)) := by
    intro n hn
    refine ⟨ad, n, cap, 0, heap_alloc_new w _, by omega, Nat.zero_le _, ?_⟩
    rcases h3 with h3 | ⟨b, off, rfl, hlt, hc⟩
    · exact .inl (by omega)
    · refine .inr ⟨b, off, rfl, hlt, fun i hi => ⟨z.getD i 0, ?_, ?_, ?_⟩⟩
      · have := bounds_u8 (hz (z.getD i 0) (by simp [List.getD, show i < z.length by omega])); omega
      · have := bounds_u8 (hz (z.getD i 0) (by simp [List.getD, show i < z.length by omega])); omega
      · rw [← hc i (by omega)]
        exact World.cell?_of_block (w := w) (Below.heap_alloc w _ b hlt)
  have bel : ∀ o, Below w.heap.size w (w.alloc o) := fun o => (Below.refl _ _).alloc (Nat.le_refl _) _
  have CD := Lib.hid codes
  have BL := Lib.hid bel
  clear codes bel hz h3
  unfold maxLen at h2
  by_cases hl : (most : Nat) < z.length
  · go_enter Try.func20, Try.ntmps20
    go_wp2
    go_ret
    exact ⟨rfl, CD.out most (by omega), BL.out _⟩
  · go_enter Try.func20, Try.ntmps20
    go_wp2
    go_ret
    exact ⟨rfl, CD.out z.length (by omega), BL.out _⟩
end Go.Proofs.Ytkpmihaaijiihaa

/- Choices, for the evaluator: Next as a contract, Roll as what makes them. -/
set_option linter.unusedSimpArgs false
set_option linter.unusedVariables false
namespace Go.Proofs.Ytkpmihaaijiihaa
open Go.RowKit Eng

/-- the frame of a function that draws choices of block cb -/
def Frm.codes (cb : Nat) : Frm := ⟨fun b => b = cb, fun b => b = cb, Codes cb, fun _ h => h, fun w b h e => by subst e; exact h.lt, fun w w' B h hB hw => h.kept fun k hk => hw k (Nat.lt_of_le_of_lt hk (hB cb rfl))⟩
def ptr (cb : Nat) : SV := .v (.pointer (some ⟨cb, 0, none⟩))

theorem enters_of {P : Program} {f : FuncId} {fn : Func} {c : Code} (hf : P.funcs[f]? = some fn) (hb : fn.body = some c) (hname : (fn.name == "runtime.NumGoroutine") = false) : ∀ vs w, (callFunc f vs).run P w = .ok (.enter f vs) w := by
  intro vs w
  have hn : ¬ fn.name = "runtime.NumGoroutine" := by simpa using hname
  simp [callFunc, hf, hn, hb]

theorem nextC (cb : Nat) (n : Int) (h1 : -9223372036854775808 ≤ n) (h2 : n ≤ 9223372036854775807) : Contract (Frm.codes cb) Try.prog 17 [ptr cb, .i .i64 n] (fun r => ∃ x : Int, r = .i .i64 x ∧ 0 ≤ x ∧ (x < n ∨ x = 0)) := by
  refine ⟨enters_of Try.func17 rfl (by kernel_rfl), fun R w hinv _ hR => ?_⟩
  refine (next_calls cb n w hinv h1 h2).mono ?_
  rintro e w' ⟨r, rfl, hr0, hr1, hc, hg⟩
  exact ⟨.i .i64 r, rfl, ⟨r, rfl, hr0, hr1⟩, trivial, ⟨hg.os, hg.tape, hg.output, hg.size, fun b hb hm => hg.block b hb (fun e => hm (show b = cb by simpa using e))⟩, hc⟩

/-- bytes -/
def isBytes (s : SV) : Prop := ∃ a len cap rd, s = .sl a len cap 1 rd ∧ ∀ i, i < len → ∃ x : Int, 0 ≤ x ∧ x < 256 ∧ rd i 0 = .i .u8 x

theorem new_made (a : Option Addr) (len cap : Nat) (w : World) (most : Nat) (h1 : len ≤ cap) (h2 : cap ≤ maxLen) (hm : most ≤ 65536) :
    Calls Try.prog 20 #[.slice a len cap, .int .i64 (most : Int)] w fun e w' => e = .returned (.pointer (some ⟨w.heap.size, 0, none⟩)) ∧ ∃ n, n ≤ len ∧ w' = w.alloc (.cells #[.slice a n cap, .int .i64 0] 73) := by
  unfold maxLen at h2
  by_cases hl : (most : Nat) < len
  · go_enter Try.func20, Try.ntmps20
    go_wp2
    go_ret
    exact ⟨rfl, most, by omega, rfl⟩
  · go_enter Try.func20, Try.ntmps20
    go_wp2
    go_ret
    exact ⟨rfl, len, by omega, rfl⟩

theorem roll_made (a : Option Addr) (len cap : Nat) (w : World) (h1 : len ≤ cap) (h2 : cap ≤ maxLen) :
    Calls Try.prog 8 #[.slice a len cap] w fun e w' => e = .returned (.pointer (some ⟨w.heap.size, 0, none⟩)) ∧ ∃ n, n ≤ len ∧ w' = w.alloc (.cells #[.slice a n cap, .int .i64 0] 73) := by
  have hc := fun w => new_made a len cap w 400 h1 h2 (by omega)
  have HC := Lib.hid hc
  clear hc h1 h2
  go_enter Try.func8, Try.ntmps8
  go_wp2_with fail
  refine (HC.out _).mono ?_
  rintro e w' ⟨rfl, n, hn, rfl⟩
  go_wp2
  go_ret
  exact ⟨rfl, n, hn, rfl⟩

theorem rollC (s : SV) (hs : isBytes s) : Makes Try.prog 8 [s] (fun cb w => Codes cb w) := by
  obtain ⟨a, len, cap, rd, rfl, hb⟩ := hs
  refine ⟨enters_of Try.func8 rfl (by kernel_rfl), fun R w hargs hR => ?_⟩
  obtain ⟨h1, h2, h3⟩ := hargs _ (List.mem_singleton.2 rfl)
  refine (roll_made a len cap w h1 h2).mono ?_
  rintro e w' ⟨rfl, n, hn, rfl⟩
  refine ⟨rfl, by simp, ⟨rfl, rfl, rfl, by simp, fun b hb _ => heap_alloc_old w _ hb⟩, fun w'' hw'' => ?_⟩
  refine ⟨a, n, cap, 0, (hw'' _ (.inr rfl)).trans (heap_alloc_new w _), by omega, Nat.zero_le _, ?_⟩
  rcases h3 with h3 | ⟨blk, off, rfl, hr, hc⟩
  · exact .inl (by omega)
  · have hlt := hR blk hr
    refine .inr ⟨blk, off, rfl, hlt, fun i hi => ?_⟩
    obtain ⟨x, hx0, hx1, hx⟩ := hb i (by omega)
    have h := (hc i 0 (by omega) (by omega)).1
    rw [hx, Nat.mul_one] at h
    exact ⟨x, hx0, hx1, by rw [World.cell?_of_block (w := w) (a := ⟨blk, off + i, none⟩) ((hw'' blk (.inl hr)).trans (heap_alloc_old w _ hlt))]; exact h⟩
end Go.Proofs.Ytkpmihaaijiihaa

/- Choices: Pick, Bool, Address, by the evaluator. -/
set_option linter.unusedSimpArgs false
set_option linter.unusedVariables false
namespace Go.Proofs.Ytkpmihaaijiihaa
open Eng

set_option maxRecDepth 100000 in
theorem pickC (cb : Nat) (a : Option Addr) (len cap : Nat) (rd : Nat → Nat → SV) (Q : Int → Prop) (h0 : 0 < len) (h1 : len ≤ 1000) (hq : ∀ i, i < len → ∃ x : Int, rd i 0 = .i .i64 x ∧ Q x) :
    Contract (Frm.codes cb) Try.prog 36 [ptr cb, .sl a len cap 1 rd] (fun r => ∃ x : Int, r = .i .i64 x ∧ Q x) := by
  refine contract_of Try.func36 rfl (by kernel_rfl) ?_
  simp only [Try.ntmps36, argEnv, ptr]
  (repeat refine Sat.seq ?_)
  (refine Sat.region_k fun k hk => ?_; simp -implicitDefEqProofs only [evr, id, reduceCtorEq, reduceIte, Nat.reduceMul, Nat.reduceAdd, Nat.reduceLT, Nat.reduceLeDiff, Nat.reduceEqDiff, Int.reduceLT, Int.reduceBEq, Int.reduceBNe, Nat.reduceBEq, ptr]; refine hk _ ?_; clear hk k; try show Sat _ _ _ _ _)
  (repeat refine Sat.seq ?_)
  (refine Sat.region_k fun k hk => ?_; simp -implicitDefEqProofs only [evr, id, reduceCtorEq, reduceIte, Nat.reduceMul, Nat.reduceAdd, Nat.reduceLT, Nat.reduceLeDiff, Nat.reduceEqDiff, Int.reduceLT, Int.reduceBEq, Int.reduceBNe, Nat.reduceBEq, ptr])
  refine wcall_plain (nextC cb len (by omega) (by omega)) rfl (by rintro _ ⟨x, rfl, _⟩; exact ok_plain rfl) ?_
  rintro r ⟨x, rfl, hx0, hx1⟩
  obtain ⟨i, rfl⟩ := Int.eq_ofNat_of_zero_le hx0
  have hi : i < len := by omega
  obtain ⟨y, hy, hQ⟩ := hq i hi
  simp -implicitDefEqProofs only [evr, id, reduceCtorEq, reduceIte, Nat.reduceMul, Nat.reduceAdd, Nat.reduceLT, Nat.reduceLeDiff, Nat.reduceEqDiff, Int.reduceLT, Int.reduceBEq, Int.reduceBNe, Nat.reduceBEq, ptr, hy]
  refine ⟨by omega, ?_⟩
  (refine hk _ ?_; clear hk k; try show Sat _ _ _ _ _)
  refine Sat.ret ?_
  simp only [Try.results36, evr, id, reduceCtorEq, reduceIte, Nat.reduceMul, Nat.reduceAdd, Nat.reduceLT, Nat.reduceLeDiff, Nat.reduceEqDiff, Int.reduceLT, Int.reduceBEq, Int.reduceBNe, Nat.reduceBEq, ptr]
  exact ⟨y, rfl, hQ⟩

theorem pickI (cb blk : Nat) (xs : List Int) (Q : Int → Prop) (h0 : 0 < xs.length) (h1 : xs.length ≤ 1000) (hQ : ∀ x ∈ xs, Q x) :
    Contract (Frm.codes cb) Try.prog 36 [ptr cb, .sl (some ⟨blk, 0, none⟩) xs.length xs.length 1 (rdL (xs.map (SV.i .i64)) 1)] (fun r => ∃ x : Int, r = .i .i64 x ∧ Q x) :=
  pickC cb _ _ _ _ Q h0 h1 fun i hi => ⟨xs.getD i 0, by simp [rdL, List.getD, hi], hQ _ (getD_mem hi)⟩
theorem plain_pick {Q : Int → Prop} (r : SV) (h : ∃ x : Int, r = .i .i64 x ∧ Q x) : ∀ R w, r.ok R w := by
  obtain ⟨x, rfl, _⟩ := h; exact ok_plain rfl
theorem plain_bool (r : SV) (h : ∃ b : Bool, r = .b b) : ∀ R w, r.ok R w := by
  obtain ⟨x, rfl⟩ := h; exact ok_plain rfl
theorem plain_addr (r : SV) (h : ∃ x : Int, r = .i .u32 x) : ∀ R w, r.ok R w := by
  obtain ⟨x, rfl⟩ := h; exact ok_plain rfl

set_option maxRecDepth 100000 in
theorem boolC (cb : Nat) (n : Int) (h1 : 1 ≤ n) (h2 : n ≤ 1000000) : Contract (Frm.codes cb) Try.prog 15 [ptr cb, .i .i64 n] (fun r => ∃ b : Bool, r = .b b) := by
  refine contract_of Try.func15 rfl (by kernel_rfl) ?_
  simp only [Try.ntmps15, argEnv, ptr]
  (repeat refine Sat.seq ?_)
  (refine Sat.region_k fun k hk => ?_; simp -implicitDefEqProofs only [evr, id, reduceCtorEq, reduceIte, Nat.reduceMul, Nat.reduceAdd, Nat.reduceLT, Nat.reduceLeDiff, Nat.reduceEqDiff, Int.reduceLT, Int.reduceBEq, Int.reduceBNe, Nat.reduceBEq, ptr]; refine hk _ ?_; clear hk k; try show Sat _ _ _ _ _)
  (repeat refine Sat.seq ?_)
  (refine Sat.region_k fun k hk => ?_; simp -implicitDefEqProofs only [evr, id, reduceCtorEq, reduceIte, Nat.reduceMul, Nat.reduceAdd, Nat.reduceLT, Nat.reduceLeDiff, Nat.reduceEqDiff, Int.reduceLT, Int.reduceBEq, Int.reduceBNe, Nat.reduceBEq, ptr])
  refine wcall_plain (nextC cb n (by omega) (by omega)) rfl (by rintro _ ⟨x, rfl, _⟩; exact ok_plain rfl) ?_
  rintro r ⟨x, rfl, hx0, hx1⟩
  simp -implicitDefEqProofs only [evr, id, reduceCtorEq, reduceIte, Nat.reduceMul, Nat.reduceAdd, Nat.reduceLT, Nat.reduceLeDiff, Nat.reduceEqDiff, Int.reduceLT, Int.reduceBEq, Int.reduceBNe, Nat.reduceBEq, ptr]
  (refine hk _ ?_; clear hk k; try show Sat _ _ _ _ _)
  refine Sat.ret ?_
  simp only [Try.results15, evr, id, reduceCtorEq, reduceIte, Nat.reduceMul, Nat.reduceAdd, Nat.reduceLT, Nat.reduceLeDiff, Nat.reduceEqDiff, Int.reduceLT, Int.reduceBEq, Int.reduceBNe, Nat.reduceBEq, ptr]
  exact ⟨_, rfl⟩

set_option maxRecDepth 100000 in
theorem addressC (cb : Nat) : Contract (Frm.codes cb) Try.prog 29 [ptr cb] (fun r => ∃ x : Int, r = .i .u32 x) := by
  refine contract_of Try.func29 rfl (by kernel_rfl) ?_
  simp only [Try.ntmps29, argEnv, ptr]
  (repeat refine Sat.seq ?_)
  (refine Sat.region_k fun k hk => ?_; simp -implicitDefEqProofs only [evr, id, reduceCtorEq, reduceIte, Nat.reduceMul, Nat.reduceAdd, Nat.reduceLT, Nat.reduceLeDiff, Nat.reduceEqDiff, Int.reduceLT, Int.reduceBEq, Int.reduceBNe, Nat.reduceBEq, ptr]; refine hk _ ?_; clear hk k; try show Sat _ _ _ _ _)
  (repeat refine Sat.seq ?_)
  (refine Sat.region_k fun k hk => ?_; simp -implicitDefEqProofs only [evr, id, reduceCtorEq, reduceIte, Nat.reduceMul, Nat.reduceAdd, Nat.reduceLT, Nat.reduceLeDiff, Nat.reduceEqDiff, Int.reduceLT, Int.reduceBEq, Int.reduceBNe, Nat.reduceBEq, ptr])
  intro blk
  refine wcall_plain (pickI cb blk [1, 2, 5, 6, 9, 10, 12, 13] (fun _ => True) (by decide) (by decide) (by simp)) (by simp -implicitDefEqProofs only [evr, id, reduceCtorEq, reduceIte, Nat.reduceMul, Nat.reduceAdd, Nat.reduceLT, Nat.reduceLeDiff, Nat.reduceEqDiff, Int.reduceLT, Int.reduceBEq, Int.reduceBNe, Nat.reduceBEq, ptr]) plain_pick ?_
  rintro r ⟨x, rfl, _⟩
  simp -implicitDefEqProofs only [evr, id, reduceCtorEq, reduceIte, Nat.reduceMul, Nat.reduceAdd, Nat.reduceLT, Nat.reduceLeDiff, Nat.reduceEqDiff, Int.reduceLT, Int.reduceBEq, Int.reduceBNe, Nat.reduceBEq, ptr]
  (refine hk _ ?_; clear hk k; try show Sat _ _ _ _ _)
  refine Sat.ret ?_
  simp only [Try.results29, evr, id, reduceCtorEq, reduceIte, Nat.reduceMul, Nat.reduceAdd, Nat.reduceLT, Nat.reduceLeDiff, Nat.reduceEqDiff, Int.reduceLT, Int.reduceBEq, Int.reduceBNe, Nat.reduceBEq, ptr]
  exact ⟨_, rfl⟩
end Go.Proofs.Ytkpmihaaijiihaa

/- Oracles, by the evaluator: dice.Address within its type, dice.Oracle. -/
set_option linter.unusedSimpArgs false
set_option linter.unusedVariables false
namespace Go.Proofs.Ytkpmihaaijiihaa
open Eng

/-- a number that fits an address -/
def InA (x : Int) : Prop := 0 ≤ x ∧ x < 4294967296
/-- a path: a slice of addresses that is only read -/
structure PthP where
  a : Option Addr
  cap : Nat
  p : List Int
instance : Inhabited PthP := ⟨⟨none, 0, []⟩⟩
def adRd (p : List Int) : Nat → Nat → SV := fun i _ => .i .u32 (p.getD i 0)
def PthP.sv (q : PthP) : SV := .sl q.a q.p.length q.cap 1 (adRd q.p)
def psRd (l : List PthP) : Nat → Nat → SV := fun i _ => (l.getD i default).sv
/-- short paths of addresses -/
def PsOk (m : Nat) (l : List PthP) : Prop := ∀ q ∈ l, q.p.length ≤ m ∧ ∀ x ∈ q.p, InA x
theorem ad_app {p : List Int} {x : Int} : rdEq (p.length + 1) 1 (rdCat p.length (adRd p) (rdL [.i .u32 x] 1)) (adRd (p ++ [x])) := by
  refine rdEq_snoc (fun i j hi hj => ?_) (fun j hj => ?_)
  · unfold adRd
    simp [List.getD, List.getElem?_append, hi]
  · obtain rfl : j = 0 := by omega
    unfold adRd
    simp [List.getD]
theorem ps_app {l : List PthP} {q : PthP} {s : SV} (h : s = q.sv) : rdEq (l.length + 1) 1 (rdCat l.length (psRd l) (rdL [s] 1)) (psRd (l ++ [q])) := by
  subst h
  refine rdEq_snoc (fun i j hi hj => ?_) (fun j hj => ?_)
  · unfold psRd
    simp [List.getD, List.getElem?_append, hi]
  · obtain rfl : j = 0 := by omega
    unfold psRd
    simp [List.getD]

theorem wrapA (x : Int) : InA (IntKind.u32.wrap x) := by
  have h : IntKind.u32.wrap x = x % 4294967296 := rfl
  unfold InA
  rw [h]
  omega
set_option maxRecDepth 100000 in
theorem addrC (cb : Nat) : Contract (Frm.codes cb) Try.prog 29 [ptr cb] (fun r => ∃ x : Int, InA x ∧ r = .i .u32 x) := by
  refine contract_of Try.func29 rfl (by kernel_rfl) ?_
  simp only [Try.ntmps29, argEnv, ptr]
  (repeat refine Sat.seq ?_)
  (refine Sat.region_k fun k hk => ?_; simp -implicitDefEqProofs only [evr, id, reduceCtorEq, reduceIte, Nat.reduceMul, Nat.reduceAdd, Nat.reduceLT, Nat.reduceLeDiff, Nat.reduceEqDiff, Int.reduceLT, Int.reduceBEq, Int.reduceBNe, Nat.reduceBEq, ptr, List.append_nil, Int.toNat_zero, Nat.sub_self, Int.reduceToNat, PthP.sv]; refine hk _ ?_; clear hk k; try show Sat _ _ _ _ _)
  (repeat refine Sat.seq ?_)
  (refine Sat.region_k fun k hk => ?_; simp -implicitDefEqProofs only [evr, id, reduceCtorEq, reduceIte, Nat.reduceMul, Nat.reduceAdd, Nat.reduceLT, Nat.reduceLeDiff, Nat.reduceEqDiff, Int.reduceLT, Int.reduceBEq, Int.reduceBNe, Nat.reduceBEq, ptr, List.append_nil, Int.toNat_zero, Nat.sub_self, Int.reduceToNat, PthP.sv])
  intro blk
  refine wcall_plain (pickI cb blk [1, 2, 5, 6, 9, 10, 12, 13] (fun _ => True) (by decide) (by decide) (by simp)) (by simp -implicitDefEqProofs only [evr, id, reduceCtorEq, reduceIte, Nat.reduceMul, Nat.reduceAdd, Nat.reduceLT, Nat.reduceLeDiff, Nat.reduceEqDiff, Int.reduceLT, Int.reduceBEq, Int.reduceBNe, Nat.reduceBEq, ptr, List.append_nil, Int.toNat_zero, Nat.sub_self, Int.reduceToNat, PthP.sv]) plain_pick ?_
  rintro r ⟨x, rfl, _⟩
  simp -implicitDefEqProofs only [evr, id, reduceCtorEq, reduceIte, Nat.reduceMul, Nat.reduceAdd, Nat.reduceLT, Nat.reduceLeDiff, Nat.reduceEqDiff, Int.reduceLT, Int.reduceBEq, Int.reduceBNe, Nat.reduceBEq, ptr, List.append_nil, Int.toNat_zero, Nat.sub_self, Int.reduceToNat, PthP.sv]
  (refine hk _ ?_; clear hk k; try show Sat _ _ _ _ _)
  refine Sat.ret ?_
  simp only [Try.results29, evr, id, reduceCtorEq, reduceIte, Nat.reduceMul, Nat.reduceAdd, Nat.reduceLT, Nat.reduceLeDiff, Nat.reduceEqDiff, Int.reduceLT, Int.reduceBEq, Int.reduceBNe, Nat.reduceBEq, ptr, List.append_nil, Int.toNat_zero, Nat.sub_self, Int.reduceToNat, PthP.sv]
  exact ⟨_, wrapA _, rfl⟩
theorem plain_addrC (r : SV) (h : ∃ x : Int, InA x ∧ r = .i .u32 x) : ∀ R w, r.ok R w := by
  obtain ⟨x, _, rfl⟩ := h; exact ok_plain rfl

set_option maxRecDepth 100000 in
theorem oracleC (cb : Nat) (most wide : Nat) (hm : most ≤ 100) (hw1 : 1 ≤ wide) (hw : wide ≤ 100) :
    Contract (Frm.codes cb) Try.prog 16 [ptr cb, .i .i64 most, .i .i64 wide] (fun r => ∃ (a : Option Addr) (cap : Nat) (l : List PthP) (f : Nat → SV), 1 ≤ l.length ∧ l.length ≤ wide ∧ PsOk most l ∧ r = .agg 2 f ∧ f 0 = .i .u32 167774464 ∧ f 1 = .sl a l.length cap 1 (psRd l)) := by
  refine contract_of Try.func16 rfl (by kernel_rfl) ?_
  simp only [Try.ntmps16, argEnv, ptr]
  (repeat refine Sat.seq ?_)
  (refine Sat.region_k fun k hk => ?_; simp -implicitDefEqProofs only [evr, id, reduceCtorEq, reduceIte, Nat.reduceMul, Nat.reduceAdd, Nat.reduceLT, Nat.reduceLeDiff, Nat.reduceEqDiff, Int.reduceLT, Int.reduceBEq, Int.reduceBNe, Nat.reduceBEq, ptr, List.append_nil, Int.toNat_zero, Nat.sub_self, Int.reduceToNat, PthP.sv])
  intro b6
  (refine hk _ ?_; clear hk k; try show Sat _ _ _ _ _)
  (repeat refine Sat.seq ?_)
  (refine Sat.region_k fun k hk => ?_; simp -implicitDefEqProofs only [evr, id, reduceCtorEq, reduceIte, Nat.reduceMul, Nat.reduceAdd, Nat.reduceLT, Nat.reduceLeDiff, Nat.reduceEqDiff, Int.reduceLT, Int.reduceBEq, Int.reduceBNe, Nat.reduceBEq, ptr, List.append_nil, Int.toNat_zero, Nat.sub_self, Int.reduceToNat, PthP.sv])
  intro b7
  (refine hk _ ?_; clear hk k; try show Sat _ _ _ _ _)
  (repeat refine Sat.seq ?_)
  (refine Sat.region_k fun k hk => ?_; simp -implicitDefEqProofs only [evr, id, reduceCtorEq, reduceIte, Nat.reduceMul, Nat.reduceAdd, Nat.reduceLT, Nat.reduceLeDiff, Nat.reduceEqDiff, Int.reduceLT, Int.reduceBEq, Int.reduceBNe, Nat.reduceBEq, ptr, List.append_nil, Int.toNat_zero, Nat.sub_self, Int.reduceToNat, PthP.sv])
  refine wcall_plain (nextC cb wide (by omega) (by omega)) rfl (by rintro _ ⟨x, rfl, _⟩; exact ok_plain rfl) ?_
  rintro r ⟨x, rfl, hx0, hx1⟩
  obtain ⟨n0, rfl⟩ := Int.eq_ofNat_of_zero_le hx0
  have e1 : IntKind.i64.wrap (1 + (n0 : Int)) = ((n0 + 1 : Nat) : Int) := by rw [w64 (by omega)]; omega
  simp -implicitDefEqProofs only [evr, id, reduceCtorEq, reduceIte, Nat.reduceMul, Nat.reduceAdd, Nat.reduceLT, Nat.reduceLeDiff, Nat.reduceEqDiff, Int.reduceLT, Int.reduceBEq, Int.reduceBNe, Nat.reduceBEq, ptr, List.append_nil, Int.toNat_zero, Nat.sub_self, Int.reduceToNat, PthP.sv, e1]
  (refine hk _ ?_; clear hk k; try show Sat _ _ _ _ _)
  refine Sat.adoptBox 1 1 51 1 (psRd []) rfl rfl ?_
  simp -implicitDefEqProofs only [evr, id, reduceCtorEq, reduceIte, Nat.reduceMul, Nat.reduceAdd, Nat.reduceLT, Nat.reduceLeDiff, Nat.reduceEqDiff, Int.reduceLT, Int.reduceBEq, Int.reduceBNe, Nat.reduceBEq, ptr, List.append_nil, Int.toNat_zero, Nat.sub_self, Int.reduceToNat, PthP.sv]
  (repeat refine Sat.seq ?_)
  refine Sat.block ?_
  refine Sat.loop (ι := Nat × Option Addr × Nat × List PthP) (fun z => ⟨44, [(8, .i .i64 z.1), (7, .op 1 b7 0), (6, .op 0 b6 0), (0, .v (.pointer (some ⟨cb, 0, none⟩))), (1, .i .i64 most), (2, .i .i64 wide)],
      [.box b6 48 [.i .u32 0, .sl none 0 0 0 fun _ _ => .v undef], .box b7 48 [.i .u32 167774464, .os 2 z.2.1 z.2.2.2.length z.2.2.1], .row z.2.1 51 z.2.2.2.length z.2.2.1 1 (psRd z.2.2.2)]⟩)
    (fun z => z.2.2.2.length + z.1 = n0 + 1 ∧ PsOk most z.2.2.2) (fun z => z.1) (n0 + 1, none, 0, []) ⟨by simp, fun q h => by cases h⟩ (by simp -implicitDefEqProofs only [evr, id, reduceCtorEq, reduceIte, Nat.reduceMul, Nat.reduceAdd, Nat.reduceLT, Nat.reduceLeDiff, Nat.reduceEqDiff, Int.reduceLT, Int.reduceBEq, Int.reduceBNe, Nat.reduceBEq, ptr, List.append_nil, Int.toNat_zero, Nat.sub_self, Int.reduceToNat, PthP.sv, evl]; first | rfl | trace_state) ?_
  rintro ⟨k1, a, c, l⟩ ⟨hk1, hl⟩
  simp only at hk1 hl ⊢
  (repeat refine Sat.seq ?_)
  (refine Sat.region_k fun k hk => ?_; simp -implicitDefEqProofs only [evr, id, reduceCtorEq, reduceIte, Nat.reduceMul, Nat.reduceAdd, Nat.reduceLT, Nat.reduceLeDiff, Nat.reduceEqDiff, Int.reduceLT, Int.reduceBEq, Int.reduceBNe, Nat.reduceBEq, ptr, List.append_nil, Int.toNat_zero, Nat.sub_self, Int.reduceToNat, PthP.sv]; refine hk _ ?_; clear hk k; try show Sat _ _ _ _ _)
  (repeat refine Sat.seq ?_)
  refine Sat.cond_b rfl (fun h => ?_) (fun h => ?_)
  · have h0 : 0 < k1 := by simp only [decide_eq_true_eq] at h; omega
    have e2 : IntKind.i64.wrap ((k1 : Int) - 1) = ((k1 - 1 : Nat) : Int) := by rw [w64 (by omega)]; omega
    refine Sat.skip ?_
    simp only [thenK]
    (repeat refine Sat.seq ?_)
    refine Sat.block ?_
    (repeat refine Sat.seq ?_)
    (refine Sat.region_k fun k hk => ?_; simp -implicitDefEqProofs only [evr, id, reduceCtorEq, reduceIte, Nat.reduceMul, Nat.reduceAdd, Nat.reduceLT, Nat.reduceLeDiff, Nat.reduceEqDiff, Int.reduceLT, Int.reduceBEq, Int.reduceBNe, Nat.reduceBEq, ptr, List.append_nil, Int.toNat_zero, Nat.sub_self, Int.reduceToNat, PthP.sv]; refine hk _ ?_; clear hk k; try show Sat _ _ _ _ _)
    (repeat refine Sat.seq ?_)
    have e3 : IntKind.i64.wrap ((most : Int) + 1) = (most : Int) + 1 := by rw [w64 (by omega)]
    (refine Sat.region_k fun k hk => ?_; simp -implicitDefEqProofs only [evr, id, reduceCtorEq, reduceIte, Nat.reduceMul, Nat.reduceAdd, Nat.reduceLT, Nat.reduceLeDiff, Nat.reduceEqDiff, Int.reduceLT, Int.reduceBEq, Int.reduceBNe, Nat.reduceBEq, ptr, List.append_nil, Int.toNat_zero, Nat.sub_self, Int.reduceToNat, PthP.sv])
    refine wcall_plain (nextC cb ((most : Int) + 1) (by omega) (by omega)) (by simp -implicitDefEqProofs only [evr, id, reduceCtorEq, reduceIte, Nat.reduceMul, Nat.reduceAdd, Nat.reduceLT, Nat.reduceLeDiff, Nat.reduceEqDiff, Int.reduceLT, Int.reduceBEq, Int.reduceBNe, Nat.reduceBEq, ptr, List.append_nil, Int.toNat_zero, Nat.sub_self, Int.reduceToNat, PthP.sv, e3]) (by rintro _ ⟨x, rfl, _⟩; exact ok_plain rfl) ?_
    rintro r ⟨y, rfl, hy0, hy1⟩
    obtain ⟨m0, rfl⟩ := Int.eq_ofNat_of_zero_le hy0
    simp -implicitDefEqProofs only [evr, id, reduceCtorEq, reduceIte, Nat.reduceMul, Nat.reduceAdd, Nat.reduceLT, Nat.reduceLeDiff, Nat.reduceEqDiff, Int.reduceLT, Int.reduceBEq, Int.reduceBNe, Nat.reduceBEq, ptr, List.append_nil, Int.toNat_zero, Nat.sub_self, Int.reduceToNat, PthP.sv]
    (refine hk _ ?_; clear hk k; try show Sat _ _ _ _ _)
    refine Sat.adopt 9 35 1 (adRd []) rfl ?_
    (repeat refine Sat.seq ?_)
    refine Sat.block ?_
    refine Sat.loop (ι := Nat × Option Addr × Nat × List Int) (fun z => ⟨44, [(10, .i .i64 z.1), (9, .os 3 z.2.1 z.2.2.2.length z.2.2.1), (8, .i .i64 k1), (7, .op 1 b7 0), (6, .op 0 b6 0), (0, .v (.pointer (some ⟨cb, 0, none⟩))), (1, .i .i64 most), (2, .i .i64 wide)],
        [.box b6 48 [.i .u32 0, .sl none 0 0 0 fun _ _ => .v undef], .box b7 48 [.i .u32 167774464, .os 2 a l.length c], .row a 51 l.length c 1 (psRd l), .row z.2.1 35 z.2.2.2.length z.2.2.1 1 (adRd z.2.2.2)]⟩)
      (fun z => z.2.2.2.length + z.1 = m0 ∧ ∀ x ∈ z.2.2.2, InA x) (fun z => z.1) (m0, none, 0, []) ⟨by simp, fun q h => by cases h⟩ (by simp -implicitDefEqProofs only [evr, id, reduceCtorEq, reduceIte, Nat.reduceMul, Nat.reduceAdd, Nat.reduceLT, Nat.reduceLeDiff, Nat.reduceEqDiff, Int.reduceLT, Int.reduceBEq, Int.reduceBNe, Nat.reduceBEq, ptr, List.append_nil, Int.toNat_zero, Nat.sub_self, Int.reduceToNat, PthP.sv, evl]; first | rfl | trace_state) ?_
    rintro ⟨k2, pa, pc, p⟩ ⟨hk2, hp⟩
    simp only at hk2 hp ⊢
    (repeat refine Sat.seq ?_)
    (refine Sat.region_k fun k hk => ?_; simp -implicitDefEqProofs only [evr, id, reduceCtorEq, reduceIte, Nat.reduceMul, Nat.reduceAdd, Nat.reduceLT, Nat.reduceLeDiff, Nat.reduceEqDiff, Int.reduceLT, Int.reduceBEq, Int.reduceBNe, Nat.reduceBEq, ptr, List.append_nil, Int.toNat_zero, Nat.sub_self, Int.reduceToNat, PthP.sv]; refine hk _ ?_; clear hk k; try show Sat _ _ _ _ _)
    (repeat refine Sat.seq ?_)
    refine Sat.cond_b rfl (fun h => ?_) (fun h => ?_)
    · have h0 : 0 < k2 := by simp only [decide_eq_true_eq] at h; omega
      have e4 : IntKind.i64.wrap ((k2 : Int) - 1) = ((k2 - 1 : Nat) : Int) := by rw [w64 (by omega)]; omega
      refine Sat.skip ?_
      simp only [thenK]
      (repeat refine Sat.seq ?_)
      refine Sat.block ?_
      (repeat refine Sat.seq ?_)
      (refine Sat.region_k fun k hk => ?_; simp -implicitDefEqProofs only [evr, id, reduceCtorEq, reduceIte, Nat.reduceMul, Nat.reduceAdd, Nat.reduceLT, Nat.reduceLeDiff, Nat.reduceEqDiff, Int.reduceLT, Int.reduceBEq, Int.reduceBNe, Nat.reduceBEq, ptr, List.append_nil, Int.toNat_zero, Nat.sub_self, Int.reduceToNat, PthP.sv])
      refine wcall_plain (addrC cb) rfl plain_addrC ?_
      rintro r ⟨y, hy, rfl⟩
      simp -implicitDefEqProofs only [evr, id, reduceCtorEq, reduceIte, Nat.reduceMul, Nat.reduceAdd, Nat.reduceLT, Nat.reduceLeDiff, Nat.reduceEqDiff, Int.reduceLT, Int.reduceBEq, Int.reduceBNe, Nat.reduceBEq, ptr, List.append_nil, Int.toNat_zero, Nat.sub_self, Int.reduceToNat, PthP.sv]
      (refine hk _ ?_; clear hk k; try show Sat _ _ _ _ _)
      (repeat refine Sat.seq ?_)
      (refine Sat.region_k fun k hk => ?_; simp -implicitDefEqProofs only [evr, id, reduceCtorEq, reduceIte, Nat.reduceMul, Nat.reduceAdd, Nat.reduceLT, Nat.reduceLeDiff, Nat.reduceEqDiff, Int.reduceLT, Int.reduceBEq, Int.reduceBNe, Nat.reduceBEq, ptr, List.append_nil, Int.toNat_zero, Nat.sub_self, Int.reduceToNat, PthP.sv])
      refine wcall_plain (boolC cb 7 (by decide) (by decide)) rfl plain_bool ?_
      rintro r ⟨q, rfl⟩
      simp -implicitDefEqProofs only [evr, id, reduceCtorEq, reduceIte, Nat.reduceMul, Nat.reduceAdd, Nat.reduceLT, Nat.reduceLeDiff, Nat.reduceEqDiff, Int.reduceLT, Int.reduceBEq, Int.reduceBNe, Nat.reduceBEq, ptr, List.append_nil, Int.toNat_zero, Nat.sub_self, Int.reduceToNat, PthP.sv]
      (refine hk _ ?_; clear hk k; try show Sat _ _ _ _ _)
      (repeat refine Sat.seq ?_)
      refine Sat.atF (ι := Int) (fun v => ⟨44, [(11, .i .u32 v), (10, .i .i64 k2), (9, .os 3 pa p.length pc), (8, .i .i64 k1), (7, .op 1 b7 0), (6, .op 0 b6 0), (0, .v (.pointer (some ⟨cb, 0, none⟩))), (1, .i .i64 most), (2, .i .i64 wide)],
        [.box b6 48 [.i .u32 0, .sl none 0 0 0 fun _ _ => .v undef], .box b7 48 [.i .u32 167774464, .os 2 a l.length c], .row a 51 l.length c 1 (psRd l), .row pa 35 p.length pc 1 (adRd p)]⟩) InA ?_ ?_
      · refine Sat.cond_b rfl (fun h => ?_) (fun h => ?_)
        · (refine Sat.region_k fun k hk => ?_; simp -implicitDefEqProofs only [evr, id, reduceCtorEq, reduceIte, Nat.reduceMul, Nat.reduceAdd, Nat.reduceLT, Nat.reduceLeDiff, Nat.reduceEqDiff, Int.reduceLT, Int.reduceBEq, Int.reduceBNe, Nat.reduceBEq, ptr, List.append_nil, Int.toNat_zero, Nat.sub_self, Int.reduceToNat, PthP.sv])
          refine hk _ ?_
          simp only [thenK]
          refine ⟨0, ⟨by omega, by omega⟩, ?_⟩
          simp -implicitDefEqProofs only [evr, id, reduceCtorEq, reduceIte, Nat.reduceMul, Nat.reduceAdd, Nat.reduceLT, Nat.reduceLeDiff, Nat.reduceEqDiff, Int.reduceLT, Int.reduceBEq, Int.reduceBNe, Nat.reduceBEq, ptr, List.append_nil, Int.toNat_zero, Nat.sub_self, Int.reduceToNat, PthP.sv, evl]
        · refine Sat.skip ?_
          simp only [thenK]
          refine ⟨y, hy, ?_⟩
          simp -implicitDefEqProofs only [evr, id, reduceCtorEq, reduceIte, Nat.reduceMul, Nat.reduceAdd, Nat.reduceLT, Nat.reduceLeDiff, Nat.reduceEqDiff, Int.reduceLT, Int.reduceBEq, Int.reduceBNe, Nat.reduceBEq, ptr, List.append_nil, Int.toNat_zero, Nat.sub_self, Int.reduceToNat, PthP.sv, evl]
      intro v hv
      simp only [thenK, blockK]
      (repeat refine Sat.seq ?_)
      (refine Sat.region_k fun k hk => ?_; simp -implicitDefEqProofs only [evr, id, reduceCtorEq, reduceIte, Nat.reduceMul, Nat.reduceAdd, Nat.reduceLT, Nat.reduceLeDiff, Nat.reduceEqDiff, Int.reduceLT, Int.reduceBEq, Int.reduceBNe, Nat.reduceBEq, ptr, List.append_nil, Int.toNat_zero, Nat.sub_self, Int.reduceToNat, PthP.sv])
      intro b9
      refine ⟨⟨by unfold maxLen; omega, by omega⟩, fun a2 cap2 => ?_⟩
      (refine hk _ ?_; clear hk k; try show Sat _ _ _ _ _)
      refine Sat.region_k fun k hk => ?_
      simp -implicitDefEqProofs only [evr, id, reduceCtorEq, reduceIte, Nat.reduceMul, Nat.reduceAdd, Nat.reduceLT, Nat.reduceLeDiff, Nat.reduceEqDiff, Int.reduceLT, Int.reduceBEq, Int.reduceBNe, Nat.reduceBEq, ptr, List.append_nil, Int.toNat_zero, Nat.sub_self, Int.reduceToNat, PthP.sv, e4]
      refine hk _ ?_
      simp only [thenK, blockK]
      refine ⟨(k2 - 1, a2, cap2, p ++ [v]), ⟨by simp; omega, fun x hx => ?_⟩, by simp only; omega, ?_⟩
      · rcases List.mem_append.1 hx with h | h
        · exact hp x h
        · simp only [List.mem_singleton] at h; subst h; exact hv
      · simp only [List.length_append, List.length_singleton]
        simp -implicitDefEqProofs only [evr, id, reduceCtorEq, reduceIte, Nat.reduceMul, Nat.reduceAdd, Nat.reduceLT, Nat.reduceLeDiff, Nat.reduceEqDiff, Int.reduceLT, Int.reduceBEq, Int.reduceBNe, Nat.reduceBEq, ptr, List.append_nil, Int.toNat_zero, Nat.sub_self, Int.reduceToNat, PthP.sv, evl]
        exact ad_app
    · have h0 : k2 = 0 := by simp only [decide_eq_false_iff_not] at h; omega
      refine Sat.exit ?_
      simp only [thenK, blockK, reduceIte]
      (repeat refine Sat.seq ?_)
      refine Sat.settle2 9 rfl rfl ?_
      simp -implicitDefEqProofs only [evr, id, reduceCtorEq, reduceIte, Nat.reduceMul, Nat.reduceAdd, Nat.reduceLT, Nat.reduceLeDiff, Nat.reduceEqDiff, Int.reduceLT, Int.reduceBEq, Int.reduceBNe, Nat.reduceBEq, ptr, List.append_nil, Int.toNat_zero, Nat.sub_self, Int.reduceToNat, PthP.sv]
      (refine Sat.region_k fun k hk => ?_; simp -implicitDefEqProofs only [evr, id, reduceCtorEq, reduceIte, Nat.reduceMul, Nat.reduceAdd, Nat.reduceLT, Nat.reduceLeDiff, Nat.reduceEqDiff, Int.reduceLT, Int.reduceBEq, Int.reduceBNe, Nat.reduceBEq, ptr, List.append_nil, Int.toNat_zero, Nat.sub_self, Int.reduceToNat, PthP.sv])
      intro b9
      refine ⟨⟨by unfold maxLen; omega, by omega⟩, fun a2 cap2 => ?_⟩
      (refine hk _ ?_; clear hk k; try show Sat _ _ _ _ _)
      refine Sat.region_k fun k hk => ?_
      simp -implicitDefEqProofs only [evr, id, reduceCtorEq, reduceIte, Nat.reduceMul, Nat.reduceAdd, Nat.reduceLT, Nat.reduceLeDiff, Nat.reduceEqDiff, Int.reduceLT, Int.reduceBEq, Int.reduceBNe, Nat.reduceBEq, ptr, List.append_nil, Int.toNat_zero, Nat.sub_self, Int.reduceToNat, PthP.sv, e2]
      refine hk _ ?_
      simp only [thenK, blockK]
      refine ⟨(k1 - 1, a2, cap2, l ++ [⟨pa, pc, p⟩]), ⟨by simp; omega, fun x hx => ?_⟩, by simp only; omega, ?_⟩
      · rcases List.mem_append.1 hx with h | h
        · exact hl x h
        · simp only [List.mem_singleton] at h; subst h; exact ⟨by simp only; omega, hp⟩
      · simp only [List.length_append, List.length_singleton]
        simp -implicitDefEqProofs only [evr, id, reduceCtorEq, reduceIte, Nat.reduceMul, Nat.reduceAdd, Nat.reduceLT, Nat.reduceLeDiff, Nat.reduceEqDiff, Int.reduceLT, Int.reduceBEq, Int.reduceBNe, Nat.reduceBEq, ptr, List.append_nil, Int.toNat_zero, Nat.sub_self, Int.reduceToNat, PthP.sv, evl]
        exact ps_app rfl
  · have h0 : k1 = 0 := by simp only [decide_eq_false_iff_not] at h; omega
    refine Sat.exit ?_
    simp only [thenK, blockK, reduceIte]
    (repeat refine Sat.seq ?_)
    (refine Sat.region_k fun k hk => ?_; simp -implicitDefEqProofs only [evr, id, reduceCtorEq, reduceIte, Nat.reduceMul, Nat.reduceAdd, Nat.reduceLT, Nat.reduceLeDiff, Nat.reduceEqDiff, Int.reduceLT, Int.reduceBEq, Int.reduceBNe, Nat.reduceBEq, ptr, List.append_nil, Int.toNat_zero, Nat.sub_self, Int.reduceToNat, PthP.sv])
    (refine hk _ ?_; clear hk k; try show Sat _ _ _ _ _)
    refine Sat.ret ?_
    simp only [Try.results16, evr, id, reduceCtorEq, reduceIte, Nat.reduceMul, Nat.reduceAdd, Nat.reduceLT, Nat.reduceLeDiff, Nat.reduceEqDiff, Int.reduceLT, Int.reduceBEq, Int.reduceBNe, Nat.reduceBEq, ptr, List.append_nil, Int.toNat_zero, Nat.sub_self, Int.reduceToNat, PthP.sv]
    refine ⟨a, c, l, _, by omega, by omega, hl, rfl, ?_, ?_⟩
    · simp -implicitDefEqProofs only [evr, id, reduceCtorEq, reduceIte, Nat.reduceMul, Nat.reduceAdd, Nat.reduceLT, Nat.reduceLeDiff, Nat.reduceEqDiff, Int.reduceLT, Int.reduceBEq, Int.reduceBNe, Nat.reduceBEq, ptr, List.append_nil, Int.toNat_zero, Nat.sub_self, Int.reduceToNat, PthP.sv]
    · simp -implicitDefEqProofs only [evr, id, reduceCtorEq, reduceIte, Nat.reduceMul, Nat.reduceAdd, Nat.reduceLT, Nat.reduceLeDiff, Nat.reduceEqDiff, Int.reduceLT, Int.reduceBEq, Int.reduceBNe, Nat.reduceBEq, ptr, List.append_nil, Int.toNat_zero, Nat.sub_self, Int.reduceToNat, PthP.sv]
end Go.Proofs.Ytkpmihaaijiihaa

/- Results of a network whose paths change some times: they have at most as many episodes as there were times without a change (no program in sight). -/
set_option linter.unusedSimpArgs false
set_option linter.unusedVariables false
namespace Go.Proofs.Ytkpmihaaijiihaa
open Eng

/-- bounds of parts without contradictions -/
inductive Steps (g : Nat → Res) : Nat → Nat → Prop
  | zero : Steps g 0 0
  | step {a b p : Nat} : Steps g a p → a ≤ b → Seg g a b → Steps g b (p + 1)
theorem Seg.congr {g g' : Nat → Res} {a b : Nat} (h : Seg g a b) (e : ∀ i, i < b → g i = g' i) : Seg g' a b := by
  intro k h1 h2 ⟨i, h3, h4, h5⟩
  refine h k h1 h2 ⟨i, h3, h4, ?_⟩
  rw [e i (by omega), e k h2]
  exact h5
theorem Steps.congr {g g' : Nat → Res} {a p : Nat} (h : Steps g a p) : (∀ i, i < a → g i = g' i) → Steps g' a p := by
  induction h with
  | zero => exact fun _ => .zero
  | step h hab hs ih => exact fun e => .step (ih fun i hi => e i (by omega)) hab (hs.congr e)
theorem Steps.ahead {g : Nat → Res} {a p : Nat} (h : Steps g a p) : Ahead g a p := by
  induction h with
  | zero => exact .zero g
  | step h hab hs ih => exact ih.step hs

/-- a result of the law -/
def chR (n : Nat) (f ttl : Int) (ans : Bool) (fr kind : Int) : Res := ⟨0, 0, n, 100 * n, 167774464, 17, f, ttl, ans, false, 100 * n + 50, fr, kind, 0, 0, 0, 0⟩
/-- its answer -/
def ChAns (ans : Bool) (fr kind : Int) : Prop := (ans = false ∧ fr = 0 ∧ kind = 0) ∨ (ans = true ∧ InA fr ∧ fr ≠ 0 ∧ (kind = 1 ∨ kind = 3))
theorem chR_valid {n : Nat} {f ttl fr kind : Int} {ans : Bool} (hn : n < 1000) (hf : 0 ≤ f ∧ f ≤ 1) (ht : 1 ≤ ttl ∧ ttl ≤ 4) (ha : ChAns ans fr kind) : validR (chR n f ttl ans fr kind) = true := by
  have h1 : badRange (chR n f ttl ans fr kind) = false := by
    unfold badRange idOk chR
    simp only [Bool.or_eq_false_iff, Bool.not_eq_false', Bool.and_eq_true, decide_eq_true_eq, decide_eq_false_iff_not]
    omega
  have h2 : badProto (chR n f ttl ans fr kind) = false := rfl
  have h3 : badState (chR n f ttl ans fr kind) = false := by
    rcases ha with ⟨rfl, rfl, rfl⟩ | ⟨rfl, _, _, _⟩ <;> rfl
  have h4 : badAnswer (chR n f ttl ans fr kind) = false := by
    rcases ha with ⟨rfl, rfl, rfl⟩ | ⟨rfl, _, _, h⟩
    · rfl
    · rcases h with rfl | rfl <;> rfl
  have h5 : (!ans || (fr != 0)) = true := by
    rcases ha with ⟨rfl, rfl, rfl⟩ | ⟨rfl, _, h, _⟩
    · rfl
    · simpa using h
  have h6 : chk (chR n f ttl ans fr kind) = 0 := by
    unfold chk
    rw [h1, h2, h3, h4]; rfl
  unfold validR
  rw [h6]
  exact h5
theorem chR_in {n : Nat} {f ttl fr kind : Int} {ans : Bool} (ha : ChAns ans fr kind) : RgR (chR n f ttl ans fr kind) := by
  have h : InA fr := by
    rcases ha with ⟨_, rfl, _⟩ | ⟨_, h, _⟩
    · exact ⟨by omega, by omega⟩
    · exact h
  exact ⟨(by decide : w64i 167774464 = 167774464), w64 ⟨by have := h.1; show -9223372036854775808 ≤ fr; omega, by have := h.2; show fr ≤ 9223372036854775807; omega⟩⟩

/-- the answer of paths -/
def ansF (l : List PthP) (f ttl : Int) : Int := let p := (l.getD (f % l.length).toNat default).p; if (p.length : Int) < ttl then 167774464 else p.getD (ttl - 1).toNat 0
/-- what is known while results are made: base results lie ahead of this time -/
structure ChI (y : List Res) (base i : Nat) (l : List PthP) : Prop where
  le : base ≤ y.length
  steps : Steps (fun j => y.toArray[j]!) base i
  each : ∀ j, j < y.length → ∃ f ttl ans fr kind, (0 ≤ f ∧ f ≤ 1) ∧ (1 ≤ ttl ∧ ttl ≤ 4) ∧ ChAns ans fr kind ∧ y.toArray[j]! = chR j f ttl ans fr kind ∧ (base ≤ j → ans = true → fr = ansF l f ttl)
theorem ChI.init (l : List PthP) : ChI [] 0 0 l := ⟨Nat.le_refl _, .zero, fun j h => absurd h (Nat.not_lt_zero _)⟩
theorem getB_app {y : List Res} {r : Res} {j : Nat} (h : j < y.length) : (y ++ [r]).toArray[j]! = y.toArray[j]! := by simp [getElem!_def, List.getElem?_append, h]
theorem getB_new {y : List Res} {r : Res} : (y ++ [r]).toArray[y.length]! = r := by simp [getElem!_def]
theorem ChI.snoc {y : List Res} {base i : Nat} {l : List PthP} (h : ChI y base i l) {f ttl fr kind : Int} {ans : Bool} (hf : 0 ≤ f ∧ f ≤ 1) (ht : 1 ≤ ttl ∧ ttl ≤ 4) (ha : ChAns ans fr kind) (he : ans = true → fr = ansF l f ttl) : ChI (y ++ [chR y.length f ttl ans fr kind]) base i l := by
  refine ⟨by have := h.le; simp; omega, h.steps.congr fun j hj => ?_, fun j hj => ?_⟩
  · have := h.le
    exact (getB_app (by omega)).symm
  · rcases (show j < y.length ∨ j = y.length by simp at hj; omega) with h1 | rfl
    · rw [getB_app h1]; exact h.each j h1
    · rw [getB_new]; exact ⟨f, ttl, ans, fr, kind, hf, ht, ha, rfl, fun _ => he⟩
/-- the paths change -/
theorem ChI.next {y : List Res} {base i : Nat} {l l' : List PthP} (h : ChI y base i l) : ChI y y.length (i + 1) l' := by
  refine ⟨Nat.le_refl _, .step h.steps h.le ?_, fun j hj => ?_⟩
  · rintro k h1 h2 ⟨q, h3, h4, h5⟩
    obtain ⟨f, ttl, ans, fr, kind, _, _, _, e1, e2⟩ := h.each q (by omega)
    obtain ⟨f', ttl', ans', fr', kind', _, _, _, e1', e2'⟩ := h.each k h2
    simp only [e1, e1'] at h5
    obtain ⟨g1, g2, g3, g4⟩ := contraR_iff.1 h5
    have a1 : ans = true := by
      have : (chR q f ttl ans fr kind).answered = true := by unfold placedR at g1; simp only [Bool.and_eq_true] at g1; exact g1.1
      exact this
    have a2 : ans' = true := by
      have : (chR k f' ttl' ans' fr' kind').answered = true := by unfold placedR at g2; simp only [Bool.and_eq_true] at g2; exact g2.1
      exact this
    have b1 := e2 h3 a1
    have b2 := e2' (by omega) a2
    simp only [Res.spot, chR, List.cons.injEq, and_true, true_and] at g3
    apply g4
    show fr = fr'
    rw [b1, b2, g3.1, g3.2]
  · obtain ⟨f, ttl, ans, fr, kind, c1, c2, c3, c4, _⟩ := h.each j hj
    exact ⟨f, ttl, ans, fr, kind, c1, c2, c3, c4, fun hb => by omega⟩
theorem ChI.mem {y : List Res} {base i : Nat} {l : List PthP} (h : ChI y base i l) {r : Res} (hr : r ∈ y) : ∃ j f ttl ans fr kind, j < y.length ∧ (0 ≤ f ∧ f ≤ 1) ∧ (1 ≤ ttl ∧ ttl ≤ 4) ∧ ChAns ans fr kind ∧ r = chR j f ttl ans fr kind := by
  obtain ⟨j, hj, rfl⟩ := List.getElem_of_mem hr
  obtain ⟨f, ttl, ans, fr, kind, c1, c2, c3, c4, _⟩ := h.each j hj
  rw [getB hj] at c4
  exact ⟨j, f, ttl, ans, fr, kind, hj, c1, c2, c3, c4⟩
theorem ChI.inr {y : List Res} {base i : Nat} {l : List PthP} (h : ChI y base i l) : ∀ r ∈ y, RgR r := fun r hr => by
  obtain ⟨j, f, ttl, ans, fr, kind, _, _, _, ha, rfl⟩ := h.mem hr
  exact chR_in ha
theorem ChI.valid {y : List Res} {base i : Nat} {l : List PthP} (h : ChI y base i l) (hn : y.length ≤ 500) : ∀ r ∈ y, validR r = true := fun r hr => by
  obtain ⟨j, f, ttl, ans, fr, kind, hj, hf, ht, ha, rfl⟩ := h.mem hr
  exact chR_valid (by omega) hf ht ha
theorem ChI.asc {y : List Res} {base i : Nat} {l : List PthP} (h : ChI y base i l) : Asc y := by
  refine Asc.of_at ?_
  rw [List.pairwise_iff_getElem]
  intro a b ha hb hab
  obtain ⟨_, _, _, _, _, _, _, _, e1, _⟩ := h.each a ha
  obtain ⟨_, _, _, _, _, _, _, _, e2, _⟩ := h.each b hb
  rw [getB ha] at e1
  rw [getB hb] at e2
  rw [e1, e2]
  show 100 * (a : Int) < 100 * (b : Int)
  omega
theorem ChI.one {y : List Res} {base i : Nat} {l : List PthP} (h : ChI y base i l) : oneT y := fun r hr s hs => by
  obtain ⟨_, _, _, _, _, _, _, _, _, _, rfl⟩ := h.mem hr
  obtain ⟨_, _, _, _, _, _, _, _, _, _, rfl⟩ := h.mem hs
  rfl
/-- at most as many episodes as times -/
theorem ChI.fin {y : List Res} {i : Nat} {l : List PthP} (h : ChI y y.length i l) (hn : y.length ≤ 500) {c : List (Nat × Nat)} {e : Int} (hc : CutRes y c e) : e = 0 ∧ c.length ≤ i := by
  have hv := h.valid hn
  rcases hc with ⟨_, _, x, hx, hxv⟩ | ⟨_, ys, ho, hc⟩
  · rw [hv x hx] at hxv; cases hxv
  · obtain rfl := ho.unique (.self h.asc hv)
    rcases hc with ⟨_, _, h5⟩ | ⟨_, _, _, h5⟩ | ⟨h5, _, _, h6⟩
    · omega
    · exact absurd h.one h5
    · exact ⟨h5, h6.fewest h.steps.ahead⟩
end Go.Proofs.Ytkpmihaaijiihaa

/- The frame of the proof of 'Rows.EpisodeChangesSaid': from the walk of the Go function to the given statement. Written by a program (wip/shell.py). -/
namespace Go.Proofs.Ytkpmihaaijiihaa.episodeChanges
open Go.ChangeShapes Go.WideShapes Go.ChangeAt Go.RowKit
open Go.ChangeMaps (open_string shut_string)
set_option linter.unusedVariables false

theorem own : ownKnob Try.prog.godebug = none := by kernel_rfl
theorem laidOut : laidOutB Try.prog = true := by kernel_rfl

/-- the walk: whatever the input, the call returns true, and what was there is as it was -/
def Walk : Prop := ∀ (a0 : Value) (z0 : List Int) (a1 : Int) (w : World), (Rd .u8 w a0 z0 ∧ ∀ n ∈ z0, (Lit.int .u8 n).wf = true) → (Lit.int .u8 a1).wf = true →
    Calls Try.prog 5 #[a0, .int .u8 a1] w fun e w' => e = .returned (.bool true) ∧ Below w.heap.size w w'

set_option maxRecDepth 100000 in
theorem lifted (walk : Walk) (os : Os) (started : os.Started) (H : Type) (enc : TypeId × Value → H) :
    ReturnsInHanded {} Try.checked os 5 .any (Rows.episodeChangesSpec.pre6 enc Try.prog Try.f5 Rows.episodeChangesRow.domain false) (Rows.episodeChangesSpec.post enc Try.prog Try.f5 false true false false) := by
  refine returnsInHanded_of_change (C := Try.checked) own started (by kernel_rfl) Try.func5
    (ChangeSpec.witness6 (enc := enc) (C := Try.checked) false ⟨#[], #[.slice none 0 0, .int .u8 0], []⟩ 8 (by kernel_rfl) (by kernel_rfl) (by kernel_rfl) (by kernel_rfl)) ?_
  intro W base args ds gs before hval0 hW hcnd _
  have hval : ∀ (j : Nat) t v, Try.f5.params[j]? = some t → args[j]? = some v → Value.okWide Try.prog W .any base t v := hval0
  have hW' := hW
  obtain ⟨p, q, hA0, hV, rfl, hfz, hnd⟩ := hW
  have hA : DataW.TrodAll enc Try.prog W 0 (fun _ => true) true Try.f5.params.toList args.toList ds p := hA0
  rw [Try.params5] at hA hval
  obtain ⟨v0, vs0, d0, ds0, p0, q0, hargs, rfl, rfl, h0, r0⟩ := trodAll_cons hA
  obtain ⟨v1, vs1, d1, ds1, p1, q1, rfl, rfl, rfl, h1, r1⟩ := trodAll_cons r0
  obtain ⟨rfl, rfl, rfl⟩ := trodAll_nil r1
  obtain rfl : args = #[v0, v1] := by cases args; simp_all
  obtain ⟨rfl, rfl⟩ := trodVars_none hV
  obtain ⟨ad0, len0, cap0, rfl⟩ := okWide_slice Try.underlying22 (hval 0 22 v0 rfl rfl)
  have k0 := h0
  have lt0 : ∀ x ∈ p0, x.block < W.heap.size := by obtain ⟨m, hm⟩ := k0; exact DataW.trod_lt m _ _ _ hm
  obtain ⟨z0, w0⟩ : ∃ zs, Rd .u8 W (.slice ad0 len0 cap0) zs ∧ ∀ n ∈ zs, (Lit.int .u8 n).wf = true := by
    obtain ⟨fuel, hf⟩ := h0
    rcases open_ints Try.underlying22 Try.underlying5 (by kernel_rfl) hf with ⟨hcs, _⟩ | ⟨x, l, c, zs, hcs, _, hl, hm, hz, _, hcell, hwz⟩
    · simp [Value.cells] at hcs
      obtain ⟨rfl, rfl, rfl⟩ := hcs
      exact ⟨[], Rd.nil _ _, by simp⟩
    · simp [Value.cells] at hcs
      obtain ⟨rfl, rfl, rfl⟩ := hcs
      exact ⟨zs.take len0, rd_of_ints hl hm hz hcell, fun n hn => hwz n (List.mem_of_mem_take hn)⟩
  obtain ⟨a1, rfl, rfl, rfl, w1⟩ := open_int Try.underlying5 (hval 1 5 v1 rfl rfl) h1
  clear hA0 hval0
  refine (walk _ z0 a1 W w0 w1).mono fun e W' ⟨he, bel⟩ => ?_
  subst he
  exact ⟨_, rfl, _, _, _, [], _, [], hW', trodAll_mk1 (shut_bool Try.underlying4 _), (trodAll_cons_mk (Below.trod laidOut (by kernel_rfl) (of_decide_eq_true (by kernel_rfl)) k0 bel lt0) (trodAll_cons_mk (shut_int Try.underlying5 w1) trodAll_mk0)), rfl, bel.frame _, fun h => by cases h⟩

theorem of_walk (walk : Walk) : Rows.EpisodeChangesSaid :=
  OpenClaim.holds_of_wide 5 Try.f5 rfl rfl rfl rfl rfl rfl rfl ⟨rfl, rfl, rfl, rfl, rfl⟩ rfl rfl rfl rfl rfl (by kernel_rfl) Try.func5 (by kernel_rfl)
    (of_decide_eq_true (by kernel_rfl)) (by unfold Func.isWrapper; first | (rw [if_pos (by decide +kernel)]; kernel_rfl) | (rw [if_neg (by decide +kernel)]; exact ⟨rfl, rfl⟩))
    (fun os started H enc _ => lifted walk os started H enc)
end Go.Proofs.Ytkpmihaaijiihaa.episodeChanges
