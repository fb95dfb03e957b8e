/- slices.Compact and slices.Sort of ints, by the evaluator. -/
import Derived.Test.YtepkbbmjbbnhnaaGreatDoorCmpI
import Derived.Test.YtepkbbmjbbnhnaaGreatDoorPk4
import Derived.Test.YtepkbbmjbbnhnaaGreatDoorShelf
import Derived.Sort.OwnSortedInts
set_option linter.unusedSimpArgs false
set_option linter.unusedVariables false
namespace Go.Proofs.YtepkbbmjbbnhnaaGreatDoor
open Go.Sort Go Eng
def intsA (d : Array Int) : Nat → Nat → SV := fun i _ => .i .i64 d[i]!
theorem int_at (d : Array Int) (i j : Nat) : intsA d i j = .i .i64 d[i]! := rfl
abbrev intRowA (ad : Option Addr) (N cap : Nat) (d : Array Int) : Own := .row ad 3 N cap 1 (intsA d)
def compactI : List Int → List Int
  | [] => []
  | [x] => [x]
  | x :: y :: l => if x = y then compactI (y :: l) else x :: compactI (y :: l)
theorem int_set {d : Array Int} {N k : Nat} (hN : d.size = N) (hk : k < N) (q : Nat) : rdEq N 1 (rdSet (intsA d) k 0 [.i .i64 d[q]!]) (intsA (d.setIfInBounds k d[q]!)) := by
  intro p j hp hj
  obtain rfl : j = 0 := by omega
  unfold rdSet intsA
  by_cases e : p = k
  · subst e
    simp [getElem!_def, hN, hk]
  · simp [e, getElem!_def, Ne.symm e]
theorem int_blk2 {ad : Option Addr} {N N' cap : Nat} (d d' : Array Int) : (intRowA ad N cap d').blk = (intRowA ad N' cap d).blk := by cases ad <;> rfl
theorem compactI_snoc : ∀ (l : List Int) (a b : Int), compactI (l ++ [a, b]) = if a = b then compactI (l ++ [a]) else compactI (l ++ [a]) ++ [b]
  | [], a, b => by by_cases h : a = b <;> simp [compactI, h]
  | [x], a, b => by
    simp only [List.cons_append, List.nil_append, compactI]
    by_cases h1 : x = a <;> by_cases h2 : a = b <;> simp [h1, h2]
  | x :: y :: l, a, b => by
    have ih := compactI_snoc (y :: l) a b
    simp only [List.cons_append] at ih ⊢
    simp only [compactI]
    rw [ih]
    by_cases h1 : x = y <;> by_cases h2 : a = b <;> simp [h1, h2]
theorem compactI_take (d : Array Int) (j : Nat) (h1 : 1 ≤ j) (h2 : j < d.size) : compactI (d.toList.take (j + 1)) = if d[j]! = d[j - 1]! then compactI (d.toList.take j) else compactI (d.toList.take j) ++ [d[j]!] := by
  obtain ⟨q, rfl⟩ : ∃ q, j = q + 1 := ⟨j - 1, by omega⟩
  have hl : q + 1 < d.toList.length := by simpa using h2
  rw [List.take_succ_eq_append_getElem hl, List.take_succ_eq_append_getElem (show q < d.toList.length by omega), List.append_assoc]
  simp only [List.cons_append, List.nil_append, Nat.add_sub_cancel]
  rw [compactI_snoc]
  have e1 : d[q + 1]! = d.toList[q + 1] := by simp [getElem!_def, h2]
  have e2 : d[q]! = d.toList[q] := by simp [getElem!_def, show q < d.size by omega]
  rw [e1, e2]
  by_cases h : d.toList[q] = d.toList[q + 1]
  · rw [if_pos h, if_pos h.symm]
  · rw [if_neg h, if_neg (Ne.symm h)]
set_option maxRecDepth 100000 in
theorem compactIC (F : Frm) (ad : Option Addr) (cap N : Nat) (hN : N ≤ 1000000000000) (d : Array Int) (hd : d.size = N) :
    ContractM F Tryz.prog 71 [.os 0 ad N cap] (intRowA ad N cap d)
      (fun r o1 => r = .os 0 ad (compactI d.toList).length cap ∧ o1 = intRowA ad (compactI d.toList).length cap (compactI d.toList).toArray) := by
  refine contractM_of Tryz.func71 rfl (by kernel_rfl) (by rintro r o1 ⟨_, rfl⟩; exact int_blk2 _ _) ?_
  simp only [Tryz.ntmps71, argEnv]
  refine Sat.know_row 0 rfl fun hcap => ?_
  have same : ∀ {n : Nat} {env : List (Nat × SV)}, compactI d.toList = d.toList → Eng.look env 2 = some (.os 0 ad N cap) → retM Tryz.prog [.tmp 2] (fun r o1 => r = .os 0 ad (compactI d.toList).length cap ∧ o1 = intRowA ad (compactI d.toList).length cap (compactI d.toList).toArray) .ret ⟨n, env, [intRowA ad N cap d]⟩ := by
    intro n env hc hl
    rw [hc]
    simp -implicitDefEqProofs only [evr, id, reduceCtorEq, reduceIte, Nat.reduceMul, Nat.reduceAdd, Nat.reduceLT, Nat.reduceLeDiff, Nat.reduceEqDiff, Int.reduceLT, Int.reduceBEq, Int.reduceBNe, Nat.reduceBEq, intRowA, int_at, hl, evn]
    refine ⟨by simp [okM], _, _, rfl, ?_, ?_⟩
    · simp [hd]
    · simp [hd]
  (repeat refine Sat.seq ?_)
  (refine Sat.region_k fun k hk => ?_; simp -implicitDefEqProofs only [evr, id, reduceCtorEq, reduceIte, Nat.reduceMul, Nat.reduceAdd, Nat.reduceLT, Nat.reduceLeDiff, Nat.reduceEqDiff, Int.reduceLT, Int.reduceBEq, Int.reduceBNe, Nat.reduceBEq, intRowA, int_at, evn]; refine hk _ ?_; clear hk k; try show Sat _ _ _ _ _)
  (repeat refine Sat.seq ?_)
  (refine Sat.region_k fun k hk => ?_; simp -implicitDefEqProofs only [evr, id, reduceCtorEq, reduceIte, Nat.reduceMul, Nat.reduceAdd, Nat.reduceLT, Nat.reduceLeDiff, Nat.reduceEqDiff, Int.reduceLT, Int.reduceBEq, Int.reduceBNe, Nat.reduceBEq, intRowA, int_at, evn]; refine hk _ ?_; clear hk k; try show Sat _ _ _ _ _)
  (repeat refine Sat.seq ?_)
  refine Sat.cond_b rfl (fun h => ?_) (fun h => ?_)
  · have hlt : N < 2 := by simp only [decide_eq_true_eq] at h; omega
    (repeat refine Sat.seq ?_)
    (refine Sat.region_k fun k hk => ?_; simp -implicitDefEqProofs only [evr, id, reduceCtorEq, reduceIte, Nat.reduceMul, Nat.reduceAdd, Nat.reduceLT, Nat.reduceLeDiff, Nat.reduceEqDiff, Int.reduceLT, Int.reduceBEq, Int.reduceBNe, Nat.reduceBEq, intRowA, int_at, evn]; refine hk _ ?_; clear hk k; try show Sat _ _ _ _ _)
    refine Sat.ret ?_
    refine same ?_ rfl
    have hl : d.toList.length < 2 := by simpa [hd] using hlt
    match d.toList, hl with
    | [], _ => rfl
    | [x], _ => rfl
    | _ :: _ :: _, hl => exact absurd hl (by simp only [List.length_cons]; omega)
  · have hge : 2 ≤ N := by simp only [decide_eq_false_iff_not] at h; omega
    refine Sat.skip ?_
    simp only [thenK]
    (repeat refine Sat.seq ?_)
    (refine Sat.region_k fun k hk => ?_; simp -implicitDefEqProofs only [evr, id, reduceCtorEq, reduceIte, Nat.reduceMul, Nat.reduceAdd, Nat.reduceLT, Nat.reduceLeDiff, Nat.reduceEqDiff, Int.reduceLT, Int.reduceBEq, Int.reduceBNe, Nat.reduceBEq, intRowA, int_at, evn]; refine hk _ ?_; clear hk k; try show Sat _ _ _ _ _)
    (repeat refine Sat.seq ?_)
    refine Sat.block ?_
    refine Sat.loop (ι := Nat) (fun i => ⟨61, [(3, .i .i64 i), (0, .os 0 ad N cap)], [intRowA ad N cap d]⟩)
      (fun i => 1 ≤ i ∧ i ≤ N ∧ compactI (d.toList.take i) = d.toList.take i) (fun i => N - i) 1 ⟨Nat.le_refl _, by omega, by
        have hl : d.toList.length = N := by simpa using hd
        match h : d.toList, hl with
        | [], hl => rfl
        | x :: t, hl => rfl⟩ (by simp -implicitDefEqProofs only [evr, id, reduceCtorEq, reduceIte, Nat.reduceMul, Nat.reduceAdd, Nat.reduceLT, Nat.reduceLeDiff, Nat.reduceEqDiff, Int.reduceLT, Int.reduceBEq, Int.reduceBNe, Nat.reduceBEq, intRowA, int_at, evl, evn]; rfl) ?_
    rintro i ⟨hi1, hi2, hi3⟩
    (repeat refine Sat.seq ?_)
    (refine Sat.region_k fun k hk => ?_; simp -implicitDefEqProofs only [evr, id, reduceCtorEq, reduceIte, Nat.reduceMul, Nat.reduceAdd, Nat.reduceLT, Nat.reduceLeDiff, Nat.reduceEqDiff, Int.reduceLT, Int.reduceBEq, Int.reduceBNe, Nat.reduceBEq, intRowA, int_at, evn]; refine hk _ ?_; clear hk k; try show Sat _ _ _ _ _)
    (repeat refine Sat.seq ?_)
    refine Sat.cond_b rfl (fun h => ?_) (fun h => ?_)
    · have h1 : i < N := by simp only [decide_eq_true_eq] at h; omega
      have e2 : IntKind.i64.wrap ((i : Int) - 1) = ((i - 1 : Nat) : Int) := by rw [w64 (by omega)]; omega
      have e3 : IntKind.i64.wrap ((i : Int) + 1) = ((i + 1 : Nat) : Int) := by rw [w64 (by omega)]; omega
      have hct := compactI_take d i hi1 (by omega)
      refine Sat.skip ?_
      simp only [thenK]
      (repeat refine Sat.seq ?_)
      refine Sat.block ?_
      (repeat refine Sat.seq ?_)
      refine Sat.region_qk (by kernel_rfl) (by kernel_rfl) fun k hk => ?_
      simp -implicitDefEqProofs only [evr, id, reduceCtorEq, reduceIte, Nat.reduceMul, Nat.reduceAdd, Nat.reduceLT, Nat.reduceLeDiff, Nat.reduceEqDiff, Int.reduceLT, Int.reduceBEq, Int.reduceBNe, Nat.reduceBEq, intRowA, int_at, e2, evn]
      refine ⟨by omega, by omega, by omega, by omega, ?_⟩
      (refine hk _ ?_; clear hk k; try show Sat _ _ _ _ _)
      (repeat refine Sat.seq ?_)
      refine Sat.cond_b rfl (fun h3 => ?_) (fun h3 => ?_)
      · simp only [beq_iff_eq] at h3
        rw [if_pos h3, hi3] at hct
        (repeat refine Sat.seq ?_)
        (refine Sat.region_k fun k hk => ?_; simp -implicitDefEqProofs only [evr, id, reduceCtorEq, reduceIte, Nat.reduceMul, Nat.reduceAdd, Nat.reduceLT, Nat.reduceLeDiff, Nat.reduceEqDiff, Int.reduceLT, Int.reduceBEq, Int.reduceBNe, Nat.reduceBEq, intRowA, int_at, evn])
        refine ⟨by omega, ?_⟩
        (refine hk _ ?_; clear hk k; try show Sat _ _ _ _ _)
        (repeat refine Sat.seq ?_)
        (refine Sat.region_k fun k hk => ?_; simp -implicitDefEqProofs only [evr, id, reduceCtorEq, reduceIte, Nat.reduceMul, Nat.reduceAdd, Nat.reduceLT, Nat.reduceLeDiff, Nat.reduceEqDiff, Int.reduceLT, Int.reduceBEq, Int.reduceBNe, Nat.reduceBEq, intRowA, int_at, evn]; refine hk _ ?_; clear hk k; try show Sat _ _ _ _ _)
        (repeat refine Sat.seq ?_)
        refine Sat.block ?_
        refine Sat.loop (ι := Nat × Nat × Array Int) (fun x => ⟨61, [(3, .i .i64 x.1), (5, .i .i64 x.2.1), (0, .os 0 ad N cap), (4, .ow 0 ad 1 i (N - i) (cap - i))], [intRowA ad N cap x.2.2]⟩)
          (fun x => 1 ≤ x.2.1 ∧ x.2.1 ≤ N - i ∧ x.1 ≤ i + x.2.1 - 1 ∧ x.2.2.size = N ∧ (∀ q, i + x.2.1 - 1 ≤ q → x.2.2[q]! = d[q]!) ∧ x.2.2.toList.take x.1 = compactI (d.toList.take (i + x.2.1))) (fun x => N - x.2.1) (i, 1, d) ⟨Nat.le_refl _, by show 1 ≤ N - i; omega, by show i ≤ i + 1 - 1; omega, hd, fun _ _ => rfl, hct.symm⟩ (by simp -implicitDefEqProofs only [evr, id, reduceCtorEq, reduceIte, Nat.reduceMul, Nat.reduceAdd, Nat.reduceLT, Nat.reduceLeDiff, Nat.reduceEqDiff, Int.reduceLT, Int.reduceBEq, Int.reduceBNe, Nat.reduceBEq, intRowA, int_at, evl, evn]; first | rfl | exact ⟨rfl, rfl⟩) ?_
        rintro ⟨w, r, d2⟩ ⟨hr1, hr2, hw, hd2, hq, ht⟩
        simp only at hr1 hr2 hw hd2 hq ht ⊢
        (repeat refine Sat.seq ?_)
        (refine Sat.region_k fun k hk => ?_; simp -implicitDefEqProofs only [evr, id, reduceCtorEq, reduceIte, Nat.reduceMul, Nat.reduceAdd, Nat.reduceLT, Nat.reduceLeDiff, Nat.reduceEqDiff, Int.reduceLT, Int.reduceBEq, Int.reduceBNe, Nat.reduceBEq, intRowA, int_at, evn]; refine hk _ ?_; clear hk k; try show Sat _ _ _ _ _)
        (repeat refine Sat.seq ?_)
        refine Sat.cond_b rfl (fun h => ?_) (fun h => ?_)
        · have h1 : r < N - i := by simp only [decide_eq_true_eq] at h; omega
          have e4 : IntKind.i64.wrap ((r : Int) - 1) = ((r - 1 : Nat) : Int) := by rw [w64 (by omega)]; omega
          have e5 : IntKind.i64.wrap ((r : Int) + 1) = ((r + 1 : Nat) : Int) := by rw [w64 (by omega)]; omega
          have e6 : IntKind.i64.wrap ((w : Int) + 1) = ((w + 1 : Nat) : Int) := by rw [w64 (by omega)]; omega
          have hct2 := compactI_take d (i + r) (by omega) (by omega)
          have q1 := hq (i + r) (by omega)
          have q2 := hq (i + r - 1) (by omega)
          have hsz : d2.toList.length = N := by simpa using hd2
          refine Sat.skip ?_
          simp only [thenK]
          (repeat refine Sat.seq ?_)
          refine Sat.block ?_
          (repeat refine Sat.seq ?_)
          refine Sat.region_qk (by kernel_rfl) (by kernel_rfl) fun k hk => ?_
          simp -implicitDefEqProofs only [evr, id, reduceCtorEq, reduceIte, Nat.reduceMul, Nat.reduceAdd, Nat.reduceLT, Nat.reduceLeDiff, Nat.reduceEqDiff, Int.reduceLT, Int.reduceBEq, Int.reduceBNe, Nat.reduceBEq, intRowA, int_at, e4, evn]
          refine ⟨⟨by omega, by omega⟩, by omega, by omega, ⟨by omega, by omega⟩, by omega, by omega, ?_⟩
          (refine hk _ ?_; clear hk k; try show Sat _ _ _ _ _)
          (repeat refine Sat.seq ?_)
          refine Sat.cond_b rfl (fun h4 => ?_) (fun h4 => ?_)
          · simp only [bne_iff_ne, ne_eq] at h4
            rw [show i + (r - 1) = i + r - 1 by omega, q1, q2] at h4
            rw [if_neg h4] at hct2
            (repeat refine Sat.seq ?_)
            (refine Sat.region_k fun k hk => ?_; simp -implicitDefEqProofs only [evr, id, reduceCtorEq, reduceIte, Nat.reduceMul, Nat.reduceAdd, Nat.reduceLT, Nat.reduceLeDiff, Nat.reduceEqDiff, Int.reduceLT, Int.reduceBEq, Int.reduceBNe, Nat.reduceBEq, intRowA, int_at, evn])
            refine ⟨⟨by omega, by omega⟩, by omega, by omega, by omega, by omega, ?_⟩
            (refine hk _ ?_; clear hk k; try show Sat _ _ _ _ _)
            (repeat refine Sat.seq ?_)
            refine Sat.region_k fun k hk => ?_
            simp -implicitDefEqProofs only [evr, id, reduceCtorEq, reduceIte, Nat.reduceMul, Nat.reduceAdd, Nat.reduceLT, Nat.reduceLeDiff, Nat.reduceEqDiff, Int.reduceLT, Int.reduceBEq, Int.reduceBNe, Nat.reduceBEq, intRowA, int_at, e6, evn]
            refine hk _ ?_
            simp only [thenK, blockK]
            (repeat refine Sat.seq ?_)
            refine Sat.region_k fun k hk => ?_
            simp -implicitDefEqProofs only [evr, id, reduceCtorEq, reduceIte, Nat.reduceMul, Nat.reduceAdd, Nat.reduceLT, Nat.reduceLeDiff, Nat.reduceEqDiff, Int.reduceLT, Int.reduceBEq, Int.reduceBNe, Nat.reduceBEq, intRowA, int_at, e5, evn]
            refine hk _ ?_
            simp only [thenK, blockK]
            refine ⟨(w + 1, r + 1, d2.setIfInBounds w d2[i + r]!), ⟨by simp only; omega, by simp only; omega, by simp only; omega, by simp [hd2], fun q hq' => ?_, ?_⟩, by show N - (r + 1) < N - r; omega, ?_⟩
            · have hne : w ≠ q := by simp only at hq'; omega
              have := hq q (by simp only at hq'; omega)
              rw [← this]
              simp [getElem!_def, hne]
            · show (d2.setIfInBounds w d2[i + r]!).toList.take (w + 1) = compactI (d.toList.take (i + (r + 1)))
              rw [← Nat.add_assoc, hct2, ← ht, q1, Array.toList_setIfInBounds, List.take_succ_eq_append_getElem (by simp; omega), List.take_set_of_le (Nat.le_refl _)]
              simp
            · simp -implicitDefEqProofs only [evr, id, reduceCtorEq, reduceIte, Nat.reduceMul, Nat.reduceAdd, Nat.reduceLT, Nat.reduceLeDiff, Nat.reduceEqDiff, Int.reduceLT, Int.reduceBEq, Int.reduceBNe, Nat.reduceBEq, intRowA, int_at, evl, evn]
              exact int_set hd2 (by omega) _
          · simp only [bne_eq_false_iff_eq] at h4
            rw [show i + (r - 1) = i + r - 1 by omega, q1, q2] at h4
            rw [if_pos h4] at hct2
            refine Sat.skip ?_
            simp only [thenK, blockK]
            refine Sat.region_k fun k hk => ?_
            simp -implicitDefEqProofs only [evr, id, reduceCtorEq, reduceIte, Nat.reduceMul, Nat.reduceAdd, Nat.reduceLT, Nat.reduceLeDiff, Nat.reduceEqDiff, Int.reduceLT, Int.reduceBEq, Int.reduceBNe, Nat.reduceBEq, intRowA, int_at, e5, evn]
            refine hk _ ?_
            simp only [thenK, blockK]
            refine ⟨(w, r + 1, d2), ⟨by simp only; omega, by simp only; omega, by simp only; omega, hd2, fun q hq' => hq q (by simp only at hq'; omega), ?_⟩, by show N - (r + 1) < N - r; omega, ?_⟩
            · show d2.toList.take w = compactI (d.toList.take (i + (r + 1)))
              rw [← Nat.add_assoc, hct2, ht]
            · simp -implicitDefEqProofs only [evr, id, reduceCtorEq, reduceIte, Nat.reduceMul, Nat.reduceAdd, Nat.reduceLT, Nat.reduceLeDiff, Nat.reduceEqDiff, Int.reduceLT, Int.reduceBEq, Int.reduceBNe, Nat.reduceBEq, intRowA, int_at, evl, evn]
        · have h1 : r = N - i := by simp only [decide_eq_false_iff_not] at h; omega
          subst h1
          have hsz : d2.toList.length = N := by simpa using hd2
          have hfin : compactI d.toList = d2.toList.take w := by rw [ht, List.take_of_length_le (by simp [hd]; omega)]
          have hlen : (compactI d.toList).length = w := by rw [hfin, List.length_take]; omega
          refine Sat.exit ?_
          simp only [thenK, blockK, reduceIte]
          (repeat refine Sat.seq ?_)
          (refine Sat.region_k fun k hk => ?_; simp -implicitDefEqProofs only [evr, id, reduceCtorEq, reduceIte, Nat.reduceMul, Nat.reduceAdd, Nat.reduceLT, Nat.reduceLeDiff, Nat.reduceEqDiff, Int.reduceLT, Int.reduceBEq, Int.reduceBNe, Nat.reduceBEq, intRowA, int_at, evn])
          refine ⟨by omega, ⟨by omega, by omega⟩, ?_⟩
          (refine hk _ ?_; clear hk k; try show Sat _ _ _ _ _)
          (repeat refine Sat.seq ?_)
          (refine Sat.region_k fun k hk => ?_; simp -implicitDefEqProofs only [evr, id, reduceCtorEq, reduceIte, Nat.reduceMul, Nat.reduceAdd, Nat.reduceLT, Nat.reduceLeDiff, Nat.reduceEqDiff, Int.reduceLT, Int.reduceBEq, Int.reduceBNe, Nat.reduceBEq, intRowA, int_at, evn])
          refine ⟨by omega, ?_⟩
          (refine hk _ ?_; clear hk k; try show Sat _ _ _ _ _)
          refine Sat.le (st' := ⟨61, [(2, .os 0 ad w cap)], [intRowA ad w cap (d2.toList.take w).toArray]⟩) ?_ ?_
          · refine Sat.ret ?_
            rw [hlen, hfin]
            simp only [Tryz.results71, evr, id, reduceCtorEq, reduceIte, Nat.reduceMul, Nat.reduceAdd, Nat.reduceLT, Nat.reduceLeDiff, Nat.reduceEqDiff, Int.reduceLT, Int.reduceBEq, Int.reduceBNe, Nat.reduceBEq, List.append_nil, Int.toNat_zero, Nat.sub_self, intRowA, int_at]
            exact ⟨rfl, _, _, rfl, rfl⟩
          · simp -implicitDefEqProofs only [evr, id, reduceCtorEq, reduceIte, Nat.reduceMul, Nat.reduceAdd, Nat.reduceLT, Nat.reduceLeDiff, Nat.reduceEqDiff, Int.reduceLT, Int.reduceBEq, Int.reduceBNe, Nat.reduceBEq, intRowA, int_at, evl, evn]
            intro p q hp hq'
            unfold rdCat
            rw [if_pos hp]
            unfold intsA
            simp [getElem!_def, List.getElem?_take, hp]
      · simp only [beq_eq_false_iff_ne, ne_eq] at h3
        rw [if_neg h3, hi3] at hct
        refine Sat.skip ?_
        simp only [thenK, blockK]
        refine Sat.region_k fun k hk => ?_
        simp -implicitDefEqProofs only [evr, id, reduceCtorEq, reduceIte, Nat.reduceMul, Nat.reduceAdd, Nat.reduceLT, Nat.reduceLeDiff, Nat.reduceEqDiff, Int.reduceLT, Int.reduceBEq, Int.reduceBNe, Nat.reduceBEq, intRowA, int_at, e3, evn]
        refine hk _ ?_
        simp only [thenK, blockK]
        refine ⟨i + 1, ⟨by omega, by omega, ?_⟩, by omega, ?_⟩
        · rw [hct, List.take_succ_eq_append_getElem (by simp [hd]; omega)]
          simp [getElem!_def, hd, h1]
        · simp -implicitDefEqProofs only [evr, id, reduceCtorEq, reduceIte, Nat.reduceMul, Nat.reduceAdd, Nat.reduceLT, Nat.reduceLeDiff, Nat.reduceEqDiff, Int.reduceLT, Int.reduceBEq, Int.reduceBNe, Nat.reduceBEq, intRowA, int_at, evl, evn]
    · have h1 : i = N := by simp only [decide_eq_false_iff_not] at h; omega
      subst h1
      refine Sat.exit ?_
      simp only [thenK, blockK, reduceIte]
      (repeat refine Sat.seq ?_)
      (refine Sat.region_k fun k hk => ?_; simp -implicitDefEqProofs only [evr, id, reduceCtorEq, reduceIte, Nat.reduceMul, Nat.reduceAdd, Nat.reduceLT, Nat.reduceLeDiff, Nat.reduceEqDiff, Int.reduceLT, Int.reduceBEq, Int.reduceBNe, Nat.reduceBEq, intRowA, int_at, evn]; refine hk _ ?_; clear hk k; try show Sat _ _ _ _ _)
      refine Sat.ret ?_
      refine same ?_ rfl
      rwa [List.take_of_length_le (by simp [hd])] at hi3
/-! ### slices.Sort -/
theorem row_tk {w : World} {B e n cap : Nat} {g : Nat} {rd : Nat → Nat → SV} {zs : List Int} (hz : zs.length = n) (hrd : ∀ i, i < n → rd i 0 = .i .i64 (zs.getD i 0)) : cellsOf n 1 rd = zs.map (Value.int .i64) := by
  apply List.ext_getElem
  · simp [cellsOf, hz]
  · intro i h1 h2
    have hi : i < n := by simpa [cellsOf] using h1
    simp only [cellsOf, List.getElem_map, List.getElem_range, Nat.div_one, Nat.mod_one, hrd i hi, SV.den]
    simp [List.getD, hz, hi]
def sortI (zs : List Int) : List Int := zs.mergeSort fun x y => decide (x ≤ y)
theorem sortI_len (zs : List Int) : (sortI zs).length = zs.length := List.length_mergeSort zs
theorem sortIC (F : Frm) (ad : Option Addr) (cap : Nat) (zs : List Int) (h0 : 0 < zs.length) (hsz : zs.length ≤ 1000000000) :
    ContractM F Tryz.prog 70 [.os 0 ad zs.length cap] (intRowA ad zs.length cap zs.toArray) (fun r o1 => r = .tup 0 (fun _ => default) ∧ o1 = intRowA ad zs.length cap (sortI zs).toArray) := by
  have hf : Tryz.prog.funcs[70]? = some Tryz.f70 := Tryz.func70
  refine ⟨fun vs w => ?_, fun R w ob hinv hobM hobw ho0 hargs hR => ?_⟩
  · have hn : ¬ Tryz.f70.name = "runtime.NumGoroutine" := by
      have : (Tryz.f70.name == "runtime.NumGoroutine") = false := by kernel_rfl
      simpa using this
    have hb : ∃ c, Tryz.f70.body = some c := ⟨_, rfl⟩
    obtain ⟨c, hb⟩ := hb
    simp [callFunc, hf, hn, hb]
  · have hrd : ∀ i, i < zs.length → intsA zs.toArray i 0 = .i .i64 (zs.getD i 0) := fun i hi => by simp [intsA, getElem!_def, List.getD, hi]
    obtain ⟨ho, hnR, hc⟩ := ho0
    rcases ho.2 with ⟨hv, h9⟩ | ⟨g, cap', cur, hv, hbg, hg, hn, hcm, hcs, ht⟩
    · omega
    simp only [Value.slice.injEq] at hv
    obtain ⟨rfl, _, rfl⟩ := hv
    have hcells := row_tk (w := w) (B := ob) (e := 0) (cap := cap) (g := g) rfl hrd
    rw [Nat.mul_one] at ht hcs
    rw [hcells] at ht
    have hH := holds_of_blockI hg ht
    have hgl : g < w.heap.size := (Array.getElem?_eq_some_iff.1 hg).1
    refine (Tryz.slices_Sort_int g 0 cap zs w hH hgl (by omega)).mono ?_
    rintro e w' ⟨rfl, n, os, rfl⟩
    have hgr := grownBy_sortedI (w := w) (g := g) (n := n) (os := os) (sortI zs).toArray
    have hown := ownsRow_sortedI (w := w) (base := ob) (g := g) (cap := cap) (n := n) (os := os) (ss := zs) (ts := sortI zs) (sortI_len zs) hbg hg hn hcm (by omega)
    refine ⟨.tup 0 (fun _ => default), _, R, rfl, ⟨rfl, rfl⟩, fun _ h => h, fun _ h => .inl h, fun j hj => absurd hj (Nat.not_lt_zero _), fun b hb => hb, ⟨?_, hnR, fun i j hi hj => ⟨rfl, trivial⟩⟩, ⟨hgr.os, hgr.tape, hgr.output, hgr.size, fun b hb hm => hgr.block b hb (fun h9 => hm (.inr h9.symm))⟩, ?_⟩
    · have hrd2 : ∀ i, i < zs.length → intsA (sortI zs).toArray i 0 = .i .i64 ((sortI zs).getD i 0) := fun i hi => by
        have := sortI_len zs
        simp [intsA, getElem!_def, List.getD, this, hi]
      rw [row_tk (w := w) (B := ob) (e := 0) (cap := cap) (g := g) (sortI_len zs) hrd2]
      exact hown
    · exact F.stab w _ ob hinv hobM fun b hb => hgr.block b (by omega) (fun h9 => by simp only [Option.some.injEq] at h9; omega)
end Go.Proofs.YtepkbbmjbbnhnaaGreatDoor
