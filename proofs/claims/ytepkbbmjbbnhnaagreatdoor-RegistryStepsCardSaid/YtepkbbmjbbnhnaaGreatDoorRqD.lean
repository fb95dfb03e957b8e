/- The reference of law 32: Sorted, by the evaluator. -/
import Derived.Test.YtepkbbmjbbnhnaaGreatDoorRqM
import Derived.Test.YtepkbbmjbbnhnaaGreatDoorTimE
set_option linter.unusedSimpArgs false
set_option linter.unusedVariables false
namespace Go.Proofs.YtepkbbmjbbnhnaaGreatDoor
open Go.Sort Eng
theorem ints_ins (ys : List Int) (k : Nat) (x : Int) (hk : k ≤ ys.length) :
    rdEq (ys.length + 1) 1 (rdSet (rdMove (k + 1) k (ys.length - k) (rdCat ys.length (intsA ys.toArray) (rdL [.i .i64 0] 1))) k 0 [.i .i64 x]) (intsA (insN ys k x).toArray) := by
  intro i j hi hj
  obtain rfl : j = 0 := by omega
  have hl := insN_len (l := ys) (k := k) (x := x) hk
  show _ = SV.i .i64 ((insN ys k x).toArray[i]!)
  rw [intsA_getD (insN ys k x) i (by omega), insN_get hk]
  unfold rdSet rdMove rdCat rdOff
  by_cases e : i = k
  · subst e
    rw [if_pos ⟨rfl, Nat.zero_le _, by simp⟩, if_neg (Nat.lt_irrefl _), if_pos rfl]
    rfl
  · rw [if_neg (fun h => e h.1), if_neg e]
    by_cases h : i < k
    · rw [if_pos (show i < k + 1 by omega), if_pos (show i < ys.length by omega), if_pos h]
      show SV.i .i64 (ys.toArray[i]!) = _
      rw [intsA_getD ys i (by omega)]
    · rw [if_neg (show ¬ i < k + 1 by omega), if_pos (show i - (k + 1) < ys.length - k by omega), if_neg h]
      show (if k + (i - (k + 1)) < ys.length then intsA ys.toArray (k + (i - (k + 1))) 0 else _) = _
      rw [if_pos (show k + (i - (k + 1)) < ys.length by omega)]
      show SV.i .i64 (ys.toArray[k + (i - (k + 1))]!) = _
      rw [intsA_getD ys _ (by omega), show k + (i - (k + 1)) = i - 1 by omega]
set_option maxRecDepth 100000 in
theorem refSortedC (F : Frm) (ad : Option Addr) (cap : Nat) (ls : List Int) (hn : ls.length ≤ 1000000) :
    ContractN F Tryz.prog 72 [.sl ad ls.length cap 1 (intsA ls.toArray)] (fun o => ∃ a c zs, Srt ls zs ∧ zs.length ≤ ls.length ∧ o = intRowA a zs.length c zs.toArray) := by
  refine contractN_of Tryz.func72 rfl (by kernel_rfl) ?_
  simp only [Tryz.ntmps72, argEnv]
  (repeat refine Sat.seq ?_)
  (refine Sat.region_k fun k hk => ?_; simp -implicitDefEqProofs only [evr, id, seval, Nat.sub_zero, int_at, intRowA, evn]; refine hk _ ?_; clear hk k; try show Sat _ _ _ _ _)
  (repeat refine Sat.seq ?_)
  (refine Sat.region_k fun k hk => ?_; simp -implicitDefEqProofs only [evr, id, seval, Nat.sub_zero, int_at, intRowA, evn]; refine hk _ ?_; clear hk k; try show Sat _ _ _ _ _)
  (repeat refine Sat.seq ?_)
  (refine Sat.region_k fun k hk => ?_; simp -implicitDefEqProofs only [evr, id, seval, Nat.sub_zero, int_at, intRowA, evn]; refine hk _ ?_; clear hk k; try show Sat _ _ _ _ _)
  refine Sat.adopt 3 3 1 (intsA #[]) rfl ?_
  (repeat refine Sat.seq ?_)
  refine Sat.block ?_
  refine Sat.loop (ι := Nat × Option Addr × Nat × List Int) (fun z => ⟨63, [(4, .i .i64 z.1), (0, .sl ad ls.length cap 1 (intsA ls.toArray)), (3, .os 0 z.2.1 z.2.2.2.length z.2.2.1)], [.row z.2.1 3 z.2.2.2.length z.2.2.1 1 (intsA z.2.2.2.toArray)]⟩)
    (fun z => z.1 ≤ ls.length ∧ Srt (ls.take z.1) z.2.2.2 ∧ z.2.2.2.length ≤ z.1) (fun z => ls.length - z.1) (0, none, 0, []) ⟨Nat.zero_le _, Srt.nil, Nat.le_refl _⟩ (by simp -implicitDefEqProofs only [evr, id, seval, Nat.sub_zero, int_at, intRowA, evl, evn]; first | done | rfl) ?_
  rintro ⟨i, a, c, ys⟩ ⟨hi, ho, hyl⟩
  simp only at hi ho hyl ⊢
  (repeat refine Sat.seq ?_)
  (refine Sat.region_k fun k hk => ?_; simp -implicitDefEqProofs only [evr, id, seval, Nat.sub_zero, int_at, intRowA, evn]; refine hk _ ?_; clear hk k; try show Sat _ _ _ _ _)
  (repeat refine Sat.seq ?_)
  refine Sat.cond_b rfl (fun h => ?_) (fun h => ?_)
  · have h1 : i < ls.length := by simp only [decide_eq_true_eq] at h; omega
    have e2 : IntKind.i64.wrap ((i : Int) + 1) = ((i + 1 : Nat) : Int) := by rw [w64 (by omega)]; omega
    have htk : ls.take (i + 1) = ls.take i ++ [ls.getD i 0] := by
      rw [List.take_succ_eq_append_getElem h1]
      simp [List.getD, h1]
    have hx := intsA_getD ls i h1
    generalize ls.getD i 0 = x at htk hx
    refine Sat.skip ?_
    simp only [thenK]
    (repeat refine Sat.seq ?_)
    refine Sat.block ?_
    (repeat refine Sat.seq ?_)
    (refine Sat.region_k fun k hk => ?_; simp -implicitDefEqProofs only [evr, id, seval, Nat.sub_zero, int_at, intRowA, evn]; refine hk _ ?_; clear hk k; try show Sat _ _ _ _ _)
    (repeat refine Sat.seq ?_)
    refine Sat.block ?_
    refine Sat.loop (ι := Nat) (fun k => ⟨63, [(5, .i .i64 k), (4, .i .i64 i), (0, .sl ad ls.length cap 1 (intsA ls.toArray)), (3, .os 0 a ys.length c)], [.row a 3 ys.length c 1 (intsA ys.toArray)]⟩)
      (fun k => k ≤ ys.length ∧ ∀ q, q < k → ys.getD q 0 < x) (fun k => ys.length - k) 0 ⟨Nat.zero_le _, fun q h3 => absurd h3 (Nat.not_lt_zero _)⟩ (by simp -implicitDefEqProofs only [evr, id, seval, Nat.sub_zero, int_at, intRowA, evl, evn]; try rfl) ?_
    rintro k0 ⟨hk0, hlt⟩
    have e4 : IntKind.i64.wrap ((k0 : Int) + 1) = ((k0 + 1 : Nat) : Int) := by rw [w64 (by omega)]; omega
    (repeat refine Sat.seq ?_)
    refine Sat.region_qat (by kernel_rfl) (by kernel_rfl) ⟨63, [(26, .b (decide (k0 < ys.length ∧ ys.getD k0 0 < x))), (5, .i .i64 k0), (4, .i .i64 i), (0, .sl ad ls.length cap 1 (intsA ls.toArray)), (3, .os 0 a ys.length c)], [.row a 3 ys.length c 1 (intsA ys.toArray)]⟩ (fun k hk => ?_) ?_
    · simp -implicitDefEqProofs only [evr, id, seval, Nat.sub_zero, int_at, intRowA, evn]
      refine ⟨fun hc => ?_, fun hc => ?_⟩
      · have h0 : k0 < ys.length := by omega
        refine ⟨by omega, by omega, by omega, ?_⟩
        refine hk _ ?_
        have e9 : decide (k0 < ys.length ∧ ys.getD k0 0 < x) = decide (ys.getD k0 0 < x) := by
          apply Bool.eq_iff_iff.2
          simp [h0]
        simp only [e9, intsA_getD ys k0 h0, hx]
        simp -implicitDefEqProofs only [evr, id, seval, Nat.sub_zero, int_at, intRowA, evl, evn]
      · refine hk _ ?_
        have e9 : decide (k0 < ys.length ∧ ys.getD k0 0 < x) = false := decide_eq_false (by omega)
        simp only [e9]
        simp -implicitDefEqProofs only [evr, id, seval, Nat.sub_zero, int_at, intRowA, evl, evn]
    simp only [thenK]
    refine Sat.cond_b rfl (fun h3 => ?_) (fun h3 => ?_)
    · simp only [decide_eq_true_eq] at h3
      refine Sat.skip ?_
      simp only [thenK]
      (repeat refine Sat.seq ?_)
      refine Sat.block ?_
      refine Sat.region_k fun k hk => ?_
      simp -implicitDefEqProofs only [evr, id, seval, Nat.sub_zero, int_at, intRowA, e4, evn]
      refine hk _ ?_
      simp only [thenK, blockK]
      refine ⟨k0 + 1, ⟨by omega, fun q g1 => ?_⟩, by omega, ?_⟩
      · rcases (show q = k0 ∨ q < k0 by omega) with rfl | g3
        · exact h3.2
        · exact hlt q g3
      · simp -implicitDefEqProofs only [evr, id, seval, Nat.sub_zero, int_at, intRowA, evl, evn]
    simp only [decide_eq_false_iff_not] at h3
    refine Sat.exit ?_
    simp only [thenK, blockK, reduceIte]
    (repeat refine Sat.seq ?_)
    refine Sat.region_qat (by kernel_rfl) (by kernel_rfl) ⟨63, [(43, .b (decide (k0 < ys.length ∧ ys.getD k0 0 = x))), (5, .i .i64 k0), (4, .i .i64 i), (0, .sl ad ls.length cap 1 (intsA ls.toArray)), (3, .os 0 a ys.length c)], [.row a 3 ys.length c 1 (intsA ys.toArray)]⟩ (fun k hk => ?_) ?_
    · simp -implicitDefEqProofs only [evr, id, seval, Nat.sub_zero, int_at, intRowA, evn]
      refine ⟨fun hc => ?_, fun hc => ?_⟩
      · have h0 : k0 < ys.length := by omega
        refine ⟨by omega, by omega, by omega, ?_⟩
        refine hk _ ?_
        have e9 : decide (k0 < ys.length ∧ ys.getD k0 0 = x) = (ys.getD k0 0 == x) := by
          apply Bool.eq_iff_iff.2
          simp [h0]
        simp only [e9, intsA_getD ys k0 h0, hx]
        simp -implicitDefEqProofs only [evr, id, seval, Nat.sub_zero, int_at, intRowA, evl, evn]
      · refine hk _ ?_
        have e9 : decide (k0 < ys.length ∧ ys.getD k0 0 = x) = false := decide_eq_false (by omega)
        simp only [e9]
        simp -implicitDefEqProofs only [evr, id, seval, Nat.sub_zero, int_at, intRowA, evl, evn]
    simp only [thenK]
    refine Sat.cond_b rfl (fun h4 => ?_) (fun h4 => ?_)
    · simp only [decide_eq_true_eq] at h4
      refine Sat.exit ?_
      simp only [blockK, thenK, reduceIte]
      refine Sat.region_k fun k hk => ?_
      simp -implicitDefEqProofs only [evr, id, seval, Nat.sub_zero, int_at, intRowA, e2, evn]
      refine hk _ ?_
      simp only [thenK, blockK]
      refine ⟨(i + 1, a, c, ys), ⟨by simp only; omega, by
        simp only
        rw [htk]
        refine ho.have ?_
        rw [← h4.2]
        have : ys.getD k0 0 = ys[k0]'h4.1 := by simp [List.getD, h4.1]
        rw [this]
        exact List.getElem_mem _, by simp only; omega⟩, by simp only; omega, ?_⟩
      simp -implicitDefEqProofs only [evr, id, seval, Nat.sub_zero, int_at, intRowA, evl, evn]
    simp only [decide_eq_false_iff_not] at h4
    refine Sat.skip ?_
    simp only [thenK]
    (repeat refine Sat.seq ?_)
    (refine Sat.region_k fun k hk => ?_; simp -implicitDefEqProofs only [evr, id, seval, Nat.sub_zero, int_at, intRowA, evn])
    refine fun b3 => ⟨⟨by unfold maxLen; omega, by omega⟩, fun a2 cap2 => ?_⟩
    (refine hk _ ?_; clear hk k; try show Sat _ _ _ _ _)
    refine Sat.know_row 0 rfl fun hcap => ?_
    (repeat refine Sat.seq ?_)
    refine Sat.at ⟨63, [(5, .i .i64 k0), (4, .i .i64 i), (0, .sl ad ls.length cap 1 (intsA ls.toArray)), (3, .os 0 a2 (ys.length + 1) cap2)],
      [.row a2 3 (ys.length + 1) cap2 1 (rdMove (k0 + 1) k0 (ys.length - k0) (rdCat ys.length (intsA ys.toArray) (rdL [.i .i64 0] 1)))]⟩ ?_ ?_
    · (refine Sat.region_tree (.keep [0, 1, 2, 4, 5] [] (.alt 3 (.one 6 (.one 7 .done)) (.alt 6 (.one 3 (.one 7 .done)) .none))) (by kernel_rfl) (by kernel_rfl) (fun _ _ h => h) fun k hk => ?_; simp only [WOT, List.map_cons, List.map_nil, List.getD_cons_zero, List.getD_cons_succ]; simp -implicitDefEqProofs only [evr, id, seval, Nat.sub_zero, int_at, intRowA, WOT, evn])
      simp -implicitDefEqProofs only [evr, id, seval, Nat.sub_zero, int_at, intRowA, e4, evn]
      repeat' (with_reducible refine And.intro ?_ ?_)
      all_goals first | omega | skip
      all_goals
        refine hk _ ?_
        simp only [thenK, show min (ys.length + 1 - k0) (ys.length + 1 - (k0 + 1)) = ys.length - k0 by omega]
        simp -implicitDefEqProofs only [evr, id, seval, Nat.sub_zero, int_at, intRowA, evl, evn]
        exact fun _ _ _ _ => by rw [show min (ys.length + 1 - k0) (ys.length - k0) = ys.length - k0 by omega]
    simp only [thenK]
    (refine Sat.region_k fun k hk => ?_; simp -implicitDefEqProofs only [evr, id, seval, Nat.sub_zero, int_at, intRowA, evn])
    refine ⟨by omega, by omega, by omega, ?_⟩
    simp only [hx]
    (refine hk _ ?_; clear hk k; try show Sat _ _ _ _ _)
    refine Sat.region_k fun k hk => ?_
    simp -implicitDefEqProofs only [evr, id, seval, Nat.sub_zero, int_at, intRowA, e2, evn]
    refine hk _ ?_
    simp only [thenK, blockK]
    have hil := insN_len (l := ys) (k := k0) (x := x) hk0
    refine ⟨(i + 1, a2, cap2, insN ys k0 x), ⟨by simp only; omega, by
      simp only
      rw [htk]
      refine ho.put hk0 hlt fun g => ?_
      have g1 : ¬ ys.getD k0 0 < x := fun g2 => h3 ⟨g, g2⟩
      have g2 : ¬ ys.getD k0 0 = x := fun g2 => h4 ⟨g, g2⟩
      omega, by simp only; omega⟩, by simp only; omega, ?_⟩
    simp only [hil]
    simp -implicitDefEqProofs only [evr, id, seval, Nat.sub_zero, int_at, intRowA, evl, evn]
    exact ints_ins ys k0 x hk0
  · have h1 : i = ls.length := by simp only [decide_eq_false_iff_not] at h; omega
    subst h1
    refine Sat.exit ?_
    simp only [thenK, blockK, reduceIte]
    (repeat refine Sat.seq ?_)
    (refine Sat.region_k fun k hk => ?_; simp -implicitDefEqProofs only [evr, id, seval, Nat.sub_zero, int_at, intRowA, evn]; refine hk _ ?_; clear hk k; try show Sat _ _ _ _ _)
    refine Sat.ret ?_
    simp only [Tryz.results72, evr, id, seval, List.append_nil, Int.toNat_zero, Nat.sub_self, Nat.sub_zero, int_at, intRowA, retN, retNK, newRow]
    rw [List.take_length] at ho
    exact ⟨⟨rfl, rfl, rfl⟩, a, c, ys, ho, hyl, rfl⟩
end Go.Proofs.YtepkbbmjbbnhnaaGreatDoor
