/- Numbers of at most 18 digits: registry.number, and Decimal of the reference. -/
import Derived.Test.YtepkbbmjbbnhnaaGreatDoorRxG
set_option linter.unusedSimpArgs false
set_option linter.unusedVariables false
namespace Go.Proofs.YtepkbbmjbbnhnaaGreatDoor
open Go.RowKit Eng Go.Sort
def numR (l : List UInt8) : Option Nat := if digB l = true ∧ l.length ≤ 18 then some (digV l) else none
theorem dec_from : ∀ (l : List UInt8) (acc : Nat), l.all isDig = true → Lib.decFrom acc l = some (l.foldl (fun n c => 10 * n + (c.toNat - 48)) acc)
  | [], acc, _ => rfl
  | c :: l, acc, h => by
    simp only [List.all_cons, Bool.and_eq_true] at h
    have h2 := h.1
    unfold isDig at h2
    simp only [Bool.and_eq_true, decide_eq_true_eq] at h2
    unfold Lib.decFrom Lib.digitVal
    rw [if_pos h2]
    simp only
    rw [dec_from l _ h.2, List.foldl_cons, Nat.mul_comm acc 10]
theorem digB_all {l : List UInt8} (h : digB l = true) : l.all isDig = true ∧ 0 < l.length ∧ (l.length = 1 ∨ l.getD 0 0 ≠ 48) := by
  unfold digB at h
  simp only [Bool.and_eq_true, Bool.or_eq_true, decide_eq_true_eq] at h
  exact h
theorem digB_of {l : List UInt8} (h : l.all isDig = true) (h0 : 0 < l.length) (h1 : l.length = 1 ∨ l.getD 0 0 ≠ 48) : digB l = true := by
  unfold digB
  simp only [Bool.and_eq_true, Bool.or_eq_true, decide_eq_true_eq]
  exact ⟨h, h0, h1⟩
theorem atoi_dig2 {l : List UInt8} (h : l.all isDig = true) (h0 : 0 < l.length) : Lib.atoi l = some (digV l : Int) := by
  cases l with
  | nil => cases h0
  | cons c l =>
    have hd := dec_from (c :: l) 0 h
    simp only [List.all_cons, Bool.and_eq_true] at h
    have h2 := h.1
    unfold isDig at h2
    simp only [Bool.and_eq_true, decide_eq_true_eq] at h2
    show (if (c == 45) = true then _ else if (c == 43) = true then _ else _) = _
    have e1 : (c == 45) = false := by
      rw [beq_eq_false_iff_ne]; rintro rfl; exact absurd h2.1 (by decide)
    have e2 : (c == 43) = false := by
      rw [beq_eq_false_iff_ne]; rintro rfl; exact absurd h2.1 (by decide)
    rw [e1, e2]
    simp only [Bool.false_eq_true, if_false]
    unfold Lib.decNat
    simp only [List.isEmpty_cons, Bool.false_eq_true, if_false]
    rw [hd]
    rfl
theorem numR_lt {l : List UInt8} {n : Nat} (h : numR l = some n) : n < 10 ^ 18 := by
  unfold numR at h
  split at h
  · rename_i h1
    injection h with h
    have h2 := digV_bound (digB_all h1.1).1
    have h3 : 10 ^ l.length ≤ 10 ^ 18 := Nat.pow_le_pow_right (by decide) h1.2
    omega
  · cases h
def numS (l : List UInt8) : SV := tupL [.i .i64 ((numR l).getD 0 : Nat), .b (numR l).isSome]
theorem atoiC2 (F : Frm) (s : ByteArray) (n : Int) (hl : s.size ≤ 18) (h : Lib.atoi s.data.toList = some n) : Contract F Tryz.prog 104 [.v (.string s)] (fun r => r = tupL [.i .i64 n, .v .nilIface]) := by
  refine ofCalls1 Tryz.func104 rfl (by kernel_rfl) fun R w hs hR => ?_
  refine (Tryz.strconv_Atoi s n hl h w).mono ?_
  rintro e w' ⟨rfl, t, rfl⟩
  exact ⟨_, rfl, rfl, tup2_ok1 trivial trivial, Lib.bytesWorld_below _ _ _⟩
theorem empB (l : List UInt8) : (l == (⟨#[]⟩ : ByteArray).toList) = decide (l.length = 0) := by
  rw [ByteArray.toList_eq]
  cases l with
  | nil => rfl
  | cons c l => rfl
def badN (l : List UInt8) : Prop := l.length = 0 ∨ 18 < l.length ∨ 1 < l.length ∧ l.getD 0 0 = 48
instance (l : List UInt8) : Decidable (badN l) := by unfold badN; infer_instance
set_option maxRecDepth 100000 in
theorem regNumberC (F : Frm) (l : List UInt8) (hl : l.length ≤ 100000) : Contract F Tryz.prog 83 [sB l] (fun r => r = numS l) := by
  refine contract_of Tryz.func83 rfl (by kernel_rfl) ?_
  simp only [Tryz.ntmps83, argEnv]
  (repeat refine Sat.seq ?_)
  (refine Sat.region_k fun k hk => ?_; simp -implicitDefEqProofs only [evr, id, reduceCtorEq, reduceIte, Nat.reduceMul, Nat.reduceAdd, Nat.reduceLT, Nat.reduceLeDiff, Nat.reduceEqDiff, Int.reduceLT, Int.reduceBEq, Int.reduceBNe, Nat.reduceBEq, Int.reduceNeg, mkB_size, byteAt_mk, mkB_extract, mkB_append, mkB_toList, empB, evn]; refine hk _ ?_; clear hk k; try show Sat _ _ _ _ _)
  (repeat refine Sat.seq ?_)
  refine Sat.region_at ⟨48, [(23, .b (decide (badN l))), (0, sB l), (2, .i .i64 0), (3, .ff)], []⟩ (fun k hk => ?_) ?_
  · simp -implicitDefEqProofs only [evr, id, reduceCtorEq, reduceIte, Nat.reduceMul, Nat.reduceAdd, Nat.reduceLT, Nat.reduceLeDiff, Nat.reduceEqDiff, Int.reduceLT, Int.reduceBEq, Int.reduceBNe, Nat.reduceBEq, Int.reduceNeg, mkB_size, byteAt_mk, mkB_extract, mkB_append, mkB_toList, empB, evn]
    have hby := byte_eq (l.getD 0 0) 48
    repeat' (first
      | (with_reducible refine And.intro ?_ ?_)
      | (with_reducible intro hh)
      | omega
      | (with_reducible refine hk _ ?_
         first
         | (have e9 : decide (badN l) = true := by
              clear hk
              apply decide_eq_true
              unfold badN
              first
              | exact .inl (by assumption)
              | exact .inr (.inl (by omega))
            simp only [e9]
            simp -implicitDefEqProofs only [evr, id, reduceCtorEq, reduceIte, Nat.reduceMul, Nat.reduceAdd, Nat.reduceLT, Nat.reduceLeDiff, Nat.reduceEqDiff, Int.reduceLT, Int.reduceBEq, Int.reduceBNe, Nat.reduceBEq, Int.reduceNeg, mkB_size, byteAt_mk, mkB_extract, mkB_append, mkB_toList, empB, evl, evn]
            done)
         | (have e9 : decide (badN l) = false := by
              clear hk
              apply decide_eq_false
              unfold badN
              rintro (h | h | h)
              · omega
              · omega
              · have := h.1; omega
            simp only [e9]
            simp -implicitDefEqProofs only [evr, id, reduceCtorEq, reduceIte, Nat.reduceMul, Nat.reduceAdd, Nat.reduceLT, Nat.reduceLeDiff, Nat.reduceEqDiff, Int.reduceLT, Int.reduceBEq, Int.reduceBNe, Nat.reduceBEq, Int.reduceNeg, mkB_size, byteAt_mk, mkB_extract, mkB_append, mkB_toList, empB, evl, evn]
            done)
         | (have e9 : decide (badN l) = (((l.getD 0 0).toNat : Int) == 48) := by
              clear hk
              rw [show (((l.getD 0 0).toNat : Int) == 48) = decide (l.getD 0 0 = 48) from hby]
              apply Bool.eq_iff_iff.2
              rw [decide_eq_true_eq, decide_eq_true_eq]
              unfold badN
              constructor
              · rintro (h | h | h)
                · omega
                · omega
                · exact h.2
              · exact fun h => .inr (.inr ⟨by omega, h⟩)
            simp only [e9]
            simp -implicitDefEqProofs only [evr, id, reduceCtorEq, reduceIte, Nat.reduceMul, Nat.reduceAdd, Nat.reduceLT, Nat.reduceLeDiff, Nat.reduceEqDiff, Int.reduceLT, Int.reduceBEq, Int.reduceBNe, Nat.reduceBEq, Int.reduceNeg, mkB_size, byteAt_mk, mkB_extract, mkB_append, mkB_toList, empB, evl, evn]
            done)))
  have hno : badN l → numR l = none := fun hb => by
    unfold numR
    rw [if_neg]
    rintro ⟨h1, h2⟩
    obtain ⟨_, g1, g2⟩ := digB_all h1
    unfold badN at hb
    rcases hb with h3 | h3 | ⟨h3, h4⟩
    · omega
    · omega
    · rcases g2 with g2 | g2
      · omega
      · exact g2 h4
  refine Sat.cond_b rfl (fun h => ?_) (fun h => ?_)
  · simp only [decide_eq_true_eq] at h
    (repeat refine Sat.seq ?_)
    (refine Sat.region_k fun k hk => ?_; simp -implicitDefEqProofs only [evr, id, reduceCtorEq, reduceIte, Nat.reduceMul, Nat.reduceAdd, Nat.reduceLT, Nat.reduceLeDiff, Nat.reduceEqDiff, Int.reduceLT, Int.reduceBEq, Int.reduceBNe, Nat.reduceBEq, Int.reduceNeg, mkB_size, byteAt_mk, mkB_extract, mkB_append, mkB_toList, empB, evn]; refine hk _ ?_; clear hk k; try show Sat _ _ _ _ _)
    refine Sat.ret ?_
    simp only [Tryz.results83, evr, id, reduceCtorEq, reduceIte, Nat.reduceMul, Nat.reduceAdd, Nat.reduceLT, Nat.reduceLeDiff, Nat.reduceEqDiff, Int.reduceLT, Int.reduceBEq, Int.reduceBNe, Nat.reduceBEq, List.append_nil, Int.toNat_zero, Nat.sub_self, Int.reduceNeg, mkB_size, byteAt_mk, mkB_extract, mkB_append, mkB_toList, empB]
    unfold numS
    rw [hno h]
    rfl
  simp only [decide_eq_false_iff_not] at h
  have hbad : ¬ badN l := h
  have hb := h
  unfold badN at hb
  have hb0 : l.length ≠ 0 := fun h9 => hb (.inl h9)
  have hb1 : l.length ≤ 18 := by
    rcases Nat.lt_or_ge 18 l.length with h9 | h9
    · exact absurd (.inr (.inl h9)) hb
    · exact h9
  refine Sat.skip ?_
  simp only [thenK]
  (repeat refine Sat.seq ?_)
  (refine Sat.region_k fun k hk => ?_; simp -implicitDefEqProofs only [evr, id, reduceCtorEq, reduceIte, Nat.reduceMul, Nat.reduceAdd, Nat.reduceLT, Nat.reduceLeDiff, Nat.reduceEqDiff, Int.reduceLT, Int.reduceBEq, Int.reduceBNe, Nat.reduceBEq, Int.reduceNeg, mkB_size, byteAt_mk, mkB_extract, mkB_append, mkB_toList, empB, evn]; refine hk _ ?_; clear hk k; try show Sat _ _ _ _ _)
  (repeat refine Sat.seq ?_)
  refine Sat.block ?_
  clear hb
  refine Sat.loop (ι := Nat) (fun i => ⟨48, [(26, .i .i64 i), (25, .i .i64 l.length), (0, sB l)], []⟩) (fun i => i ≤ l.length ∧ (l.take i).all isDig = true) (fun i => l.length - i) 0 ⟨Nat.zero_le _, rfl⟩ (by simp -implicitDefEqProofs only [evr, id, reduceCtorEq, reduceIte, Nat.reduceMul, Nat.reduceAdd, Nat.reduceLT, Nat.reduceLeDiff, Nat.reduceEqDiff, Int.reduceLT, Int.reduceBEq, Int.reduceBNe, Nat.reduceBEq, Int.reduceNeg, mkB_size, byteAt_mk, mkB_extract, mkB_append, mkB_toList, empB, evl, evn]; try rfl) ?_
  rintro i ⟨hi, hall⟩
  have e1 : IntKind.i64.wrap ((i : Int) + 1) = ((i + 1 : Nat) : Int) := by rw [w64 (by omega)]; omega
  (repeat refine Sat.seq ?_)
  (refine Sat.region_k fun k hk => ?_; simp -implicitDefEqProofs only [evr, id, reduceCtorEq, reduceIte, Nat.reduceMul, Nat.reduceAdd, Nat.reduceLT, Nat.reduceLeDiff, Nat.reduceEqDiff, Int.reduceLT, Int.reduceBEq, Int.reduceBNe, Nat.reduceBEq, Int.reduceNeg, mkB_size, byteAt_mk, mkB_extract, mkB_append, mkB_toList, empB, evn]; refine hk _ ?_; clear hk k; try show Sat _ _ _ _ _)
  (repeat refine Sat.seq ?_)
  refine Sat.cond_b rfl (fun h => ?_) (fun h => ?_)
  · have hlt : i < l.length := by simp only [decide_eq_true_eq] at h; omega
    clear h
    have hmem : l.getD i 0 ∈ l := by rw [List.getD_eq_getElem?_getD, List.getElem?_eq_getElem hlt]; exact List.getElem_mem _
    have htk : l.take (i + 1) = l.take i ++ [l.getD i 0] := by
      rw [List.take_add_one, List.getElem?_eq_getElem hlt, List.getD_eq_getElem?_getD, List.getElem?_eq_getElem hlt]; rfl
    refine Sat.skip ?_
    simp only [thenK]
    (repeat refine Sat.seq ?_)
    refine Sat.block ?_
    (repeat refine Sat.seq ?_)
    (refine Sat.region_k fun k hk => ?_; simp -implicitDefEqProofs only [evr, id, reduceCtorEq, reduceIte, Nat.reduceMul, Nat.reduceAdd, Nat.reduceLT, Nat.reduceLeDiff, Nat.reduceEqDiff, Int.reduceLT, Int.reduceBEq, Int.reduceBNe, Nat.reduceBEq, Int.reduceNeg, mkB_size, byteAt_mk, mkB_extract, mkB_append, mkB_toList, empB, evn]; refine hk _ ?_; clear hk k; try show Sat _ _ _ _ _)
    (repeat refine Sat.seq ?_)
    refine Sat.region_at ⟨48, [(38, .b (!isDig (l.getD i 0))), (26, .i .i64 i), (25, .i .i64 l.length), (0, sB l)], []⟩ (fun k hk => ?_) ?_
    · simp -implicitDefEqProofs only [evr, id, reduceCtorEq, reduceIte, Nat.reduceMul, Nat.reduceAdd, Nat.reduceLT, Nat.reduceLeDiff, Nat.reduceEqDiff, Int.reduceLT, Int.reduceBEq, Int.reduceBNe, Nat.reduceBEq, Int.reduceNeg, mkB_size, byteAt_mk, mkB_extract, mkB_append, mkB_toList, empB, evn]
      refine ⟨by omega, fun h => ?_, fun h => ?_⟩
      · refine hk _ ?_
        have e : (!isDig (l.getD i 0)) = true := by
          generalize l.getD i 0 = c at h ⊢
          unfold isDig; simp; omega
        simp only [e]
        simp -implicitDefEqProofs only [evr, id, reduceCtorEq, reduceIte, Nat.reduceMul, Nat.reduceAdd, Nat.reduceLT, Nat.reduceLeDiff, Nat.reduceEqDiff, Int.reduceLT, Int.reduceBEq, Int.reduceBNe, Nat.reduceBEq, Int.reduceNeg, mkB_size, byteAt_mk, mkB_extract, mkB_append, mkB_toList, empB, evl, evn]
      · refine ⟨by omega, ?_⟩
        refine hk _ ?_
        have e : decide (57 < ((l.getD i 0).toNat : Int)) = (!isDig (l.getD i 0)) := by
          generalize l.getD i 0 = c at h ⊢
          unfold isDig
          apply Bool.eq_iff_iff.2
          simp
          omega
        simp only [e]
        simp -implicitDefEqProofs only [evr, id, reduceCtorEq, reduceIte, Nat.reduceMul, Nat.reduceAdd, Nat.reduceLT, Nat.reduceLeDiff, Nat.reduceEqDiff, Int.reduceLT, Int.reduceBEq, Int.reduceBNe, Nat.reduceBEq, Int.reduceNeg, mkB_size, byteAt_mk, mkB_extract, mkB_append, mkB_toList, empB, evl, evn]
    try simp only [thenK]
    refine Sat.cond_b rfl (fun h => ?_) (fun h => ?_)
    · (repeat refine Sat.seq ?_)
      (refine Sat.region_k fun k hk => ?_; simp -implicitDefEqProofs only [evr, id, reduceCtorEq, reduceIte, Nat.reduceMul, Nat.reduceAdd, Nat.reduceLT, Nat.reduceLeDiff, Nat.reduceEqDiff, Int.reduceLT, Int.reduceBEq, Int.reduceBNe, Nat.reduceBEq, Int.reduceNeg, mkB_size, byteAt_mk, mkB_extract, mkB_append, mkB_toList, empB, evn]; refine hk _ ?_; clear hk k; try show Sat _ _ _ _ _)
      refine Sat.ret ?_
      simp only [Tryz.results83, evr, id, reduceCtorEq, reduceIte, Nat.reduceMul, Nat.reduceAdd, Nat.reduceLT, Nat.reduceLeDiff, Nat.reduceEqDiff, Int.reduceLT, Int.reduceBEq, Int.reduceBNe, Nat.reduceBEq, List.append_nil, Int.toNat_zero, Nat.sub_self, Int.reduceNeg, mkB_size, byteAt_mk, mkB_extract, mkB_append, mkB_toList, empB]
      have : numR l = none := by
        unfold numR
        rw [if_neg]
        rintro ⟨h1, _⟩
        have := List.all_eq_true.1 (digB_all h1).1 _ hmem
        rw [this] at h
        cases h
      unfold numS
      rw [this]
      rfl
    · refine Sat.skip ?_
      simp only [thenK, blockK]
      refine Sat.region_k fun k hk => ?_
      simp -implicitDefEqProofs only [evr, id, reduceCtorEq, reduceIte, Nat.reduceMul, Nat.reduceAdd, Nat.reduceLT, Nat.reduceLeDiff, Nat.reduceEqDiff, Int.reduceLT, Int.reduceBEq, Int.reduceBNe, Nat.reduceBEq, Int.reduceNeg, mkB_size, byteAt_mk, mkB_extract, mkB_append, mkB_toList, empB, e1, evn]
      refine hk _ ?_
      simp only [thenK, blockK]
      refine ⟨i + 1, ⟨hlt, ?_⟩, by omega, ?_⟩
      · rw [htk, List.all_append, hall]
        simpa using h
      · simp -implicitDefEqProofs only [evr, id, reduceCtorEq, reduceIte, Nat.reduceMul, Nat.reduceAdd, Nat.reduceLT, Nat.reduceLeDiff, Nat.reduceEqDiff, Int.reduceLT, Int.reduceBEq, Int.reduceBNe, Nat.reduceBEq, Int.reduceNeg, mkB_size, byteAt_mk, mkB_extract, mkB_append, mkB_toList, empB, evl, evn]
  · have hiN : i = l.length := by simp only [decide_eq_false_iff_not] at h; omega
    subst hiN
    rw [List.take_length] at hall
    have hdig : digB l = true := digB_of hall (by omega) (by
      by_cases h1 : l.length = 1
      · exact .inl h1
      · exact .inr (fun h2 => hbad (.inr (.inr ⟨by omega, h2⟩))))
    have hv : numR l = some (digV l) := by unfold numR; rw [if_pos ⟨hdig, by omega⟩]
    refine Sat.exit ?_
    simp only [thenK, blockK, reduceIte]
    (repeat refine Sat.seq ?_)
    (refine Sat.region_k fun k hk => ?_; simp -implicitDefEqProofs only [evr, id, reduceCtorEq, reduceIte, Nat.reduceMul, Nat.reduceAdd, Nat.reduceLT, Nat.reduceLeDiff, Nat.reduceEqDiff, Int.reduceLT, Int.reduceBEq, Int.reduceBNe, Nat.reduceBEq, Int.reduceNeg, mkB_size, byteAt_mk, mkB_extract, mkB_append, mkB_toList, empB, evn])
    refine wcall_slice (atoiC2 F (mkB l) (digV l) (by rw [mkB_size]; omega) (by rw [mkB_list]; exact atoi_dig2 hall (by omega))) rfl (by first | rfl | (simp -implicitDefEqProofs only [evr, id, reduceCtorEq, reduceIte, Nat.reduceMul, Nat.reduceAdd, Nat.reduceLT, Nat.reduceLeDiff, Nat.reduceEqDiff, Int.reduceLT, Int.reduceBEq, Int.reduceBNe, Nat.reduceBEq, Int.reduceNeg, mkB_size, byteAt_mk, mkB_extract, mkB_append, mkB_toList, empB, evn])) ?_
    rintro r rfl
    simp -implicitDefEqProofs only [evr, id, reduceCtorEq, reduceIte, Nat.reduceMul, Nat.reduceAdd, Nat.reduceLT, Nat.reduceLeDiff, Nat.reduceEqDiff, Int.reduceLT, Int.reduceBEq, Int.reduceBNe, Nat.reduceBEq, Int.reduceNeg, mkB_size, byteAt_mk, mkB_extract, mkB_append, mkB_toList, empB, evn]
    (refine hk _ ?_; clear hk k; try show Sat _ _ _ _ _)
    (repeat refine Sat.seq ?_)
    (refine Sat.region_qk (by kernel_rfl) (by kernel_rfl) fun k hk => ?_; simp -implicitDefEqProofs only [evr, id, reduceCtorEq, reduceIte, Nat.reduceMul, Nat.reduceAdd, Nat.reduceLT, Nat.reduceLeDiff, Nat.reduceEqDiff, Int.reduceLT, Int.reduceBEq, Int.reduceBNe, Nat.reduceBEq, Int.reduceNeg, mkB_size, byteAt_mk, mkB_extract, mkB_append, mkB_toList, empB, evn])
    refine hk _ ?_
    try simp only [thenK]
    refine Sat.ret ?_
    simp only [Tryz.results83, evr, id, reduceCtorEq, reduceIte, Nat.reduceMul, Nat.reduceAdd, Nat.reduceLT, Nat.reduceLeDiff, Nat.reduceEqDiff, Int.reduceLT, Int.reduceBEq, Int.reduceBNe, Nat.reduceBEq, List.append_nil, Int.toNat_zero, Nat.sub_self, Int.reduceNeg, mkB_size, byteAt_mk, mkB_extract, mkB_append, mkB_toList, empB]
    unfold numS
    rw [hv]
    rfl
def badD (l : List UInt8) (m : Nat) : Prop := l.length = 0 ∨ m < l.length ∨ l.getD 0 0 = 48 ∧ 1 < l.length
instance (l : List UInt8) (m : Nat) : Decidable (badD l m) := by unfold badD; infer_instance
set_option maxRecDepth 100000 in
theorem refDecimalC (F : Frm) (l : List UInt8) (hl : l.length ≤ 100000) : Contract F Tryz.prog 63 [sB l, .i .i64 18] (fun r => r = numS l) := by
  refine contract_of Tryz.func63 rfl (by kernel_rfl) ?_
  simp only [Tryz.ntmps63, argEnv]
  (repeat refine Sat.seq ?_)
  (refine Sat.region_k fun k hk => ?_; simp -implicitDefEqProofs only [evr, id, reduceCtorEq, reduceIte, Nat.reduceMul, Nat.reduceAdd, Nat.reduceLT, Nat.reduceLeDiff, Nat.reduceEqDiff, Int.reduceLT, Int.reduceBEq, Int.reduceBNe, Nat.reduceBEq, Int.reduceNeg, mkB_size, byteAt_mk, mkB_extract, mkB_append, mkB_toList, empB, evn]; refine hk _ ?_; clear hk k; try show Sat _ _ _ _ _)
  (repeat refine Sat.seq ?_)
  refine Sat.region_at ⟨51, [(25, .b (decide (badD l 18))), (0, sB l)], []⟩ (fun k hk => ?_) ?_
  · simp -implicitDefEqProofs only [evr, id, reduceCtorEq, reduceIte, Nat.reduceMul, Nat.reduceAdd, Nat.reduceLT, Nat.reduceLeDiff, Nat.reduceEqDiff, Int.reduceLT, Int.reduceBEq, Int.reduceBNe, Nat.reduceBEq, Int.reduceNeg, mkB_size, byteAt_mk, mkB_extract, mkB_append, mkB_toList, empB, evn]
    have hby := byte_eq (l.getD 0 0) 48
    repeat' (first
      | (with_reducible refine And.intro ?_ ?_)
      | (with_reducible intro hh)
      | omega
      | (with_reducible refine hk _ ?_
         first
         | (have e9 : decide (badD l 18) = true := by
              clear hk
              apply decide_eq_true
              unfold badD
              first
              | exact .inl (by assumption)
              | exact .inr (.inl (by omega))
            simp only [e9]
            simp -implicitDefEqProofs only [evr, id, reduceCtorEq, reduceIte, Nat.reduceMul, Nat.reduceAdd, Nat.reduceLT, Nat.reduceLeDiff, Nat.reduceEqDiff, Int.reduceLT, Int.reduceBEq, Int.reduceBNe, Nat.reduceBEq, Int.reduceNeg, mkB_size, byteAt_mk, mkB_extract, mkB_append, mkB_toList, empB, evl, evn]
            done)
         | (have e9 : decide (badD l 18) = decide (1 < (l.length : Int)) := by
              clear hk
              have h48 : l.getD 0 0 = 48 := by
                have : (((l.getD 0 0).toNat : Int) == 48) = true := by first | assumption | exact beq_iff_eq.2 (by assumption)
                rw [show (((l.getD 0 0).toNat : Int) == 48) = decide (l.getD 0 0 = 48) from hby] at this
                exact of_decide_eq_true this
              apply Bool.eq_iff_iff.2
              rw [decide_eq_true_eq, decide_eq_true_eq]
              unfold badD
              constructor
              · rintro (h | h | h)
                · omega
                · omega
                · have := h.2; omega
              · exact fun h => .inr (.inr ⟨h48, by omega⟩)
            simp only [e9]
            simp -implicitDefEqProofs only [evr, id, reduceCtorEq, reduceIte, Nat.reduceMul, Nat.reduceAdd, Nat.reduceLT, Nat.reduceLeDiff, Nat.reduceEqDiff, Int.reduceLT, Int.reduceBEq, Int.reduceBNe, Nat.reduceBEq, Int.reduceNeg, mkB_size, byteAt_mk, mkB_extract, mkB_append, mkB_toList, empB, evl, evn]
            done)
         | (have e9 : decide (badD l 18) = false := by
              clear hk
              have h48 : ¬ l.getD 0 0 = 48 := by
                intro h49
                have h50 : ((l.getD 0 0).toNat : Int) = 48 := by rw [h49]; rfl
                simp_all
                done
              apply decide_eq_false
              unfold badD
              rintro (h | h | h)
              · omega
              · omega
              · exact h48 h.1
            simp only [e9]
            simp -implicitDefEqProofs only [evr, id, reduceCtorEq, reduceIte, Nat.reduceMul, Nat.reduceAdd, Nat.reduceLT, Nat.reduceLeDiff, Nat.reduceEqDiff, Int.reduceLT, Int.reduceBEq, Int.reduceBNe, Nat.reduceBEq, Int.reduceNeg, mkB_size, byteAt_mk, mkB_extract, mkB_append, mkB_toList, empB, evl, evn]
            done)))
  have hno : badD l 18 → numR l = none := fun hb => by
    unfold numR
    rw [if_neg]
    rintro ⟨h1, h2⟩
    obtain ⟨_, g1, g2⟩ := digB_all h1
    unfold badD at hb
    rcases hb with h3 | h3 | ⟨h4, h3⟩
    · omega
    · omega
    · rcases g2 with g2 | g2
      · omega
      · exact g2 h4
  refine Sat.cond_b rfl (fun h => ?_) (fun h => ?_)
  · simp only [decide_eq_true_eq] at h
    (repeat refine Sat.seq ?_)
    (refine Sat.region_k fun k hk => ?_; simp -implicitDefEqProofs only [evr, id, reduceCtorEq, reduceIte, Nat.reduceMul, Nat.reduceAdd, Nat.reduceLT, Nat.reduceLeDiff, Nat.reduceEqDiff, Int.reduceLT, Int.reduceBEq, Int.reduceBNe, Nat.reduceBEq, Int.reduceNeg, mkB_size, byteAt_mk, mkB_extract, mkB_append, mkB_toList, empB, evn]; refine hk _ ?_; clear hk k; try show Sat _ _ _ _ _)
    refine Sat.ret ?_
    simp only [Tryz.results63, evr, id, reduceCtorEq, reduceIte, Nat.reduceMul, Nat.reduceAdd, Nat.reduceLT, Nat.reduceLeDiff, Nat.reduceEqDiff, Int.reduceLT, Int.reduceBEq, Int.reduceBNe, Nat.reduceBEq, List.append_nil, Int.toNat_zero, Nat.sub_self, Int.reduceNeg, mkB_size, byteAt_mk, mkB_extract, mkB_append, mkB_toList, empB]
    unfold numS
    rw [hno h]
    rfl
  simp only [decide_eq_false_iff_not] at h
  have hbad : ¬ badD l 18 := h
  have hb := h
  unfold badD at hb
  have hb0 : l.length ≠ 0 := fun h9 => hb (.inl h9)
  have hb1 : l.length ≤ 18 := by
    rcases Nat.lt_or_ge 18 l.length with h9 | h9
    · exact absurd (.inr (.inl h9)) hb
    · exact h9
  clear hb
  refine Sat.skip ?_
  simp only [thenK]
  (repeat refine Sat.seq ?_)
  (refine Sat.region_k fun k hk => ?_; simp -implicitDefEqProofs only [evr, id, reduceCtorEq, reduceIte, Nat.reduceMul, Nat.reduceAdd, Nat.reduceLT, Nat.reduceLeDiff, Nat.reduceEqDiff, Int.reduceLT, Int.reduceBEq, Int.reduceBNe, Nat.reduceBEq, Int.reduceNeg, mkB_size, byteAt_mk, mkB_extract, mkB_append, mkB_toList, empB, evn]; refine hk _ ?_; clear hk k; try show Sat _ _ _ _ _)
  (repeat refine Sat.seq ?_)
  (refine Sat.region_k fun k hk => ?_; simp -implicitDefEqProofs only [evr, id, reduceCtorEq, reduceIte, Nat.reduceMul, Nat.reduceAdd, Nat.reduceLT, Nat.reduceLeDiff, Nat.reduceEqDiff, Int.reduceLT, Int.reduceBEq, Int.reduceBNe, Nat.reduceBEq, Int.reduceNeg, mkB_size, byteAt_mk, mkB_extract, mkB_append, mkB_toList, empB, evn]; refine hk _ ?_; clear hk k; try show Sat _ _ _ _ _)
  (repeat refine Sat.seq ?_)
  refine Sat.block ?_
  refine Sat.loop (ι := Nat) (fun i => ⟨51, [(7, .i .i64 i), (6, .i .i64 (digV (l.take i) : Nat)), (0, sB l)], []⟩) (fun i => i ≤ l.length ∧ (l.take i).all isDig = true) (fun i => l.length - i) 0 ⟨Nat.zero_le _, rfl⟩ (by simp -implicitDefEqProofs only [evr, id, reduceCtorEq, reduceIte, Nat.reduceMul, Nat.reduceAdd, Nat.reduceLT, Nat.reduceLeDiff, Nat.reduceEqDiff, Int.reduceLT, Int.reduceBEq, Int.reduceBNe, Nat.reduceBEq, Int.reduceNeg, mkB_size, byteAt_mk, mkB_extract, mkB_append, mkB_toList, empB, evl, evn]; first | exact ⟨rfl, rfl⟩ | rfl) ?_
  rintro i ⟨hi, hall⟩
  have e1 : IntKind.i64.wrap ((i : Int) + 1) = ((i + 1 : Nat) : Int) := by rw [w64 (by omega)]; omega
  (repeat refine Sat.seq ?_)
  (refine Sat.region_k fun k hk => ?_; simp -implicitDefEqProofs only [evr, id, reduceCtorEq, reduceIte, Nat.reduceMul, Nat.reduceAdd, Nat.reduceLT, Nat.reduceLeDiff, Nat.reduceEqDiff, Int.reduceLT, Int.reduceBEq, Int.reduceBNe, Nat.reduceBEq, Int.reduceNeg, mkB_size, byteAt_mk, mkB_extract, mkB_append, mkB_toList, empB, evn]; refine hk _ ?_; clear hk k; try show Sat _ _ _ _ _)
  (repeat refine Sat.seq ?_)
  refine Sat.cond_b rfl (fun h => ?_) (fun h => ?_)
  · have hlt : i < l.length := by simp only [decide_eq_true_eq] at h; omega
    clear h
    have hmem : l.getD i 0 ∈ l := by rw [List.getD_eq_getElem?_getD, List.getElem?_eq_getElem hlt]; exact List.getElem_mem _
    have htk : l.take (i + 1) = l.take i ++ [l.getD i 0] := by
      rw [List.take_add_one, List.getElem?_eq_getElem hlt, List.getD_eq_getElem?_getD, List.getElem?_eq_getElem hlt]; rfl
    have hbd := digV_bound hall
    have hb2 : 10 ^ (l.take i).length ≤ 10 ^ 17 := Nat.pow_le_pow_right (by decide) (by rw [List.length_take]; omega)
    have hsn : digV (l.take (i + 1)) = 10 * digV (l.take i) + ((l.getD i 0).toNat - 48) := by rw [htk, digV_snoc]
    refine Sat.skip ?_
    simp only [thenK]
    (repeat refine Sat.seq ?_)
    refine Sat.block ?_
    (repeat refine Sat.seq ?_)
    refine Sat.region_at ⟨51, [(41, .b (!isDig (l.getD i 0))), (7, .i .i64 i), (6, .i .i64 (digV (l.take i) : Nat)), (0, sB l)], []⟩ (fun k hk => ?_) ?_
    · simp -implicitDefEqProofs only [evr, id, reduceCtorEq, reduceIte, Nat.reduceMul, Nat.reduceAdd, Nat.reduceLT, Nat.reduceLeDiff, Nat.reduceEqDiff, Int.reduceLT, Int.reduceBEq, Int.reduceBNe, Nat.reduceBEq, Int.reduceNeg, mkB_size, byteAt_mk, mkB_extract, mkB_append, mkB_toList, empB, evn]
      refine ⟨by omega, fun h => ?_, fun h => ?_⟩
      · refine hk _ ?_
        have e : (!isDig (l.getD i 0)) = true := by
          generalize l.getD i 0 = c at h ⊢
          unfold isDig; simp; omega
        simp only [e]
        simp -implicitDefEqProofs only [evr, id, reduceCtorEq, reduceIte, Nat.reduceMul, Nat.reduceAdd, Nat.reduceLT, Nat.reduceLeDiff, Nat.reduceEqDiff, Int.reduceLT, Int.reduceBEq, Int.reduceBNe, Nat.reduceBEq, Int.reduceNeg, mkB_size, byteAt_mk, mkB_extract, mkB_append, mkB_toList, empB, evl, evn]
      · refine ⟨by omega, ?_⟩
        refine hk _ ?_
        have e : decide (57 < ((l.getD i 0).toNat : Int)) = (!isDig (l.getD i 0)) := by
          generalize l.getD i 0 = c at h ⊢
          unfold isDig
          apply Bool.eq_iff_iff.2
          simp
          omega
        simp only [e]
        simp -implicitDefEqProofs only [evr, id, reduceCtorEq, reduceIte, Nat.reduceMul, Nat.reduceAdd, Nat.reduceLT, Nat.reduceLeDiff, Nat.reduceEqDiff, Int.reduceLT, Int.reduceBEq, Int.reduceBNe, Nat.reduceBEq, Int.reduceNeg, mkB_size, byteAt_mk, mkB_extract, mkB_append, mkB_toList, empB, evl, evn]
    try simp only [thenK]
    refine Sat.cond_b rfl (fun h => ?_) (fun h => ?_)
    · (repeat refine Sat.seq ?_)
      (refine Sat.region_k fun k hk => ?_; simp -implicitDefEqProofs only [evr, id, reduceCtorEq, reduceIte, Nat.reduceMul, Nat.reduceAdd, Nat.reduceLT, Nat.reduceLeDiff, Nat.reduceEqDiff, Int.reduceLT, Int.reduceBEq, Int.reduceBNe, Nat.reduceBEq, Int.reduceNeg, mkB_size, byteAt_mk, mkB_extract, mkB_append, mkB_toList, empB, evn]; refine hk _ ?_; clear hk k; try show Sat _ _ _ _ _)
      refine Sat.ret ?_
      simp only [Tryz.results63, evr, id, reduceCtorEq, reduceIte, Nat.reduceMul, Nat.reduceAdd, Nat.reduceLT, Nat.reduceLeDiff, Nat.reduceEqDiff, Int.reduceLT, Int.reduceBEq, Int.reduceBNe, Nat.reduceBEq, List.append_nil, Int.toNat_zero, Nat.sub_self, Int.reduceNeg, mkB_size, byteAt_mk, mkB_extract, mkB_append, mkB_toList, empB]
      have : numR l = none := by
        unfold numR
        rw [if_neg]
        rintro ⟨h1, _⟩
        have := List.all_eq_true.1 (digB_all h1).1 _ hmem
        rw [this] at h
        cases h
      unfold numS
      rw [this]
      rfl
    · have hc : isDig (l.getD i 0) = true := by simpa using h
      obtain ⟨c, hcc⟩ : ∃ c, l.getD i 0 = c := ⟨_, rfl⟩
      have hall2 : (l.take (i + 1)).all isDig = true := by
        rw [htk, List.all_append, hall]
        simpa using h
      rw [hcc] at hc hsn
      unfold isDig at hc
      simp only [Bool.and_eq_true, decide_eq_true_eq] at hc
      have e2 : IntKind.u8.wrap ((c.toNat : Int) - 48) = ((c.toNat - 48 : Nat) : Int) := by
        rw [IntKind.wrap_u8]; omega
      have e3 : IntKind.i64.wrap ((c.toNat - 48 : Nat) : Int) = ((c.toNat - 48 : Nat) : Int) := w64 (by omega)
      have e4 : IntKind.i64.wrap ((digV (l.take i) : Int) * 10) = ((10 * digV (l.take i) : Nat) : Int) := by rw [w64 (by omega)]; omega
      have e5 : IntKind.i64.wrap (((10 * digV (l.take i) : Nat) : Int) + ((c.toNat - 48 : Nat) : Int)) = (digV (l.take (i + 1)) : Int) := by rw [hsn, w64 (by omega)]; omega
      refine Sat.skip ?_
      simp only [thenK]
      refine Sat.region_k fun k hk => ?_
      simp -implicitDefEqProofs only [evr, id, reduceCtorEq, reduceIte, Nat.reduceMul, Nat.reduceAdd, Nat.reduceLT, Nat.reduceLeDiff, Nat.reduceEqDiff, Int.reduceLT, Int.reduceBEq, Int.reduceBNe, Nat.reduceBEq, Int.reduceNeg, mkB_size, byteAt_mk, mkB_extract, mkB_append, mkB_toList, empB, hcc, e2, e3, e4, e5, evn]
      refine ⟨by omega, ?_⟩
      refine hk _ ?_
      simp only [thenK, blockK]
      refine Sat.region_k fun k hk => ?_
      simp -implicitDefEqProofs only [evr, id, reduceCtorEq, reduceIte, Nat.reduceMul, Nat.reduceAdd, Nat.reduceLT, Nat.reduceLeDiff, Nat.reduceEqDiff, Int.reduceLT, Int.reduceBEq, Int.reduceBNe, Nat.reduceBEq, Int.reduceNeg, mkB_size, byteAt_mk, mkB_extract, mkB_append, mkB_toList, empB, e1, evn]
      refine hk _ ?_
      simp only [thenK, blockK]
      refine ⟨i + 1, ⟨hlt, hall2⟩, by omega, ?_⟩
      simp -implicitDefEqProofs only [evr, id, reduceCtorEq, reduceIte, Nat.reduceMul, Nat.reduceAdd, Nat.reduceLT, Nat.reduceLeDiff, Nat.reduceEqDiff, Int.reduceLT, Int.reduceBEq, Int.reduceBNe, Nat.reduceBEq, Int.reduceNeg, mkB_size, byteAt_mk, mkB_extract, mkB_append, mkB_toList, empB, evl, evn]
  · have hiN : i = l.length := by simp only [decide_eq_false_iff_not] at h; omega
    subst hiN
    rw [List.take_length] at hall ⊢
    have hdig : digB l = true := digB_of hall (by omega) (by
      by_cases h1 : l.length = 1
      · exact .inl h1
      · exact .inr (fun h2 => hbad (.inr (.inr ⟨h2, by omega⟩))))
    have hv : numR l = some (digV l) := by unfold numR; rw [if_pos ⟨hdig, by omega⟩]
    refine Sat.exit ?_
    simp only [thenK, blockK, reduceIte]
    (repeat refine Sat.seq ?_)
    (refine Sat.region_k fun k hk => ?_; simp -implicitDefEqProofs only [evr, id, reduceCtorEq, reduceIte, Nat.reduceMul, Nat.reduceAdd, Nat.reduceLT, Nat.reduceLeDiff, Nat.reduceEqDiff, Int.reduceLT, Int.reduceBEq, Int.reduceBNe, Nat.reduceBEq, Int.reduceNeg, mkB_size, byteAt_mk, mkB_extract, mkB_append, mkB_toList, empB, evn]; refine hk _ ?_; clear hk k; try show Sat _ _ _ _ _)
    refine Sat.ret ?_
    simp only [Tryz.results63, evr, id, reduceCtorEq, reduceIte, Nat.reduceMul, Nat.reduceAdd, Nat.reduceLT, Nat.reduceLeDiff, Nat.reduceEqDiff, Int.reduceLT, Int.reduceBEq, Int.reduceBNe, Nat.reduceBEq, List.append_nil, Int.toNat_zero, Nat.sub_self, Int.reduceNeg, mkB_size, byteAt_mk, mkB_extract, mkB_append, mkB_toList, empB]
    unfold numS
    rw [hv]
    rfl
end Go.Proofs.YtepkbbmjbbnhnaaGreatDoor
