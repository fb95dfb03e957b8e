/- The reference's numbers. -/
import Derived.Test.YtepkbbmjbbnhnaaGreatDoorRxE
set_option linter.unusedSimpArgs false
set_option linter.unusedVariables false
namespace Go.Proofs.YtepkbbmjbbnhnaaGreatDoor
open Go.RowKit Eng Go.Sort
def isDig (c : UInt8) : Bool := decide (48 ≤ c.toNat) && decide (c.toNat ≤ 57)
def digB (l : List UInt8) : Bool := l.all isDig && (decide (0 < l.length) && (decide (l.length = 1) || decide (l.getD 0 0 ≠ 48)))
theorem digB_dec : ∀ n : Fin 1000, digB (Lib.decDigits n.val) = true := by decide +kernel
theorem ofNat_dig {c : UInt8} {k : Nat} (h : k = c.toNat) : UInt8.ofNat k = c := by subst h; simp
theorem dig_of {l : List UInt8} (h : digB l = true) (hl : l.length ≤ 3) : Lib.decDigits (digV l) = l ∧ digV l < 1000 := by
  unfold digB at h
  simp only [Bool.and_eq_true, decide_eq_true_eq, Bool.or_eq_true] at h
  obtain ⟨h1, h2, h3⟩ := h
  have hd : ∀ x ∈ l, 48 ≤ x.toNat ∧ x.toNat ≤ 57 := fun x hx => by
    have := List.all_eq_true.1 h1 x hx
    unfold isDig at this
    simpa using this
  match l, hl with
  | [], _ => simp at h2
  | [a], _ =>
    have ha := hd a (by simp)
    have hv : digV [a] = a.toNat - 48 := by simp [digV]
    have := dig_small ⟨digV [a], by omega⟩
    simp only at this
    rw [this, if_pos (by omega)]
    refine ⟨?_, by omega⟩
    rw [ofNat_dig (c := a) (by omega)]
  | [a, b], _ =>
    have ha := hd a (by simp)
    have hb := hd b (by simp)
    have hz : a ≠ 48 := by simpa using h3
    have hz' : a.toNat ≠ 48 := fun e => hz (UInt8.toNat_inj.1 (by rw [e]; rfl))
    have hv : digV [a, b] = 10 * (a.toNat - 48) + (b.toNat - 48) := by simp [digV]
    have := dig_small ⟨digV [a, b], by omega⟩
    simp only at this
    rw [this, if_neg (by omega), if_pos (by omega)]
    refine ⟨?_, by omega⟩
    rw [ofNat_dig (c := a) (by omega), ofNat_dig (c := b) (by omega)]
  | [a, b, c], _ =>
    have ha := hd a (by simp)
    have hb := hd b (by simp)
    have hc := hd c (by simp)
    have hz : a ≠ 48 := by simpa using h3
    have hz' : a.toNat ≠ 48 := fun e => hz (UInt8.toNat_inj.1 (by rw [e]; rfl))
    have hv : digV [a, b, c] = 10 * (10 * (a.toNat - 48) + (b.toNat - 48)) + (c.toNat - 48) := by simp [digV]
    have := dig_small ⟨digV [a, b, c], by omega⟩
    simp only at this
    rw [this, if_neg (by omega), if_neg (by omega)]
    refine ⟨?_, by omega⟩
    rw [ofNat_dig (c := a) (by omega), ofNat_dig (c := b) (by omega), ofNat_dig (c := c) (by omega)]
  | _ :: _ :: _ :: _ :: _, hl => simp at hl
theorem num_of_dig {l : List UInt8} {m : Nat} (hm : m < 1000) (h : digB l = true) (hl : l.length ≤ 3) : numB l m = if digV l ≤ m then some (digV l) else none := by
  obtain ⟨h1, h2⟩ := dig_of h hl
  split
  · rename_i h3
    conv => lhs; rw [← h1]
    exact numB_dig hm h3
  · rename_i h3
    cases hn : numB l m with
    | none => rfl
    | some n =>
      obtain ⟨g1, g2⟩ := numB_some hn
      rw [← h1] at g2
      have := dig_inj (by omega) h2 g2
      omega
theorem num_no_dig {l : List UInt8} {m : Nat} (hm : m < 1000) (h : ¬ (digB l = true ∧ l.length ≤ 3)) : numB l m = none := by
  cases hn : numB l m with
  | none => rfl
  | some n =>
    obtain ⟨g1, g2⟩ := numB_some hn
    subst g2
    exact absurd ⟨digB_dec ⟨n, by omega⟩, dig_len ⟨n, by omega⟩⟩ h
set_option maxRecDepth 100000 in
theorem rfDigitsC (F : Frm) (l : List UInt8) (hl : l.length ≤ 100000) : Contract F Tryz.prog 109 [sB l] (fun r => r = .b (digB l)) := by
  refine contract_of Tryz.func109 rfl (by kernel_rfl) ?_
  simp only [Tryz.ntmps109, argEnv]
  (repeat refine Sat.seq ?_)
  (refine Sat.region_k fun k hk => ?_; simp -implicitDefEqProofs only [evr, id, reduceCtorEq, reduceIte, Nat.reduceMul, Nat.reduceAdd, Nat.reduceLT, Nat.reduceLeDiff, Nat.reduceEqDiff, Int.reduceLT, Int.reduceBEq, Int.reduceBNe, Nat.reduceBEq, Int.reduceNeg, mkB_size, byteAt_mk, mkB_extract, mkB_append, mkB_toList, evn]; refine hk _ ?_; clear hk k; try show Sat _ _ _ _ _)
  (repeat refine Sat.seq ?_)
  (refine Sat.region_k fun k hk => ?_; simp -implicitDefEqProofs only [evr, id, reduceCtorEq, reduceIte, Nat.reduceMul, Nat.reduceAdd, Nat.reduceLT, Nat.reduceLeDiff, Nat.reduceEqDiff, Int.reduceLT, Int.reduceBEq, Int.reduceBNe, Nat.reduceBEq, Int.reduceNeg, mkB_size, byteAt_mk, mkB_extract, mkB_append, mkB_toList, evn]; refine hk _ ?_; clear hk k; try show Sat _ _ _ _ _)
  (repeat refine Sat.seq ?_)
  refine Sat.block ?_
  refine Sat.loop (ι := Nat) (fun i => ⟨33, [(3, .i .i64 i), (0, sB l)], []⟩) (fun i => i ≤ l.length ∧ (l.take i).all isDig = true) (fun i => l.length - i) 0 ⟨Nat.zero_le _, rfl⟩ (by simp -implicitDefEqProofs only [evr, id, reduceCtorEq, reduceIte, Nat.reduceMul, Nat.reduceAdd, Nat.reduceLT, Nat.reduceLeDiff, Nat.reduceEqDiff, Int.reduceLT, Int.reduceBEq, Int.reduceBNe, Nat.reduceBEq, Int.reduceNeg, mkB_size, byteAt_mk, mkB_extract, mkB_append, mkB_toList, evl, evn]; try rfl) ?_
  rintro i ⟨hi, hall⟩
  have e1 : IntKind.i64.wrap ((i : Int) + 1) = ((i + 1 : Nat) : Int) := by rw [w64 (by omega)]; omega
  (repeat refine Sat.seq ?_)
  (refine Sat.region_k fun k hk => ?_; simp -implicitDefEqProofs only [evr, id, reduceCtorEq, reduceIte, Nat.reduceMul, Nat.reduceAdd, Nat.reduceLT, Nat.reduceLeDiff, Nat.reduceEqDiff, Int.reduceLT, Int.reduceBEq, Int.reduceBNe, Nat.reduceBEq, Int.reduceNeg, mkB_size, byteAt_mk, mkB_extract, mkB_append, mkB_toList, evn]; refine hk _ ?_; clear hk k; try show Sat _ _ _ _ _)
  (repeat refine Sat.seq ?_)
  refine Sat.cond_b rfl (fun h => ?_) (fun h => ?_)
  · have hlt : i < l.length := by simp only [decide_eq_true_eq] at h; omega
    clear h
    have hmem : l.getD i 0 ∈ l := by rw [List.getD_eq_getElem?_getD, List.getElem?_eq_getElem hlt]; exact List.getElem_mem _
    have htk : l.take (i + 1) = l.take i ++ [l.getD i 0] := by
      rw [List.take_add_one, List.getElem?_eq_getElem hlt, List.getD_eq_getElem?_getD, List.getElem?_eq_getElem hlt]; rfl
    refine Sat.skip ?_
    simp only [thenK]
    (repeat refine Sat.seq ?_)
    refine Sat.block ?_
    (repeat refine Sat.seq ?_)
    refine Sat.region_at ⟨33, [(19, .b (!isDig (l.getD i 0))), (3, .i .i64 i), (0, sB l)], []⟩ (fun k hk => ?_) ?_
    · simp -implicitDefEqProofs only [evr, id, reduceCtorEq, reduceIte, Nat.reduceMul, Nat.reduceAdd, Nat.reduceLT, Nat.reduceLeDiff, Nat.reduceEqDiff, Int.reduceLT, Int.reduceBEq, Int.reduceBNe, Nat.reduceBEq, Int.reduceNeg, mkB_size, byteAt_mk, mkB_extract, mkB_append, mkB_toList, evn]
      refine ⟨by omega, fun h => ?_, fun h => ?_⟩
      · refine hk _ ?_
        have e : (!isDig (l.getD i 0)) = true := by
          generalize l.getD i 0 = c at h ⊢
          unfold isDig; simp; omega
        simp only [e]
        simp -implicitDefEqProofs only [evr, id, reduceCtorEq, reduceIte, Nat.reduceMul, Nat.reduceAdd, Nat.reduceLT, Nat.reduceLeDiff, Nat.reduceEqDiff, Int.reduceLT, Int.reduceBEq, Int.reduceBNe, Nat.reduceBEq, Int.reduceNeg, mkB_size, byteAt_mk, mkB_extract, mkB_append, mkB_toList, evl, evn]
      · refine ⟨by omega, ?_⟩
        refine hk _ ?_
        have e : decide (57 < ((l.getD i 0).toNat : Int)) = (!isDig (l.getD i 0)) := by
          generalize l.getD i 0 = c at h ⊢
          unfold isDig
          apply Bool.eq_iff_iff.2
          simp
          omega
        simp only [e]
        simp -implicitDefEqProofs only [evr, id, reduceCtorEq, reduceIte, Nat.reduceMul, Nat.reduceAdd, Nat.reduceLT, Nat.reduceLeDiff, Nat.reduceEqDiff, Int.reduceLT, Int.reduceBEq, Int.reduceBNe, Nat.reduceBEq, Int.reduceNeg, mkB_size, byteAt_mk, mkB_extract, mkB_append, mkB_toList, evl, evn]
    try simp only [thenK]
    refine Sat.cond_b rfl (fun h => ?_) (fun h => ?_)
    · (repeat refine Sat.seq ?_)
      (refine Sat.region_k fun k hk => ?_; simp -implicitDefEqProofs only [evr, id, reduceCtorEq, reduceIte, Nat.reduceMul, Nat.reduceAdd, Nat.reduceLT, Nat.reduceLeDiff, Nat.reduceEqDiff, Int.reduceLT, Int.reduceBEq, Int.reduceBNe, Nat.reduceBEq, Int.reduceNeg, mkB_size, byteAt_mk, mkB_extract, mkB_append, mkB_toList, evn]; refine hk _ ?_; clear hk k; try show Sat _ _ _ _ _)
      refine Sat.ret ?_
      simp only [Tryz.results109, evr, id, reduceCtorEq, reduceIte, Nat.reduceMul, Nat.reduceAdd, Nat.reduceLT, Nat.reduceLeDiff, Nat.reduceEqDiff, Int.reduceLT, Int.reduceBEq, Int.reduceBNe, Nat.reduceBEq, List.append_nil, Int.toNat_zero, Nat.sub_self, Int.reduceNeg, mkB_size, byteAt_mk, mkB_extract, mkB_append, mkB_toList]
      have : digB l = false := by
        unfold digB
        have h2 : l.all isDig = false := by
          apply Bool.eq_false_iff.2
          intro h3
          have := List.all_eq_true.1 h3 _ hmem
          rw [this] at h
          cases h
        rw [h2]; rfl
      rw [this]
    · refine Sat.skip ?_
      simp only [thenK, blockK]
      refine Sat.region_k fun k hk => ?_
      simp -implicitDefEqProofs only [evr, id, reduceCtorEq, reduceIte, Nat.reduceMul, Nat.reduceAdd, Nat.reduceLT, Nat.reduceLeDiff, Nat.reduceEqDiff, Int.reduceLT, Int.reduceBEq, Int.reduceBNe, Nat.reduceBEq, Int.reduceNeg, mkB_size, byteAt_mk, mkB_extract, mkB_append, mkB_toList, e1, evn]
      refine hk _ ?_
      simp only [thenK, blockK]
      refine ⟨i + 1, ⟨hlt, ?_⟩, by omega, ?_⟩
      · rw [htk, List.all_append, hall]
        simpa using h
      · simp -implicitDefEqProofs only [evr, id, reduceCtorEq, reduceIte, Nat.reduceMul, Nat.reduceAdd, Nat.reduceLT, Nat.reduceLeDiff, Nat.reduceEqDiff, Int.reduceLT, Int.reduceBEq, Int.reduceBNe, Nat.reduceBEq, Int.reduceNeg, mkB_size, byteAt_mk, mkB_extract, mkB_append, mkB_toList, evl, evn]
  · have hiN : i = l.length := by simp only [decide_eq_false_iff_not] at h; omega
    subst hiN
    rw [List.take_length] at hall
    refine Sat.exit ?_
    simp only [thenK, blockK, reduceIte]
    (repeat refine Sat.seq ?_)
    refine Sat.region_at ⟨33, [(2, .b (digB l))], []⟩ (fun k hk => ?_) ?_
    · have eB : digB l = (decide (0 < l.length) && (decide (l.length = 1) || decide (l.getD 0 0 ≠ 48))) := by unfold digB; rw [hall, Bool.true_and]
      simp -implicitDefEqProofs only [evr, id, reduceCtorEq, reduceIte, Nat.reduceMul, Nat.reduceAdd, Nat.reduceLT, Nat.reduceLeDiff, Nat.reduceEqDiff, Int.reduceLT, Int.reduceBEq, Int.reduceBNe, Nat.reduceBEq, Int.reduceNeg, mkB_size, byteAt_mk, mkB_extract, mkB_append, mkB_toList, evn]
      refine ⟨fun h1 => ⟨fun h2 => ?_, fun h2 => ?_⟩, fun h1 => ?_⟩
      · refine hk _ ?_
        have e : digB l = true := by
          rw [eB]
          have : l.length = 1 := by simp at h2; omega
          simp [this]
        simp only [e]
        simp -implicitDefEqProofs only [evr, id, reduceCtorEq, reduceIte, Nat.reduceMul, Nat.reduceAdd, Nat.reduceLT, Nat.reduceLeDiff, Nat.reduceEqDiff, Int.reduceLT, Int.reduceBEq, Int.reduceBNe, Nat.reduceBEq, Int.reduceNeg, mkB_size, byteAt_mk, mkB_extract, mkB_append, mkB_toList, evl, evn]
      · refine ⟨by omega, ?_⟩
        refine hk _ ?_
        have e : (((l.getD 0 0).toNat : Int) != 48) = digB l := by
          rw [eB]
          have h3 : l.length ≠ 1 := by simp at h2; omega
          have h4 : (((l.getD 0 0).toNat : Int) == 48) = decide (l.getD 0 0 = 48) := byte_eq _ 48
          have h5 : 0 < l.length := by omega
          simp only [bne, h4, decide_eq_true h5, decide_eq_false h3]
          by_cases h6 : l.getD 0 0 = 48 <;> simp [h6]
        simp only [e]
        simp -implicitDefEqProofs only [evr, id, reduceCtorEq, reduceIte, Nat.reduceMul, Nat.reduceAdd, Nat.reduceLT, Nat.reduceLeDiff, Nat.reduceEqDiff, Int.reduceLT, Int.reduceBEq, Int.reduceBNe, Nat.reduceBEq, Int.reduceNeg, mkB_size, byteAt_mk, mkB_extract, mkB_append, mkB_toList, evl, evn]
      · refine hk _ ?_
        have e : digB l = false := by
          rw [eB]
          have : ¬ 0 < l.length := by omega
          simp [this]
        simp only [e]
        simp -implicitDefEqProofs only [evr, id, reduceCtorEq, reduceIte, Nat.reduceMul, Nat.reduceAdd, Nat.reduceLT, Nat.reduceLeDiff, Nat.reduceEqDiff, Int.reduceLT, Int.reduceBEq, Int.reduceBNe, Nat.reduceBEq, Int.reduceNeg, mkB_size, byteAt_mk, mkB_extract, mkB_append, mkB_toList, evl, evn]
    try simp only [thenK]
    refine Sat.ret ?_
    simp only [Tryz.results109, evr, id, reduceCtorEq, reduceIte, Nat.reduceMul, Nat.reduceAdd, Nat.reduceLT, Nat.reduceLeDiff, Nat.reduceEqDiff, Int.reduceLT, Int.reduceBEq, Int.reduceBNe, Nat.reduceBEq, List.append_nil, Int.toNat_zero, Nat.sub_self, Int.reduceNeg, mkB_size, byteAt_mk, mkB_extract, mkB_append, mkB_toList]
theorem digV_snoc (l : List UInt8) (c : UInt8) : digV (l ++ [c]) = 10 * digV l + (c.toNat - 48) := by unfold digV; rw [List.foldl_append]; rfl
theorem digV_bound {l : List UInt8} (h : l.all isDig = true) : digV l + 1 ≤ 10 ^ l.length := by
  have : ∀ (l : List UInt8) (acc : Nat), l.all isDig = true → l.foldl (fun n c => 10 * n + (c.toNat - 48)) acc + 1 ≤ (acc + 1) * 10 ^ l.length := by
    intro l
    induction l with
    | nil => intro acc _; simp
    | cons x l ih =>
      intro acc h
      simp only [List.all_cons, Bool.and_eq_true] at h
      have h1 := ih (10 * acc + (x.toNat - 48)) h.2
      have h2 := h.1
      unfold isDig at h2
      simp only [Bool.and_eq_true, decide_eq_true_eq] at h2
      rw [List.foldl_cons, List.length_cons, Nat.pow_succ]
      refine Nat.le_trans h1 ?_
      have h3 : 10 * acc + (x.toNat - 48) + 1 ≤ (acc + 1) * 10 := by omega
      have := Nat.mul_le_mul_right (10 ^ l.length) h3
      calc (10 * acc + (x.toNat - 48) + 1) * 10 ^ l.length ≤ (acc + 1) * 10 * 10 ^ l.length := this
        _ = (acc + 1) * (10 ^ l.length * 10) := by rw [Nat.mul_assoc, Nat.mul_comm 10]
  have h2 := this l 0 h
  unfold digV
  omega
set_option maxRecDepth 100000 in
theorem rfSmallC (F : Frm) (l : List UInt8) (m : Nat) (hm : m < 1000) (hl : l.length ≤ 100000) : Contract F Tryz.prog 90 [sB l, .i .i64 m] (NumPost l m) := by
  refine contract_of Tryz.func90 rfl (by kernel_rfl) ?_
  simp only [Tryz.ntmps90, argEnv]
  (repeat refine Sat.seq ?_)
  (refine Sat.region_k fun k hk => ?_; simp -implicitDefEqProofs only [evr, id, reduceCtorEq, reduceIte, Nat.reduceMul, Nat.reduceAdd, Nat.reduceLT, Nat.reduceLeDiff, Nat.reduceEqDiff, Int.reduceLT, Int.reduceBEq, Int.reduceBNe, Nat.reduceBEq, Int.reduceNeg, mkB_size, byteAt_mk, mkB_extract, mkB_append, mkB_toList, evn]; refine hk _ ?_; clear hk k; try show Sat _ _ _ _ _)
  (repeat refine Sat.seq ?_)
  refine Sat.region_at ⟨34, [(15, .b (!(digB l && decide (l.length ≤ 3)))), (0, sB l), (1, .i .i64 m)], []⟩ (fun k hk => ?_) ?_
  · simp -implicitDefEqProofs only [evr, id, reduceCtorEq, reduceIte, Nat.reduceMul, Nat.reduceAdd, Nat.reduceLT, Nat.reduceLeDiff, Nat.reduceEqDiff, Int.reduceLT, Int.reduceBEq, Int.reduceBNe, Nat.reduceBEq, Int.reduceNeg, mkB_size, byteAt_mk, mkB_extract, mkB_append, mkB_toList, evn]
    refine wcall_plain (rfDigitsC F l hl) rfl (by rintro _ rfl; exact ok_plain rfl) ?_
    rintro r rfl
    simp -implicitDefEqProofs only [evr, id, reduceCtorEq, reduceIte, Nat.reduceMul, Nat.reduceAdd, Nat.reduceLT, Nat.reduceLeDiff, Nat.reduceEqDiff, Int.reduceLT, Int.reduceBEq, Int.reduceBNe, Nat.reduceBEq, Int.reduceNeg, mkB_size, byteAt_mk, mkB_extract, mkB_append, mkB_toList, evn]
    refine ⟨fun h => ?_, fun h => ?_⟩
    · refine hk _ ?_
      have e : (!(digB l && decide (l.length ≤ 3))) = true := by
        have : digB l = false := by simpa using h
        simp [this]
      simp only [e]
      simp -implicitDefEqProofs only [evr, id, reduceCtorEq, reduceIte, Nat.reduceMul, Nat.reduceAdd, Nat.reduceLT, Nat.reduceLeDiff, Nat.reduceEqDiff, Int.reduceLT, Int.reduceBEq, Int.reduceBNe, Nat.reduceBEq, Int.reduceNeg, mkB_size, byteAt_mk, mkB_extract, mkB_append, mkB_toList, evl, evn]
    · refine hk _ ?_
      have e : decide (3 < (l.length : Int)) = (!(digB l && decide (l.length ≤ 3))) := by
        have : digB l = true := by simpa using h
        rw [this, Bool.true_and]
        apply Bool.eq_iff_iff.2
        simp
        omega
      simp only [e]
      simp -implicitDefEqProofs only [evr, id, reduceCtorEq, reduceIte, Nat.reduceMul, Nat.reduceAdd, Nat.reduceLT, Nat.reduceLeDiff, Nat.reduceEqDiff, Int.reduceLT, Int.reduceBEq, Int.reduceBNe, Nat.reduceBEq, Int.reduceNeg, mkB_size, byteAt_mk, mkB_extract, mkB_append, mkB_toList, evl, evn]
  try simp only [thenK]
  refine Sat.cond_b rfl (fun h => ?_) (fun h => ?_)
  · have hno : ¬ (digB l = true ∧ l.length ≤ 3) := by
      rintro ⟨h1, h2⟩
      rw [h1, decide_eq_true h2] at h
      cases h
    have hn := num_no_dig hm hno
    (repeat refine Sat.seq ?_)
    (refine Sat.region_k fun k hk => ?_; simp -implicitDefEqProofs only [evr, id, reduceCtorEq, reduceIte, Nat.reduceMul, Nat.reduceAdd, Nat.reduceLT, Nat.reduceLeDiff, Nat.reduceEqDiff, Int.reduceLT, Int.reduceBEq, Int.reduceBNe, Nat.reduceBEq, Int.reduceNeg, mkB_size, byteAt_mk, mkB_extract, mkB_append, mkB_toList, evn]; refine hk _ ?_; clear hk k; try show Sat _ _ _ _ _)
    refine Sat.ret ?_
    simp only [Tryz.results90, evr, id, reduceCtorEq, reduceIte, Nat.reduceMul, Nat.reduceAdd, Nat.reduceLT, Nat.reduceLeDiff, Nat.reduceEqDiff, Int.reduceLT, Int.reduceBEq, Int.reduceBNe, Nat.reduceBEq, List.append_nil, Int.toNat_zero, Nat.sub_self, Int.reduceNeg, mkB_size, byteAt_mk, mkB_extract, mkB_append, mkB_toList]
    exact ⟨0, by rw [hn]; rfl, fun n hn2 => by rw [hn] at hn2; cases hn2⟩
  · have hyes : digB l = true ∧ l.length ≤ 3 := by simpa using h
    have hnum := num_of_dig hm hyes.1 hyes.2
    have hdl := (dig_of hyes.1 hyes.2).2
    have hall : l.all isDig = true := by
      have := hyes.1
      unfold digB at this
      simp only [Bool.and_eq_true] at this
      exact this.1
    refine Sat.skip ?_
    simp only [thenK]
    (repeat refine Sat.seq ?_)
    (refine Sat.region_k fun k hk => ?_; simp -implicitDefEqProofs only [evr, id, reduceCtorEq, reduceIte, Nat.reduceMul, Nat.reduceAdd, Nat.reduceLT, Nat.reduceLeDiff, Nat.reduceEqDiff, Int.reduceLT, Int.reduceBEq, Int.reduceBNe, Nat.reduceBEq, Int.reduceNeg, mkB_size, byteAt_mk, mkB_extract, mkB_append, mkB_toList, evn]; refine hk _ ?_; clear hk k; try show Sat _ _ _ _ _)
    (repeat refine Sat.seq ?_)
    (refine Sat.region_k fun k hk => ?_; simp -implicitDefEqProofs only [evr, id, reduceCtorEq, reduceIte, Nat.reduceMul, Nat.reduceAdd, Nat.reduceLT, Nat.reduceLeDiff, Nat.reduceEqDiff, Int.reduceLT, Int.reduceBEq, Int.reduceBNe, Nat.reduceBEq, Int.reduceNeg, mkB_size, byteAt_mk, mkB_extract, mkB_append, mkB_toList, evn]; refine hk _ ?_; clear hk k; try show Sat _ _ _ _ _)
    (repeat refine Sat.seq ?_)
    refine Sat.block ?_
    refine Sat.loop (ι := Nat) (fun i => ⟨34, [(7, .i .i64 i), (6, .i .i64 (digV (l.take i) : Nat)), (0, sB l), (1, .i .i64 m)], []⟩) (fun i => i ≤ l.length) (fun i => l.length - i) 0 (Nat.zero_le _) (by simp -implicitDefEqProofs only [evr, id, reduceCtorEq, reduceIte, Nat.reduceMul, Nat.reduceAdd, Nat.reduceLT, Nat.reduceLeDiff, Nat.reduceEqDiff, Int.reduceLT, Int.reduceBEq, Int.reduceBNe, Nat.reduceBEq, Int.reduceNeg, mkB_size, byteAt_mk, mkB_extract, mkB_append, mkB_toList, evl, evn]; exact ⟨rfl, rfl⟩) ?_
    intro i hi
    have e1 : IntKind.i64.wrap ((i : Int) + 1) = ((i + 1 : Nat) : Int) := by rw [w64 (by omega)]; omega
    (repeat refine Sat.seq ?_)
    (refine Sat.region_k fun k hk => ?_; simp -implicitDefEqProofs only [evr, id, reduceCtorEq, reduceIte, Nat.reduceMul, Nat.reduceAdd, Nat.reduceLT, Nat.reduceLeDiff, Nat.reduceEqDiff, Int.reduceLT, Int.reduceBEq, Int.reduceBNe, Nat.reduceBEq, Int.reduceNeg, mkB_size, byteAt_mk, mkB_extract, mkB_append, mkB_toList, evn]; refine hk _ ?_; clear hk k; try show Sat _ _ _ _ _)
    (repeat refine Sat.seq ?_)
    refine Sat.cond_b rfl (fun h => ?_) (fun h => ?_)
    · have hlt : i < l.length := by simp only [decide_eq_true_eq] at h; omega
      clear h
      have hmem : l.getD i 0 ∈ l := by rw [List.getD_eq_getElem?_getD, List.getElem?_eq_getElem hlt]; exact List.getElem_mem _
      have htk : l.take (i + 1) = l.take i ++ [l.getD i 0] := by
        rw [List.take_add_one, List.getElem?_eq_getElem hlt, List.getD_eq_getElem?_getD, List.getElem?_eq_getElem hlt]; rfl
      have hc := List.all_eq_true.1 hall _ hmem
      have hb := digV_bound (l := l.take i) (by
        rw [List.all_eq_true] at hall ⊢
        exact fun x hx => hall x (List.mem_of_mem_take hx))
      have hb2 : 10 ^ (l.take i).length ≤ 10 ^ 3 := Nat.pow_le_pow_right (by decide) (by rw [List.length_take]; omega)
      have hsn : digV (l.take (i + 1)) = 10 * digV (l.take i) + ((l.getD i 0).toNat - 48) := by rw [htk, digV_snoc]
      obtain ⟨c, hcc⟩ : ∃ c, l.getD i 0 = c := ⟨_, rfl⟩
      rw [hcc] at hc hsn
      unfold isDig at hc
      simp only [Bool.and_eq_true, decide_eq_true_eq] at hc
      have e2 : IntKind.u8.wrap ((c.toNat : Int) - 48) = ((c.toNat - 48 : Nat) : Int) := by
        rw [IntKind.wrap_u8]; omega
      have e3 : IntKind.i64.wrap ((c.toNat - 48 : Nat) : Int) = ((c.toNat - 48 : Nat) : Int) := w64 (by omega)
      have e4 : IntKind.i64.wrap (10 * (digV (l.take i) : Int)) = ((10 * digV (l.take i) : Nat) : Int) := by rw [w64 (by omega)]; omega
      have e5 : IntKind.i64.wrap (((10 * digV (l.take i) : Nat) : Int) + ((c.toNat - 48 : Nat) : Int)) = (digV (l.take (i + 1)) : Int) := by rw [hsn, w64 (by omega)]; omega
      refine Sat.skip ?_
      simp only [thenK]
      (repeat refine Sat.seq ?_)
      refine Sat.block ?_
      refine Sat.region_k fun k hk => ?_
      simp -implicitDefEqProofs only [evr, id, reduceCtorEq, reduceIte, Nat.reduceMul, Nat.reduceAdd, Nat.reduceLT, Nat.reduceLeDiff, Nat.reduceEqDiff, Int.reduceLT, Int.reduceBEq, Int.reduceBNe, Nat.reduceBEq, Int.reduceNeg, mkB_size, byteAt_mk, mkB_extract, mkB_append, mkB_toList, hcc, e2, e3, e4, e5, evn]
      refine ⟨by omega, ?_⟩
      refine hk _ ?_
      simp only [thenK, blockK]
      refine Sat.region_k fun k hk => ?_
      simp -implicitDefEqProofs only [evr, id, reduceCtorEq, reduceIte, Nat.reduceMul, Nat.reduceAdd, Nat.reduceLT, Nat.reduceLeDiff, Nat.reduceEqDiff, Int.reduceLT, Int.reduceBEq, Int.reduceBNe, Nat.reduceBEq, Int.reduceNeg, mkB_size, byteAt_mk, mkB_extract, mkB_append, mkB_toList, e1, evn]
      refine hk _ ?_
      simp only [thenK, blockK]
      refine ⟨i + 1, hlt, by omega, ?_⟩
      simp -implicitDefEqProofs only [evr, id, reduceCtorEq, reduceIte, Nat.reduceMul, Nat.reduceAdd, Nat.reduceLT, Nat.reduceLeDiff, Nat.reduceEqDiff, Int.reduceLT, Int.reduceBEq, Int.reduceBNe, Nat.reduceBEq, Int.reduceNeg, mkB_size, byteAt_mk, mkB_extract, mkB_append, mkB_toList, evl, evn]
    · have hiN : i = l.length := by simp only [decide_eq_false_iff_not] at h; omega
      subst hiN
      rw [List.take_length]
      refine Sat.exit ?_
      simp only [thenK, blockK, reduceIte]
      (repeat refine Sat.seq ?_)
      (refine Sat.region_k fun k hk => ?_; simp -implicitDefEqProofs only [evr, id, reduceCtorEq, reduceIte, Nat.reduceMul, Nat.reduceAdd, Nat.reduceLT, Nat.reduceLeDiff, Nat.reduceEqDiff, Int.reduceLT, Int.reduceBEq, Int.reduceBNe, Nat.reduceBEq, Int.reduceNeg, mkB_size, byteAt_mk, mkB_extract, mkB_append, mkB_toList, evn]; refine hk _ ?_; clear hk k; try show Sat _ _ _ _ _)
      refine Sat.ret ?_
      simp only [Tryz.results90, evr, id, reduceCtorEq, reduceIte, Nat.reduceMul, Nat.reduceAdd, Nat.reduceLT, Nat.reduceLeDiff, Nat.reduceEqDiff, Int.reduceLT, Int.reduceBEq, Int.reduceBNe, Nat.reduceBEq, List.append_nil, Int.toNat_zero, Nat.sub_self, Int.reduceNeg, mkB_size, byteAt_mk, mkB_extract, mkB_append, mkB_toList]
      refine ⟨(digV l : Nat), ?_, fun n hn => ?_⟩
      · rw [hnum]
        by_cases h3 : digV l ≤ m
        · rw [if_pos h3, decide_eq_true (by omega)]; rfl
        · rw [if_neg h3, decide_eq_false (by omega)]; rfl
      · rw [hnum] at hn
        split at hn
        · injection hn with hn; rw [hn]
        · cases hn
theorem bytes_one (k : Nat) (hk : k < 256) : bytesOf [(k : Int)] = mkB [UInt8.ofNat k] := by
  unfold bytesOf
  simp only [List.foldl_cons, List.foldl_nil, Int.toNat_natCast]
  rfl
theorem cat_lim {a b : Nat} (h : a + b ≤ 1000000) : (((a + b : Nat) : Int) ≤ IntKind.i64.max) = True := by
  have e : IntKind.i64.max = 9223372036854775807 := by decide
  rw [e]
  exact eq_true (by omega)
set_option maxRecDepth 100000 in
theorem decimalC (F : Frm) (n : Nat) (hn : n < 1000) : Contract F Tryz.prog 85 [.i .i64 n] (fun r => r = sB (Lib.decDigits n)) := by
  induction n using Nat.strongRecOn with
  | _ n ih =>
  have e1 : Int.tmod (n : Int) 10 = ((n % 10 : Nat) : Int) := by rw [Int.tmod_eq_emod_of_nonneg (Int.natCast_nonneg _)]; omega
  have e2 : IntKind.i64.wrap (48 + ((n % 10 : Nat) : Int)) = ((48 + n % 10 : Nat) : Int) := by rw [w64 (by omega)]; omega
  have e3 : IntKind.u8.wrap ((48 + n % 10 : Nat) : Int) = ((48 + n % 10 : Nat) : Int) := by rw [IntKind.wrap_u8]; omega
  have e4 : IntKind.i64.wrap (Int.tdiv (n : Int) 10) = ((n / 10 : Nat) : Int) := by
    rw [Int.tdiv_eq_ediv_of_nonneg (Int.natCast_nonneg _), w64 (by omega)]; omega
  refine contract_of Tryz.func85 rfl (by kernel_rfl) ?_
  simp only [Tryz.ntmps85, argEnv]
  (repeat refine Sat.seq ?_)
  (refine Sat.region_k fun k hk => ?_; simp -implicitDefEqProofs only [evr, id, reduceCtorEq, reduceIte, Nat.reduceMul, Nat.reduceAdd, Nat.reduceLT, Nat.reduceLeDiff, Nat.reduceEqDiff, Int.reduceLT, Int.reduceBEq, Int.reduceBNe, Nat.reduceBEq, Int.reduceNeg, mkB_size, byteAt_mk, mkB_extract, mkB_append, mkB_toList, evn]; refine hk _ ?_; clear hk k; try show Sat _ _ _ _ _)
  (repeat refine Sat.seq ?_)
  refine Sat.region_k fun k hk => ?_
  simp -implicitDefEqProofs only [evr, id, reduceCtorEq, reduceIte, Nat.reduceMul, Nat.reduceAdd, Nat.reduceLT, Nat.reduceLeDiff, Nat.reduceEqDiff, Int.reduceLT, Int.reduceBEq, Int.reduceBNe, Nat.reduceBEq, Int.reduceNeg, mkB_size, byteAt_mk, mkB_extract, mkB_append, mkB_toList, e1, e2, e3, evn]
  refine ⟨by decide, fun blk => ⟨fun i hi => ?_, ?_⟩⟩
  · obtain rfl : i = 0 := by omega
    exact ⟨_, rfl⟩
  have e5 : bytesOf [Eng.intOf (rdL [SV.i IntKind.u8 ((48 + n % 10 : Nat) : Int)] 1 0 0)] = mkB [UInt8.ofNat (48 + n % 10)] := bytes_one _ (by omega)
  simp only [e5]
  refine hk _ ?_
  clear hk
  simp only [thenK]
  refine Sat.le (st' := ⟨18, [(3, sB [UInt8.ofNat (48 + n % 10)]), (0, .i .i64 n)], []⟩) ?_ (by simp -implicitDefEqProofs only [evr, id, reduceCtorEq, reduceIte, Nat.reduceMul, Nat.reduceAdd, Nat.reduceLT, Nat.reduceLeDiff, Nat.reduceEqDiff, Int.reduceLT, Int.reduceBEq, Int.reduceBNe, Nat.reduceBEq, Int.reduceNeg, mkB_size, byteAt_mk, mkB_extract, mkB_append, mkB_toList, evl, evn])
  (repeat refine Sat.seq ?_)
  (refine Sat.region_k fun k hk => ?_; simp -implicitDefEqProofs only [evr, id, reduceCtorEq, reduceIte, Nat.reduceMul, Nat.reduceAdd, Nat.reduceLT, Nat.reduceLeDiff, Nat.reduceEqDiff, Int.reduceLT, Int.reduceBEq, Int.reduceBNe, Nat.reduceBEq, Int.reduceNeg, mkB_size, byteAt_mk, mkB_extract, mkB_append, mkB_toList, evn]; refine hk _ ?_; clear hk k; try show Sat _ _ _ _ _)
  (repeat refine Sat.seq ?_)
  refine Sat.cond_b rfl (fun h => ?_) (fun h => ?_)
  · have h10 : 10 ≤ n := by simp only [decide_eq_true_eq] at h; omega
    have hd : Lib.decDigits n = Lib.decDigits (n / 10) ++ [UInt8.ofNat (48 + n % 10)] := by
      conv => lhs; rw [Lib.decDigits]
      rw [dif_neg (by omega)]
    have c1 := cat_lim (a := (Lib.decDigits (n / 10)).length) (b := 1) (by have := dig_len ⟨n / 10, by omega⟩; simp only at this; omega)
    (repeat refine Sat.seq ?_)
    refine Sat.region_k fun k hk => ?_
    simp -implicitDefEqProofs only [evr, id, reduceCtorEq, reduceIte, Nat.reduceMul, Nat.reduceAdd, Nat.reduceLT, Nat.reduceLeDiff, Nat.reduceEqDiff, Int.reduceLT, Int.reduceBEq, Int.reduceBNe, Nat.reduceBEq, Int.reduceNeg, mkB_size, byteAt_mk, mkB_extract, mkB_append, mkB_toList, e4, evn]
    refine ⟨by decide, ?_⟩
    refine wcall_plain (ih (n / 10) (by omega) (by omega)) rfl (by rintro _ rfl; exact ok_plain rfl) ?_
    rintro r rfl
    simp -implicitDefEqProofs only [evr, id, reduceCtorEq, reduceIte, Nat.reduceMul, Nat.reduceAdd, Nat.reduceLT, Nat.reduceLeDiff, Nat.reduceEqDiff, Int.reduceLT, Int.reduceBEq, Int.reduceBNe, Nat.reduceBEq, Int.reduceNeg, mkB_size, byteAt_mk, mkB_extract, mkB_append, mkB_toList, c1, evn]
    (refine hk _ ?_; clear hk k; try show Sat _ _ _ _ _)
    refine Sat.ret ?_
    simp only [Tryz.results85, evr, id, reduceCtorEq, reduceIte, Nat.reduceMul, Nat.reduceAdd, Nat.reduceLT, Nat.reduceLeDiff, Nat.reduceEqDiff, Int.reduceLT, Int.reduceBEq, Int.reduceBNe, Nat.reduceBEq, List.append_nil, Int.toNat_zero, Nat.sub_self, Int.reduceNeg, mkB_size, byteAt_mk, mkB_extract, mkB_append, mkB_toList]
    rw [hd]
  · have h10 : n < 10 := by simp only [decide_eq_false_iff_not] at h; omega
    have hd : Lib.decDigits n = [UInt8.ofNat (48 + n % 10)] := by
      conv => lhs; rw [Lib.decDigits]
      rw [dif_pos h10, Nat.mod_eq_of_lt h10]
    refine Sat.skip ?_
    simp only [thenK]
    (repeat refine Sat.seq ?_)
    (refine Sat.region_k fun k hk => ?_; simp -implicitDefEqProofs only [evr, id, reduceCtorEq, reduceIte, Nat.reduceMul, Nat.reduceAdd, Nat.reduceLT, Nat.reduceLeDiff, Nat.reduceEqDiff, Int.reduceLT, Int.reduceBEq, Int.reduceBNe, Nat.reduceBEq, Int.reduceNeg, mkB_size, byteAt_mk, mkB_extract, mkB_append, mkB_toList, evn]; refine hk _ ?_; clear hk k; try show Sat _ _ _ _ _)
    refine Sat.ret ?_
    simp only [Tryz.results85, evr, id, reduceCtorEq, reduceIte, Nat.reduceMul, Nat.reduceAdd, Nat.reduceLT, Nat.reduceLeDiff, Nat.reduceEqDiff, Int.reduceLT, Int.reduceBEq, Int.reduceBNe, Nat.reduceBEq, List.append_nil, Int.toNat_zero, Nat.sub_self, Int.reduceNeg, mkB_size, byteAt_mk, mkB_extract, mkB_append, mkB_toList]
    rw [hd]
end Go.Proofs.YtepkbbmjbbnhnaaGreatDoor
