/- address.Parse of any string. -/
import Derived.Test.YtepkbbmjbbnhnaaGreatDoorRxB
set_option linter.unusedSimpArgs false
set_option linter.unusedVariables false
namespace Go.Proofs.YtepkbbmjbbnhnaaGreatDoor
open Go.RowKit Eng
theorem adVal_snoc (l : List Nat) (n : Nat) : adVal (l ++ [n]) = adVal l * 256 + n := by unfold adVal; rw [List.foldl_append]; rfl
theorem adVal_bound : ∀ (l : List Nat) (acc : Nat), (∀ n ∈ l, n ≤ 255) → l.foldl (fun a n => a * 256 + n) acc + 1 ≤ (acc + 1) * 256 ^ l.length
  | [], acc, _ => by simp
  | x :: l, acc, h => by
    have h1 := adVal_bound l (acc * 256 + x) (fun n hn => h n (List.mem_cons_of_mem _ hn))
    have h2 := h x List.mem_cons_self
    rw [List.foldl_cons, List.length_cons, Nat.pow_succ]
    refine Nat.le_trans h1 ?_
    have h3 : acc * 256 + x + 1 ≤ (acc + 1) * 256 := by omega
    have := Nat.mul_le_mul_right (256 ^ l.length) h3
    calc (acc * 256 + x + 1) * 256 ^ l.length ≤ (acc + 1) * 256 * 256 ^ l.length := this
      _ = (acc + 1) * (256 ^ l.length * 256) := by rw [Nat.mul_assoc, Nat.mul_comm 256]
theorem adVal_lt {l : List Nat} (h : ∀ n ∈ l, n ≤ 255) (hl : l.length ≤ 3) : adVal l < 16777216 := by
  have h1 := adVal_bound l 0 h
  have h2 : 256 ^ l.length ≤ 256 ^ 3 := Nat.pow_le_pow_right (by decide) hl
  unfold adVal
  omega
structure CutRes (rest part rest' : List UInt8) (more : Bool) : Prop where
  yes : more = true → splitB 46 rest = part :: splitB 46 rest'
  no : more = false → splitB 46 rest = [part]
  len : part.length ≤ rest.length ∧ rest'.length ≤ rest.length
theorem cut_dot (F : Frm) (rest : List UInt8) (hl : rest.length < 4294967296) : ∃ part rest' more, CutRes rest part rest' more ∧ Contract F Tryz.prog 57 [sB rest, .v (.string ⟨#[46]⟩)] (fun r => r = tupL [sB part, sB rest', .b more]) := by
  have h := Lib.indexByte_ge rest 46
  rcases Int.lt_or_le (Lib.indexByte rest 46) 0 with h1 | h1
  · have e : Lib.indexByte rest 46 = -1 := by omega
    exact ⟨rest, [], false, ⟨(fun h => by cases h), fun _ => split_index_none e, Nat.le_refl _, Nat.zero_le _⟩, cutNoL F 46 rest e⟩
  · obtain ⟨n, e⟩ := Int.eq_ofNat_of_zero_le h1
    exact ⟨rest.take n, rest.drop (n + 1), true, ⟨fun _ => split_index_some e, (fun h => by cases h), by rw [List.length_take]; exact Nat.min_le_right _ _, by rw [List.length_drop]; exact Nat.sub_le _ _⟩, cutL F 46 rest n e hl⟩
theorem getElem_mid {A : Type} (l r : List A) (x : A) : (l ++ x :: r)[l.length]? = some x := by simp
set_option maxRecDepth 100000 in
theorem parseC (l0 : List UInt8) (hl0 : l0.length < 4294967296) : Contract FrB Tryz.prog 102 [sB l0] (fun r => r = parS l0) := by
  refine contract_of Tryz.func102 rfl (by kernel_rfl) ?_
  simp only [Tryz.ntmps102, argEnv]
  (repeat refine Sat.seq ?_)
  (refine Sat.region_k fun k hk => ?_; simp -implicitDefEqProofs only [evr, id, reduceCtorEq, reduceIte, Nat.reduceMul, Nat.reduceAdd, Nat.reduceLT, Nat.reduceLeDiff, Nat.reduceEqDiff, Int.reduceLT, Int.reduceBEq, Int.reduceBNe, Nat.reduceBEq, Int.reduceNeg, evn]; refine hk _ ?_; clear hk k; try show Sat _ _ _ _ _)
  (repeat refine Sat.seq ?_)
  (refine Sat.region_k fun k hk => ?_; simp -implicitDefEqProofs only [evr, id, reduceCtorEq, reduceIte, Nat.reduceMul, Nat.reduceAdd, Nat.reduceLT, Nat.reduceLeDiff, Nat.reduceEqDiff, Int.reduceLT, Int.reduceBEq, Int.reduceBNe, Nat.reduceBEq, Int.reduceNeg, evn]; refine hk _ ?_; clear hk k; try show Sat _ _ _ _ _)
  (repeat refine Sat.seq ?_)
  (refine Sat.region_k fun k hk => ?_; simp -implicitDefEqProofs only [evr, id, reduceCtorEq, reduceIte, Nat.reduceMul, Nat.reduceAdd, Nat.reduceLT, Nat.reduceLeDiff, Nat.reduceEqDiff, Int.reduceLT, Int.reduceBEq, Int.reduceBNe, Nat.reduceBEq, Int.reduceNeg, evn]; refine hk _ ?_; clear hk k; try show Sat _ _ _ _ _)
  (repeat refine Sat.seq ?_)
  refine Sat.block ?_
  refine Sat.loop (ι := Nat × List Nat × List UInt8) (fun x => ⟨41, [(11, .i .i64 x.1), (4, .i .u32 (adVal x.2.1 : Nat)), (0, sB x.2.2)], []⟩) (fun x => x.1 ≤ 4 ∧ ParInv l0 x.1 x.2.1 x.2.2) (fun x => 4 - x.1) (0, [], l0)
    ⟨Nat.zero_le _, rfl, (fun n hn => by cases hn), Nat.le_refl _, fun _ => rfl, fun h => by cases h⟩ (by simp -implicitDefEqProofs only [evr, id, reduceCtorEq, reduceIte, Nat.reduceMul, Nat.reduceAdd, Nat.reduceLT, Nat.reduceLeDiff, Nat.reduceEqDiff, Int.reduceLT, Int.reduceBEq, Int.reduceBNe, Nat.reduceBEq, Int.reduceNeg, evl, evn]; exact ⟨rfl, rfl⟩) ?_
  rintro ⟨i, ns, rest⟩ ⟨hi, hI⟩
  simp only at hi hI ⊢
  (repeat refine Sat.seq ?_)
  (refine Sat.region_k fun k hk => ?_; simp -implicitDefEqProofs only [evr, id, reduceCtorEq, reduceIte, Nat.reduceMul, Nat.reduceAdd, Nat.reduceLT, Nat.reduceLeDiff, Nat.reduceEqDiff, Int.reduceLT, Int.reduceBEq, Int.reduceBNe, Nat.reduceBEq, Int.reduceNeg, evn]; refine hk _ ?_; clear hk k; try show Sat _ _ _ _ _)
  (repeat refine Sat.seq ?_)
  refine Sat.cond_b rfl (fun h => ?_) (fun h => ?_)
  · simp only [decide_eq_true_eq] at h
    have hi4 : i < 4 := by omega
    clear h
    have hfit := hI.fit
    obtain ⟨part, rest', more, hC, cC⟩ := cut_dot FrB rest (by omega)
    have hPl := hC.len
    have cN := numberC2 part 255 (by decide) (by omega)
    have hP := hI.eq hi4
    refine Sat.skip ?_
    simp only [thenK]
    (repeat refine Sat.seq ?_)
    refine Sat.block ?_
    (repeat refine Sat.seq ?_)
    (refine Sat.region_k fun k hk => ?_; simp -implicitDefEqProofs only [evr, id, reduceCtorEq, reduceIte, Nat.reduceMul, Nat.reduceAdd, Nat.reduceLT, Nat.reduceLeDiff, Nat.reduceEqDiff, Int.reduceLT, Int.reduceBEq, Int.reduceBNe, Nat.reduceBEq, Int.reduceNeg, evn]; refine hk _ ?_; clear hk k; try show Sat _ _ _ _ _)
    (repeat refine Sat.seq ?_)
    (refine Sat.region_k fun k hk => ?_; simp -implicitDefEqProofs only [evr, id, reduceCtorEq, reduceIte, Nat.reduceMul, Nat.reduceAdd, Nat.reduceLT, Nat.reduceLeDiff, Nat.reduceEqDiff, Int.reduceLT, Int.reduceBEq, Int.reduceBNe, Nat.reduceBEq, Int.reduceNeg, evn])
    refine wcall_slice cC rfl (by simp -implicitDefEqProofs only [evr, id, reduceCtorEq, reduceIte, Nat.reduceMul, Nat.reduceAdd, Nat.reduceLT, Nat.reduceLeDiff, Nat.reduceEqDiff, Int.reduceLT, Int.reduceBEq, Int.reduceBNe, Nat.reduceBEq, Int.reduceNeg, evn]; try rfl) ?_
    rintro r rfl
    simp -implicitDefEqProofs only [evr, id, reduceCtorEq, reduceIte, Nat.reduceMul, Nat.reduceAdd, Nat.reduceLT, Nat.reduceLeDiff, Nat.reduceEqDiff, Int.reduceLT, Int.reduceBEq, Int.reduceBNe, Nat.reduceBEq, Int.reduceNeg, evn]
    (refine hk _ ?_; clear hk k; try show Sat _ _ _ _ _)
    (repeat refine Sat.seq ?_)
    (refine Sat.region_k fun k hk => ?_; simp -implicitDefEqProofs only [evr, id, reduceCtorEq, reduceIte, Nat.reduceMul, Nat.reduceAdd, Nat.reduceLT, Nat.reduceLeDiff, Nat.reduceEqDiff, Int.reduceLT, Int.reduceBEq, Int.reduceBNe, Nat.reduceBEq, Int.reduceNeg, evn])
    refine wcall_slice cN rfl (by simp -implicitDefEqProofs only [evr, id, reduceCtorEq, reduceIte, Nat.reduceMul, Nat.reduceAdd, Nat.reduceLT, Nat.reduceLeDiff, Nat.reduceEqDiff, Int.reduceLT, Int.reduceBEq, Int.reduceBNe, Nat.reduceBEq, Int.reduceNeg, evn]; try rfl) ?_
    rintro r ⟨v, rfl, hv⟩
    simp -implicitDefEqProofs only [evr, id, reduceCtorEq, reduceIte, Nat.reduceMul, Nat.reduceAdd, Nat.reduceLT, Nat.reduceLeDiff, Nat.reduceEqDiff, Int.reduceLT, Int.reduceBEq, Int.reduceBNe, Nat.reduceBEq, Int.reduceNeg, evn]
    (refine hk _ ?_; clear hk k; try show Sat _ _ _ _ _)
    (repeat refine Sat.seq ?_)
    have e3 : ((i : Int) < 3) = (i < 3) := propext (by omega)
    have hidx : ∃ P2, splitB 46 l0 = ns.map Lib.decDigits ++ part :: P2 := by
      cases more with
      | true => exact ⟨_, by rw [hP, hC.yes rfl]⟩
      | false => exact ⟨[], by rw [hP, hC.no rfl]⟩
    obtain ⟨P2, hP2⟩ := hidx
    have hat : (ns.map Lib.decDigits ++ part :: P2)[i]? = some part := by
      have := getElem_mid (ns.map Lib.decDigits) P2 part
      rwa [List.length_map, hI.len] at this
    cases hn : numB part 255 with
    | none =>
      have hnone := par_bad hP2 hat hn
      refine Sat.region_k fun k hk => ?_
      simp -implicitDefEqProofs only [evr, id, reduceCtorEq, reduceIte, Nat.reduceMul, Nat.reduceAdd, Nat.reduceLT, Nat.reduceLeDiff, Nat.reduceEqDiff, Int.reduceLT, Int.reduceBEq, Int.reduceBNe, Nat.reduceBEq, Int.reduceNeg, hn, Option.isSome_none, Bool.not_false, evn]
      (refine hk _ ?_; clear hk k; try show Sat _ _ _ _ _)
      (repeat refine Sat.seq ?_)
      refine Sat.cond_tt rfl ?_
      (repeat refine Sat.seq ?_)
      (refine Sat.region_k fun k hk => ?_; simp -implicitDefEqProofs only [evr, id, reduceCtorEq, reduceIte, Nat.reduceMul, Nat.reduceAdd, Nat.reduceLT, Nat.reduceLeDiff, Nat.reduceEqDiff, Int.reduceLT, Int.reduceBEq, Int.reduceBNe, Nat.reduceBEq, Int.reduceNeg, evn]; refine hk _ ?_; clear hk k; try show Sat _ _ _ _ _)
      refine Sat.ret ?_
      simp only [Tryz.results102, evr, id, reduceCtorEq, reduceIte, Nat.reduceMul, Nat.reduceAdd, Nat.reduceLT, Nat.reduceLeDiff, Nat.reduceEqDiff, Int.reduceLT, Int.reduceBEq, Int.reduceBNe, Nat.reduceBEq, List.append_nil, Int.toNat_zero, Nat.sub_self, Int.reduceNeg]
      unfold parS
      rw [hnone]
    | some n =>
      obtain rfl := hv n hn
      obtain ⟨hn1, hn2⟩ := numB_some hn
      by_cases hm : more = decide (i < 3)
      · refine Sat.region_k fun k hk => ?_
        simp -implicitDefEqProofs only [evr, id, reduceCtorEq, reduceIte, Nat.reduceMul, Nat.reduceAdd, Nat.reduceLT, Nat.reduceLeDiff, Nat.reduceEqDiff, Int.reduceLT, Int.reduceBEq, Int.reduceBNe, Nat.reduceBEq, Int.reduceNeg, hn, hm, e3, bne_self_eq_false, Option.isSome_some, Bool.not_true, evn]
        (refine hk _ ?_; clear hk k; try show Sat _ _ _ _ _)
        (repeat refine Sat.seq ?_)
        refine Sat.cond_b rfl (fun h => by cases h) (fun h => ?_)
        have hlt := adVal_lt hI.small (by have := hI.len; omega)
        have e4 : bits BinOp.or IntKind.u32 (IntKind.u32.wrap ((adVal ns : Int) * 2 ^ min (Int.toNat 8) IntKind.u32.bits)) (IntKind.u32.wrap (n : Int)) = (adVal (ns ++ [n]) : Int) := by
          have e5 : IntKind.u32.wrap ((adVal ns : Int) * 2 ^ min (Int.toNat 8) IntKind.u32.bits) = ((adVal ns * 256 : Nat) : Int) := by
            show IntKind.u32.wrap ((adVal ns : Int) * 256) = _
            rw [show (adVal ns : Int) * 256 = ((adVal ns * 256 : Nat) : Int) by omega]
            exact w32u _ (Int.natCast_nonneg _) (by omega)
          have e6 : IntKind.u32.wrap (n : Int) = (n : Int) := w32u _ (Int.natCast_nonneg _) (by omega)
          rw [e5, e6, or_low (k := 8) (by decide) (by omega) (by omega) (by omega), adVal_snoc]
        have e5 : IntKind.i64.wrap ((i : Int) + 1) = ((i + 1 : Nat) : Int) := by rw [w64 (by omega)]; omega
        refine Sat.skip ?_
        simp only [thenK]
        (repeat refine Sat.seq ?_)
        refine Sat.region_k fun k hk => ?_
        simp -implicitDefEqProofs only [evr, id, reduceCtorEq, reduceIte, Nat.reduceMul, Nat.reduceAdd, Nat.reduceLT, Nat.reduceLeDiff, Nat.reduceEqDiff, Int.reduceLT, Int.reduceBEq, Int.reduceBNe, Nat.reduceBEq, Int.reduceNeg, e4, evn]
        refine ⟨by decide, ?_⟩
        (refine hk _ ?_; clear hk k; try show Sat _ _ _ _ _)
        (repeat refine Sat.seq ?_)
        refine Sat.region_k fun k hk => ?_
        simp -implicitDefEqProofs only [evr, id, reduceCtorEq, reduceIte, Nat.reduceMul, Nat.reduceAdd, Nat.reduceLT, Nat.reduceLeDiff, Nat.reduceEqDiff, Int.reduceLT, Int.reduceBEq, Int.reduceBNe, Nat.reduceBEq, Int.reduceNeg, e5, evn]
        refine hk _ ?_
        simp only [thenK, blockK]
        refine ⟨(i + 1, ns ++ [n], rest'), ⟨by show i + 1 ≤ 4; omega, ?_⟩, by show 4 - (i + 1) < 4 - i; omega, ?_⟩
        · refine ⟨by rw [List.length_append, hI.len]; rfl, ?_, by show rest'.length ≤ l0.length; omega, fun h3 => ?_, fun h3 => ?_⟩
          · intro x hx
            rcases List.mem_append.1 hx with hx | hx
            · exact hI.small x hx
            · rw [List.mem_singleton.1 hx]; exact hn1
          · have h4 : more = true := by rw [hm]; exact decide_eq_true (by omega)
            rw [hP, hC.yes h4, List.map_append, List.append_assoc, ← hn2]
            rfl
          · have h4 : more = false := by rw [hm]; exact decide_eq_false (by omega)
            rw [hP, hC.no h4, List.map_append, ← hn2]
            rfl
        · simp -implicitDefEqProofs only [evr, id, reduceCtorEq, reduceIte, Nat.reduceMul, Nat.reduceAdd, Nat.reduceLT, Nat.reduceLeDiff, Nat.reduceEqDiff, Int.reduceLT, Int.reduceBEq, Int.reduceBNe, Nat.reduceBEq, Int.reduceNeg, evl, evn]
      · have hb : (more != decide (i < 3)) = true := by simpa using hm
        have hnone : parB l0 = none := par_len (by
          rw [hP]
          cases more with
          | true =>
            have h3 : ¬ i < 3 := fun h3 => hm (decide_eq_true h3).symm
            rw [hC.yes rfl, List.length_append, List.length_map, hI.len, List.length_cons]
            have := List.length_pos_iff.2 (splitB_ne 46 rest')
            omega
          | false =>
            have h3 : i < 3 := Decidable.of_not_not fun h3 => hm (decide_eq_false h3).symm
            rw [hC.no rfl, List.length_append, List.length_map, hI.len, List.length_singleton]
            omega)
        refine Sat.region_k fun k hk => ?_
        simp -implicitDefEqProofs only [evr, id, reduceCtorEq, reduceIte, Nat.reduceMul, Nat.reduceAdd, Nat.reduceLT, Nat.reduceLeDiff, Nat.reduceEqDiff, Int.reduceLT, Int.reduceBEq, Int.reduceBNe, Nat.reduceBEq, Int.reduceNeg, hn, e3, hb, Option.isSome_some, Bool.not_true, evn]
        (refine hk _ ?_; clear hk k; try show Sat _ _ _ _ _)
        (repeat refine Sat.seq ?_)
        refine Sat.cond_b rfl (fun _ => ?_) (fun h => by cases h)
        (repeat refine Sat.seq ?_)
        (refine Sat.region_k fun k hk => ?_; simp -implicitDefEqProofs only [evr, id, reduceCtorEq, reduceIte, Nat.reduceMul, Nat.reduceAdd, Nat.reduceLT, Nat.reduceLeDiff, Nat.reduceEqDiff, Int.reduceLT, Int.reduceBEq, Int.reduceBNe, Nat.reduceBEq, Int.reduceNeg, evn]; refine hk _ ?_; clear hk k; try show Sat _ _ _ _ _)
        refine Sat.ret ?_
        simp only [Tryz.results102, evr, id, reduceCtorEq, reduceIte, Nat.reduceMul, Nat.reduceAdd, Nat.reduceLT, Nat.reduceLeDiff, Nat.reduceEqDiff, Int.reduceLT, Int.reduceBEq, Int.reduceBNe, Nat.reduceBEq, List.append_nil, Int.toNat_zero, Nat.sub_self, Int.reduceNeg]
        unfold parS
        rw [hnone]
  · simp only [decide_eq_false_iff_not] at h
    obtain rfl : i = 4 := by omega
    have hsome := par_done hI
    refine Sat.exit ?_
    simp only [thenK, blockK, reduceIte]
    (repeat refine Sat.seq ?_)
    (refine Sat.region_k fun k hk => ?_; simp -implicitDefEqProofs only [evr, id, reduceCtorEq, reduceIte, Nat.reduceMul, Nat.reduceAdd, Nat.reduceLT, Nat.reduceLeDiff, Nat.reduceEqDiff, Int.reduceLT, Int.reduceBEq, Int.reduceBNe, Nat.reduceBEq, Int.reduceNeg, evn]; refine hk _ ?_; clear hk k; try show Sat _ _ _ _ _)
    refine Sat.ret ?_
    simp only [Tryz.results102, evr, id, reduceCtorEq, reduceIte, Nat.reduceMul, Nat.reduceAdd, Nat.reduceLT, Nat.reduceLeDiff, Nat.reduceEqDiff, Int.reduceLT, Int.reduceBEq, Int.reduceBNe, Nat.reduceBEq, List.append_nil, Int.toNat_zero, Nat.sub_self, Int.reduceNeg]
    unfold parS
    rw [hsome]
end Go.Proofs.YtepkbbmjbbnhnaaGreatDoor
