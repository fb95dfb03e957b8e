/- The reference's Parse, ParsePrefix, Format, FormatPrefix. -/
import Derived.Test.YtepkbbmjbbnhnaaGreatDoorRxF
set_option linter.unusedSimpArgs false
set_option linter.unusedVariables false
namespace Go.Proofs.YtepkbbmjbbnhnaaGreatDoor
open Go.RowKit Eng Go.Sort
theorem strsRd_at (P : List (List UInt8)) (i : Nat) : strsRd P i 0 = sB (P.getD i []) := rfl
theorem lit46 : (⟨#[46]⟩ : ByteArray) = mkB [46] := rfl
theorem lit47 : (⟨#[47]⟩ : ByteArray) = mkB [47] := rfl
theorem split_mem {c : UInt8} : ∀ {l p : List UInt8}, p ∈ splitB c l → p.length ≤ l.length
  | [], p, h => by simp [splitB] at h; subst h; exact Nat.le_refl _
  | x :: l, p, h => by
    unfold splitB at h
    split at h
    · rcases List.mem_cons.1 h with rfl | h
      · exact Nat.zero_le _
      · exact Nat.le_succ_of_le (split_mem h)
    · split at h
      · rename_i q r hs
        rcases List.mem_cons.1 h with rfl | h
        · have := split_mem (c := c) (l := l) (p := q) (by rw [hs]; exact List.mem_cons_self)
          simp only [List.length_cons]; omega
        · have := split_mem (c := c) (l := l) (p := p) (by rw [hs]; exact List.mem_cons_of_mem _ h)
          simp only [List.length_cons]; omega
      · rename_i hs
        exact absurd hs (splitB_ne c l)
theorem getD_of {A : Type} {P : List A} {i : Nat} {d : A} (h : i < P.length) : P[i]? = some (P.getD i d) := by
  rw [List.getD_eq_getElem?_getD, List.getElem?_eq_getElem h]; rfl
theorem par_all {l : List UInt8} {ns : List Nat} (h : splitB 46 l = ns.map Lib.decDigits) (hs : ∀ n ∈ ns, n ≤ 255) (hl : ns.length = 4) : parB l = some (adVal ns) :=
  par_done (rest := l) ⟨hl, hs, Nat.le_refl _, fun h4 => absurd h4 (by omega), fun _ => h⟩
set_option maxRecDepth 100000 in
theorem rfParseC (F : Frm) (l : List UInt8) (hl : l.length ≤ 100000) : Contract F Tryz.prog 89 [sB l] (fun r => r = parS l) := by
  have cC := rfCutC F 46 l hl
  have hmem : ∀ p ∈ splitB 46 l, p.length ≤ l.length := fun p hp => split_mem hp
  have hbad := fun j p (h1 : (splitB 46 l)[j]? = some p) (h2 : numB p 255 = none) => par_bad (l0 := l) rfl h1 h2
  have hlen := par_len (l0 := l)
  have hall := fun ns => par_all (l := l) (ns := ns)
  unfold PcsPost at cC
  generalize splitB 46 l = P at *
  refine contract_of Tryz.func89 rfl (by kernel_rfl) ?_
  simp only [Tryz.ntmps89, argEnv]
  (repeat refine Sat.seq ?_)
  (refine Sat.region_k fun k hk => ?_; simp -implicitDefEqProofs only [evr, id, reduceCtorEq, reduceIte, Nat.reduceMul, Nat.reduceAdd, Nat.reduceLT, Nat.reduceLeDiff, Nat.reduceEqDiff, Int.reduceLT, Int.reduceBEq, Int.reduceBNe, Nat.reduceBEq, Int.reduceNeg, mkB_size, byteAt_mk, mkB_extract, mkB_append, mkB_toList, lit46, lit47, strsRd_at, evn]; refine hk _ ?_; clear hk k; try show Sat _ _ _ _ _)
  (repeat refine Sat.seq ?_)
  (refine Sat.region_k fun k hk => ?_; simp -implicitDefEqProofs only [evr, id, reduceCtorEq, reduceIte, Nat.reduceMul, Nat.reduceAdd, Nat.reduceLT, Nat.reduceLeDiff, Nat.reduceEqDiff, Int.reduceLT, Int.reduceBEq, Int.reduceBNe, Nat.reduceBEq, Int.reduceNeg, mkB_size, byteAt_mk, mkB_extract, mkB_append, mkB_toList, lit46, lit47, strsRd_at, evn])
  refine wcall_slice cC rfl (by simp -implicitDefEqProofs only [evr, id, reduceCtorEq, reduceIte, Nat.reduceMul, Nat.reduceAdd, Nat.reduceLT, Nat.reduceLeDiff, Nat.reduceEqDiff, Int.reduceLT, Int.reduceBEq, Int.reduceBNe, Nat.reduceBEq, Int.reduceNeg, mkB_size, byteAt_mk, mkB_extract, mkB_append, mkB_toList, lit46, lit47, strsRd_at, evn]; rfl) ?_
  rintro r ⟨a, cap, rfl⟩
  simp -implicitDefEqProofs only [evr, id, reduceCtorEq, reduceIte, Nat.reduceMul, Nat.reduceAdd, Nat.reduceLT, Nat.reduceLeDiff, Nat.reduceEqDiff, Int.reduceLT, Int.reduceBEq, Int.reduceBNe, Nat.reduceBEq, Int.reduceNeg, mkB_size, byteAt_mk, mkB_extract, mkB_append, mkB_toList, lit46, lit47, strsRd_at, evn]
  (refine hk _ ?_; clear hk k; try show Sat _ _ _ _ _)
  (repeat refine Sat.seq ?_)
  (refine Sat.region_k fun k hk => ?_; simp -implicitDefEqProofs only [evr, id, reduceCtorEq, reduceIte, Nat.reduceMul, Nat.reduceAdd, Nat.reduceLT, Nat.reduceLeDiff, Nat.reduceEqDiff, Int.reduceLT, Int.reduceBEq, Int.reduceBNe, Nat.reduceBEq, Int.reduceNeg, mkB_size, byteAt_mk, mkB_extract, mkB_append, mkB_toList, lit46, lit47, strsRd_at, evn]; refine hk _ ?_; clear hk k; try show Sat _ _ _ _ _)
  (repeat refine Sat.seq ?_)
  refine Sat.cond_b rfl (fun h => ?_) (fun h => ?_)
  · have hn := hlen (by
      have : ¬ (P.length : Int) = 4 := by simpa using h
      omega)
    (repeat refine Sat.seq ?_)
    (refine Sat.region_k fun k hk => ?_; simp -implicitDefEqProofs only [evr, id, reduceCtorEq, reduceIte, Nat.reduceMul, Nat.reduceAdd, Nat.reduceLT, Nat.reduceLeDiff, Nat.reduceEqDiff, Int.reduceLT, Int.reduceBEq, Int.reduceBNe, Nat.reduceBEq, Int.reduceNeg, mkB_size, byteAt_mk, mkB_extract, mkB_append, mkB_toList, lit46, lit47, strsRd_at, evn]; refine hk _ ?_; clear hk k; try show Sat _ _ _ _ _)
    refine Sat.ret ?_
    simp only [Tryz.results89, evr, id, reduceCtorEq, reduceIte, Nat.reduceMul, Nat.reduceAdd, Nat.reduceLT, Nat.reduceLeDiff, Nat.reduceEqDiff, Int.reduceLT, Int.reduceBEq, Int.reduceBNe, Nat.reduceBEq, List.append_nil, Int.toNat_zero, Nat.sub_self, Int.reduceNeg, mkB_size, byteAt_mk, mkB_extract, mkB_append, mkB_toList, lit46, lit47, strsRd_at]
    unfold parS
    rw [hn]
  have h4 : P.length = 4 := by
    have : (P.length : Int) = 4 := by simpa using h
    omega
  refine Sat.skip ?_
  simp only [thenK]
  (repeat refine Sat.seq ?_)
  (refine Sat.region_k fun k hk => ?_; simp -implicitDefEqProofs only [evr, id, reduceCtorEq, reduceIte, Nat.reduceMul, Nat.reduceAdd, Nat.reduceLT, Nat.reduceLeDiff, Nat.reduceEqDiff, Int.reduceLT, Int.reduceBEq, Int.reduceBNe, Nat.reduceBEq, Int.reduceNeg, mkB_size, byteAt_mk, mkB_extract, mkB_append, mkB_toList, lit46, lit47, strsRd_at, evn]; refine hk _ ?_; clear hk k; try show Sat _ _ _ _ _)
  (repeat refine Sat.seq ?_)
  (refine Sat.region_k fun k hk => ?_; simp -implicitDefEqProofs only [evr, id, reduceCtorEq, reduceIte, Nat.reduceMul, Nat.reduceAdd, Nat.reduceLT, Nat.reduceLeDiff, Nat.reduceEqDiff, Int.reduceLT, Int.reduceBEq, Int.reduceBNe, Nat.reduceBEq, Int.reduceNeg, mkB_size, byteAt_mk, mkB_extract, mkB_append, mkB_toList, lit46, lit47, strsRd_at, evn]; refine hk _ ?_; clear hk k; try show Sat _ _ _ _ _)
  (repeat refine Sat.seq ?_)
  refine Sat.block ?_
  refine Sat.loop (ι := List Nat) (fun ns => ⟨34, [(6, .i .i64 ns.length), (5, .i .i64 (adVal ns : Nat)), (4, .sl a P.length cap 1 (strsRd P))], []⟩) (fun ns => ns.length ≤ 4 ∧ (∀ n ∈ ns, n ≤ 255) ∧ P.take ns.length = ns.map Lib.decDigits) (fun ns => 4 - ns.length) []
    ⟨Nat.zero_le _, (fun n hn => by cases hn), rfl⟩ (by simp -implicitDefEqProofs only [evr, id, reduceCtorEq, reduceIte, Nat.reduceMul, Nat.reduceAdd, Nat.reduceLT, Nat.reduceLeDiff, Nat.reduceEqDiff, Int.reduceLT, Int.reduceBEq, Int.reduceBNe, Nat.reduceBEq, Int.reduceNeg, mkB_size, byteAt_mk, mkB_extract, mkB_append, mkB_toList, lit46, lit47, strsRd_at, evl, evn]; exact ⟨rfl, rfl⟩) ?_
  rintro ns ⟨hi, hsm, htk⟩
  (repeat refine Sat.seq ?_)
  (refine Sat.region_k fun k hk => ?_; simp -implicitDefEqProofs only [evr, id, reduceCtorEq, reduceIte, Nat.reduceMul, Nat.reduceAdd, Nat.reduceLT, Nat.reduceLeDiff, Nat.reduceEqDiff, Int.reduceLT, Int.reduceBEq, Int.reduceBNe, Nat.reduceBEq, Int.reduceNeg, mkB_size, byteAt_mk, mkB_extract, mkB_append, mkB_toList, lit46, lit47, strsRd_at, evn]; refine hk _ ?_; clear hk k; try show Sat _ _ _ _ _)
  (repeat refine Sat.seq ?_)
  refine Sat.cond_b rfl (fun h => ?_) (fun h => ?_)
  · have hi4 : ns.length < 4 := by simp only [decide_eq_true_eq] at h; omega
    clear h
    have hat := getD_of (P := P) (i := ns.length) (d := []) (by omega)
    have hml := hmem _ (List.mem_of_getElem? hat)
    have cS := rfSmallC F (P.getD ns.length []) 255 (by decide) (by omega)
    have htk2 : P.take (ns.length + 1) = P.take ns.length ++ [P.getD ns.length []] := by rw [List.take_add_one, hat]; rfl
    refine Sat.skip ?_
    simp only [thenK]
    (repeat refine Sat.seq ?_)
    refine Sat.block ?_
    (repeat refine Sat.seq ?_)
    (refine Sat.region_k fun k hk => ?_; simp -implicitDefEqProofs only [evr, id, reduceCtorEq, reduceIte, Nat.reduceMul, Nat.reduceAdd, Nat.reduceLT, Nat.reduceLeDiff, Nat.reduceEqDiff, Int.reduceLT, Int.reduceBEq, Int.reduceBNe, Nat.reduceBEq, Int.reduceNeg, mkB_size, byteAt_mk, mkB_extract, mkB_append, mkB_toList, lit46, lit47, strsRd_at, evn])
    refine ⟨by omega, ?_⟩
    refine wcall_slice cS rfl (by simp -implicitDefEqProofs only [evr, id, reduceCtorEq, reduceIte, Nat.reduceMul, Nat.reduceAdd, Nat.reduceLT, Nat.reduceLeDiff, Nat.reduceEqDiff, Int.reduceLT, Int.reduceBEq, Int.reduceBNe, Nat.reduceBEq, Int.reduceNeg, mkB_size, byteAt_mk, mkB_extract, mkB_append, mkB_toList, lit46, lit47, strsRd_at, evn]; rfl) ?_
    rintro r ⟨v, rfl, hv⟩
    simp -implicitDefEqProofs only [evr, id, reduceCtorEq, reduceIte, Nat.reduceMul, Nat.reduceAdd, Nat.reduceLT, Nat.reduceLeDiff, Nat.reduceEqDiff, Int.reduceLT, Int.reduceBEq, Int.reduceBNe, Nat.reduceBEq, Int.reduceNeg, mkB_size, byteAt_mk, mkB_extract, mkB_append, mkB_toList, lit46, lit47, strsRd_at, evn]
    (refine hk _ ?_; clear hk k; try show Sat _ _ _ _ _)
    (repeat refine Sat.seq ?_)
    (refine Sat.region_k fun k hk => ?_; simp -implicitDefEqProofs only [evr, id, reduceCtorEq, reduceIte, Nat.reduceMul, Nat.reduceAdd, Nat.reduceLT, Nat.reduceLeDiff, Nat.reduceEqDiff, Int.reduceLT, Int.reduceBEq, Int.reduceBNe, Nat.reduceBEq, Int.reduceNeg, mkB_size, byteAt_mk, mkB_extract, mkB_append, mkB_toList, lit46, lit47, strsRd_at, evn]; refine hk _ ?_; clear hk k; try show Sat _ _ _ _ _)
    (repeat refine Sat.seq ?_)
    cases hn : numB (P.getD ns.length []) 255 with
    | none =>
      refine Sat.cond_b rfl (fun _ => ?_) (fun h => by simp at h)
      (repeat refine Sat.seq ?_)
      (refine Sat.region_k fun k hk => ?_; simp -implicitDefEqProofs only [evr, id, reduceCtorEq, reduceIte, Nat.reduceMul, Nat.reduceAdd, Nat.reduceLT, Nat.reduceLeDiff, Nat.reduceEqDiff, Int.reduceLT, Int.reduceBEq, Int.reduceBNe, Nat.reduceBEq, Int.reduceNeg, mkB_size, byteAt_mk, mkB_extract, mkB_append, mkB_toList, lit46, lit47, strsRd_at, evn]; refine hk _ ?_; clear hk k; try show Sat _ _ _ _ _)
      refine Sat.ret ?_
      simp only [Tryz.results89, evr, id, reduceCtorEq, reduceIte, Nat.reduceMul, Nat.reduceAdd, Nat.reduceLT, Nat.reduceLeDiff, Nat.reduceEqDiff, Int.reduceLT, Int.reduceBEq, Int.reduceBNe, Nat.reduceBEq, List.append_nil, Int.toNat_zero, Nat.sub_self, Int.reduceNeg, mkB_size, byteAt_mk, mkB_extract, mkB_append, mkB_toList, lit46, lit47, strsRd_at]
      unfold parS
      rw [hbad _ _ hat hn]
    | some n =>
      obtain rfl := hv n hn
      obtain ⟨g1, g2⟩ := numB_some hn
      have hlt := adVal_lt hsm (by omega)
      have e1 : IntKind.i64.wrap (256 * (adVal ns : Int)) = ((256 * adVal ns : Nat) : Int) := by rw [w64 (by omega)]; omega
      have e2 : IntKind.i64.wrap (((256 * adVal ns : Nat) : Int) + (n : Int)) = (adVal (ns ++ [n]) : Int) := by rw [adVal_snoc, w64 (by omega)]; omega
      have e3 : IntKind.i64.wrap ((ns.length : Int) + 1) = (((ns ++ [n]).length : Nat) : Int) := by rw [List.length_append, w64 (by omega)]; rfl
      refine Sat.cond_b rfl (fun h => by simp at h) (fun _ => ?_)
      refine Sat.skip ?_
      simp only [thenK]
      (repeat refine Sat.seq ?_)
      refine Sat.region_k fun k hk => ?_
      simp -implicitDefEqProofs only [evr, id, reduceCtorEq, reduceIte, Nat.reduceMul, Nat.reduceAdd, Nat.reduceLT, Nat.reduceLeDiff, Nat.reduceEqDiff, Int.reduceLT, Int.reduceBEq, Int.reduceBNe, Nat.reduceBEq, Int.reduceNeg, mkB_size, byteAt_mk, mkB_extract, mkB_append, mkB_toList, lit46, lit47, strsRd_at, e1, e2, evn]
      (refine hk _ ?_; clear hk k; try show Sat _ _ _ _ _)
      try simp only [thenK, blockK]
      refine Sat.region_k fun k hk => ?_
      simp -implicitDefEqProofs only [evr, id, reduceCtorEq, reduceIte, Nat.reduceMul, Nat.reduceAdd, Nat.reduceLT, Nat.reduceLeDiff, Nat.reduceEqDiff, Int.reduceLT, Int.reduceBEq, Int.reduceBNe, Nat.reduceBEq, Int.reduceNeg, mkB_size, byteAt_mk, mkB_extract, mkB_append, mkB_toList, lit46, lit47, strsRd_at, e3, evn]
      refine hk _ ?_
      simp only [thenK, blockK]
      refine ⟨ns ++ [n], ⟨by rw [List.length_append]; show _ + 1 ≤ 4; omega, ?_, ?_⟩, by rw [List.length_append]; show 4 - (_ + 1) < _; omega, ?_⟩
      · intro x hx
        rcases List.mem_append.1 hx with hx | hx
        · exact hsm x hx
        · rw [List.mem_singleton.1 hx]; exact g1
      · rw [List.length_append, List.length_singleton, htk2, htk, List.map_append, ← g2]; rfl
      · simp -implicitDefEqProofs only [evr, id, reduceCtorEq, reduceIte, Nat.reduceMul, Nat.reduceAdd, Nat.reduceLT, Nat.reduceLeDiff, Nat.reduceEqDiff, Int.reduceLT, Int.reduceBEq, Int.reduceBNe, Nat.reduceBEq, Int.reduceNeg, mkB_size, byteAt_mk, mkB_extract, mkB_append, mkB_toList, lit46, lit47, strsRd_at, evl, evn]
  · have h4' : ns.length = 4 := by simp only [decide_eq_false_iff_not] at h; omega
    have hsome := hall ns (by rw [← htk, h4', ← h4, List.take_length]) hsm h4'
    have hlt := parB_lt hsome
    have e1 : IntKind.u32.wrap (adVal ns : Int) = (adVal ns : Int) := w32u _ (Int.natCast_nonneg _) (by omega)
    refine Sat.exit ?_
    simp only [thenK, blockK, reduceIte]
    (repeat refine Sat.seq ?_)
    refine Sat.region_k fun k hk => ?_
    simp -implicitDefEqProofs only [evr, id, reduceCtorEq, reduceIte, Nat.reduceMul, Nat.reduceAdd, Nat.reduceLT, Nat.reduceLeDiff, Nat.reduceEqDiff, Int.reduceLT, Int.reduceBEq, Int.reduceBNe, Nat.reduceBEq, Int.reduceNeg, mkB_size, byteAt_mk, mkB_extract, mkB_append, mkB_toList, lit46, lit47, strsRd_at, e1, evn]
    (refine hk _ ?_; clear hk k; try show Sat _ _ _ _ _)
    refine Sat.ret ?_
    simp only [Tryz.results89, evr, id, reduceCtorEq, reduceIte, Nat.reduceMul, Nat.reduceAdd, Nat.reduceLT, Nat.reduceLeDiff, Nat.reduceEqDiff, Int.reduceLT, Int.reduceBEq, Int.reduceBNe, Nat.reduceBEq, List.append_nil, Int.toNat_zero, Nat.sub_self, Int.reduceNeg, mkB_size, byteAt_mk, mkB_extract, mkB_append, mkB_toList, lit46, lit47, strsRd_at]
    unfold parS
    rw [hsome]
set_option maxRecDepth 100000 in
theorem rfParsePrefixC (F : Frm) (l : List UInt8) (hl : l.length ≤ 100000) : Contract F Tryz.prog 62 [sB l] (fun r => r = parPS l) := by
  have cC := rfCutC F 47 l hl
  have hmem : ∀ p ∈ splitB 47 l, p.length ≤ l.length := fun p hp => split_mem hp
  have hdef : parP l = match splitB 47 l with
    | [p, q] => match parB p, numB q 32 with
      | some a, some n => if vld ⟨a, n⟩ = true then some ⟨a, n⟩ else none
      | _, _ => none
    | _ => none := rfl
  unfold PcsPost at cC
  generalize splitB 47 l = P at *
  refine contract_of Tryz.func62 rfl (by kernel_rfl) ?_
  simp only [Tryz.ntmps62, argEnv]
  (repeat refine Sat.seq ?_)
  (refine Sat.region_k fun k hk => ?_; simp -implicitDefEqProofs only [evr, id, reduceCtorEq, reduceIte, Nat.reduceMul, Nat.reduceAdd, Nat.reduceLT, Nat.reduceLeDiff, Nat.reduceEqDiff, Int.reduceLT, Int.reduceBEq, Int.reduceBNe, Nat.reduceBEq, Int.reduceNeg, mkB_size, byteAt_mk, mkB_extract, mkB_append, mkB_toList, lit46, lit47, strsRd_at, evn])
  intro b1
  (refine hk _ ?_; clear hk k; try show Sat _ _ _ _ _)
  (repeat refine Sat.seq ?_)
  (refine Sat.region_k fun k hk => ?_; simp -implicitDefEqProofs only [evr, id, reduceCtorEq, reduceIte, Nat.reduceMul, Nat.reduceAdd, Nat.reduceLT, Nat.reduceLeDiff, Nat.reduceEqDiff, Int.reduceLT, Int.reduceBEq, Int.reduceBNe, Nat.reduceBEq, Int.reduceNeg, mkB_size, byteAt_mk, mkB_extract, mkB_append, mkB_toList, lit46, lit47, strsRd_at, evn])
  refine wcall_slice cC rfl (by simp -implicitDefEqProofs only [evr, id, reduceCtorEq, reduceIte, Nat.reduceMul, Nat.reduceAdd, Nat.reduceLT, Nat.reduceLeDiff, Nat.reduceEqDiff, Int.reduceLT, Int.reduceBEq, Int.reduceBNe, Nat.reduceBEq, Int.reduceNeg, mkB_size, byteAt_mk, mkB_extract, mkB_append, mkB_toList, lit46, lit47, strsRd_at, evn]; rfl) ?_
  rintro r ⟨a, cap, rfl⟩
  simp -implicitDefEqProofs only [evr, id, reduceCtorEq, reduceIte, Nat.reduceMul, Nat.reduceAdd, Nat.reduceLT, Nat.reduceLeDiff, Nat.reduceEqDiff, Int.reduceLT, Int.reduceBEq, Int.reduceBNe, Nat.reduceBEq, Int.reduceNeg, mkB_size, byteAt_mk, mkB_extract, mkB_append, mkB_toList, lit46, lit47, strsRd_at, evn]
  (refine hk _ ?_; clear hk k; try show Sat _ _ _ _ _)
  (repeat refine Sat.seq ?_)
  (refine Sat.region_k fun k hk => ?_; simp -implicitDefEqProofs only [evr, id, reduceCtorEq, reduceIte, Nat.reduceMul, Nat.reduceAdd, Nat.reduceLT, Nat.reduceLeDiff, Nat.reduceEqDiff, Int.reduceLT, Int.reduceBEq, Int.reduceBNe, Nat.reduceBEq, Int.reduceNeg, mkB_size, byteAt_mk, mkB_extract, mkB_append, mkB_toList, lit46, lit47, strsRd_at, evn]; refine hk _ ?_; clear hk k; try show Sat _ _ _ _ _)
  (repeat refine Sat.seq ?_)
  refine Sat.cond_b rfl (fun h => ?_) (fun h => ?_)
  · have hnone : parP l = none := by
      have h2 : ¬ (P.length : Int) = 2 := by simpa using h
      rw [hdef]
      split
      · exact absurd rfl h2
      · rfl
    (repeat refine Sat.seq ?_)
    (refine Sat.region_k fun k hk => ?_; simp -implicitDefEqProofs only [evr, id, reduceCtorEq, reduceIte, Nat.reduceMul, Nat.reduceAdd, Nat.reduceLT, Nat.reduceLeDiff, Nat.reduceEqDiff, Int.reduceLT, Int.reduceBEq, Int.reduceBNe, Nat.reduceBEq, Int.reduceNeg, mkB_size, byteAt_mk, mkB_extract, mkB_append, mkB_toList, lit46, lit47, strsRd_at, evn]; refine hk _ ?_; clear hk k; try show Sat _ _ _ _ _)
    refine Sat.ret ?_
    simp only [Tryz.results62, evr, id, reduceCtorEq, reduceIte, Nat.reduceMul, Nat.reduceAdd, Nat.reduceLT, Nat.reduceLeDiff, Nat.reduceEqDiff, Int.reduceLT, Int.reduceBEq, Int.reduceBNe, Nat.reduceBEq, List.append_nil, Int.toNat_zero, Nat.sub_self, Int.reduceNeg, mkB_size, byteAt_mk, mkB_extract, mkB_append, mkB_toList, lit46, lit47, strsRd_at]
    unfold parPS
    rw [hnone]
    rfl
  have h2 : P.length = 2 := by
    have : (P.length : Int) = 2 := by simpa using h
    omega
  obtain ⟨first, last, rfl⟩ : ∃ first last, P = [first, last] := by
    match P, h2 with
    | [x, y], _ => exact ⟨x, y, rfl⟩
  have hl1 := hmem first (by simp)
  have hl2 := hmem last (by simp)
  have hP : parP l = match parB first, numB last 32 with | some a, some n => if vld ⟨a, n⟩ = true then some ⟨a, n⟩ else none | _, _ => none := hdef
  have cP := rfParseC F first (by omega)
  have cN := rfSmallC F last 32 (by decide) (by omega)
  refine Sat.skip ?_
  simp only [thenK]
  have hpa : ∃ (av : Nat) (er : Int), parS first = tupL [.i .u32 av, .i .i64 er] ∧ av < 2 ^ 32 ∧ ((∃ a, parB first = some a ∧ av = a ∧ er = 0) ∨ (parB first = none ∧ er = 2)) := by
    unfold parS
    cases h : parB first with
    | some a => exact ⟨a, 0, rfl, parB_lt h, .inl ⟨a, rfl, rfl, rfl⟩⟩
    | none => exact ⟨0, 2, rfl, by decide, .inr ⟨rfl, rfl⟩⟩
  obtain ⟨av, er, hps, hav, hcase⟩ := hpa
  rw [hps] at cP
  (repeat refine Sat.seq ?_)
  (refine Sat.region_k fun k hk => ?_; simp -implicitDefEqProofs only [evr, id, reduceCtorEq, reduceIte, Nat.reduceMul, Nat.reduceAdd, Nat.reduceLT, Nat.reduceLeDiff, Nat.reduceEqDiff, Int.reduceLT, Int.reduceBEq, Int.reduceBNe, Nat.reduceBEq, Int.reduceNeg, mkB_size, byteAt_mk, mkB_extract, mkB_append, mkB_toList, lit46, lit47, strsRd_at, evn])
  refine ⟨by omega, ?_⟩
  refine wcall_slice cP rfl (by simp -implicitDefEqProofs only [evr, id, reduceCtorEq, reduceIte, Nat.reduceMul, Nat.reduceAdd, Nat.reduceLT, Nat.reduceLeDiff, Nat.reduceEqDiff, Int.reduceLT, Int.reduceBEq, Int.reduceBNe, Nat.reduceBEq, Int.reduceNeg, mkB_size, byteAt_mk, mkB_extract, mkB_append, mkB_toList, lit46, lit47, strsRd_at, evn]; try rfl) ?_
  rintro r rfl
  simp -implicitDefEqProofs only [evr, id, reduceCtorEq, reduceIte, Nat.reduceMul, Nat.reduceAdd, Nat.reduceLT, Nat.reduceLeDiff, Nat.reduceEqDiff, Int.reduceLT, Int.reduceBEq, Int.reduceBNe, Nat.reduceBEq, Int.reduceNeg, mkB_size, byteAt_mk, mkB_extract, mkB_append, mkB_toList, lit46, lit47, strsRd_at, evn]
  (refine hk _ ?_; clear hk k; try show Sat _ _ _ _ _)
  (repeat refine Sat.seq ?_)
  (refine Sat.region_k fun k hk => ?_; simp -implicitDefEqProofs only [evr, id, reduceCtorEq, reduceIte, Nat.reduceMul, Nat.reduceAdd, Nat.reduceLT, Nat.reduceLeDiff, Nat.reduceEqDiff, Int.reduceLT, Int.reduceBEq, Int.reduceBNe, Nat.reduceBEq, Int.reduceNeg, mkB_size, byteAt_mk, mkB_extract, mkB_append, mkB_toList, lit46, lit47, strsRd_at, evn])
  refine ⟨by omega, ?_⟩
  refine wcall_slice cN rfl (by simp -implicitDefEqProofs only [evr, id, reduceCtorEq, reduceIte, Nat.reduceMul, Nat.reduceAdd, Nat.reduceLT, Nat.reduceLeDiff, Nat.reduceEqDiff, Int.reduceLT, Int.reduceBEq, Int.reduceBNe, Nat.reduceBEq, Int.reduceNeg, mkB_size, byteAt_mk, mkB_extract, mkB_append, mkB_toList, lit46, lit47, strsRd_at, evn]; try rfl) ?_
  rintro r ⟨v, rfl, hv⟩
  simp -implicitDefEqProofs only [evr, id, reduceCtorEq, reduceIte, Nat.reduceMul, Nat.reduceAdd, Nat.reduceLT, Nat.reduceLeDiff, Nat.reduceEqDiff, Int.reduceLT, Int.reduceBEq, Int.reduceBNe, Nat.reduceBEq, Int.reduceNeg, mkB_size, byteAt_mk, mkB_extract, mkB_append, mkB_toList, lit46, lit47, strsRd_at, evn]
  (refine hk _ ?_; clear hk k; try show Sat _ _ _ _ _)
  (repeat refine Sat.seq ?_)
  (refine Sat.region_k fun k hk => ?_; simp -implicitDefEqProofs only [evr, id, reduceCtorEq, reduceIte, Nat.reduceMul, Nat.reduceAdd, Nat.reduceLT, Nat.reduceLeDiff, Nat.reduceEqDiff, Int.reduceLT, Int.reduceBEq, Int.reduceBNe, Nat.reduceBEq, Int.reduceNeg, mkB_size, byteAt_mk, mkB_extract, mkB_append, mkB_toList, lit46, lit47, strsRd_at, evn])
  intro b2
  (refine hk _ ?_; clear hk k; try show Sat _ _ _ _ _)
  (repeat refine Sat.seq ?_)
  refine Sat.region_at ⟨46, [(43, .b (parP l).isNone), (9, .op 1 b2 0), (2, .op 0 b1 0)], [.box b1 29 [.i .u32 0, .i .i64 0], .box b2 29 [.i .u32 av, .i .i64 v]]⟩ (fun k hk => ?_) ?_
  · rcases hcase with ⟨a, h1, rfl, rfl⟩ | ⟨h1, rfl⟩
    · cases hn : numB last 32 with
      | none =>
        have e : (parP l).isNone = true := by rw [hP, h1, hn]; rfl
        simp -implicitDefEqProofs only [evr, id, reduceCtorEq, reduceIte, Nat.reduceMul, Nat.reduceAdd, Nat.reduceLT, Nat.reduceLeDiff, Nat.reduceEqDiff, Int.reduceLT, Int.reduceBEq, Int.reduceBNe, Nat.reduceBEq, Int.reduceNeg, mkB_size, byteAt_mk, mkB_extract, mkB_append, mkB_toList, lit46, lit47, strsRd_at, hn, Option.isSome_none, Bool.not_false, e, bne_self_eq_false, evn]
        refine hk _ ?_
        simp only [e]
        simp -implicitDefEqProofs only [evr, id, reduceCtorEq, reduceIte, Nat.reduceMul, Nat.reduceAdd, Nat.reduceLT, Nat.reduceLeDiff, Nat.reduceEqDiff, Int.reduceLT, Int.reduceBEq, Int.reduceBNe, Nat.reduceBEq, Int.reduceNeg, mkB_size, byteAt_mk, mkB_extract, mkB_append, mkB_toList, lit46, lit47, strsRd_at, evl, evn]
      | some n =>
        obtain rfl := hv n hn
        simp -implicitDefEqProofs only [evr, id, reduceCtorEq, reduceIte, Nat.reduceMul, Nat.reduceAdd, Nat.reduceLT, Nat.reduceLeDiff, Nat.reduceEqDiff, Int.reduceLT, Int.reduceBEq, Int.reduceBNe, Nat.reduceBEq, Int.reduceNeg, mkB_size, byteAt_mk, mkB_extract, mkB_append, mkB_toList, lit46, lit47, strsRd_at, hn, Option.isSome_some, Bool.not_true, bne_self_eq_false, evn]
        refine wcall_plain (rfValidC F ⟨av, n⟩ hav) (by simp only [prS, prC, evr, id, reduceCtorEq, reduceIte, Nat.reduceMul, Nat.reduceAdd, Nat.reduceLT, Nat.reduceLeDiff, Nat.reduceEqDiff, Int.reduceLT, Int.reduceBEq, Int.reduceBNe, Nat.reduceBEq, List.append_nil, Int.toNat_zero, Nat.sub_self, Int.reduceNeg, mkB_size, byteAt_mk, mkB_extract, mkB_append, mkB_toList, lit46, lit47, strsRd_at]; try rfl) (by rintro _ rfl; exact ok_plain rfl) ?_
        rintro r rfl
        simp -implicitDefEqProofs only [evr, id, reduceCtorEq, reduceIte, Nat.reduceMul, Nat.reduceAdd, Nat.reduceLT, Nat.reduceLeDiff, Nat.reduceEqDiff, Int.reduceLT, Int.reduceBEq, Int.reduceBNe, Nat.reduceBEq, Int.reduceNeg, mkB_size, byteAt_mk, mkB_extract, mkB_append, mkB_toList, lit46, lit47, strsRd_at, evn]
        refine hk _ ?_
        have e : (parP l).isNone = !vld ⟨av, n⟩ := by
          rw [hP, h1, hn]
          cases hv : vld ⟨av, n⟩ <;> simp [hv]
        simp only [e]
        simp -implicitDefEqProofs only [evr, id, reduceCtorEq, reduceIte, Nat.reduceMul, Nat.reduceAdd, Nat.reduceLT, Nat.reduceLeDiff, Nat.reduceEqDiff, Int.reduceLT, Int.reduceBEq, Int.reduceBNe, Nat.reduceBEq, Int.reduceNeg, mkB_size, byteAt_mk, mkB_extract, mkB_append, mkB_toList, lit46, lit47, strsRd_at, evl, evn]
    · have e : (parP l).isNone = true := by
        rw [hP, h1]; rfl
      have e2 : ((2 : Int) != 0) = true := by decide
      simp -implicitDefEqProofs only [evr, id, reduceCtorEq, reduceIte, Nat.reduceMul, Nat.reduceAdd, Nat.reduceLT, Nat.reduceLeDiff, Nat.reduceEqDiff, Int.reduceLT, Int.reduceBEq, Int.reduceBNe, Nat.reduceBEq, Int.reduceNeg, mkB_size, byteAt_mk, mkB_extract, mkB_append, mkB_toList, lit46, lit47, strsRd_at, e2, evn]
      refine hk _ ?_
      simp only [e]
      simp -implicitDefEqProofs only [evr, id, reduceCtorEq, reduceIte, Nat.reduceMul, Nat.reduceAdd, Nat.reduceLT, Nat.reduceLeDiff, Nat.reduceEqDiff, Int.reduceLT, Int.reduceBEq, Int.reduceBNe, Nat.reduceBEq, Int.reduceNeg, mkB_size, byteAt_mk, mkB_extract, mkB_append, mkB_toList, lit46, lit47, strsRd_at, evl, evn]
  try simp only [thenK]
  refine Sat.cond_b rfl (fun h => ?_) (fun h => ?_)
  · have hnone : parP l = none := by simpa using h
    (repeat refine Sat.seq ?_)
    (refine Sat.region_k fun k hk => ?_; simp -implicitDefEqProofs only [evr, id, reduceCtorEq, reduceIte, Nat.reduceMul, Nat.reduceAdd, Nat.reduceLT, Nat.reduceLeDiff, Nat.reduceEqDiff, Int.reduceLT, Int.reduceBEq, Int.reduceBNe, Nat.reduceBEq, Int.reduceNeg, mkB_size, byteAt_mk, mkB_extract, mkB_append, mkB_toList, lit46, lit47, strsRd_at, evn]; refine hk _ ?_; clear hk k; try show Sat _ _ _ _ _)
    refine Sat.ret ?_
    simp only [Tryz.results62, evr, id, reduceCtorEq, reduceIte, Nat.reduceMul, Nat.reduceAdd, Nat.reduceLT, Nat.reduceLeDiff, Nat.reduceEqDiff, Int.reduceLT, Int.reduceBEq, Int.reduceBNe, Nat.reduceBEq, List.append_nil, Int.toNat_zero, Nat.sub_self, Int.reduceNeg, mkB_size, byteAt_mk, mkB_extract, mkB_append, mkB_toList, lit46, lit47, strsRd_at]
    unfold parPS
    rw [hnone]
    rfl
  · obtain ⟨p, hp⟩ : ∃ p, parP l = some p := by
      cases hp : parP l with
      | none => rw [hp] at h; cases h
      | some p => exact ⟨p, rfl⟩
    have hpv : p = ⟨av, v⟩ := by
      rw [hP] at hp
      rcases hcase with ⟨a, h1, rfl, rfl⟩ | ⟨h1, rfl⟩
      · cases hn : numB last 32 with
        | none => rw [h1, hn] at hp; cases hp
        | some n =>
          obtain rfl := hv n hn
          rw [h1, hn] at hp
          simp only at hp
          split at hp
          · injection hp with hp; exact hp.symm
          · cases hp
      · rw [h1] at hp; cases hp
    refine Sat.skip ?_
    simp only [thenK]
    (repeat refine Sat.seq ?_)
    (refine Sat.region_k fun k hk => ?_; simp -implicitDefEqProofs only [evr, id, reduceCtorEq, reduceIte, Nat.reduceMul, Nat.reduceAdd, Nat.reduceLT, Nat.reduceLeDiff, Nat.reduceEqDiff, Int.reduceLT, Int.reduceBEq, Int.reduceBNe, Nat.reduceBEq, Int.reduceNeg, mkB_size, byteAt_mk, mkB_extract, mkB_append, mkB_toList, lit46, lit47, strsRd_at, evn]; refine hk _ ?_; clear hk k; try show Sat _ _ _ _ _)
    refine Sat.ret ?_
    simp only [Tryz.results62, evr, id, reduceCtorEq, reduceIte, Nat.reduceMul, Nat.reduceAdd, Nat.reduceLT, Nat.reduceLeDiff, Nat.reduceEqDiff, Int.reduceLT, Int.reduceBEq, Int.reduceBNe, Nat.reduceBEq, List.append_nil, Int.toNat_zero, Nat.sub_self, Int.reduceNeg, mkB_size, byteAt_mk, mkB_extract, mkB_append, mkB_toList, lit46, lit47, strsRd_at]
    unfold parPS
    rw [hp, hpv]
    rfl
theorem and255i {n : Nat} (hn : n < 2 ^ 32) : bits .and .i64 (n : Int) 255 = ((n % 256 : Nat) : Int) := by
  show IntKind.i64.wrap ((BitVec.ofInt 64 (n : Int) &&& BitVec.ofInt 64 255).toNat : Int) = _
  have e : (BitVec.ofInt 64 255).toNat = 2 ^ 8 - 1 := by decide
  have e2 : (BitVec.ofInt 64 (n : Int)).toNat = n := by
    rw [BitVec.toNat_ofInt]
    omega
  rw [BitVec.toNat_and, e2, e, Nat.and_two_pow_sub_one_eq_mod]
  exact w64 (by omega)
set_option maxRecDepth 100000 in
theorem rfFormatC (F : Frm) (a : Nat) (ha : a < 2 ^ 32) : Contract F Tryz.prog 84 [.i .u32 a] (fun r => r = sB (fmtB a)) := by
  have ha2 := u32_64 ha
  have hoct := fun i => octet_lt a i
  have hd := fun i => dig_len ⟨octet a i, by have := hoct i; omega⟩
  simp only at hd
  have o0 : (a : Int).fdiv (2 ^ min (Int.toNat 24) IntKind.i64.bits) = ((octet a 0 : Nat) : Int) := by
    show (a : Int).fdiv 16777216 = _
    rw [Int.fdiv_eq_ediv_of_nonneg _ (by decide)]
    unfold octet
    omega
  have s1 : (a : Int).fdiv (2 ^ min (Int.toNat 16) IntKind.i64.bits) = ((a / 65536 : Nat) : Int) := by
    show (a : Int).fdiv 65536 = _
    rw [Int.fdiv_eq_ediv_of_nonneg _ (by decide)]
    omega
  have s2 : (a : Int).fdiv (2 ^ min (Int.toNat 8) IntKind.i64.bits) = ((a / 256 : Nat) : Int) := by
    show (a : Int).fdiv 256 = _
    rw [Int.fdiv_eq_ediv_of_nonneg _ (by decide)]
    omega
  have o1 : bits .and .i64 ((a / 65536 : Nat) : Int) 255 = ((octet a 1 : Nat) : Int) := and255i (by omega)
  have o2 : bits .and .i64 ((a / 256 : Nat) : Int) 255 = ((octet a 2 : Nat) : Int) := and255i (by omega)
  have o3 : bits .and .i64 (a : Int) 255 = ((octet a 3 : Nat) : Int) := by
    rw [and255i ha]
    unfold octet
    simp
  have k := fun i => decimalC F (octet a i) (by have := hoct i; omega)
  have h0 := hd 0
  have h1 := hd 1
  have h2 := hd 2
  have h3 := hd 3
  have k0 := k 0
  have k1 := k 1
  have k2 := k 2
  have k3 := k 3
  have hf : fmtB a = Lib.decDigits (octet a 0) ++ 46 :: (Lib.decDigits (octet a 1) ++ 46 :: (Lib.decDigits (octet a 2) ++ 46 :: Lib.decDigits (octet a 3))) := rfl
  generalize Lib.decDigits (octet a 0) = d0 at *
  generalize Lib.decDigits (octet a 1) = d1 at *
  generalize Lib.decDigits (octet a 2) = d2 at *
  generalize Lib.decDigits (octet a 3) = d3 at *
  refine contract_of Tryz.func84 rfl (by kernel_rfl) ?_
  simp only [Tryz.ntmps84, argEnv]
  (repeat refine Sat.seq ?_)
  (refine Sat.region_k fun k hk => ?_; simp -implicitDefEqProofs only [evr, id, reduceCtorEq, reduceIte, Nat.reduceMul, Nat.reduceAdd, Nat.reduceLT, Nat.reduceLeDiff, Nat.reduceEqDiff, Int.reduceLT, Int.reduceBEq, Int.reduceBNe, Nat.reduceBEq, Int.reduceNeg, mkB_size, byteAt_mk, mkB_extract, mkB_append, mkB_toList, lit46, lit47, strsRd_at, evn]; refine hk _ ?_; clear hk k; try show Sat _ _ _ _ _)
  (repeat refine Sat.seq ?_)
  refine Sat.region_k fun k hk => ?_
  simp -implicitDefEqProofs only [evr, id, reduceCtorEq, reduceIte, Nat.reduceMul, Nat.reduceAdd, Nat.reduceLT, Nat.reduceLeDiff, Nat.reduceEqDiff, Int.reduceLT, Int.reduceBEq, Int.reduceBNe, Nat.reduceBEq, Int.reduceNeg, mkB_size, byteAt_mk, mkB_extract, mkB_append, mkB_toList, lit46, lit47, strsRd_at, ha2, evn]
  (refine hk _ ?_; clear hk k; try show Sat _ _ _ _ _)
  (repeat refine Sat.seq ?_)
  have c1 := cat_lim (a := d0.length) (b := 1) (by omega)
  have c2 := cat_lim (a := (d0 ++ [46]).length) (b := d1.length) (by simp only [List.length_append, List.length_cons, List.length_nil]; omega)
  have c3 := cat_lim (a := (d0 ++ 46 :: d1).length) (b := 1) (by simp only [List.length_append, List.length_cons, List.length_nil]; omega)
  have c4 := cat_lim (a := (d0 ++ 46 :: (d1 ++ [46])).length) (b := d2.length) (by simp only [List.length_append, List.length_cons, List.length_nil]; omega)
  have c5 := cat_lim (a := (d0 ++ 46 :: (d1 ++ 46 :: d2)).length) (b := 1) (by simp only [List.length_append, List.length_cons, List.length_nil]; omega)
  have c6 := cat_lim (a := (d0 ++ 46 :: (d1 ++ 46 :: (d2 ++ [46]))).length) (b := d3.length) (by simp only [List.length_append, List.length_cons, List.length_nil]; omega)
  refine Sat.region_k fun k hk => ?_
  simp -implicitDefEqProofs only [evr, id, reduceCtorEq, reduceIte, Nat.reduceMul, Nat.reduceAdd, Nat.reduceLT, Nat.reduceLeDiff, Nat.reduceEqDiff, Int.reduceLT, Int.reduceBEq, Int.reduceBNe, Nat.reduceBEq, Int.reduceNeg, mkB_size, byteAt_mk, mkB_extract, mkB_append, mkB_toList, lit46, lit47, strsRd_at, o0, evn]
  refine ⟨by decide, ?_⟩
  refine wcall_plain k0 rfl (by rintro _ rfl; exact ok_plain rfl) ?_
  rintro r rfl
  simp -implicitDefEqProofs only [evr, id, reduceCtorEq, reduceIte, Nat.reduceMul, Nat.reduceAdd, Nat.reduceLT, Nat.reduceLeDiff, Nat.reduceEqDiff, Int.reduceLT, Int.reduceBEq, Int.reduceBNe, Nat.reduceBEq, Int.reduceNeg, mkB_size, byteAt_mk, mkB_extract, mkB_append, mkB_toList, lit46, lit47, strsRd_at, c1, s1, o1, evn]
  refine ⟨by decide, ?_⟩
  refine wcall_plain k1 rfl (by rintro _ rfl; exact ok_plain rfl) ?_
  rintro r rfl
  simp -implicitDefEqProofs only [evr, id, reduceCtorEq, reduceIte, Nat.reduceMul, Nat.reduceAdd, Nat.reduceLT, Nat.reduceLeDiff, Nat.reduceEqDiff, Int.reduceLT, Int.reduceBEq, Int.reduceBNe, Nat.reduceBEq, Int.reduceNeg, mkB_size, byteAt_mk, mkB_extract, mkB_append, mkB_toList, lit46, lit47, strsRd_at, c2, c3, s2, o2, evn]
  refine ⟨by decide, ?_⟩
  refine wcall_plain k2 rfl (by rintro _ rfl; exact ok_plain rfl) ?_
  rintro r rfl
  simp -implicitDefEqProofs only [evr, id, reduceCtorEq, reduceIte, Nat.reduceMul, Nat.reduceAdd, Nat.reduceLT, Nat.reduceLeDiff, Nat.reduceEqDiff, Int.reduceLT, Int.reduceBEq, Int.reduceBNe, Nat.reduceBEq, Int.reduceNeg, mkB_size, byteAt_mk, mkB_extract, mkB_append, mkB_toList, lit46, lit47, strsRd_at, c4, c5, o3, evn]
  refine wcall_plain k3 rfl (by rintro _ rfl; exact ok_plain rfl) ?_
  rintro r rfl
  simp -implicitDefEqProofs only [evr, id, reduceCtorEq, reduceIte, Nat.reduceMul, Nat.reduceAdd, Nat.reduceLT, Nat.reduceLeDiff, Nat.reduceEqDiff, Int.reduceLT, Int.reduceBEq, Int.reduceBNe, Nat.reduceBEq, Int.reduceNeg, mkB_size, byteAt_mk, mkB_extract, mkB_append, mkB_toList, lit46, lit47, strsRd_at, c6, evn]
  (refine hk _ ?_; clear hk k; try show Sat _ _ _ _ _)
  refine Sat.ret ?_
  simp only [Tryz.results84, evr, id, reduceCtorEq, reduceIte, Nat.reduceMul, Nat.reduceAdd, Nat.reduceLT, Nat.reduceLeDiff, Nat.reduceEqDiff, Int.reduceLT, Int.reduceBEq, Int.reduceBNe, Nat.reduceBEq, List.append_nil, Int.toNat_zero, Nat.sub_self, Int.reduceNeg, mkB_size, byteAt_mk, mkB_extract, mkB_append, mkB_toList, lit46, lit47, strsRd_at]
  rw [hf]
set_option maxRecDepth 100000 in
theorem rfFormatPrefixC (F : Frm) (p : Prf) (hp : prOk p) : Contract F Tryz.prog 59 [prS p] (fun r => r = sB (fmtP p)) := by
  refine contract_of Tryz.func59 rfl (by kernel_rfl) ?_
  simp only [Tryz.ntmps59, argEnv, prS, prC]
  (repeat refine Sat.seq ?_)
  (refine Sat.region_k fun k hk => ?_; simp -implicitDefEqProofs only [evr, id, reduceCtorEq, reduceIte, Nat.reduceMul, Nat.reduceAdd, Nat.reduceLT, Nat.reduceLeDiff, Nat.reduceEqDiff, Int.reduceLT, Int.reduceBEq, Int.reduceBNe, Nat.reduceBEq, Int.reduceNeg, mkB_size, byteAt_mk, mkB_extract, mkB_append, mkB_toList, lit46, lit47, strsRd_at, evn])
  intro b1
  (refine hk _ ?_; clear hk k; try show Sat _ _ _ _ _)
  (repeat refine Sat.seq ?_)
  (refine Sat.region_k fun k hk => ?_; simp -implicitDefEqProofs only [evr, id, reduceCtorEq, reduceIte, Nat.reduceMul, Nat.reduceAdd, Nat.reduceLT, Nat.reduceLeDiff, Nat.reduceEqDiff, Int.reduceLT, Int.reduceBEq, Int.reduceBNe, Nat.reduceBEq, Int.reduceNeg, mkB_size, byteAt_mk, mkB_extract, mkB_append, mkB_toList, lit46, lit47, strsRd_at, evn])
  refine wcall_plain (rfValidC F p hp) (by simp only [prS, prC, evr, id, reduceCtorEq, reduceIte, Nat.reduceMul, Nat.reduceAdd, Nat.reduceLT, Nat.reduceLeDiff, Nat.reduceEqDiff, Int.reduceLT, Int.reduceBEq, Int.reduceBNe, Nat.reduceBEq, List.append_nil, Int.toNat_zero, Nat.sub_self, Int.reduceNeg, mkB_size, byteAt_mk, mkB_extract, mkB_append, mkB_toList, lit46, lit47, strsRd_at]; try rfl) (by rintro _ rfl; exact ok_plain rfl) ?_
  rintro r rfl
  simp -implicitDefEqProofs only [evr, id, reduceCtorEq, reduceIte, Nat.reduceMul, Nat.reduceAdd, Nat.reduceLT, Nat.reduceLeDiff, Nat.reduceEqDiff, Int.reduceLT, Int.reduceBEq, Int.reduceBNe, Nat.reduceBEq, Int.reduceNeg, mkB_size, byteAt_mk, mkB_extract, mkB_append, mkB_toList, lit46, lit47, strsRd_at, evn]
  (refine hk _ ?_; clear hk k; try show Sat _ _ _ _ _)
  refine Sat.cond_b rfl (fun h => ?_) (fun h => ?_)
  · have hv : ¬ vld p = true := by simpa using h
    (repeat refine Sat.seq ?_)
    (refine Sat.region_k fun k hk => ?_; simp -implicitDefEqProofs only [evr, id, reduceCtorEq, reduceIte, Nat.reduceMul, Nat.reduceAdd, Nat.reduceLT, Nat.reduceLeDiff, Nat.reduceEqDiff, Int.reduceLT, Int.reduceBEq, Int.reduceBNe, Nat.reduceBEq, Int.reduceNeg, mkB_size, byteAt_mk, mkB_extract, mkB_append, mkB_toList, lit46, lit47, strsRd_at, evn]; refine hk _ ?_; clear hk k; try show Sat _ _ _ _ _)
    refine Sat.ret ?_
    simp only [Tryz.results59, evr, id, reduceCtorEq, reduceIte, Nat.reduceMul, Nat.reduceAdd, Nat.reduceLT, Nat.reduceLeDiff, Nat.reduceEqDiff, Int.reduceLT, Int.reduceBEq, Int.reduceBNe, Nat.reduceBEq, List.append_nil, Int.toNat_zero, Nat.sub_self, Int.reduceNeg, mkB_size, byteAt_mk, mkB_extract, mkB_append, mkB_toList, lit46, lit47, strsRd_at]
    unfold fmtP
    rw [if_neg hv]
    rfl
  · have hv : vld p = true := by simpa using h
    obtain ⟨h1, h2, h3⟩ := vld_iff.1 hv
    obtain ⟨m, hm⟩ := Int.eq_ofNat_of_zero_le h1
    have hsh := fmt_short p.addr
    have hdl := dig_len ⟨m, by omega⟩
    simp only at hdl
    refine Sat.skip ?_
    simp only [thenK]
    (repeat refine Sat.seq ?_)
    (refine Sat.region_rows [⟨0, 7, 2, 0⟩, ⟨1, 8, 64, 1⟩, ⟨2, 9, 128, 2⟩, ⟨4, 10, 256, 0⟩, ⟨0, 11, 2, 0⟩, ⟨16, 12, 1024, 1⟩, ⟨36, 13, 2048, 2⟩, ⟨72, 14, 4608, 0⟩, ⟨255, 3, 8192, 0⟩] [0, 4, 1, 5] [(2, false), (3, true), (6, false), (7, false), (8, false)] [2, 3] (by kernel_rfl) (by kernel_rfl) (fun _ _ h => h) fun k hk => ?_; simp only [List.map_cons, List.map_nil, List.getD_cons_zero, List.getD_cons_succ, btseq_cons, btseq_free, btseq_nil]; simp -implicitDefEqProofs only [evr, id, reduceCtorEq, reduceIte, Nat.reduceMul, Nat.reduceAdd, Nat.reduceLT, Nat.reduceLeDiff, Nat.reduceEqDiff, Int.reduceLT, Int.reduceBEq, Int.reduceBNe, Nat.reduceBEq, Int.reduceNeg, mkB_size, byteAt_mk, mkB_extract, mkB_append, mkB_toList, lit46, lit47, strsRd_at, evn])
    have hm32 : m ≤ 32 := by omega
    have kD := decimalC F m (by omega)
    have hf : fmtP p = fmtB p.addr ++ 47 :: Lib.decDigits m := by unfold fmtP; rw [if_pos hv, hm]; rfl
    have kF := rfFormatC F p.addr hp
    have hlen := hm
    generalize fmtB p.addr = f at *
    generalize Lib.decDigits m = d at *
    have c1 := cat_lim (a := f.length) (b := 1) (by omega)
    have c2 := cat_lim (a := (f ++ [47]).length) (b := d.length) (by simp only [List.length_append, List.length_cons, List.length_nil]; omega)
    refine wcall_plain kF rfl (by rintro _ rfl; exact ok_plain rfl) ?_
    rintro r rfl
    simp -implicitDefEqProofs only [evr, id, reduceCtorEq, reduceIte, Nat.reduceMul, Nat.reduceAdd, Nat.reduceLT, Nat.reduceLeDiff, Nat.reduceEqDiff, Int.reduceLT, Int.reduceBEq, Int.reduceBNe, Nat.reduceBEq, Int.reduceNeg, mkB_size, byteAt_mk, mkB_extract, mkB_append, mkB_toList, lit46, lit47, strsRd_at, c1, hm, evn]
    refine wcall_plain kD rfl (by rintro _ rfl; exact ok_plain rfl) ?_
    rintro r rfl
    simp -implicitDefEqProofs only [evr, id, reduceCtorEq, reduceIte, Nat.reduceMul, Nat.reduceAdd, Nat.reduceLT, Nat.reduceLeDiff, Nat.reduceEqDiff, Int.reduceLT, Int.reduceBEq, Int.reduceBNe, Nat.reduceBEq, Int.reduceNeg, mkB_size, byteAt_mk, mkB_extract, mkB_append, mkB_toList, lit46, lit47, strsRd_at, c2, evn]
    (refine hk _ ?_; clear hk k; try show Sat _ _ _ _ _)
    refine Sat.ret ?_
    simp only [Tryz.results59, evr, id, reduceCtorEq, reduceIte, Nat.reduceMul, Nat.reduceAdd, Nat.reduceLT, Nat.reduceLeDiff, Nat.reduceEqDiff, Int.reduceLT, Int.reduceBEq, Int.reduceBNe, Nat.reduceBEq, List.append_nil, Int.toNat_zero, Nat.sub_self, Int.reduceNeg, mkB_size, byteAt_mk, mkB_extract, mkB_append, mkB_toList, lit46, lit47, strsRd_at]
    rw [hf]
end Go.Proofs.YtepkbbmjbbnhnaaGreatDoor
