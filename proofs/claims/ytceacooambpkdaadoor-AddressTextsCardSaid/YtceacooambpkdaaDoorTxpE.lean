/- address.Format at any address; prefixes in texts. -/
import Derived.Test.YtceacooambpkdaaDoorPrsE
set_option linter.unusedSimpArgs false
set_option linter.unusedVariables false
namespace Go.Proofs.YtceacooambpkdaaDoor
open Go.RowKit Eng

def octS (a i : Nat) : SV := sB (Lib.itoa (octet a i : Nat))
theorem itoa_nat (n : Nat) : Lib.itoa (n : Int) = Lib.decDigits n := by unfold Lib.itoa; rw [if_neg (by omega)]; rfl
theorem octS_eq (a i : Nat) : octS a i = .v (.string (mkB (Lib.decDigits (octet a i)))) := by unfold octS; rw [itoa_nat]
theorem dig_len : ∀ n : Fin 1000, (Lib.decDigits n.val).length ≤ 3 := by decide +kernel
theorem and255u {n : Nat} (hn : n < 2 ^ 32) : bits .and .u32 (n : Int) 255 = ((n % 256 : Nat) : Int) := by
  show IntKind.u32.wrap ((BitVec.ofInt 32 (n : Int) &&& BitVec.ofInt 32 255).toNat : Int) = _
  have e : (BitVec.ofInt 32 255).toNat = 2 ^ 8 - 1 := by decide
  rw [BitVec.toNat_and, ofInt_u n hn, e, Nat.and_two_pow_sub_one_eq_mod]
  exact w32u _ (by omega) (by omega)
theorem oct_eq {a i : Nat} (ha : a < 2 ^ 32) (hi : i < 4) : IntKind.i64.wrap (bits BinOp.and IntKind.u32 (Int.fdiv (a : Int) (2 ^ min (24 - 8 * (i : Int)).toNat IntKind.u32.bits)) 255) = (octet a i : Int) := by
  have e1 : (24 - 8 * (i : Int)).toNat = 24 - 8 * i := by omega
  have e2 : min (24 - 8 * i) IntKind.u32.bits = 24 - 8 * i := by show min (24 - 8 * i) 32 = _; omega
  have e3 : (2 : Int) ^ (24 - 8 * i) = ((2 ^ (24 - 8 * i) : Nat) : Int) := by simp
  have hle : a / 2 ^ (24 - 8 * i) ≤ a := Nat.div_le_self _ _
  rw [e1, e2, e3, Int.fdiv_eq_ediv_of_nonneg _ (Int.natCast_nonneg _), ← Int.natCast_ediv, and255u (Nat.lt_of_le_of_lt hle ha)]
  have := octet_lt a i
  exact w64 (by unfold octet at this; omega)
theorem oct_join (a : Nat) : Lib.join (((List.range 4).map fun i => mkB (Lib.decDigits (octet a i))).map (·.data.toList)) (⟨#[46]⟩ : ByteArray).data.toList = fmtB a := by
  show Lib.join [Lib.decDigits (octet a 0), Lib.decDigits (octet a 1), Lib.decDigits (octet a 2), Lib.decDigits (octet a 3)] [46] = fmtB a
  unfold Lib.join fmtB
  simp [List.intercalate, List.intersperse]
theorem fmt_short (a : Nat) : (fmtB a).length ≤ 15 := by
  have h := fun i => dig_len ⟨octet a i, by have := octet_lt a i; omega⟩
  have h0 := h 0
  have h1 := h 1
  have h2 := h 2
  have h3 := h 3
  unfold fmtB
  simp only [List.length_append, List.length_cons] at *
  omega
theorem fmt_len (a : Nat) : (fmtB a).length ≤ 140737488355328 := Nat.le_trans (fmt_short a) (by decide)
set_option maxRecDepth 100000 in
theorem formatC (a0 : Nat) (ha : a0 < 2 ^ 32) : Contract FrA Tryd.prog 12 [.i .u32 a0] (fun r => r = sB (fmtB a0)) := by
  refine contract_of Tryd.func12 rfl (by kernel_rfl) ?_
  simp only [Tryd.ntmps12, argEnv]
  (repeat refine Sat.seq ?_)
  (refine Sat.region_k fun k hk => ?_; simp -implicitDefEqProofs only [evr, id, reduceCtorEq, reduceIte, Nat.reduceMul, Nat.reduceAdd, Nat.reduceLT, Nat.reduceLeDiff, Nat.reduceEqDiff, Int.reduceLT, Int.reduceBEq, Int.reduceBNe, Nat.reduceBEq, List.append_nil, Int.toNat_zero, Nat.sub_self, Int.reduceNeg]; refine hk _ ?_; clear hk k; try show Sat _ _ _ _ _)
  (repeat refine Sat.seq ?_)
  (refine Sat.region_k fun k hk => ?_; simp -implicitDefEqProofs only [evr, id, reduceCtorEq, reduceIte, Nat.reduceMul, Nat.reduceAdd, Nat.reduceLT, Nat.reduceLeDiff, Nat.reduceEqDiff, Int.reduceLT, Int.reduceBEq, Int.reduceBNe, Nat.reduceBEq, List.append_nil, Int.toNat_zero, Nat.sub_self, Int.reduceNeg]; refine hk _ ?_; clear hk k; try show Sat _ _ _ _ _)
  (repeat refine Sat.seq ?_)
  (refine Sat.region_k fun k hk => ?_; simp -implicitDefEqProofs only [evr, id, reduceCtorEq, reduceIte, Nat.reduceMul, Nat.reduceAdd, Nat.reduceLT, Nat.reduceLeDiff, Nat.reduceEqDiff, Int.reduceLT, Int.reduceBEq, Int.reduceBNe, Nat.reduceBEq, List.append_nil, Int.toNat_zero, Nat.sub_self, Int.reduceNeg]; refine hk _ ?_; clear hk k; try show Sat _ _ _ _ _)
  (repeat refine Sat.seq ?_)
  refine Sat.block ?_
  refine Sat.adopt 3 9 1 (fun p _ => octS a0 p) rfl ?_
  refine Sat.loop (ι := Nat × Option Addr × Nat) (fun x => ⟨20, [(4, .i .i64 (24 - 8 * (x.1 : Int))), (3, .os 0 x.2.1 x.1 x.2.2), (0, .i .u32 a0)], [.row x.2.1 9 x.1 x.2.2 1 (fun p _ => octS a0 p)]⟩) (fun x => x.1 ≤ 4) (fun x => 4 - x.1) (0, none, 0) (by decide) (by simp -implicitDefEqProofs only [evr, id, reduceCtorEq, reduceIte, Nat.reduceMul, Nat.reduceAdd, Nat.reduceLT, Nat.reduceLeDiff, Nat.reduceEqDiff, Int.reduceLT, Int.reduceBEq, Int.reduceBNe, Nat.reduceBEq, List.append_nil, Int.toNat_zero, Nat.sub_self, Int.reduceNeg, evl]; rfl) ?_
  rintro ⟨i, a, c⟩ hi
  simp only at hi ⊢
  (repeat refine Sat.seq ?_)
  (refine Sat.region_k fun k hk => ?_; simp -implicitDefEqProofs only [evr, id, reduceCtorEq, reduceIte, Nat.reduceMul, Nat.reduceAdd, Nat.reduceLT, Nat.reduceLeDiff, Nat.reduceEqDiff, Int.reduceLT, Int.reduceBEq, Int.reduceBNe, Nat.reduceBEq, List.append_nil, Int.toNat_zero, Nat.sub_self, Int.reduceNeg]; refine hk _ ?_; clear hk k; try show Sat _ _ _ _ _)
  (repeat refine Sat.seq ?_)
  refine Sat.cond_b rfl (fun h => ?_) (fun h => ?_)
  · simp only [decide_eq_true_eq] at h
    have hi4 : i < 4 := by omega
    refine Sat.skip ?_
    simp only [thenK]
    (repeat refine Sat.seq ?_)
    refine Sat.block ?_
    (repeat refine Sat.seq ?_)
    have e14 := oct_eq ha hi4
    have e4 : IntKind.i64.wrap (24 - 8 * (i : Int) - 8) = 24 - 8 * ((i + 1 : Nat) : Int) := by rw [w64 (by omega)]; omega
    refine Sat.region_k fun k hk => ?_
    simp -implicitDefEqProofs only [evr, id, reduceCtorEq, reduceIte, Nat.reduceMul, Nat.reduceAdd, Nat.reduceLT, Nat.reduceLeDiff, Nat.reduceEqDiff, Int.reduceLT, Int.reduceBEq, Int.reduceBNe, Nat.reduceBEq, List.append_nil, Int.toNat_zero, Nat.sub_self, Int.reduceNeg, e14]
    refine ⟨by omega, ?_⟩
    refine wcall_plain (itoaC (octet a0 i) (by omega) (by have := octet_lt a0 i; omega)) rfl (by rintro _ rfl; exact ok_plain rfl) ?_
    rintro r rfl
    simp -implicitDefEqProofs only [evr, id, reduceCtorEq, reduceIte, Nat.reduceMul, Nat.reduceAdd, Nat.reduceLT, Nat.reduceLeDiff, Nat.reduceEqDiff, Int.reduceLT, Int.reduceBEq, Int.reduceBNe, Nat.reduceBEq, List.append_nil, Int.toNat_zero, Nat.sub_self, Int.reduceNeg]
    intro blk
    refine ⟨⟨by unfold maxLen; omega, by omega⟩, fun a2 cap2 => ?_⟩
    (refine hk _ ?_; clear hk k; try show Sat _ _ _ _ _)
    (repeat refine Sat.seq ?_)
    refine Sat.region_k fun k hk => ?_
    simp -implicitDefEqProofs only [evr, id, reduceCtorEq, reduceIte, Nat.reduceMul, Nat.reduceAdd, Nat.reduceLT, Nat.reduceLeDiff, Nat.reduceEqDiff, Int.reduceLT, Int.reduceBEq, Int.reduceBNe, Nat.reduceBEq, List.append_nil, Int.toNat_zero, Nat.sub_self, Int.reduceNeg, e4]
    refine hk _ ?_
    simp only [thenK, blockK]
    refine ⟨(i + 1, a2, cap2), by show i + 1 ≤ 4; omega, by show 4 - (i + 1) < 4 - i; omega, ?_⟩
    simp -implicitDefEqProofs only [evr, id, reduceCtorEq, reduceIte, Nat.reduceMul, Nat.reduceAdd, Nat.reduceLT, Nat.reduceLeDiff, Nat.reduceEqDiff, Int.reduceLT, Int.reduceBEq, Int.reduceBNe, Nat.reduceBEq, List.append_nil, Int.toNat_zero, Nat.sub_self, Int.reduceNeg, evl]
    exact rdEq_one (rdEq_refl _ _ _) rfl
  · simp only [decide_eq_false_iff_not] at h
    obtain rfl : i = 4 := by omega
    refine Sat.exit ?_
    simp only [thenK, blockK, reduceIte]
    (repeat refine Sat.seq ?_)
    (refine Sat.region_k fun k hk => ?_; simp -implicitDefEqProofs only [evr, id, reduceCtorEq, reduceIte, Nat.reduceMul, Nat.reduceAdd, Nat.reduceLT, Nat.reduceLeDiff, Nat.reduceEqDiff, Int.reduceLT, Int.reduceBEq, Int.reduceBNe, Nat.reduceBEq, List.append_nil, Int.toNat_zero, Nat.sub_self, Int.reduceNeg])
    refine wcall_slice (joinC FrA (a := a) (len := 4) (cap := c) (rd := fun p _ => octS a0 p) ((List.range 4).map fun i => mkB (Lib.decDigits (octet a0 i))) ⟨#[46]⟩ rfl (fun j x hx => ?_) (by decide) (by decide) (by rw [oct_join]; exact fmt_len a0)) rfl (by simp -implicitDefEqProofs only [evr, id, reduceCtorEq, reduceIte, Nat.reduceMul, Nat.reduceAdd, Nat.reduceLT, Nat.reduceLeDiff, Nat.reduceEqDiff, Int.reduceLT, Int.reduceBEq, Int.reduceBNe, Nat.reduceBEq, List.append_nil, Int.toNat_zero, Nat.sub_self, Int.reduceNeg]; try rfl) ?_
    · rw [List.getElem?_map] at hx
      rcases hj : (List.range 4)[j]? with _ | y
      · rw [hj] at hx; cases hx
      · rw [hj] at hx
        have : y = j := by
          have := List.getElem?_eq_some_iff.1 hj
          obtain ⟨_, h2⟩ := this
          rw [List.getElem_range] at h2
          exact h2.symm
        subst this
        cases hx
        show octS a0 y = .v (.string (mkB (Lib.decDigits (octet a0 y))))
        exact octS_eq a0 y
    rintro r rfl
    simp -implicitDefEqProofs only [evr, id, reduceCtorEq, reduceIte, Nat.reduceMul, Nat.reduceAdd, Nat.reduceLT, Nat.reduceLeDiff, Nat.reduceEqDiff, Int.reduceLT, Int.reduceBEq, Int.reduceBNe, Nat.reduceBEq, List.append_nil, Int.toNat_zero, Nat.sub_self, Int.reduceNeg]
    (refine hk _ ?_; clear hk k; try show Sat _ _ _ _ _)
    refine Sat.ret ?_
    simp only [Tryd.results12, evr, id, reduceCtorEq, reduceIte, Nat.reduceMul, Nat.reduceAdd, Nat.reduceLT, Nat.reduceLeDiff, Nat.reduceEqDiff, Int.reduceLT, Int.reduceBEq, Int.reduceBNe, Nat.reduceBEq, List.append_nil, Int.toNat_zero, Nat.sub_self, Int.reduceNeg]
    exact congrArg (fun l : List UInt8 => SV.v (.string ⟨l.toArray⟩)) (oct_join a0)

/-! ### Prefixes -/
/-- what ParsePrefix gives -/
def parPS (l : List UInt8) : SV := match parP l with
  | some p => tupL [prS p, .i .i64 0]
  | none => tupL [prS ⟨0, 0⟩, .i .i64 2]
theorem numB_free {s : List UInt8} {m n : Nat} (hm : m < 1000) (h : numB s m = some n) {c : UInt8} (hc : c.toNat < 48) : ∀ x ∈ s, x ≠ c := by
  obtain ⟨h1, h2⟩ := numB_some h
  subst h2
  exact dig_ne (by omega) hc
theorem dig_nil : ∀ n : Fin 1000, Lib.decDigits n.val ≠ [] := by decide +kernel
theorem numB_nil {m : Nat} (hm : m < 1000) : numB [] m = none := by
  cases h : numB [] m with
  | none => rfl
  | some n =>
    obtain ⟨h1, h2⟩ := numB_some h
    exact absurd h2 (dig_nil ⟨n, by omega⟩)
theorem cut_slash (F : Frm) (l : List UInt8) (hl : l.length < 4294967296) : ∃ first last more, (first.length ≤ l.length ∧ last.length ≤ l.length) ∧
    (parP l = match parB first, numB last 32 with | some a, some n => if vld ⟨a, n⟩ = true then some ⟨a, n⟩ else none | _, _ => none) ∧ Contract F Tryd.prog 47 [sB l, .v (.string ⟨#[47]⟩)] (fun r => r = tupL [sB first, sB last, .b more]) := by
  have h := Lib.indexByte_ge l 47
  rcases Int.lt_or_le (Lib.indexByte l 47) 0 with h1 | h1
  · have e : Lib.indexByte l 47 = -1 := by omega
    refine ⟨l, [], false, ⟨Nat.le_refl _, Nat.zero_le _⟩, ?_, cutNoL F 47 l e⟩
    have h2 : parP l = none := by unfold parP; rw [split_index_none e]
    rw [h2, numB_nil (by decide)]
    cases parB l <;> rfl
  · obtain ⟨n, e⟩ := Int.eq_ofNat_of_zero_le h1
    refine ⟨l.take n, l.drop (n + 1), true, ⟨by rw [List.length_take]; exact Nat.min_le_right _ _, by rw [List.length_drop]; exact Nat.sub_le _ _⟩, ?_, cutL F 47 l n e hl⟩
    unfold parP
    rw [split_index_some e]
    cases hn : numB (l.drop (n + 1)) 32 with
    | some k =>
      rw [splitB_none 47 _ (numB_free (by decide) hn (by decide))]
      simp only [hn]
      cases parB (l.take n) <;> rfl
    | none =>
      have e2 : ∀ x : Option Nat, (match x, (none : Option Nat) with | some a, some n => if vld ⟨a, n⟩ = true then some (Prf.mk a n) else none | _, _ => none) = none := fun x => by cases x <;> rfl
      rw [e2]
      split
      · rename_i p q hs
        injection hs with hs1 hs2
        have hq : q = l.drop (n + 1) := by
          have hne := Lib.indexByte_ge (l.drop (n + 1)) 47
          rcases Int.lt_or_le (Lib.indexByte (l.drop (n + 1)) 47) 0 with h3 | h3
          · rw [split_index_none (by omega)] at hs2
            injection hs2 with h4
            exact h4.symm
          · obtain ⟨j, h4⟩ := Int.eq_ofNat_of_zero_le h3
            rw [split_index_some h4] at hs2
            injection hs2 with h5 h6
            exact absurd h6 (splitB_ne _ _)
        rw [hq, hn]
        exact e2 _
      · rfl
set_option maxRecDepth 100000 in
theorem parsePrefixC (l : List UInt8) (hl : l.length < 4294967296) : Contract FrA Tryd.prog 17 [sB l] (fun r => r = parPS l) := by
  obtain ⟨first, last, more, ⟨hl1, hl2⟩, hP, hC⟩ := cut_slash FrA l hl
  have cP := parseC first (by omega)
  have cN := numberC2 last 32 (by decide) (by omega)
  refine contract_of Tryd.func17 rfl (by kernel_rfl) ?_
  simp only [Tryd.ntmps17, argEnv]
  (repeat refine Sat.seq ?_)
  (refine Sat.region_k fun k hk => ?_; simp -implicitDefEqProofs only [evr, id, reduceCtorEq, reduceIte, Nat.reduceMul, Nat.reduceAdd, Nat.reduceLT, Nat.reduceLeDiff, Nat.reduceEqDiff, Int.reduceLT, Int.reduceBEq, Int.reduceBNe, Nat.reduceBEq, List.append_nil, Int.toNat_zero, Nat.sub_self, Int.reduceNeg])
  intro b1
  (refine hk _ ?_; clear hk k; try show Sat _ _ _ _ _)
  (repeat refine Sat.seq ?_)
  (refine Sat.region_k fun k hk => ?_; simp -implicitDefEqProofs only [evr, id, reduceCtorEq, reduceIte, Nat.reduceMul, Nat.reduceAdd, Nat.reduceLT, Nat.reduceLeDiff, Nat.reduceEqDiff, Int.reduceLT, Int.reduceBEq, Int.reduceBNe, Nat.reduceBEq, List.append_nil, Int.toNat_zero, Nat.sub_self, Int.reduceNeg])
  refine wcall_slice hC rfl (by simp -implicitDefEqProofs only [evr, id, reduceCtorEq, reduceIte, Nat.reduceMul, Nat.reduceAdd, Nat.reduceLT, Nat.reduceLeDiff, Nat.reduceEqDiff, Int.reduceLT, Int.reduceBEq, Int.reduceBNe, Nat.reduceBEq, List.append_nil, Int.toNat_zero, Nat.sub_self, Int.reduceNeg]; try rfl) ?_
  rintro r rfl
  simp -implicitDefEqProofs only [evr, id, reduceCtorEq, reduceIte, Nat.reduceMul, Nat.reduceAdd, Nat.reduceLT, Nat.reduceLeDiff, Nat.reduceEqDiff, Int.reduceLT, Int.reduceBEq, Int.reduceBNe, Nat.reduceBEq, List.append_nil, Int.toNat_zero, Nat.sub_self, Int.reduceNeg]
  (refine hk _ ?_; clear hk k; try show Sat _ _ _ _ _)
  have hpa : ∃ (av : Nat) (er : Int), parS first = tupL [.i .u32 av, .i .i64 er] ∧ av < 2 ^ 32 ∧ ((∃ a, parB first = some a ∧ av = a ∧ er = 0) ∨ (parB first = none ∧ er = 2)) := by
    unfold parS
    cases h : parB first with
    | some a => exact ⟨a, 0, rfl, parB_lt h, .inl ⟨a, rfl, rfl, rfl⟩⟩
    | none => exact ⟨0, 2, rfl, by decide, .inr ⟨rfl, rfl⟩⟩
  obtain ⟨av, er, hps, hav, hcase⟩ := hpa
  rw [hps] at cP
  (repeat refine Sat.seq ?_)
  (refine Sat.region_k fun k hk => ?_; simp -implicitDefEqProofs only [evr, id, reduceCtorEq, reduceIte, Nat.reduceMul, Nat.reduceAdd, Nat.reduceLT, Nat.reduceLeDiff, Nat.reduceEqDiff, Int.reduceLT, Int.reduceBEq, Int.reduceBNe, Nat.reduceBEq, List.append_nil, Int.toNat_zero, Nat.sub_self, Int.reduceNeg])
  refine wcall_slice cP rfl (by simp -implicitDefEqProofs only [evr, id, reduceCtorEq, reduceIte, Nat.reduceMul, Nat.reduceAdd, Nat.reduceLT, Nat.reduceLeDiff, Nat.reduceEqDiff, Int.reduceLT, Int.reduceBEq, Int.reduceBNe, Nat.reduceBEq, List.append_nil, Int.toNat_zero, Nat.sub_self, Int.reduceNeg]; try rfl) ?_
  rintro r rfl
  simp -implicitDefEqProofs only [evr, id, reduceCtorEq, reduceIte, Nat.reduceMul, Nat.reduceAdd, Nat.reduceLT, Nat.reduceLeDiff, Nat.reduceEqDiff, Int.reduceLT, Int.reduceBEq, Int.reduceBNe, Nat.reduceBEq, List.append_nil, Int.toNat_zero, Nat.sub_self, Int.reduceNeg]
  (refine hk _ ?_; clear hk k; try show Sat _ _ _ _ _)
  (repeat refine Sat.seq ?_)
  (refine Sat.region_k fun k hk => ?_; simp -implicitDefEqProofs only [evr, id, reduceCtorEq, reduceIte, Nat.reduceMul, Nat.reduceAdd, Nat.reduceLT, Nat.reduceLeDiff, Nat.reduceEqDiff, Int.reduceLT, Int.reduceBEq, Int.reduceBNe, Nat.reduceBEq, List.append_nil, Int.toNat_zero, Nat.sub_self, Int.reduceNeg])
  refine wcall_slice cN rfl (by simp -implicitDefEqProofs only [evr, id, reduceCtorEq, reduceIte, Nat.reduceMul, Nat.reduceAdd, Nat.reduceLT, Nat.reduceLeDiff, Nat.reduceEqDiff, Int.reduceLT, Int.reduceBEq, Int.reduceBNe, Nat.reduceBEq, List.append_nil, Int.toNat_zero, Nat.sub_self, Int.reduceNeg]; try rfl) ?_
  rintro r ⟨v, rfl, hv⟩
  simp -implicitDefEqProofs only [evr, id, reduceCtorEq, reduceIte, Nat.reduceMul, Nat.reduceAdd, Nat.reduceLT, Nat.reduceLeDiff, Nat.reduceEqDiff, Int.reduceLT, Int.reduceBEq, Int.reduceBNe, Nat.reduceBEq, List.append_nil, Int.toNat_zero, Nat.sub_self, Int.reduceNeg]
  (refine hk _ ?_; clear hk k; try show Sat _ _ _ _ _)
  (repeat refine Sat.seq ?_)
  (refine Sat.region_k fun k hk => ?_; simp -implicitDefEqProofs only [evr, id, reduceCtorEq, reduceIte, Nat.reduceMul, Nat.reduceAdd, Nat.reduceLT, Nat.reduceLeDiff, Nat.reduceEqDiff, Int.reduceLT, Int.reduceBEq, Int.reduceBNe, Nat.reduceBEq, List.append_nil, Int.toNat_zero, Nat.sub_self, Int.reduceNeg])
  intro b2
  (refine hk _ ?_; clear hk k; try show Sat _ _ _ _ _)
  (repeat refine Sat.seq ?_)
  refine Sat.region_at ⟨44, [(41, .b (parP l).isNone), (11, .op 1 b2 0), (2, .op 0 b1 0)], [.box b1 25 [.i .u32 0, .i .i64 0], .box b2 25 [.i .u32 av, .i .i64 v]]⟩ (fun k hk => ?_) ?_
  · rcases hcase with ⟨a, h1, rfl, rfl⟩ | ⟨h1, rfl⟩
    · cases hn : numB last 32 with
      | none =>
        have e : (parP l).isNone = true := by rw [hP, h1, hn]; rfl
        simp -implicitDefEqProofs only [evr, id, reduceCtorEq, reduceIte, Nat.reduceMul, Nat.reduceAdd, Nat.reduceLT, Nat.reduceLeDiff, Nat.reduceEqDiff, Int.reduceLT, Int.reduceBEq, Int.reduceBNe, Nat.reduceBEq, List.append_nil, Int.toNat_zero, Nat.sub_self, Int.reduceNeg, hn, Option.isSome_none, Bool.not_false, e, bne_self_eq_false]
        refine hk _ ?_
        simp only [e]
        simp -implicitDefEqProofs only [evr, id, reduceCtorEq, reduceIte, Nat.reduceMul, Nat.reduceAdd, Nat.reduceLT, Nat.reduceLeDiff, Nat.reduceEqDiff, Int.reduceLT, Int.reduceBEq, Int.reduceBNe, Nat.reduceBEq, List.append_nil, Int.toNat_zero, Nat.sub_self, Int.reduceNeg, evl]
      | some n =>
        obtain rfl := hv n hn
        simp -implicitDefEqProofs only [evr, id, reduceCtorEq, reduceIte, Nat.reduceMul, Nat.reduceAdd, Nat.reduceLT, Nat.reduceLeDiff, Nat.reduceEqDiff, Int.reduceLT, Int.reduceBEq, Int.reduceBNe, Nat.reduceBEq, List.append_nil, Int.toNat_zero, Nat.sub_self, Int.reduceNeg, hn, Option.isSome_some, Bool.not_true, bne_self_eq_false]
        refine wcall_plain (validC FrA ⟨av, n⟩ hav) (by simp only [prS, prC, evr, id, reduceCtorEq, reduceIte, Nat.reduceMul, Nat.reduceAdd, Nat.reduceLT, Nat.reduceLeDiff, Nat.reduceEqDiff, Int.reduceLT, Int.reduceBEq, Int.reduceBNe, Nat.reduceBEq, List.append_nil, Int.toNat_zero, Nat.sub_self, Int.reduceNeg]; try rfl) (by rintro _ rfl; exact ok_plain rfl) ?_
        rintro r rfl
        simp -implicitDefEqProofs only [evr, id, reduceCtorEq, reduceIte, Nat.reduceMul, Nat.reduceAdd, Nat.reduceLT, Nat.reduceLeDiff, Nat.reduceEqDiff, Int.reduceLT, Int.reduceBEq, Int.reduceBNe, Nat.reduceBEq, List.append_nil, Int.toNat_zero, Nat.sub_self, Int.reduceNeg]
        refine hk _ ?_
        have e : (parP l).isNone = !vld ⟨av, n⟩ := by
          rw [hP, h1, hn]
          cases hv : vld ⟨av, n⟩ <;> simp [hv]
        simp only [e]
        simp -implicitDefEqProofs only [evr, id, reduceCtorEq, reduceIte, Nat.reduceMul, Nat.reduceAdd, Nat.reduceLT, Nat.reduceLeDiff, Nat.reduceEqDiff, Int.reduceLT, Int.reduceBEq, Int.reduceBNe, Nat.reduceBEq, List.append_nil, Int.toNat_zero, Nat.sub_self, Int.reduceNeg, evl]
    · have e : (parP l).isNone = true := by
        rw [hP, h1]; rfl
      have e2 : ((2 : Int) != 0) = true := by decide
      simp -implicitDefEqProofs only [evr, id, reduceCtorEq, reduceIte, Nat.reduceMul, Nat.reduceAdd, Nat.reduceLT, Nat.reduceLeDiff, Nat.reduceEqDiff, Int.reduceLT, Int.reduceBEq, Int.reduceBNe, Nat.reduceBEq, List.append_nil, Int.toNat_zero, Nat.sub_self, Int.reduceNeg, e2]
      refine hk _ ?_
      simp only [e]
      simp -implicitDefEqProofs only [evr, id, reduceCtorEq, reduceIte, Nat.reduceMul, Nat.reduceAdd, Nat.reduceLT, Nat.reduceLeDiff, Nat.reduceEqDiff, Int.reduceLT, Int.reduceBEq, Int.reduceBNe, Nat.reduceBEq, List.append_nil, Int.toNat_zero, Nat.sub_self, Int.reduceNeg, evl]
  try simp only [thenK]
  refine Sat.cond_b rfl (fun h => ?_) (fun h => ?_)
  · have hnone : parP l = none := by simpa using h
    (repeat refine Sat.seq ?_)
    (refine Sat.region_k fun k hk => ?_; simp -implicitDefEqProofs only [evr, id, reduceCtorEq, reduceIte, Nat.reduceMul, Nat.reduceAdd, Nat.reduceLT, Nat.reduceLeDiff, Nat.reduceEqDiff, Int.reduceLT, Int.reduceBEq, Int.reduceBNe, Nat.reduceBEq, List.append_nil, Int.toNat_zero, Nat.sub_self, Int.reduceNeg]; refine hk _ ?_; clear hk k; try show Sat _ _ _ _ _)
    refine Sat.ret ?_
    simp only [Tryd.results17, evr, id, reduceCtorEq, reduceIte, Nat.reduceMul, Nat.reduceAdd, Nat.reduceLT, Nat.reduceLeDiff, Nat.reduceEqDiff, Int.reduceLT, Int.reduceBEq, Int.reduceBNe, Nat.reduceBEq, List.append_nil, Int.toNat_zero, Nat.sub_self, Int.reduceNeg]
    unfold parPS
    rw [hnone]
    rfl
  · obtain ⟨p, hp⟩ : ∃ p, parP l = some p := by
      cases hp : parP l with
      | none => rw [hp] at h; cases h
      | some p => exact ⟨p, rfl⟩
    have hpv : p = ⟨av, v⟩ := by
      rw [hP] at hp
      rcases hcase with ⟨a, h1, rfl, rfl⟩ | ⟨h1, rfl⟩
      · cases hn : numB last 32 with
        | none => rw [h1, hn] at hp; cases hp
        | some n =>
          obtain rfl := hv n hn
          rw [h1, hn] at hp
          simp only at hp
          split at hp
          · injection hp with hp; exact hp.symm
          · cases hp
      · rw [h1] at hp; cases hp
    refine Sat.skip ?_
    simp only [thenK]
    (repeat refine Sat.seq ?_)
    (refine Sat.region_k fun k hk => ?_; simp -implicitDefEqProofs only [evr, id, reduceCtorEq, reduceIte, Nat.reduceMul, Nat.reduceAdd, Nat.reduceLT, Nat.reduceLeDiff, Nat.reduceEqDiff, Int.reduceLT, Int.reduceBEq, Int.reduceBNe, Nat.reduceBEq, List.append_nil, Int.toNat_zero, Nat.sub_self, Int.reduceNeg]; refine hk _ ?_; clear hk k; try show Sat _ _ _ _ _)
    refine Sat.ret ?_
    simp only [Tryd.results17, evr, id, reduceCtorEq, reduceIte, Nat.reduceMul, Nat.reduceAdd, Nat.reduceLT, Nat.reduceLeDiff, Nat.reduceEqDiff, Int.reduceLT, Int.reduceBEq, Int.reduceBNe, Nat.reduceBEq, List.append_nil, Int.toNat_zero, Nat.sub_self, Int.reduceNeg]
    unfold parPS
    rw [hp, hpv]
    rfl

theorem cat_ok {x y : ByteArray} (h : x.size + y.size ≤ 1000000) : (((x.size + y.size : Nat) : Int) ≤ IntKind.i64.max) = True := by
  have e : IntKind.i64.max = 9223372036854775807 := by decide
  rw [e]
  exact eq_true (by omega)
set_option maxRecDepth 100000 in
theorem formatPrefixC (p : Prf) (hp : prOk p) : Contract FrA Tryd.prog 20 [prS p] (fun r => r = sB (fmtP p)) := by
  refine contract_of Tryd.func20 rfl (by kernel_rfl) ?_
  simp only [Tryd.ntmps20, argEnv, prS, prC]
  (repeat refine Sat.seq ?_)
  (refine Sat.region_k fun k hk => ?_; simp -implicitDefEqProofs only [evr, id, reduceCtorEq, reduceIte, Nat.reduceMul, Nat.reduceAdd, Nat.reduceLT, Nat.reduceLeDiff, Nat.reduceEqDiff, Int.reduceLT, Int.reduceBEq, Int.reduceBNe, Nat.reduceBEq, List.append_nil, Int.toNat_zero, Nat.sub_self, Int.reduceNeg])
  intro b1
  (refine hk _ ?_; clear hk k; try show Sat _ _ _ _ _)
  (repeat refine Sat.seq ?_)
  (refine Sat.region_k fun k hk => ?_; simp -implicitDefEqProofs only [evr, id, reduceCtorEq, reduceIte, Nat.reduceMul, Nat.reduceAdd, Nat.reduceLT, Nat.reduceLeDiff, Nat.reduceEqDiff, Int.reduceLT, Int.reduceBEq, Int.reduceBNe, Nat.reduceBEq, List.append_nil, Int.toNat_zero, Nat.sub_self, Int.reduceNeg])
  refine wcall_plain (validC FrA p hp) (by simp only [prS, prC, evr, id, reduceCtorEq, reduceIte, Nat.reduceMul, Nat.reduceAdd, Nat.reduceLT, Nat.reduceLeDiff, Nat.reduceEqDiff, Int.reduceLT, Int.reduceBEq, Int.reduceBNe, Nat.reduceBEq, List.append_nil, Int.toNat_zero, Nat.sub_self, Int.reduceNeg]; try rfl) (by rintro _ rfl; exact ok_plain rfl) ?_
  rintro r rfl
  simp -implicitDefEqProofs only [evr, id, reduceCtorEq, reduceIte, Nat.reduceMul, Nat.reduceAdd, Nat.reduceLT, Nat.reduceLeDiff, Nat.reduceEqDiff, Int.reduceLT, Int.reduceBEq, Int.reduceBNe, Nat.reduceBEq, List.append_nil, Int.toNat_zero, Nat.sub_self, Int.reduceNeg]
  (refine hk _ ?_; clear hk k; try show Sat _ _ _ _ _)
  refine Sat.cond_b rfl (fun h => ?_) (fun h => ?_)
  · have hv : ¬ vld p = true := by simpa using h
    (repeat refine Sat.seq ?_)
    (refine Sat.region_k fun k hk => ?_; simp -implicitDefEqProofs only [evr, id, reduceCtorEq, reduceIte, Nat.reduceMul, Nat.reduceAdd, Nat.reduceLT, Nat.reduceLeDiff, Nat.reduceEqDiff, Int.reduceLT, Int.reduceBEq, Int.reduceBNe, Nat.reduceBEq, List.append_nil, Int.toNat_zero, Nat.sub_self, Int.reduceNeg]; refine hk _ ?_; clear hk k; try show Sat _ _ _ _ _)
    refine Sat.ret ?_
    simp only [Tryd.results20, evr, id, reduceCtorEq, reduceIte, Nat.reduceMul, Nat.reduceAdd, Nat.reduceLT, Nat.reduceLeDiff, Nat.reduceEqDiff, Int.reduceLT, Int.reduceBEq, Int.reduceBNe, Nat.reduceBEq, List.append_nil, Int.toNat_zero, Nat.sub_self, Int.reduceNeg]
    unfold fmtP
    rw [if_neg hv]
    rfl
  · have hv : vld p = true := by simpa using h
    obtain ⟨h1, h2, h3⟩ := vld_iff.1 hv
    obtain ⟨m, hm⟩ := Int.eq_ofNat_of_zero_le h1
    have hsh := fmt_short p.addr
    have hdl := dig_len ⟨m, by omega⟩
    simp only at hdl
    refine Sat.skip ?_
    simp only [thenK]
    (repeat refine Sat.seq ?_)
    (refine Sat.region_rows [⟨0, 7, 2, 0⟩, ⟨1, 8, 64, 1⟩, ⟨2, 9, 128, 2⟩, ⟨4, 10, 256, 0⟩, ⟨0, 11, 2, 0⟩, ⟨16, 12, 1024, 1⟩, ⟨36, 13, 2048, 2⟩, ⟨72, 14, 4608, 0⟩, ⟨255, 3, 8192, 0⟩] [0, 4, 1, 5] [(2, false), (3, true), (6, false), (7, false), (8, false)] [2, 3] (by kernel_rfl) (by kernel_rfl) (fun _ _ h => h) fun k hk => ?_; simp only [List.map_cons, List.map_nil, List.getD_cons_zero, List.getD_cons_succ, btseq_cons, btseq_free, btseq_nil]; simp -implicitDefEqProofs only [evr, id, reduceCtorEq, reduceIte, Nat.reduceMul, Nat.reduceAdd, Nat.reduceLT, Nat.reduceLeDiff, Nat.reduceEqDiff, Int.reduceLT, Int.reduceBEq, Int.reduceBNe, Nat.reduceBEq, List.append_nil, Int.toNat_zero, Nat.sub_self, Int.reduceNeg])
    refine wcall_plain (formatC p.addr hp) rfl (by rintro _ rfl; exact ok_plain rfl) ?_
    rintro r rfl
    have c1 := cat_ok (x := mkB (fmtB p.addr)) (y := ⟨#[47]⟩) (by rw [mkB_size]; show _ + 1 ≤ _; omega)
    simp -implicitDefEqProofs only [evr, id, reduceCtorEq, reduceIte, Nat.reduceMul, Nat.reduceAdd, Nat.reduceLT, Nat.reduceLeDiff, Nat.reduceEqDiff, Int.reduceLT, Int.reduceBEq, Int.reduceBNe, Nat.reduceBEq, List.append_nil, Int.toNat_zero, Nat.sub_self, Int.reduceNeg, c1]
    refine wcall_plain (itoaC p.len (by omega) (by omega)) rfl (by rintro _ rfl; exact ok_plain rfl) ?_
    rintro r rfl
    rw [hm, itoa_nat]
    have e47 : (⟨#[47]⟩ : ByteArray) = mkB [47] := rfl
    have c2 := cat_ok (x := mkB (fmtB p.addr) ++ ⟨#[47]⟩) (y := mkB (Lib.decDigits m)) (by rw [e47, mkB_append, mkB_size, mkB_size, List.length_append]; show _ + 1 + _ ≤ _; omega)
    simp -implicitDefEqProofs only [evr, id, reduceCtorEq, reduceIte, Nat.reduceMul, Nat.reduceAdd, Nat.reduceLT, Nat.reduceLeDiff, Nat.reduceEqDiff, Int.reduceLT, Int.reduceBEq, Int.reduceBNe, Nat.reduceBEq, List.append_nil, Int.toNat_zero, Nat.sub_self, Int.reduceNeg, c2]
    (refine hk _ ?_; clear hk k; try show Sat _ _ _ _ _)
    refine Sat.ret ?_
    simp only [Tryd.results20, evr, id, reduceCtorEq, reduceIte, Nat.reduceMul, Nat.reduceAdd, Nat.reduceLT, Nat.reduceLeDiff, Nat.reduceEqDiff, Int.reduceLT, Int.reduceBEq, Int.reduceBNe, Nat.reduceBEq, List.append_nil, Int.toNat_zero, Nat.sub_self, Int.reduceNeg]
    unfold fmtP
    rw [if_pos hv, e47, mkB_append, mkB_append, List.append_assoc, hm]
    rfl
end Go.Proofs.YtceacooambpkdaaDoor
