/- FractionRounds: Floor and Ceil are the whole numbers around a fraction. The law holds of every input. -/
import Derived.Test.YtjaplngagbiimaaDoorPk2
set_option linter.unusedSimpArgs false
set_option linter.unusedVariables false
namespace Go.Proofs.YtjaplngagbiimaaDoor
open Eng Lmb Go.RowKit

theorem floor_spec (neg : Bool) (p : Nat) {q : Nat} (h0 : 0 < q) : wholeV neg false p q * q ≤ sg neg p ∧ sg neg p < wholeV neg false p q * q + q := by
  have h1 := Nat.div_add_mod p q
  have h2 := Nat.mod_lt p h0
  have h3 : ((q * (p / q) + p % q : Nat) : Int) = p := by rw [h1]
  rw [Int.natCast_add, Int.natCast_mul, Int.mul_comm] at h3
  generalize hm : p % q = m at *
  generalize hd : p / q = d at *
  unfold wholeV upV sg
  rw [hm, hd]
  cases neg with
  | false =>
    simp only [bne_self_eq_false, Bool.false_eq_true, false_and, if_false]
    generalize (d : Int) * q = t at *
    omega
  | true =>
    simp only [bne_iff_ne, ne_eq, Bool.false_eq_true, not_false_eq_true, true_and, if_true, reduceCtorEq]
    split
    · rw [Int.neg_mul, Int.natCast_add, Int.add_mul, Int.natCast_one, Int.one_mul]
      generalize (d : Int) * q = t at *
      omega
    · rw [Int.neg_mul]
      generalize (d : Int) * q = t at *
      omega
theorem ceil_spec (neg : Bool) (p : Nat) {q : Nat} (h0 : 0 < q) : sg neg p ≤ wholeV neg true p q * q ∧ wholeV neg true p q * q < sg neg p + q := by
  have h1 := Nat.div_add_mod p q
  have h2 := Nat.mod_lt p h0
  have h3 : ((q * (p / q) + p % q : Nat) : Int) = p := by rw [h1]
  rw [Int.natCast_add, Int.natCast_mul, Int.mul_comm] at h3
  generalize hm : p % q = m at *
  generalize hd : p / q = d at *
  unfold wholeV upV sg
  rw [hm, hd]
  cases neg with
  | true =>
    simp only [bne_self_eq_false, Bool.false_eq_true, false_and, if_false, if_true]
    rw [Int.neg_mul]
    generalize (d : Int) * q = t at *
    omega
  | false =>
    simp only [bne_iff_ne, ne_eq, Bool.false_eq_true, not_false_eq_true, true_and, if_true, if_false, reduceCtorEq]
    split
    · rw [Int.natCast_add, Int.add_mul, Int.natCast_one, Int.one_mul]
      generalize (d : Int) * q = t at *
      omega
    · generalize (d : Int) * q = t at *
      omega
/-- the two whole numbers around a value -/
theorem around {v lo hi : Int} {q : Nat} (h0 : 0 < q) (h1 : lo * q ≤ v) (h2 : v < lo * q + q) (h3 : v ≤ hi * q) (h4 : hi * q < v + q) : (hi = lo ∧ lo * q + -v = 0 ∧ v + -hi * q = 0) ∨ (hi = lo + 1 ∧ lo * q + -v < 0 ∧ v + -hi * q < 0) := by
  have hq : (0 : Int) < q := by omega
  rw [Int.neg_mul]
  have a1 : lo * q < (hi + 1) * q := by rw [Int.add_mul, Int.one_mul]; omega
  have a2 := Int.lt_of_mul_lt_mul_right a1 (Int.le_of_lt hq)
  have a3 : hi * q < (lo + 2) * q := by rw [Int.add_mul]; omega
  have a4 := Int.lt_of_mul_lt_mul_right a3 (Int.le_of_lt hq)
  rcases (show hi = lo ∨ hi = lo + 1 by omega) with h | h
  · subst h
    left
    refine ⟨rfl, ?_, ?_⟩ <;> omega
  · subst h
    right
    rw [Int.add_mul, Int.one_mul] at h3 h4 ⊢
    refine ⟨rfl, ?_, ?_⟩ <;> omega
theorem whole_le {neg up : Bool} {p q : Nat} (b : p < 4611686018427387904) : -4611686018427387904 ≤ wholeV neg up p q ∧ wholeV neg up p q ≤ 4611686018427387904 := by
  have hle : p / q ≤ p := Nat.div_le_self _ _
  have hU : ∀ u, upV u p q ≤ 4611686018427387904 := fun u => by unfold upV; split <;> omega
  have u1 := hU true
  have u2 := hU false
  have e1 : (true != false) = true := rfl
  have e2 : (false != true) = true := rfl
  have e3 : (false != false) = false := rfl
  have e4 : (true != true) = false := rfl
  unfold wholeV sg
  cases neg <;> cases up <;> simp only [e1, e2, e3, e4, Bool.false_eq_true, if_true, if_false] <;> omega
theorem fromOneC (F : Frm) (n : Int) (h1 : -4611686018427387904 ≤ n) (h2 : n ≤ 4611686018427387904) : Contract F Tryd.prog 20 [.i .i64 n, .i .i64 1] (fun r => ∃ f, r = tupL [f, .i .i64 0] ∧ FrV f n 1 63) := by
  refine (fracFromC F n 1 (by omega) (by omega) (by omega) (by omega) (by omega)).mono ?_
  rintro r ⟨f, rfl, hf⟩
  have e1 : Nat.gcd n.natAbs (1 : Int).natAbs = 1 := Nat.gcd_one_right _
  rw [e1, Nat.div_one] at hf
  refine ⟨f, rfl, fromN n 1, n.natAbs, 1, hf, ?_, by decide, by decide, ?_, by decide⟩
  · unfold fromN
    rw [e1, Nat.div_one]
    rcases (show n < 0 ∨ n = 0 ∨ 0 < n by omega) with h | h | h
    · have d1 : decide (n < 0) = true := decide_eq_true h
      have d2 : decide (0 < n.natAbs) = true := decide_eq_true (by omega)
      rw [d1, d2]
      show -((n.natAbs : Nat) : Int) * 1 = n * 1
      omega
    · subst h; rfl
    · have d1 : decide (n < 0) = false := decide_eq_false (by omega)
      rw [d1]
      show ((n.natAbs : Nat) : Int) * 1 = n * 1
      omega
  · have : (2 : Nat) ^ 63 = 9223372036854775808 := by decide
    omega

set_option maxHeartbeats 4000000 in
set_option maxRecDepth 100000 in
theorem roundsC (a : Option Addr) (cap : Nat) (z : List Int) (hz : ∀ n ∈ z, (Lit.int .u8 n).wf = true) : Contract Frm.nil Tryd.prog 6 [slB a cap z] (fun r => r = .b true) := by
  have hb := slB_bytes3 a cap z hz
  refine contract_of Tryd.func6 rfl (by kernel_rfl) ?_
  simp only [Tryd.ntmps6, argEnv]
  (repeat refine Sat.seq ?_)
  (refine Sat.region_k fun k hk => ?_; simp -implicitDefEqProofs only [evr, id, reduceCtorEq, reduceIte, Nat.reduceMul, Nat.reduceAdd, Nat.reduceLT, Nat.reduceLeDiff, Nat.reduceEqDiff, Int.reduceLT, Int.reduceBEq, Int.reduceBNe, Nat.reduceBEq, List.append_nil, Int.toNat_zero, Nat.sub_self, frS, ptr]; refine hk _ ?_; clear hk k; try show Sat _ _ _ _ _)
  (repeat refine Sat.seq ?_)
  (refine Sat.region_k fun k hk => ?_; simp -implicitDefEqProofs only [evr, id, reduceCtorEq, reduceIte, Nat.reduceMul, Nat.reduceAdd, Nat.reduceLT, Nat.reduceLeDiff, Nat.reduceEqDiff, Int.reduceLT, Int.reduceBEq, Int.reduceBNe, Nat.reduceBEq, List.append_nil, Int.toNat_zero, Nat.sub_self, frS, ptr])
  refine wcall_plain (awakeC Frm.nil) rfl (by rintro _ rfl; exact ok_plain rfl) ?_
  rintro r rfl
  simp -implicitDefEqProofs only [evr, id, reduceCtorEq, reduceIte, Nat.reduceMul, Nat.reduceAdd, Nat.reduceLT, Nat.reduceLeDiff, Nat.reduceEqDiff, Int.reduceLT, Int.reduceBEq, Int.reduceBNe, Nat.reduceBEq, List.append_nil, Int.toNat_zero, Nat.sub_self, frS, ptr]
  (refine hk _ ?_; clear hk k; try show Sat _ _ _ _ _)
  (repeat refine Sat.seq ?_)
  refine Sat.cond_b rfl (fun h => absurd h (by decide)) (fun _ => ?_)
  refine Sat.skip ?_
  simp only [thenK]
  refine Sat.seq ?_
  (refine Sat.region_k fun k hk => ?_; simp -implicitDefEqProofs only [evr, id, reduceCtorEq, reduceIte, Nat.reduceMul, Nat.reduceAdd, Nat.reduceLT, Nat.reduceLeDiff, Nat.reduceEqDiff, Int.reduceLT, Int.reduceBEq, Int.reduceBNe, Nat.reduceBEq, List.append_nil, Int.toNat_zero, Nat.sub_self, frS, ptr])
  refine wcall_make (newRC (slB a cap z) hb 100 (by decide)) ?_
  intro cb
  simp -implicitDefEqProofs only [evr, id, reduceCtorEq, reduceIte, Nat.reduceMul, Nat.reduceAdd, Nat.reduceLT, Nat.reduceLeDiff, Nat.reduceEqDiff, Int.reduceLT, Int.reduceBEq, Int.reduceBNe, Nat.reduceBEq, List.append_nil, Int.toNat_zero, Nat.sub_self, frS, ptr]
  refine wcall_turn (F' := Frm.codes cb) (fun b => Iff.rfl) (fractionCdC cb 2 (by decide) (by decide)) rfl ?_
  rintro f ⟨neg, p, q, ⟨sp, sq, rfl, hp, hq⟩, hpb, hqb, h0, _⟩
  have hp' := hp
  have hq' := hq
  obtain ⟨a1, c1, z1, r1, x1, rfl, _⟩ := hp
  obtain ⟨a2, c2, z2, r2, x2, rfl, _⟩ := hq
  rw [pw_two] at hpb hqb
  have b1 : p < 2 ^ 60 := by omega
  have b2 : q < 2 ^ 60 := by omega
  have b3 : p < 4611686018427387904 := by have : (2 : Nat) ^ 60 = 1152921504606846976 := by decide
                                          omega
  have hx : FrV (frS neg (.sl a1 x1.length c1 z1 r1) (.sl a2 x2.length c2 z2 r2)) (sg neg p) q 60 := ⟨neg, p, q, ⟨_, _, rfl, hp', hq'⟩, rfl, h0, h0, by omega, by omega⟩
  simp only [frS, evr, id, reduceCtorEq, reduceIte, Nat.reduceMul, Nat.reduceAdd, Nat.reduceLT, Nat.reduceLeDiff, Nat.reduceEqDiff, Int.reduceLT, Int.reduceBEq, Int.reduceBNe, Nat.reduceBEq, List.append_nil, Int.toNat_zero, Nat.sub_self, frS, ptr]
  intro k1
  (refine hk _ ?_; clear hk k; try show Sat _ _ _ _ _)
  (repeat refine Sat.seq ?_)
  (refine Sat.region_k fun k hk => ?_; simp -implicitDefEqProofs only [evr, id, reduceCtorEq, reduceIte, Nat.reduceMul, Nat.reduceAdd, Nat.reduceLT, Nat.reduceLeDiff, Nat.reduceEqDiff, Int.reduceLT, Int.reduceBEq, Int.reduceBNe, Nat.reduceBEq, List.append_nil, Int.toNat_zero, Nat.sub_self, frS, ptr])
  refine wcall_slice ((fracFloorC Frm.nil neg hp' hq' b3 h0).mono (post' := fun r => ∃ lo, r = tupL [.i .i64 lo, .i .i64 0] ∧ lo = wholeV neg false p q) fun r h => ⟨_, h, rfl⟩) rfl (by simp only [frS, evr, id, reduceCtorEq, reduceIte, Nat.reduceMul, Nat.reduceAdd, Nat.reduceLT, Nat.reduceLeDiff, Nat.reduceEqDiff, Int.reduceLT, Int.reduceBEq, Int.reduceBNe, Nat.reduceBEq, List.append_nil, Int.toNat_zero, Nat.sub_self, frS, ptr]; try rfl) ?_
  rintro _ ⟨lo, rfl, hlo⟩
  try simp -implicitDefEqProofs only [evr, id, reduceCtorEq, reduceIte, Nat.reduceMul, Nat.reduceAdd, Nat.reduceLT, Nat.reduceLeDiff, Nat.reduceEqDiff, Int.reduceLT, Int.reduceBEq, Int.reduceBNe, Nat.reduceBEq, List.append_nil, Int.toNat_zero, Nat.sub_self, frS, ptr]
  (refine hk _ ?_; clear hk k; try show Sat _ _ _ _ _)
  (repeat refine Sat.seq ?_)
  (refine Sat.region_k fun k hk => ?_; simp -implicitDefEqProofs only [evr, id, reduceCtorEq, reduceIte, Nat.reduceMul, Nat.reduceAdd, Nat.reduceLT, Nat.reduceLeDiff, Nat.reduceEqDiff, Int.reduceLT, Int.reduceBEq, Int.reduceBNe, Nat.reduceBEq, List.append_nil, Int.toNat_zero, Nat.sub_self, frS, ptr])
  refine wcall_slice ((fracCeilC Frm.nil neg hp' hq' b3 h0).mono (post' := fun r => ∃ hi, r = tupL [.i .i64 hi, .i .i64 0] ∧ hi = wholeV neg true p q) fun r h => ⟨_, h, rfl⟩) rfl (by simp only [frS, evr, id, reduceCtorEq, reduceIte, Nat.reduceMul, Nat.reduceAdd, Nat.reduceLT, Nat.reduceLeDiff, Nat.reduceEqDiff, Int.reduceLT, Int.reduceBEq, Int.reduceBNe, Nat.reduceBEq, List.append_nil, Int.toNat_zero, Nat.sub_self, frS, ptr]; try rfl) ?_
  rintro _ ⟨hi, rfl, hhi⟩
  try simp -implicitDefEqProofs only [evr, id, reduceCtorEq, reduceIte, Nat.reduceMul, Nat.reduceAdd, Nat.reduceLT, Nat.reduceLeDiff, Nat.reduceEqDiff, Int.reduceLT, Int.reduceBEq, Int.reduceBNe, Nat.reduceBEq, List.append_nil, Int.toNat_zero, Nat.sub_self, frS, ptr]
  (refine hk _ ?_; clear hk k; try show Sat _ _ _ _ _)
  have f1 := floor_spec neg p h0
  have f2 := ceil_spec neg p h0
  have f3 := whole_le (neg := neg) (up := false) (q := q) b3
  have f4 := whole_le (neg := neg) (up := true) (q := q) b3
  rw [← hlo] at f1 f3
  rw [← hhi] at f2 f4
  have f5 := around h0 f1.1 f1.2 f2.1 f2.2
  clear hlo hhi
  (repeat refine Sat.seq ?_)
  (refine Sat.region_k fun k hk => ?_; simp -implicitDefEqProofs only [evr, id, reduceCtorEq, reduceIte, Nat.reduceMul, Nat.reduceAdd, Nat.reduceLT, Nat.reduceLeDiff, Nat.reduceEqDiff, Int.reduceLT, Int.reduceBEq, Int.reduceBNe, Nat.reduceBEq, List.append_nil, Int.toNat_zero, Nat.sub_self, frS, ptr]; refine hk _ ?_; clear hk k; try show Sat _ _ _ _ _)
  refine Sat.cond_b rfl (fun h => absurd h (by decide)) (fun _ => ?_)
  refine Sat.skip ?_
  simp only [thenK]
  (repeat refine Sat.seq ?_)
  (refine Sat.region_k fun k hk => ?_; simp -implicitDefEqProofs only [evr, id, reduceCtorEq, reduceIte, Nat.reduceMul, Nat.reduceAdd, Nat.reduceLT, Nat.reduceLeDiff, Nat.reduceEqDiff, Int.reduceLT, Int.reduceBEq, Int.reduceBNe, Nat.reduceBEq, List.append_nil, Int.toNat_zero, Nat.sub_self, frS, ptr])
  refine wcall_slice (fromOneC Frm.nil lo f3.1 f3.2) rfl (by simp only [frS, evr, id, reduceCtorEq, reduceIte, Nat.reduceMul, Nat.reduceAdd, Nat.reduceLT, Nat.reduceLeDiff, Nat.reduceEqDiff, Int.reduceLT, Int.reduceBEq, Int.reduceBNe, Nat.reduceBEq, List.append_nil, Int.toNat_zero, Nat.sub_self, frS, ptr]; try rfl) ?_
  rintro y0 ⟨f, rfl, hl⟩
  obtain ⟨gnl, gal, gll, gcl, gzl, grl, kal, kll, kcl, kzl, krl, rfl⟩ := hl.open
  simp only [frS, evr, id, reduceCtorEq, reduceIte, Nat.reduceMul, Nat.reduceAdd, Nat.reduceLT, Nat.reduceLeDiff, Nat.reduceEqDiff, Int.reduceLT, Int.reduceBEq, Int.reduceBNe, Nat.reduceBEq, List.append_nil, Int.toNat_zero, Nat.sub_self, frS, ptr]
  intro bkl
  (refine hk _ ?_; clear hk k; try show Sat _ _ _ _ _)
  (repeat refine Sat.seq ?_)
  (refine Sat.region_k fun k hk => ?_; simp -implicitDefEqProofs only [evr, id, reduceCtorEq, reduceIte, Nat.reduceMul, Nat.reduceAdd, Nat.reduceLT, Nat.reduceLeDiff, Nat.reduceEqDiff, Int.reduceLT, Int.reduceBEq, Int.reduceBNe, Nat.reduceBEq, List.append_nil, Int.toNat_zero, Nat.sub_self, frS, ptr])
  refine wcall_slice (fromOneC Frm.nil hi f4.1 f4.2) rfl (by simp only [frS, evr, id, reduceCtorEq, reduceIte, Nat.reduceMul, Nat.reduceAdd, Nat.reduceLT, Nat.reduceLeDiff, Nat.reduceEqDiff, Int.reduceLT, Int.reduceBEq, Int.reduceBNe, Nat.reduceBEq, List.append_nil, Int.toNat_zero, Nat.sub_self, frS, ptr]; try rfl) ?_
  rintro y0 ⟨f, rfl, hh⟩
  obtain ⟨gnh, gah, glh, gch, gzh, grh, kah, klh, kch, kzh, krh, rfl⟩ := hh.open
  simp only [frS, evr, id, reduceCtorEq, reduceIte, Nat.reduceMul, Nat.reduceAdd, Nat.reduceLT, Nat.reduceLeDiff, Nat.reduceEqDiff, Int.reduceLT, Int.reduceBEq, Int.reduceBNe, Nat.reduceBEq, List.append_nil, Int.toNat_zero, Nat.sub_self, frS, ptr]
  intro bkh
  (refine hk _ ?_; clear hk k; try show Sat _ _ _ _ _)
  (repeat refine Sat.seq ?_)
  (refine Sat.region_k fun k hk => ?_; simp -implicitDefEqProofs only [evr, id, reduceCtorEq, reduceIte, Nat.reduceMul, Nat.reduceAdd, Nat.reduceLT, Nat.reduceLeDiff, Nat.reduceEqDiff, Int.reduceLT, Int.reduceBEq, Int.reduceBNe, Nat.reduceBEq, List.append_nil, Int.toNat_zero, Nat.sub_self, frS, ptr])
  refine wcall_slice (compareE Frm.nil hl hx (by decide)) rfl (by simp only [frS, evr, id, reduceCtorEq, reduceIte, Nat.reduceMul, Nat.reduceAdd, Nat.reduceLT, Nat.reduceLeDiff, Nat.reduceEqDiff, Int.reduceLT, Int.reduceBEq, Int.reduceBNe, Nat.reduceBEq, List.append_nil, Int.toNat_zero, Nat.sub_self, frS, ptr]; try rfl) ?_
  rintro _ ⟨c1, rfl, hc1⟩
  try simp -implicitDefEqProofs only [evr, id, reduceCtorEq, reduceIte, Nat.reduceMul, Nat.reduceAdd, Nat.reduceLT, Nat.reduceLeDiff, Nat.reduceEqDiff, Int.reduceLT, Int.reduceBEq, Int.reduceBNe, Nat.reduceBEq, List.append_nil, Int.toNat_zero, Nat.sub_self, frS, ptr]
  (refine hk _ ?_; clear hk k; try show Sat _ _ _ _ _)
  (repeat refine Sat.seq ?_)
  (refine Sat.region_k fun k hk => ?_; simp -implicitDefEqProofs only [evr, id, reduceCtorEq, reduceIte, Nat.reduceMul, Nat.reduceAdd, Nat.reduceLT, Nat.reduceLeDiff, Nat.reduceEqDiff, Int.reduceLT, Int.reduceBEq, Int.reduceBNe, Nat.reduceBEq, List.append_nil, Int.toNat_zero, Nat.sub_self, frS, ptr])
  refine wcall_slice (compareE Frm.nil hx hh (by decide)) rfl (by simp only [frS, evr, id, reduceCtorEq, reduceIte, Nat.reduceMul, Nat.reduceAdd, Nat.reduceLT, Nat.reduceLeDiff, Nat.reduceEqDiff, Int.reduceLT, Int.reduceBEq, Int.reduceBNe, Nat.reduceBEq, List.append_nil, Int.toNat_zero, Nat.sub_self, frS, ptr]; try rfl) ?_
  rintro _ ⟨c2, rfl, hc2⟩
  try simp -implicitDefEqProofs only [evr, id, reduceCtorEq, reduceIte, Nat.reduceMul, Nat.reduceAdd, Nat.reduceLT, Nat.reduceLeDiff, Nat.reduceEqDiff, Int.reduceLT, Int.reduceBEq, Int.reduceBNe, Nat.reduceBEq, List.append_nil, Int.toNat_zero, Nat.sub_self, frS, ptr]
  (refine hk _ ?_; clear hk k; try show Sat _ _ _ _ _)
  rw [Int.mul_comm, Int.mul_comm (-_)] at hc1
  have e8 : (hi = lo ∧ c1 = 0 ∧ c2 = 0) ∨ (hi = lo + 1 ∧ c1 = -1 ∧ c2 = -1) := by
    rw [hc1, hc2]
    rcases f5 with ⟨h1, h2, h3⟩ | ⟨h1, h2, h3⟩
    · left
      rcases sgI_cases (q * lo + (1 : Nat) * -sg neg p) with ⟨h4, h5⟩ | ⟨h4, h5⟩ | ⟨h4, h5⟩ <;> rcases sgI_cases (sg neg p * (1 : Nat) + -hi * q) with ⟨h6, h7⟩ | ⟨h6, h7⟩ | ⟨h6, h7⟩ <;> first | exact ⟨h1, h5, h7⟩ | (rw [Int.mul_comm] at h4; omega)
    · right
      rcases sgI_cases (q * lo + (1 : Nat) * -sg neg p) with ⟨h4, h5⟩ | ⟨h4, h5⟩ | ⟨h4, h5⟩ <;> rcases sgI_cases (sg neg p * (1 : Nat) + -hi * q) with ⟨h6, h7⟩ | ⟨h6, h7⟩ | ⟨h6, h7⟩ <;> first | exact ⟨h1, h5, h7⟩ | (rw [Int.mul_comm] at h4; omega)
  clear hc1 hc2 f1 f2 f5
  (repeat refine Sat.seq ?_)
  refine Sat.region_k fun k hk => ?_
  rcases e8 with ⟨rfl, rfl, rfl⟩ | ⟨rfl, rfl, rfl⟩
  · have w1 : IntKind.i64.wrap (hi - hi) = 0 := by rw [Int.sub_self]; rfl
    simp only [w1, decide_false, decide_true, beq_self_eq_true, beq_true, beq_false, Bool.not_false, Bool.not_true, Int.reduceLE, Int.reduceNeg, forall_const, and_self, evr, id, reduceCtorEq, reduceIte, Nat.reduceMul, Nat.reduceAdd, Nat.reduceLT, Nat.reduceLeDiff, Nat.reduceEqDiff, Int.reduceLT, Int.reduceBEq, Int.reduceBNe, Nat.reduceBEq, List.append_nil, Int.toNat_zero, Nat.sub_self, frS, ptr]
    refine hk _ ?_
    clear hk
    refine Sat.ret ?_
    simp only [Tryd.results6, evr, id, reduceCtorEq, reduceIte, Nat.reduceMul, Nat.reduceAdd, Nat.reduceLT, Nat.reduceLeDiff, Nat.reduceEqDiff, Int.reduceLT, Int.reduceBEq, Int.reduceBNe, Nat.reduceBEq, List.append_nil, Int.toNat_zero, Nat.sub_self, frS, ptr]
  · have w1 : IntKind.i64.wrap (lo + 1 - lo) = 1 := by rw [show lo + 1 - lo = 1 by omega]; rfl
    have w2 : (lo == lo + 1) = false := beq_eq_false_iff_ne.2 (by omega)
    simp only [w1, w2, decide_false, decide_true, beq_self_eq_true, beq_true, beq_false, Bool.not_false, Bool.not_true, Int.reduceLE, Int.reduceNeg, forall_const, and_self, evr, id, reduceCtorEq, reduceIte, Nat.reduceMul, Nat.reduceAdd, Nat.reduceLT, Nat.reduceLeDiff, Nat.reduceEqDiff, Int.reduceLT, Int.reduceBEq, Int.reduceBNe, Nat.reduceBEq, List.append_nil, Int.toNat_zero, Nat.sub_self, frS, ptr]
    refine hk _ ?_
    clear hk
    refine Sat.ret ?_
    simp only [Tryd.results6, evr, id, reduceCtorEq, reduceIte, Nat.reduceMul, Nat.reduceAdd, Nat.reduceLT, Nat.reduceLeDiff, Nat.reduceEqDiff, Int.reduceLT, Int.reduceBEq, Int.reduceBNe, Nat.reduceBEq, List.append_nil, Int.toNat_zero, Nat.sub_self, frS, ptr]
theorem rounds_holds : Rows.FractionRoundsCardSaid := fractionRounds.card_of_walk fun a0 z0 w hL ⟨h, hz⟩ => by
  obtain ⟨a, cap, rfl, hok⟩ := slB_of h
  exact walk_of (roundsC a cap z0 hz) (fun s hs => by rw [List.mem_singleton.1 hs]; exact hok)
end Go.Proofs.YtjaplngagbiimaaDoor
