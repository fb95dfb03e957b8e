/- StoppingFalls: more flows never miss more, one more successor is missed at least as often, and a stricter rule fails at most as often. The law holds of every input. -/
import Derived.Test.YtagmohpafjncfaaPk2
set_option linter.unusedSimpArgs false
set_option linter.unusedVariables false
namespace Go.Proofs.Ytagmohpafjncfaa
open Eng Lmb Go.RowKit

theorem slB_bytesF (a : Option Addr) (cap : Nat) (z : List Int) (hz : ∀ n ∈ z, (Lit.int .u8 n).wf = true) : isBytes (slB a cap z) :=
  ⟨a, z.length, cap, _, rfl, fun i hi => ⟨z.getD i 0, by have := bounds_u8 (hz _ (getD_mem (d := 0) hi)); omega, by have := bounds_u8 (hz _ (getD_mem (d := 0) hi)); omega, rfl⟩⟩
theorem cmp_le {x y : Nat} (h : x ≤ y) : cmpI x y ≤ 0 := by
  unfold cmpI
  split
  · decide
  · split
    · omega
    · decide
/-- the comparison of two fractions of parts up to 2 ^ xb -/
theorem cmpBigC (F : Frm) {sr ss sp sq : SV} {a b p q : Nat} (hr : Nats sr a) (hs : Nats ss b) (hp : Nats sp p) (hq : Nats sq q) (h1 : a ≤ 2 ^ xb) (h2 : b ≤ 2 ^ xb) (h3 : p ≤ 2 ^ xb) (h4 : q ≤ 2 ^ xb) :
    Contract F Try.prog 14 [frS false sr ss, frS false sp sq] (fun x => x = tupL [.i .i64 (cmpI (a * q : Nat) (p * b : Nat)), .i .i64 0]) := by
  have h := fractionCompareC F false false hr hs hp hq (lt_pw h1 (by rw [xb_eq]; decide)) (lt_pw h2 (by rw [xb_eq]; decide)) (lt_pw h3 (by rw [xb_eq]; decide)) (lt_pw h4 (by rw [xb_eq]; decide)) (lt_pw (mul_two h1 h4) (by rw [xb_eq]; decide)) (lt_pw (mul_two h3 h2) (by rw [xb_eq]; decide)) (lt_pw_add (mul_two h1 h4) (mul_two h3 h2) (by rw [xb_eq]; decide))
  rw [cmpV_pos] at h
  exact h
theorem mis_big {n m : Nat} (hn : n ≤ 128) (hm : m ≤ 16) : misP n m ≤ 2 ^ xb ∧ misQ n m ≤ 2 ^ xb :=
  ⟨Nat.le_trans (misP_le n m) (kn_le hm hn), Nat.le_trans (misQ_le n m) (kn_le hm hn)⟩
theorem fail_big {k : Nat} (st : Nat → Nat) (hk : k ≤ 16) : redP (failN k st 128) (k ^ 128) ≤ 2 ^ xb ∧ redQ (failN k st 128) (k ^ 128) ≤ 2 ^ xb :=
  ⟨Nat.le_trans (redP_le _ _) (Nat.le_trans (failN_le k st 128) (kn_le hk (Nat.le_refl _))), Nat.le_trans (redQ_le _ _) (kn_le hk (Nat.le_refl _))⟩
theorem small_big {x : Nat} (h : x ≤ 100) : x ≤ 2 ^ xb := Nat.le_trans h (Nat.le_trans (show 100 ≤ 2 ^ 7 by decide) (Nat.pow_le_pow_right (by decide) (by rw [xb_eq]; decide)))

theorem failPost_cases {k p q : Nat} {r : SV} (h : FailPost k p q r) : ∃ (f : SV) (e : Int) (P Q : Nat), r = tupL [f, .i .i64 e] ∧ FrS f false P Q ∧
    ((e = 0 ∧ ∃ st, Stops k p q st ∧ P = redP (failN k st 128) (k ^ 128) ∧ Q = redQ (failN k st 128) (k ^ 128)) ∨ (e = 5 ∧ Beyond k p q)) := by
  rcases h with ⟨st, f, h1, h2, h3⟩ | ⟨h1, f, h2, h3⟩
  · exact ⟨f, 0, _, _, h2, h3, .inl ⟨rfl, st, h1, rfl, rfl⟩⟩
  · exact ⟨f, 5, _, _, h2, h3, .inr ⟨rfl, h1⟩⟩
set_option maxHeartbeats 4000000 in
set_option maxRecDepth 100000 in
theorem fallsC (a : Option Addr) (cap : Nat) (z : List Int) (hz : ∀ n ∈ z, (Lit.int .u8 n).wf = true) (x y : Int) (hx : 0 ≤ x ∧ x < 256) (hy : 0 ≤ y ∧ y < 256) : Contract Frm.nil Try.prog 7 [slB a cap z, .i .u8 x, .i .u8 y] (fun r => r = .b true) := by
  have hb := slB_bytesF a cap z hz
  refine contract_of Try.func7 rfl (by kernel_rfl) ?_
  simp only [Try.ntmps7, argEnv]
  obtain ⟨n, hn⟩ : ∃ n : Nat, x % 60 = n := ⟨(x % 60).toNat, by omega⟩
  obtain ⟨m, hm⟩ : ∃ m : Nat, y % 8 + 1 = m := ⟨(y % 8 + 1).toNat, by omega⟩
  have hn60 : n < 60 := by omega
  have hm1 : 1 ≤ m := by omega
  have hm8 : m ≤ 8 := by omega
  have e1 : (IntKind.i64.wrap x).tmod 60 = (n : Int) := by rw [w64 (by omega), Int.tmod_eq_emod_of_nonneg (by omega), hn]
  have e2 : IntKind.i64.wrap (1 + (IntKind.i64.wrap y).tmod 8) = (m : Int) := by rw [w64 (x := y) (by omega), Int.tmod_eq_emod_of_nonneg (by omega), w64 (by omega)]; omega
  have en1 : IntKind.i64.wrap ((n : Int) + 1) = ((n + 1 : Nat) : Int) := by rw [w64 (by omega)]; omega
  have em1 : IntKind.i64.wrap ((m : Int) + 1) = ((m + 1 : Nat) : Int) := by rw [w64 (by omega)]; omega
  clear hn hm hx hy
  (repeat refine Sat.seq ?_)
  (refine Sat.region_k fun k hk => ?_; simp -implicitDefEqProofs only [evr, id, reduceCtorEq, reduceIte, Nat.reduceMul, Nat.reduceAdd, Nat.reduceLT, Nat.reduceLeDiff, Nat.reduceEqDiff, Int.reduceLT, Int.reduceBEq, Int.reduceBNe, Nat.reduceBEq, List.append_nil, Int.toNat_zero, Nat.sub_self, frS, ptr]; refine hk _ ?_; clear hk k; try show Sat _ _ _ _ _)
  (repeat refine Sat.seq ?_)
  (refine Sat.region_k fun k hk => ?_; simp -implicitDefEqProofs only [evr, id, reduceCtorEq, reduceIte, Nat.reduceMul, Nat.reduceAdd, Nat.reduceLT, Nat.reduceLeDiff, Nat.reduceEqDiff, Int.reduceLT, Int.reduceBEq, Int.reduceBNe, Nat.reduceBEq, List.append_nil, Int.toNat_zero, Nat.sub_self, frS, ptr])
  refine wcall_plain (awakeC Frm.nil) rfl (by rintro _ rfl; exact ok_plain rfl) ?_
  rintro r rfl
  simp -implicitDefEqProofs only [evr, id, reduceCtorEq, reduceIte, Nat.reduceMul, Nat.reduceAdd, Nat.reduceLT, Nat.reduceLeDiff, Nat.reduceEqDiff, Int.reduceLT, Int.reduceBEq, Int.reduceBNe, Nat.reduceBEq, List.append_nil, Int.toNat_zero, Nat.sub_self, frS, ptr]
  (refine hk _ ?_; clear hk k; try show Sat _ _ _ _ _)
  (repeat refine Sat.seq ?_)
  refine Sat.cond_b rfl (fun h => absurd h (by decide)) (fun _ => ?_)
  refine Sat.skip ?_
  simp only [thenK]
  (repeat refine Sat.seq ?_)
  refine Sat.region_k fun k hk => ?_
  simp -implicitDefEqProofs only [evr, id, reduceCtorEq, reduceIte, Nat.reduceMul, Nat.reduceAdd, Nat.reduceLT, Nat.reduceLeDiff, Nat.reduceEqDiff, Int.reduceLT, Int.reduceBEq, Int.reduceBNe, Nat.reduceBEq, List.append_nil, Int.toNat_zero, Nat.sub_self, frS, ptr, e1, e2]
  refine ⟨by decide, by decide, ?_⟩
  (refine hk _ ?_; clear hk k; try show Sat _ _ _ _ _)
  (repeat refine Sat.seq ?_)
  (refine Sat.region_k fun k hk => ?_; simp -implicitDefEqProofs only [evr, id, reduceCtorEq, reduceIte, Nat.reduceMul, Nat.reduceAdd, Nat.reduceLT, Nat.reduceLeDiff, Nat.reduceEqDiff, Int.reduceLT, Int.reduceBEq, Int.reduceBNe, Nat.reduceBEq, List.append_nil, Int.toNat_zero, Nat.sub_self, frS, ptr])
  refine wcall_slice (stMissingC Frm.nil n m (by omega) (by omega) hm1) rfl rfl ?_
  rintro r ⟨f, rfl, sp, sq, rfl, hp, hq⟩
  have hp1 := hp
  have hq1 := hq
  obtain ⟨a1, c1, z1, r1, x1, rfl, _⟩ := hp
  obtain ⟨a2, c2, z2, r2, x2, rfl, _⟩ := hq
  simp -implicitDefEqProofs only [evr, id, reduceCtorEq, reduceIte, Nat.reduceMul, Nat.reduceAdd, Nat.reduceLT, Nat.reduceLeDiff, Nat.reduceEqDiff, Int.reduceLT, Int.reduceBEq, Int.reduceBNe, Nat.reduceBEq, List.append_nil, Int.toNat_zero, Nat.sub_self, frS, ptr]
  intro b9
  (refine hk _ ?_; clear hk k; try show Sat _ _ _ _ _)
  (repeat refine Sat.seq ?_)
  refine Sat.region_k fun k hk => ?_
  simp -implicitDefEqProofs only [evr, id, reduceCtorEq, reduceIte, Nat.reduceMul, Nat.reduceAdd, Nat.reduceLT, Nat.reduceLeDiff, Nat.reduceEqDiff, Int.reduceLT, Int.reduceBEq, Int.reduceBNe, Nat.reduceBEq, List.append_nil, Int.toNat_zero, Nat.sub_self, frS, ptr, en1]
  refine wcall_slice (stMissingC Frm.nil (n + 1) m (by omega) (by omega) hm1) rfl rfl ?_
  rintro r ⟨f, rfl, sp, sq, rfl, hp, hq⟩
  have hp2 := hp
  have hq2 := hq
  obtain ⟨a3, c3, z3, r3, x3, rfl, _⟩ := hp
  obtain ⟨a4, c4, z4, r4, x4, rfl, _⟩ := hq
  simp -implicitDefEqProofs only [evr, id, reduceCtorEq, reduceIte, Nat.reduceMul, Nat.reduceAdd, Nat.reduceLT, Nat.reduceLeDiff, Nat.reduceEqDiff, Int.reduceLT, Int.reduceBEq, Int.reduceBNe, Nat.reduceBEq, List.append_nil, Int.toNat_zero, Nat.sub_self, frS, ptr]
  intro b11
  (refine hk _ ?_; clear hk k; try show Sat _ _ _ _ _)
  (repeat refine Sat.seq ?_)
  refine Sat.region_k fun k hk => ?_
  simp -implicitDefEqProofs only [evr, id, reduceCtorEq, reduceIte, Nat.reduceMul, Nat.reduceAdd, Nat.reduceLT, Nat.reduceLeDiff, Nat.reduceEqDiff, Int.reduceLT, Int.reduceBEq, Int.reduceBNe, Nat.reduceBEq, List.append_nil, Int.toNat_zero, Nat.sub_self, frS, ptr, em1]
  refine wcall_slice (stMissingC Frm.nil n (m + 1) (by omega) (by omega) (by omega)) rfl rfl ?_
  rintro r ⟨f, rfl, sp, sq, rfl, hp, hq⟩
  have hp3 := hp
  have hq3 := hq
  obtain ⟨a5, c5, z5, r5, x5, rfl, _⟩ := hp
  obtain ⟨a6, c6, z6, r6, x6, rfl, _⟩ := hq
  simp -implicitDefEqProofs only [evr, id, reduceCtorEq, reduceIte, Nat.reduceMul, Nat.reduceAdd, Nat.reduceLT, Nat.reduceLeDiff, Nat.reduceEqDiff, Int.reduceLT, Int.reduceBEq, Int.reduceBNe, Nat.reduceBEq, List.append_nil, Int.toNat_zero, Nat.sub_self, frS, ptr]
  intro b13
  (refine hk _ ?_; clear hk k; try show Sat _ _ _ _ _)
  obtain ⟨g1, g2⟩ := mis_big (n := n) (m := m) (by omega) (by omega)
  obtain ⟨g3, g4⟩ := mis_big (n := n + 1) (m := m) (by omega) (by omega)
  obtain ⟨g5, g6⟩ := mis_big (n := n) (m := m + 1) (by omega) (by omega)
  (repeat refine Sat.seq ?_)
  (refine Sat.region_k fun k hk => ?_; simp -implicitDefEqProofs only [evr, id, reduceCtorEq, reduceIte, Nat.reduceMul, Nat.reduceAdd, Nat.reduceLT, Nat.reduceLeDiff, Nat.reduceEqDiff, Int.reduceLT, Int.reduceBEq, Int.reduceBNe, Nat.reduceBEq, List.append_nil, Int.toNat_zero, Nat.sub_self, frS, ptr])
  (refine hk _ ?_; clear hk k; try show Sat _ _ _ _ _)
  refine Sat.cond_b rfl (fun h => absurd h (by decide)) (fun _ => ?_)
  refine Sat.skip ?_
  simp only [thenK]
  (repeat refine Sat.seq ?_)
  (refine Sat.region_k fun k hk => ?_; simp -implicitDefEqProofs only [evr, id, reduceCtorEq, reduceIte, Nat.reduceMul, Nat.reduceAdd, Nat.reduceLT, Nat.reduceLeDiff, Nat.reduceEqDiff, Int.reduceLT, Int.reduceBEq, Int.reduceBNe, Nat.reduceBEq, List.append_nil, Int.toNat_zero, Nat.sub_self, frS, ptr])
  refine wcall_plain (cmpBigC Frm.nil hp2 hq2 hp1 hq1 g3 g4 g1 g2) (by simp -implicitDefEqProofs only [evr, id, reduceCtorEq, reduceIte, Nat.reduceMul, Nat.reduceAdd, Nat.reduceLT, Nat.reduceLeDiff, Nat.reduceEqDiff, Int.reduceLT, Int.reduceBEq, Int.reduceBNe, Nat.reduceBEq, List.append_nil, Int.toNat_zero, Nat.sub_self, frS, ptr]; try rfl) (by rintro _ rfl; exact ok_tupL rfl) ?_
  rintro y rfl
  simp -implicitDefEqProofs only [evr, id, reduceCtorEq, reduceIte, Nat.reduceMul, Nat.reduceAdd, Nat.reduceLT, Nat.reduceLeDiff, Nat.reduceEqDiff, Int.reduceLT, Int.reduceBEq, Int.reduceBNe, Nat.reduceBEq, List.append_nil, Int.toNat_zero, Nat.sub_self, frS, ptr]
  (refine hk _ ?_; clear hk k; try show Sat _ _ _ _ _)
  (repeat refine Sat.seq ?_)
  (refine Sat.region_k fun k hk => ?_; simp -implicitDefEqProofs only [evr, id, reduceCtorEq, reduceIte, Nat.reduceMul, Nat.reduceAdd, Nat.reduceLT, Nat.reduceLeDiff, Nat.reduceEqDiff, Int.reduceLT, Int.reduceBEq, Int.reduceBNe, Nat.reduceBEq, List.append_nil, Int.toNat_zero, Nat.sub_self, frS, ptr])
  refine wcall_plain (cmpBigC Frm.nil hp1 hq1 hp3 hq3 g1 g2 g5 g6) (by simp -implicitDefEqProofs only [evr, id, reduceCtorEq, reduceIte, Nat.reduceMul, Nat.reduceAdd, Nat.reduceLT, Nat.reduceLeDiff, Nat.reduceEqDiff, Int.reduceLT, Int.reduceBEq, Int.reduceBNe, Nat.reduceBEq, List.append_nil, Int.toNat_zero, Nat.sub_self, frS, ptr]; try rfl) (by rintro _ rfl; exact ok_tupL rfl) ?_
  rintro y rfl
  simp -implicitDefEqProofs only [evr, id, reduceCtorEq, reduceIte, Nat.reduceMul, Nat.reduceAdd, Nat.reduceLT, Nat.reduceLeDiff, Nat.reduceEqDiff, Int.reduceLT, Int.reduceBEq, Int.reduceBNe, Nat.reduceBEq, List.append_nil, Int.toNat_zero, Nat.sub_self, frS, ptr]
  (refine hk _ ?_; clear hk k; try show Sat _ _ _ _ _)
  have d1 := cmp_le (mis_flows (n := n) hm1)
  have d2 := cmp_le (mis_succ (n := n) hm1)
  (repeat refine Sat.seq ?_)
  refine Sat.region_at ⟨147, [(89, .b false), (0, slB a cap z)], []⟩ (fun k hk => ?_) ?_
  · simp -implicitDefEqProofs only [evr, id, reduceCtorEq, reduceIte, Nat.reduceMul, Nat.reduceAdd, Nat.reduceLT, Nat.reduceLeDiff, Nat.reduceEqDiff, Int.reduceLT, Int.reduceBEq, Int.reduceBNe, Nat.reduceBEq, List.append_nil, Int.toNat_zero, Nat.sub_self, frS, ptr]
    refine ⟨fun h => absurd h (by omega), fun h => ?_⟩
    refine hk _ ?_
    rw [decide_eq_false (by omega)]
    simp -implicitDefEqProofs only [evr, id, reduceCtorEq, reduceIte, Nat.reduceMul, Nat.reduceAdd, Nat.reduceLT, Nat.reduceLeDiff, Nat.reduceEqDiff, Int.reduceLT, Int.reduceBEq, Int.reduceBNe, Nat.reduceBEq, List.append_nil, Int.toNat_zero, Nat.sub_self, frS, ptr, evl]
  simp only [thenK]
  refine Sat.cond_b rfl (fun h => by cases h) (fun _ => ?_)
  refine Sat.skip ?_
  simp only [thenK]
  clear hp1 hq1 hp2 hq2 hp3 hq3 g1 g2 g3 g4 g5 g6 d1 d2 en1 em1 e1 e2
  refine Sat.seq ?_
  (refine Sat.region_k fun k hk => ?_; simp -implicitDefEqProofs only [evr, id, reduceCtorEq, reduceIte, Nat.reduceMul, Nat.reduceAdd, Nat.reduceLT, Nat.reduceLeDiff, Nat.reduceEqDiff, Int.reduceLT, Int.reduceBEq, Int.reduceBNe, Nat.reduceBEq, List.append_nil, Int.toNat_zero, Nat.sub_self, frS, ptr])
  refine wcall_make (newRC (slB a cap z) hb 60 (by decide)) ?_
  intro cb
  simp -implicitDefEqProofs only [evr, id, reduceCtorEq, reduceIte, Nat.reduceMul, Nat.reduceAdd, Nat.reduceLT, Nat.reduceLeDiff, Nat.reduceEqDiff, Int.reduceLT, Int.reduceBEq, Int.reduceBNe, Nat.reduceBEq, List.append_nil, Int.toNat_zero, Nat.sub_self, frS, ptr]
  (refine hk _ ?_; clear hk k; try show Sat _ _ _ _ _)
  refine Sat.switch (cb := cb) (id := 0) (F' := Frm.codes cb) (fun b => Iff.rfl) rfl ?_
  (repeat refine Sat.seq ?_)
  (refine Sat.region_k fun k hk => ?_; simp -implicitDefEqProofs only [evr, id, reduceCtorEq, reduceIte, Nat.reduceMul, Nat.reduceAdd, Nat.reduceLT, Nat.reduceLeDiff, Nat.reduceEqDiff, Int.reduceLT, Int.reduceBEq, Int.reduceBNe, Nat.reduceBEq, List.append_nil, Int.toNat_zero, Nat.sub_self, frS, ptr])
  refine wcall_slice (alphaC cb) rfl rfl ?_
  rintro r ⟨p1, q1, ⟨sp, sq, rfl, hp, hq⟩, g1, g2, g3⟩
  have hp1 := hp
  have hq1 := hq
  obtain ⟨a1, c1, z1, r1, x1, rfl, _⟩ := hp
  obtain ⟨a2, c2, z2, r2, x2, rfl, _⟩ := hq
  simp -implicitDefEqProofs only [evr, id, reduceCtorEq, reduceIte, Nat.reduceMul, Nat.reduceAdd, Nat.reduceLT, Nat.reduceLeDiff, Nat.reduceEqDiff, Int.reduceLT, Int.reduceBEq, Int.reduceBNe, Nat.reduceBEq, List.append_nil, Int.toNat_zero, Nat.sub_self, frS, ptr]
  refine wcall_slice (alphaC cb) rfl rfl ?_
  rintro r ⟨p2, q2, ⟨sp, sq, rfl, hp, hq⟩, g4, g5, g6⟩
  have hp2 := hp
  have hq2 := hq
  obtain ⟨a3, c3, z3, r3, x3, rfl, _⟩ := hp
  obtain ⟨a4, c4, z4, r4, x4, rfl, _⟩ := hq
  simp -implicitDefEqProofs only [evr, id, reduceCtorEq, reduceIte, Nat.reduceMul, Nat.reduceAdd, Nat.reduceLT, Nat.reduceLeDiff, Nat.reduceEqDiff, Int.reduceLT, Int.reduceBEq, Int.reduceBNe, Nat.reduceBEq, List.append_nil, Int.toNat_zero, Nat.sub_self, frS, ptr]
  intro b20 b21
  (refine hk _ ?_; clear hk k; try show Sat _ _ _ _ _)
  have sb : ∀ x : Nat, x ≤ 10100 → (x : Int) < pw 256 := fun x hx => lt_pw (a := 14) (by omega) (by decide)
  have m1 : p1 * q2 ≤ 100 * 100 := Nat.mul_le_mul (by omega) g6
  have m2 : p2 * q1 ≤ 50 * 100 ∨ p2 * q1 ≤ 100 * 100 := .inr (Nat.mul_le_mul (by omega) g3)
  have m3 : q1 * q2 ≤ 100 * 100 := Nat.mul_le_mul g3 g6
  have sb2 : ((p1 * q2 + p2 * q1 : Nat) : Int) < pw 256 := lt_pw (a := 15) (by omega) (by decide)
  (repeat refine Sat.seq ?_)
  (refine Sat.region_k fun k hk => ?_; simp -implicitDefEqProofs only [evr, id, reduceCtorEq, reduceIte, Nat.reduceMul, Nat.reduceAdd, Nat.reduceLT, Nat.reduceLeDiff, Nat.reduceEqDiff, Int.reduceLT, Int.reduceBEq, Int.reduceBNe, Nat.reduceBEq, List.append_nil, Int.toNat_zero, Nat.sub_self, frS, ptr])
  refine wcall_plain (refOrder3C (Frm.codes cb) false false hp1 hq1 hp2 hq2 (sb _ (by omega)) (sb _ (by omega)) (sb _ (by omega)) (sb _ (by omega)) sb2 (sb _ (by omega)) (by omega) (by omega)) (by simp -implicitDefEqProofs only [evr, id, reduceCtorEq, reduceIte, Nat.reduceMul, Nat.reduceAdd, Nat.reduceLT, Nat.reduceLeDiff, Nat.reduceEqDiff, Int.reduceLT, Int.reduceBEq, Int.reduceBNe, Nat.reduceBEq, List.append_nil, Int.toNat_zero, Nat.sub_self, frS, ptr]; try rfl) (by rintro _ rfl; exact ok_plain rfl) ?_
  rintro y rfl
  rw [ordV_pos (by omega) (by omega)]
  simp -implicitDefEqProofs only [evr, id, reduceCtorEq, reduceIte, Nat.reduceMul, Nat.reduceAdd, Nat.reduceLT, Nat.reduceLeDiff, Nat.reduceEqDiff, Int.reduceLT, Int.reduceBEq, Int.reduceBNe, Nat.reduceBEq, List.append_nil, Int.toNat_zero, Nat.sub_self, frS, ptr]
  (refine hk _ ?_; clear hk k; try show Sat _ _ _ _ _)
  refine Sat.join2 (ι := (Nat × Nat × SV × SV) × (Nat × Nat × SV × SV)) (fun z => ⟨147, [(19, ptr cb), (20, .op 0 b20 0), (21, .op 1 b21 0)], [.box b20 30 [.b false, z.1.2.2.1, z.1.2.2.2], .box b21 30 [.b false, z.2.2.2.1, z.2.2.2.2]]⟩)
    (fun z => (Nats z.1.2.2.1 z.1.1 ∧ Nats z.1.2.2.2 z.1.2.1 ∧ 0 < z.1.1 ∧ z.1.1 < z.1.2.1 ∧ z.1.2.1 ≤ 100) ∧ (Nats z.2.2.2.1 z.2.1 ∧ Nats z.2.2.2.2 z.2.2.1 ∧ 0 < z.2.1 ∧ z.2.1 < z.2.2.1 ∧ z.2.2.1 ≤ 100) ∧ z.1.1 * z.2.2.1 ≤ z.2.1 * z.1.2.1) (fun hrest => ?_) ?_
  · refine Sat.cond_b rfl (fun h => ?_) (fun h => ?_)
    · have hle : p2 * q1 ≤ p1 * q2 := by
        have h9 := of_decide_eq_true h
        by_cases h8 : p1 * q2 < p2 * q1
        · rw [cmpI_lt (by omega)] at h9; omega
        · omega
      (refine Sat.region_k fun k hk => ?_; simp -implicitDefEqProofs only [evr, id, reduceCtorEq, reduceIte, Nat.reduceMul, Nat.reduceAdd, Nat.reduceLT, Nat.reduceLeDiff, Nat.reduceEqDiff, Int.reduceLT, Int.reduceBEq, Int.reduceBNe, Nat.reduceBEq, List.append_nil, Int.toNat_zero, Nat.sub_self, frS, ptr])
      refine hk _ ?_
      clear hk
      simp only [thenK]
      refine Sat.le (hrest ((p2, q2, _, _), (p1, q1, _, _)) ⟨⟨hp2, hq2, g4, g5, g6⟩, ⟨hp1, hq1, g1, g2, g3⟩, hle⟩) ?_
      simp -implicitDefEqProofs only [evr, id, reduceCtorEq, reduceIte, Nat.reduceMul, Nat.reduceAdd, Nat.reduceLT, Nat.reduceLeDiff, Nat.reduceEqDiff, Int.reduceLT, Int.reduceBEq, Int.reduceBNe, Nat.reduceBEq, List.append_nil, Int.toNat_zero, Nat.sub_self, frS, ptr, evl]
    · have hle : p1 * q2 ≤ p2 * q1 := by
        have h9 := of_decide_eq_false h
        by_cases h8 : p2 * q1 < p1 * q2
        · rw [cmpI_gt (by omega)] at h9; omega
        · omega
      refine Sat.skip ?_
      simp only [thenK]
      refine Sat.le (hrest ((p1, q1, _, _), (p2, q2, _, _)) ⟨⟨hp1, hq1, g1, g2, g3⟩, ⟨hp2, hq2, g4, g5, g6⟩, hle⟩) ?_
      simp -implicitDefEqProofs only [evr, id, reduceCtorEq, reduceIte, Nat.reduceMul, Nat.reduceAdd, Nat.reduceLT, Nat.reduceLeDiff, Nat.reduceEqDiff, Int.reduceLT, Int.reduceBEq, Int.reduceBNe, Nat.reduceBEq, List.append_nil, Int.toNat_zero, Nat.sub_self, frS, ptr, evl]
  clear hp1 hq1 hp2 hq2 g1 g2 g3 g4 g5 g6 m1 m2 m3 sb2
  rintro ⟨⟨p, q, sp, sq⟩, ⟨r, s, sr, ss⟩⟩ ⟨⟨hp, hq, g1, g2, g3⟩, ⟨hr, hs, g4, g5, g6⟩, hle⟩
  simp only at hp hq hr hs g1 g2 g3 g4 g5 g6 hle ⊢
  have hp1 := hp
  have hq1 := hq
  have hr1 := hr
  have hs1 := hs
  obtain ⟨a1, c1, z1, r1, x1, rfl, _⟩ := hp
  obtain ⟨a2, c2, z2, r2, x2, rfl, _⟩ := hq
  obtain ⟨a3, c3, z3, r3, x3, rfl, _⟩ := hr
  obtain ⟨a4, c4, z4, r4, x4, rfl, _⟩ := hs
  (repeat refine Sat.seq ?_)
  (refine Sat.region_k fun k hk => ?_; simp -implicitDefEqProofs only [evr, id, reduceCtorEq, reduceIte, Nat.reduceMul, Nat.reduceAdd, Nat.reduceLT, Nat.reduceLeDiff, Nat.reduceEqDiff, Int.reduceLT, Int.reduceBEq, Int.reduceBNe, Nat.reduceBEq, List.append_nil, Int.toNat_zero, Nat.sub_self, frS, ptr])
  refine wcall_plain (nextC cb 4 (by decide) (by decide)) rfl (by rintro _ ⟨x, rfl, _⟩; exact ok_plain rfl) ?_
  rintro y ⟨x, rfl, hx0, hx1⟩
  obtain ⟨y, rfl⟩ := Int.eq_ofNat_of_zero_le hx0
  have e1 : IntKind.i64.wrap (1 + (y : Int)) = ((y + 1 : Nat) : Int) := by rw [w64 (by omega)]; omega
  generalize hj : y + 1 = j at e1
  have hj1 : 1 ≤ j := by omega
  have hj4 : j ≤ 4 := by omega
  simp -implicitDefEqProofs only [evr, id, reduceCtorEq, reduceIte, Nat.reduceMul, Nat.reduceAdd, Nat.reduceLT, Nat.reduceLeDiff, Nat.reduceEqDiff, Int.reduceLT, Int.reduceBEq, Int.reduceBNe, Nat.reduceBEq, List.append_nil, Int.toNat_zero, Nat.sub_self, frS, ptr, e1]
  (refine hk _ ?_; clear hk k; try show Sat _ _ _ _ _)
  (repeat refine Sat.seq ?_)
  (refine Sat.region_k fun k hk => ?_; simp -implicitDefEqProofs only [evr, id, reduceCtorEq, reduceIte, Nat.reduceMul, Nat.reduceAdd, Nat.reduceLT, Nat.reduceLeDiff, Nat.reduceEqDiff, Int.reduceLT, Int.reduceBEq, Int.reduceBNe, Nat.reduceBEq, List.append_nil, Int.toNat_zero, Nat.sub_self, frS, ptr])
  refine wcall_slice (stFailC (Frm.codes cb) j (by omega) hj1 hp1 hq1 g1 g2 (by omega)) rfl (by simp -implicitDefEqProofs only [evr, id, reduceCtorEq, reduceIte, Nat.reduceMul, Nat.reduceAdd, Nat.reduceLT, Nat.reduceLeDiff, Nat.reduceEqDiff, Int.reduceLT, Int.reduceBEq, Int.reduceBNe, Nat.reduceBEq, List.append_nil, Int.toNat_zero, Nat.sub_self, frS, ptr]; try rfl) ?_
  intro y1 hf1
  obtain ⟨f1, k1, P1, Q1, rfl, ⟨sp1, sq1, rfl, hP1, hQ1⟩, hc1⟩ := failPost_cases hf1
  have hP1' := hP1
  have hQ1' := hQ1
  obtain ⟨a5, c5, z5, r5, x5, rfl, _⟩ := hP1
  obtain ⟨a6, c6, z6, r6, x6, rfl, _⟩ := hQ1
  simp only [frS, evr, id, reduceCtorEq, reduceIte, Nat.reduceMul, Nat.reduceAdd, Nat.reduceLT, Nat.reduceLeDiff, Nat.reduceEqDiff, Int.reduceLT, Int.reduceBEq, Int.reduceBNe, Nat.reduceBEq, List.append_nil, Int.toNat_zero, Nat.sub_self, frS, ptr]
  intro b23
  (refine hk _ ?_; clear hk k; try show Sat _ _ _ _ _)
  (repeat refine Sat.seq ?_)
  (refine Sat.region_k fun k hk => ?_; simp -implicitDefEqProofs only [evr, id, reduceCtorEq, reduceIte, Nat.reduceMul, Nat.reduceAdd, Nat.reduceLT, Nat.reduceLeDiff, Nat.reduceEqDiff, Int.reduceLT, Int.reduceBEq, Int.reduceBNe, Nat.reduceBEq, List.append_nil, Int.toNat_zero, Nat.sub_self, frS, ptr])
  refine wcall_slice (stFailC (Frm.codes cb) j (by omega) hj1 hr1 hs1 g4 g5 (by omega)) rfl (by simp -implicitDefEqProofs only [evr, id, reduceCtorEq, reduceIte, Nat.reduceMul, Nat.reduceAdd, Nat.reduceLT, Nat.reduceLeDiff, Nat.reduceEqDiff, Int.reduceLT, Int.reduceBEq, Int.reduceBNe, Nat.reduceBEq, List.append_nil, Int.toNat_zero, Nat.sub_self, frS, ptr]; try rfl) ?_
  intro y2 hf2
  obtain ⟨f2, k2, P2, Q2, rfl, ⟨sp2, sq2, rfl, hP2, hQ2⟩, hc2⟩ := failPost_cases hf2
  have hP2' := hP2
  have hQ2' := hQ2
  obtain ⟨a7, c7, z7, r7, x7, rfl, _⟩ := hP2
  obtain ⟨a8, c8, z8, r8, x8, rfl, _⟩ := hQ2
  simp only [frS, evr, id, reduceCtorEq, reduceIte, Nat.reduceMul, Nat.reduceAdd, Nat.reduceLT, Nat.reduceLeDiff, Nat.reduceEqDiff, Int.reduceLT, Int.reduceBEq, Int.reduceBNe, Nat.reduceBEq, List.append_nil, Int.toNat_zero, Nat.sub_self, frS, ptr]
  intro b25
  (refine hk _ ?_; clear hk k; try show Sat _ _ _ _ _)
  rcases hc1 with ⟨rfl, st1, hst1, rfl, rfl⟩ | ⟨rfl, hbe1⟩
  · rcases hc2 with ⟨rfl, st2, hst2, rfl, rfl⟩ | ⟨rfl, hbe2⟩
    · obtain ⟨n1, n2⟩ := fail_big (k := j) st1 (by omega)
      obtain ⟨n3, n4⟩ := fail_big (k := j) st2 (by omega)
      have hj0 : 0 < j ^ 128 := Nat.pow_pos hj1
      have hmono : ∀ i, 1 ≤ i → i < j → st2 i ≤ st1 i := fun i h1 h2 => need_mono (by omega) (by omega) hle (hst1 i h1 h2) (hst2 i h1 h2)
      have hfm := failN_mono hmono 128
      have d1 := cmp_le ((red_le hj0 hj0).2 (Nat.mul_le_mul_right (j ^ 128) hfm))
      have hlt := failN_lt hj1 (fun i h1 h2 => need_gt (hst2 i h1 h2) g5) (n := 128) (by omega)
      have d2 : cmpI (redP (failN j st2 128) (j ^ 128) * 1 : Nat) (1 * redQ (failN j st2 128) (j ^ 128) : Nat) = -1 := by
        refine cmpI_lt ?_
        have h9 := redP_mul (a := failN j st2 128) hj0
        have h8 : redP (failN j st2 128) (j ^ 128) < redQ (failN j st2 128) (j ^ 128) := by
          refine Nat.lt_of_mul_lt_mul_right (a := j ^ 128) ?_
          rw [h9, Nat.mul_comm]
          exact Nat.mul_lt_mul_of_pos_left hlt (redQ_pos hj0)
        omega
      (repeat refine Sat.seq ?_)
      (refine Sat.region_k fun k hk => ?_; simp -implicitDefEqProofs only [evr, id, reduceCtorEq, reduceIte, Nat.reduceMul, Nat.reduceAdd, Nat.reduceLT, Nat.reduceLeDiff, Nat.reduceEqDiff, Int.reduceLT, Int.reduceBEq, Int.reduceBNe, Nat.reduceBEq, List.append_nil, Int.toNat_zero, Nat.sub_self, frS, ptr])
      (refine hk _ ?_; clear hk k; try show Sat _ _ _ _ _)
      refine Sat.cond_b rfl (fun h => absurd h (by decide)) (fun _ => ?_)
      refine Sat.skip ?_
      simp only [thenK]
      (repeat refine Sat.seq ?_)
      (refine Sat.region_k fun k hk => ?_; simp -implicitDefEqProofs only [evr, id, reduceCtorEq, reduceIte, Nat.reduceMul, Nat.reduceAdd, Nat.reduceLT, Nat.reduceLeDiff, Nat.reduceEqDiff, Int.reduceLT, Int.reduceBEq, Int.reduceBNe, Nat.reduceBEq, List.append_nil, Int.toNat_zero, Nat.sub_self, frS, ptr])
      refine wcall_plain (cmpBigC (Frm.codes cb) hP1' hQ1' hP2' hQ2' n1 n2 n3 n4) (by simp -implicitDefEqProofs only [evr, id, reduceCtorEq, reduceIte, Nat.reduceMul, Nat.reduceAdd, Nat.reduceLT, Nat.reduceLeDiff, Nat.reduceEqDiff, Int.reduceLT, Int.reduceBEq, Int.reduceBNe, Nat.reduceBEq, List.append_nil, Int.toNat_zero, Nat.sub_self, frS, ptr]; try rfl) (by rintro _ rfl; exact ok_tupL rfl) ?_
      rintro y rfl
      simp -implicitDefEqProofs only [evr, id, reduceCtorEq, reduceIte, Nat.reduceMul, Nat.reduceAdd, Nat.reduceLT, Nat.reduceLeDiff, Nat.reduceEqDiff, Int.reduceLT, Int.reduceBEq, Int.reduceBNe, Nat.reduceBEq, List.append_nil, Int.toNat_zero, Nat.sub_self, frS, ptr]
      (refine hk _ ?_; clear hk k; try show Sat _ _ _ _ _)
      (repeat refine Sat.seq ?_)
      (refine Sat.region_k fun k hk => ?_; simp -implicitDefEqProofs only [evr, id, reduceCtorEq, reduceIte, Nat.reduceMul, Nat.reduceAdd, Nat.reduceLT, Nat.reduceLeDiff, Nat.reduceEqDiff, Int.reduceLT, Int.reduceBEq, Int.reduceBNe, Nat.reduceBEq, List.append_nil, Int.toNat_zero, Nat.sub_self, frS, ptr])
      refine wcall_slice (refFromC (Frm.codes cb) 1 1 (by omega) (by omega) (by omega) (by omega) (by omega)) rfl rfl ?_
      rintro y ⟨f, rfl, sp3, sq3, rfl, h3, h4⟩
      have h3' : Nats sp3 1 := h3
      have h4' : Nats sq3 1 := h4
      have h3b := h3'
      have h4b := h4'
      clear h3 h4
      obtain ⟨a9, c9, z9, r9, x9, rfl, _⟩ := h3b
      obtain ⟨a10, c10, z10, r10, x10, rfl, _⟩ := h4b
      have e4 : ((decide ((1 : Int) < 0) != decide ((1 : Int) < 0)) && decide (0 < (1 : Int).natAbs)) = false := rfl
      rw [e4]
      simp -implicitDefEqProofs only [evr, id, reduceCtorEq, reduceIte, Nat.reduceMul, Nat.reduceAdd, Nat.reduceLT, Nat.reduceLeDiff, Nat.reduceEqDiff, Int.reduceLT, Int.reduceBEq, Int.reduceBNe, Nat.reduceBEq, List.append_nil, Int.toNat_zero, Nat.sub_self, frS, ptr]
      intro b29
      (refine hk _ ?_; clear hk k; try show Sat _ _ _ _ _)
      (repeat refine Sat.seq ?_)
      (refine Sat.region_k fun k hk => ?_; simp -implicitDefEqProofs only [evr, id, reduceCtorEq, reduceIte, Nat.reduceMul, Nat.reduceAdd, Nat.reduceLT, Nat.reduceLeDiff, Nat.reduceEqDiff, Int.reduceLT, Int.reduceBEq, Int.reduceBNe, Nat.reduceBEq, List.append_nil, Int.toNat_zero, Nat.sub_self, frS, ptr])
      refine wcall_plain (cmpBigC (Frm.codes cb) hP2' hQ2' h3' h4' n3 n4 (small_big (by omega)) (small_big (by omega))) (by simp -implicitDefEqProofs only [evr, id, reduceCtorEq, reduceIte, Nat.reduceMul, Nat.reduceAdd, Nat.reduceLT, Nat.reduceLeDiff, Nat.reduceEqDiff, Int.reduceLT, Int.reduceBEq, Int.reduceBNe, Nat.reduceBEq, List.append_nil, Int.toNat_zero, Nat.sub_self, frS, ptr]; try rfl) (by rintro _ rfl; exact ok_tupL rfl) ?_
      rintro y rfl
      rw [d2]
      simp -implicitDefEqProofs only [evr, id, reduceCtorEq, reduceIte, Nat.reduceMul, Nat.reduceAdd, Nat.reduceLT, Nat.reduceLeDiff, Nat.reduceEqDiff, Int.reduceLT, Int.reduceBEq, Int.reduceBNe, Nat.reduceBEq, List.append_nil, Int.toNat_zero, Nat.sub_self, frS, ptr]
      (refine hk _ ?_; clear hk k; try show Sat _ _ _ _ _)
      (repeat refine Sat.seq ?_)
      (refine Sat.region_k fun k hk => ?_; simp -implicitDefEqProofs only [evr, id, reduceCtorEq, reduceIte, Nat.reduceMul, Nat.reduceAdd, Nat.reduceLT, Nat.reduceLeDiff, Nat.reduceEqDiff, Int.reduceLT, Int.reduceBEq, Int.reduceBNe, Nat.reduceBEq, List.append_nil, Int.toNat_zero, Nat.sub_self, frS, ptr])
      refine ⟨fun h => ?_, fun h => absurd d1 h⟩
      (refine hk _ ?_; clear hk k; try show Sat _ _ _ _ _)
      refine Sat.ret ?_
      simp only [Try.results7, evr, id, reduceCtorEq, reduceIte, Nat.reduceMul, Nat.reduceAdd, Nat.reduceLT, Nat.reduceLeDiff, Nat.reduceEqDiff, Int.reduceLT, Int.reduceBEq, Int.reduceBNe, Nat.reduceBEq, List.append_nil, Int.toNat_zero, Nat.sub_self, frS, ptr]
    · exact absurd (beyond_mono (by omega) (by omega) hle hbe2) (stops_beyond hst1)
  · (repeat refine Sat.seq ?_)
    (refine Sat.region_k fun k hk => ?_; simp -implicitDefEqProofs only [evr, id, reduceCtorEq, reduceIte, Nat.reduceMul, Nat.reduceAdd, Nat.reduceLT, Nat.reduceLeDiff, Nat.reduceEqDiff, Int.reduceLT, Int.reduceBEq, Int.reduceBNe, Nat.reduceBEq, List.append_nil, Int.toNat_zero, Nat.sub_self, frS, ptr])
    (refine hk _ ?_; clear hk k; try show Sat _ _ _ _ _)
    refine Sat.cond_tt rfl ?_
    (repeat refine Sat.seq ?_)
    (refine Sat.region_k fun k hk => ?_; simp -implicitDefEqProofs only [evr, id, reduceCtorEq, reduceIte, Nat.reduceMul, Nat.reduceAdd, Nat.reduceLT, Nat.reduceLeDiff, Nat.reduceEqDiff, Int.reduceLT, Int.reduceBEq, Int.reduceBNe, Nat.reduceBEq, List.append_nil, Int.toNat_zero, Nat.sub_self, frS, ptr]; refine hk _ ?_; clear hk k; try show Sat _ _ _ _ _)
    refine Sat.ret ?_
    simp only [Try.results7, evr, id, reduceCtorEq, reduceIte, Nat.reduceMul, Nat.reduceAdd, Nat.reduceLT, Nat.reduceLeDiff, Nat.reduceEqDiff, Int.reduceLT, Int.reduceBEq, Int.reduceBNe, Nat.reduceBEq, List.append_nil, Int.toNat_zero, Nat.sub_self, frS, ptr]

theorem bounds_u8f {x : Int} (h : (Lit.int .u8 x).wf = true) : 0 ≤ x ∧ x < 256 := by have := bounds_u8 h; omega
theorem falls_holds : Rows.StoppingFallsSaid := stoppingFalls.of_walk fun a0 z0 a1 a2 w ⟨h, hz⟩ h1 h2 => by
  obtain ⟨a, cap, rfl, hok⟩ := slB_of h
  exact walk_of (fallsC a cap z0 hz a1 a2 (bounds_u8f h1) (bounds_u8f h2)) (fun s hs => by
    rcases List.mem_cons.1 hs with rfl | hs
    · exact hok
    · rcases List.mem_cons.1 hs with rfl | hs
      · trivial
      · rw [List.mem_singleton.1 hs]; trivial)
end Go.Proofs.Ytagmohpafjncfaa
