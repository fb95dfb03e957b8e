/- StoppingExact: all functions for any numbers, and fractions between 0 and 1, at 0, 1 and beyond. The law holds of every input. -/
import Derived.Test.YtagmohpafjncfaaPk3
import Derived.Test.YtagmohpafjncfaaPk2
import Derived.Test.YtagmohpafjncfaaPk1
set_option linter.unusedSimpArgs false
set_option linter.unusedVariables false
namespace Go.Proofs.Ytagmohpafjncfaa
open Eng Lmb Go.RowKit
theorem slB_bytesX (a : Option Addr) (cap : Nat) (z : List Int) (hz : ∀ n ∈ z, (Lit.int .u8 n).wf = true) : isBytes (slB a cap z) :=
  ⟨a, z.length, cap, _, rfl, fun i hi => ⟨z.getD i 0, by have := bounds_u8 (hz _ (getD_mem (d := 0) hi)); omega, by have := bounds_u8 (hz _ (getD_mem (d := 0) hi)); omega, rfl⟩⟩
theorem onto_big {n m : Int} (V : Nat) (hV : V = if ontoIn n m then cnt m.toNat n.toNat m.toNat else 0) : (V : Int) < pw 512 := by
  subst hV
  split
  · rename_i e
    obtain ⟨a, b, rfl, rfl, ha, hb⟩ := ontoIn_nat e
    exact lt_pw (Nat.le_trans (cnt_le _ _ _ (Nat.le_refl _)) (kn_le (k := b) (n := a) hb ha)) (by rw [xb_eq]; decide)
  · exact pw_pos 512
theorem mis_bigP {n m : Int} (V : Nat) (hV : V = if misIn n m then misP n.toNat m.toNat else 0) : (V : Int) < pw 512 := by
  subst hV
  split
  · rename_i e
    obtain ⟨a, b, rfl, rfl, ha, hb, _⟩ := misIn_nat e
    exact lt_pw (Nat.le_trans (misP_le _ _) (kn_le (k := b) (n := a) hb ha)) (by rw [xb_eq]; decide)
  · exact pw_pos 512
theorem mis_bigQ {n m : Int} (V : Nat) (hV : V = if misIn n m then misQ n.toNat m.toNat else 0) : (V : Int) < pw 512 := by
  subst hV
  split
  · rename_i e
    obtain ⟨a, b, rfl, rfl, ha, hb, _⟩ := misIn_nat e
    exact lt_pw (Nat.le_trans (misQ_le _ _) (kn_le (k := b) (n := a) hb ha)) (by rw [xb_eq]; decide)
  · exact pw_pos 512
theorem pick5 (u : Int) : ∀ y : Nat, y < 5 → ∃ x : Int, rdL [SV.i .i64 0, SV.i .i64 1, SV.i .i64 128, SV.i .i64 129, SV.i .i64 u] 1 y 0 = .i .i64 x := by
  intro y hy
  rcases (show y = 0 ∨ y = 1 ∨ y = 2 ∨ y = 3 ∨ y = 4 by omega) with rfl | rfl | rfl | rfl | rfl <;> exact ⟨_, rfl⟩
structure AlphOk (p q : Nat) (sp sq : SV) : Prop where
  num : Nats sp p
  den : Nats sq q
  pos : 0 < q
  p30 : p < 1073741824
  q30 : q < 1073741824
set_option maxHeartbeats 4000000 in
set_option maxRecDepth 100000 in
theorem exactC (a : Option Addr) (cap : Nat) (z : List Int) (hz : ∀ n ∈ z, (Lit.int .u8 n).wf = true) (n0 k0 : Int) (hk0 : -9223372036854775808 ≤ k0 ∧ k0 ≤ 9223372036854775807) : Contract Frm.nil Try.prog 5 [slB a cap z, .i .i64 n0, .i .i64 k0] (fun r => r = .b true) := by
  have hb := slB_bytesX a cap z hz
  refine contract_of Try.func5 rfl (by kernel_rfl) ?_
  simp only [Try.ntmps5, argEnv]
  (repeat refine Sat.seq ?_)
  (refine Sat.region_k fun k hk => ?_; simp -implicitDefEqProofs only [evr, id, reduceCtorEq, reduceIte, Nat.reduceMul, Nat.reduceAdd, Nat.reduceLT, Nat.reduceLeDiff, Nat.reduceEqDiff, Int.reduceLT, Int.reduceBEq, Int.reduceBNe, Nat.reduceBEq, List.append_nil, Int.toNat_zero, Nat.sub_self, frS, ptr, bne_self_eq_false, beq_self_eq_true]; refine hk _ ?_; clear hk k; try show Sat _ _ _ _ _)
  (repeat refine Sat.seq ?_)
  (refine Sat.region_k fun k hk => ?_; simp -implicitDefEqProofs only [evr, id, reduceCtorEq, reduceIte, Nat.reduceMul, Nat.reduceAdd, Nat.reduceLT, Nat.reduceLeDiff, Nat.reduceEqDiff, Int.reduceLT, Int.reduceBEq, Int.reduceBNe, Nat.reduceBEq, List.append_nil, Int.toNat_zero, Nat.sub_self, frS, ptr, bne_self_eq_false, beq_self_eq_true])
  refine wcall_plain (awakeC Frm.nil) rfl (by rintro _ rfl; exact ok_plain rfl) ?_
  rintro r rfl
  simp -implicitDefEqProofs only [evr, id, reduceCtorEq, reduceIte, Nat.reduceMul, Nat.reduceAdd, Nat.reduceLT, Nat.reduceLeDiff, Nat.reduceEqDiff, Int.reduceLT, Int.reduceBEq, Int.reduceBNe, Nat.reduceBEq, List.append_nil, Int.toNat_zero, Nat.sub_self, frS, ptr, bne_self_eq_false, beq_self_eq_true]
  (refine hk _ ?_; clear hk k; try show Sat _ _ _ _ _)
  (repeat refine Sat.seq ?_)
  refine Sat.cond_b rfl (fun h => absurd h (by decide)) (fun _ => ?_)
  refine Sat.skip ?_
  simp only [thenK]
  refine Sat.seq ?_
  (refine Sat.region_k fun k hk => ?_; simp -implicitDefEqProofs only [evr, id, reduceCtorEq, reduceIte, Nat.reduceMul, Nat.reduceAdd, Nat.reduceLT, Nat.reduceLeDiff, Nat.reduceEqDiff, Int.reduceLT, Int.reduceBEq, Int.reduceBNe, Nat.reduceBEq, List.append_nil, Int.toNat_zero, Nat.sub_self, frS, ptr, bne_self_eq_false, beq_self_eq_true])
  refine wcall_make (newRC (slB a cap z) hb 60 (by decide)) ?_
  intro cb
  simp -implicitDefEqProofs only [evr, id, reduceCtorEq, reduceIte, Nat.reduceMul, Nat.reduceAdd, Nat.reduceLT, Nat.reduceLeDiff, Nat.reduceEqDiff, Int.reduceLT, Int.reduceBEq, Int.reduceBNe, Nat.reduceBEq, List.append_nil, Int.toNat_zero, Nat.sub_self, frS, ptr, bne_self_eq_false, beq_self_eq_true]
  (refine hk _ ?_; clear hk k; try show Sat _ _ _ _ _)
  first
    | refine Sat.switch (cb := cb) (id := 0) (F' := Frm.codes cb) (fun b => Iff.rfl) rfl ?_
    | refine Sat.switch (cb := cb) (id := 0) (F' := Frm.codes cb) (fun b => Iff.rfl) (fun _ h => h) rfl ?_
  (repeat refine Sat.seq ?_)
  (refine Sat.region_k fun k hk => ?_; simp -implicitDefEqProofs only [evr, id, reduceCtorEq, reduceIte, Nat.reduceMul, Nat.reduceAdd, Nat.reduceLT, Nat.reduceLeDiff, Nat.reduceEqDiff, Int.reduceLT, Int.reduceBEq, Int.reduceBNe, Nat.reduceBEq, List.append_nil, Int.toNat_zero, Nat.sub_self, frS, ptr, bne_self_eq_false, beq_self_eq_true])
  refine wcall_slice (alphaC cb) rfl rfl ?_
  rintro r ⟨p, q, ⟨sp, sq, rfl, hp, hq⟩, h0, h1, h2⟩
  have hp' := hp
  have hq' := hq
  obtain ⟨a1, c1, z1, r1, x1, rfl, _⟩ := hp
  obtain ⟨a2, c2, z2, r2, x2, rfl, _⟩ := hq
  simp -implicitDefEqProofs only [evr, id, reduceCtorEq, reduceIte, Nat.reduceMul, Nat.reduceAdd, Nat.reduceLT, Nat.reduceLeDiff, Nat.reduceEqDiff, Int.reduceLT, Int.reduceBEq, Int.reduceBNe, Nat.reduceBEq, List.append_nil, Int.toNat_zero, Nat.sub_self, frS, ptr, bne_self_eq_false, beq_self_eq_true]
  intro b8
  (refine hk _ ?_; clear hk k; try show Sat _ _ _ _ _)
  (repeat refine Sat.seq ?_)
  (refine Sat.region_k fun k hk => ?_; simp -implicitDefEqProofs only [evr, id, reduceCtorEq, reduceIte, Nat.reduceMul, Nat.reduceAdd, Nat.reduceLT, Nat.reduceLeDiff, Nat.reduceEqDiff, Int.reduceLT, Int.reduceBEq, Int.reduceBNe, Nat.reduceBEq, List.append_nil, Int.toNat_zero, Nat.sub_self, frS, ptr, bne_self_eq_false, beq_self_eq_true])
  refine wcall_plain (nextC cb 6 (by decide) (by decide)) rfl (by rintro _ ⟨x, rfl, _⟩; exact ok_plain rfl) ?_
  rintro r ⟨x, rfl, hx0, hx1⟩
  simp -implicitDefEqProofs only [evr, id, reduceCtorEq, reduceIte, Nat.reduceMul, Nat.reduceAdd, Nat.reduceLT, Nat.reduceLeDiff, Nat.reduceEqDiff, Int.reduceLT, Int.reduceBEq, Int.reduceBNe, Nat.reduceBEq, List.append_nil, Int.toNat_zero, Nat.sub_self, frS, ptr, bne_self_eq_false, beq_self_eq_true]
  (refine hk _ ?_; clear hk k; try show Sat _ _ _ _ _)
  refine Sat.join2 (ι := Bool × Nat × Nat × SV × SV) (fun y => ⟨139, [(8, .op 0 b8 0), (7, ptr cb), (1, .i .i64 n0), (2, .i .i64 k0)], [.box b8 30 [.b y.1, y.2.2.2.1, y.2.2.2.2]]⟩) (fun y => AlphOk y.2.1 y.2.2.1 y.2.2.2.1 y.2.2.2.2) (fun hrest => ?_) ?_
  · refine Sat.cond_b rfl (fun h => ?_) (fun h => ?_)
    · (repeat refine Sat.seq ?_)
      (refine Sat.region_k fun k hk => ?_; simp -implicitDefEqProofs only [evr, id, reduceCtorEq, reduceIte, Nat.reduceMul, Nat.reduceAdd, Nat.reduceLT, Nat.reduceLeDiff, Nat.reduceEqDiff, Int.reduceLT, Int.reduceBEq, Int.reduceBNe, Nat.reduceBEq, List.append_nil, Int.toNat_zero, Nat.sub_self, frS, ptr, bne_self_eq_false, beq_self_eq_true])
      refine wcall_slice (fractionCdC cb 1 (by omega) (by omega)) rfl rfl ?_
      rintro r ⟨ng, u, v, ⟨su, sv, rfl, hu, hv⟩, hu1, hv1, hv0, _⟩
      have e30 : pw 1 = 1073741824 := by
        rw [show (1 : Nat) = 0 + 1 from rfl, pw_succ, pw_zero]
        first | rfl | decide
      rw [e30] at hu1 hv1
      have hu' := hu
      have hv' := hv
      obtain ⟨a3, c3, z3, r3, x3, rfl, _⟩ := hu
      obtain ⟨a4, c4, z4, r4, x4, rfl, _⟩ := hv
      simp -implicitDefEqProofs only [evr, id, reduceCtorEq, reduceIte, Nat.reduceMul, Nat.reduceAdd, Nat.reduceLT, Nat.reduceLeDiff, Nat.reduceEqDiff, Int.reduceLT, Int.reduceBEq, Int.reduceBNe, Nat.reduceBEq, List.append_nil, Int.toNat_zero, Nat.sub_self, frS, ptr, bne_self_eq_false, beq_self_eq_true]
      refine hk _ ?_
      clear hk k
      simp only [thenK]
      refine Sat.le (hrest (ng, u, v, _, _) ⟨hu', hv', hv0, by show u < 1073741824; omega, by show v < 1073741824; omega⟩) ?_
      simp -implicitDefEqProofs only [evr, id, reduceCtorEq, reduceIte, Nat.reduceMul, Nat.reduceAdd, Nat.reduceLT, Nat.reduceLeDiff, Nat.reduceEqDiff, Int.reduceLT, Int.reduceBEq, Int.reduceBNe, Nat.reduceBEq, List.append_nil, Int.toNat_zero, Nat.sub_self, frS, ptr, bne_self_eq_false, beq_self_eq_true, evl]
      try rfl
    · refine Sat.skip ?_
      simp only [thenK]
      refine Sat.le (hrest (false, p, q, _, _) ⟨hp', hq', by show 0 < q; omega, by show p < 1073741824; omega, by show q < 1073741824; omega⟩) ?_
      simp -implicitDefEqProofs only [evr, id, reduceCtorEq, reduceIte, Nat.reduceMul, Nat.reduceAdd, Nat.reduceLT, Nat.reduceLeDiff, Nat.reduceEqDiff, Int.reduceLT, Int.reduceBEq, Int.reduceBNe, Nat.reduceBEq, List.append_nil, Int.toNat_zero, Nat.sub_self, frS, ptr, bne_self_eq_false, beq_self_eq_true, evl]
      try rfl
  clear hp' hq' h0 h1 h2
  rintro ⟨neg, p, q, sp, sq⟩ ⟨hp, hq, hq0, hp30, hq30⟩
  simp only at hp hq hq0 hp30 hq30 ⊢
  have hp' := hp
  have hq' := hq
  obtain ⟨a1, c1, z1, r1, x1, rfl, _⟩ := hp
  obtain ⟨a2, c2, z2, r2, x2, rfl, _⟩ := hq
  (repeat refine Sat.seq ?_)
  (refine Sat.region_k fun k hk => ?_; simp -implicitDefEqProofs only [evr, id, reduceCtorEq, reduceIte, Nat.reduceMul, Nat.reduceAdd, Nat.reduceLT, Nat.reduceLeDiff, Nat.reduceEqDiff, Int.reduceLT, Int.reduceBEq, Int.reduceBNe, Nat.reduceBEq, List.append_nil, Int.toNat_zero, Nat.sub_self, frS, ptr, bne_self_eq_false, beq_self_eq_true]; refine hk _ ?_; clear hk k; try show Sat _ _ _ _ _)
  (repeat refine Sat.seq ?_)
  refine Sat.block ?_
  refine Sat.loop (ι := Nat × Int × Int) (fun y => ⟨139, [(9, .i .i64 y.1), (8, .op 0 b8 0), (7, ptr cb), (1, .i .i64 y.2.1), (2, .i .i64 y.2.2)], [.box b8 30 [.b neg, .sl a1 x1.length c1 z1 r1, .sl a2 x2.length c2 z2 r2]]⟩)
    (fun y => y.1 ≤ 3 ∧ -9223372036854775808 ≤ y.2.2 ∧ y.2.2 ≤ 9223372036854775807) (fun y => 3 - y.1) (0, n0, k0) ⟨Nat.zero_le _, hk0.1, hk0.2⟩ (by simp -implicitDefEqProofs only [evr, id, reduceCtorEq, reduceIte, Nat.reduceMul, Nat.reduceAdd, Nat.reduceLT, Nat.reduceLeDiff, Nat.reduceEqDiff, Int.reduceLT, Int.reduceBEq, Int.reduceBNe, Nat.reduceBEq, List.append_nil, Int.toNat_zero, Nat.sub_self, frS, ptr, bne_self_eq_false, beq_self_eq_true, evl]; first | rfl | exact ⟨rfl, rfl⟩ | trace_state) ?_
  rintro ⟨i, n, m⟩ ⟨hi, hm1, hm2⟩
  simp only at hi hm1 hm2 ⊢
  (repeat refine Sat.seq ?_)
  (refine Sat.region_k fun k hk => ?_; simp -implicitDefEqProofs only [evr, id, reduceCtorEq, reduceIte, Nat.reduceMul, Nat.reduceAdd, Nat.reduceLT, Nat.reduceLeDiff, Nat.reduceEqDiff, Int.reduceLT, Int.reduceBEq, Int.reduceBNe, Nat.reduceBEq, List.append_nil, Int.toNat_zero, Nat.sub_self, frS, ptr, bne_self_eq_false, beq_self_eq_true]; refine hk _ ?_; clear hk k; try show Sat _ _ _ _ _)
  (repeat refine Sat.seq ?_)
  refine Sat.cond_b rfl (fun h => ?_) (fun h => ?_)
  · have hi3 : i < 3 := by simp only [decide_eq_true_eq] at h; omega
    have ei1 : IntKind.i64.wrap ((i : Int) + 1) = ((i + 1 : Nat) : Int) := by rw [w64 (by omega)]; omega
    obtain ⟨E1, hE1⟩ : ∃ E : Int, E = if ontoIn n m then 0 else 1 := ⟨_, rfl⟩
    obtain ⟨V1, hV1⟩ : ∃ V : Nat, V = if ontoIn n m then cnt m.toNat n.toNat m.toNat else 0 := ⟨_, rfl⟩
    obtain ⟨E2, hE2⟩ : ∃ E : Int, E = if misIn n m then 0 else 1 := ⟨_, rfl⟩
    obtain ⟨P2, hP2⟩ : ∃ V : Nat, V = if misIn n m then misP n.toNat m.toNat else 0 := ⟨_, rfl⟩
    obtain ⟨Q2, hQ2⟩ : ∃ V : Nat, V = if misIn n m then misQ n.toNat m.toNat else 0 := ⟨_, rfl⟩
    have bV1 := onto_big V1 hV1
    have bP2 := mis_bigP P2 hP2
    have bQ2 := mis_bigQ Q2 hQ2
    refine Sat.skip ?_
    simp only [thenK]
    (repeat refine Sat.seq ?_)
    refine Sat.block ?_
    (repeat refine Sat.seq ?_)
    (refine Sat.region_k fun k hk => ?_; simp -implicitDefEqProofs only [evr, id, reduceCtorEq, reduceIte, Nat.reduceMul, Nat.reduceAdd, Nat.reduceLT, Nat.reduceLeDiff, Nat.reduceEqDiff, Int.reduceLT, Int.reduceBEq, Int.reduceBNe, Nat.reduceBEq, List.append_nil, Int.toNat_zero, Nat.sub_self, frS, ptr, bne_self_eq_false, beq_self_eq_true])
    refine wcall_slice ((stOntoG (Frm.codes cb) n m).mono fun r h => onto_open h E1 V1 hE1 hV1) rfl rfl ?_
    rintro r ⟨s, hs, rfl⟩
    have hs1 := hs
    obtain ⟨a3, c3, z3, r3, x3, rfl, _⟩ := hs
    simp -implicitDefEqProofs only [evr, id, reduceCtorEq, reduceIte, Nat.reduceMul, Nat.reduceAdd, Nat.reduceLT, Nat.reduceLeDiff, Nat.reduceEqDiff, Int.reduceLT, Int.reduceBEq, Int.reduceBNe, Nat.reduceBEq, List.append_nil, Int.toNat_zero, Nat.sub_self, frS, ptr, bne_self_eq_false, beq_self_eq_true]
    (refine hk _ ?_; clear hk k; try show Sat _ _ _ _ _)
    (repeat refine Sat.seq ?_)
    (refine Sat.region_k fun k hk => ?_; simp -implicitDefEqProofs only [evr, id, reduceCtorEq, reduceIte, Nat.reduceMul, Nat.reduceAdd, Nat.reduceLT, Nat.reduceLeDiff, Nat.reduceEqDiff, Int.reduceLT, Int.reduceBEq, Int.reduceBNe, Nat.reduceBEq, List.append_nil, Int.toNat_zero, Nat.sub_self, frS, ptr, bne_self_eq_false, beq_self_eq_true])
    refine wcall_slice ((refOntoC (Frm.codes cb) n m).mono fun r h => onto_open h E1 V1 hE1 hV1) rfl rfl ?_
    rintro r ⟨s, hs, rfl⟩
    have hs2 := hs
    obtain ⟨a4, c4, z4, r4, x4, rfl, _⟩ := hs
    simp -implicitDefEqProofs only [evr, id, reduceCtorEq, reduceIte, Nat.reduceMul, Nat.reduceAdd, Nat.reduceLT, Nat.reduceLeDiff, Nat.reduceEqDiff, Int.reduceLT, Int.reduceBEq, Int.reduceBNe, Nat.reduceBEq, List.append_nil, Int.toNat_zero, Nat.sub_self, frS, ptr, bne_self_eq_false, beq_self_eq_true]
    (refine hk _ ?_; clear hk k; try show Sat _ _ _ _ _)
    (repeat refine Sat.seq ?_)
    (refine Sat.region_k fun k hk => ?_; simp -implicitDefEqProofs only [evr, id, reduceCtorEq, reduceIte, Nat.reduceMul, Nat.reduceAdd, Nat.reduceLT, Nat.reduceLeDiff, Nat.reduceEqDiff, Int.reduceLT, Int.reduceBEq, Int.reduceBNe, Nat.reduceBEq, List.append_nil, Int.toNat_zero, Nat.sub_self, frS, ptr, bne_self_eq_false, beq_self_eq_true])
    refine wcall_slice ((stMissingG (Frm.codes cb) n m).mono fun r h => mis_open h E2 P2 Q2 hE2 hP2 hQ2) rfl rfl ?_
    rintro r ⟨f, ⟨su, sv, rfl, hs, ht⟩, rfl⟩
    have hs3 := hs
    have ht3 := ht
    obtain ⟨a5, c5, z5, r5, x5, rfl, _⟩ := hs
    obtain ⟨a6, c6, z6, r6, x6, rfl, _⟩ := ht
    simp only [frS, evr, id, reduceCtorEq, reduceIte, Nat.reduceMul, Nat.reduceAdd, Nat.reduceLT, Nat.reduceLeDiff, Nat.reduceEqDiff, Int.reduceLT, Int.reduceBEq, Int.reduceBNe, Nat.reduceBEq, List.append_nil, Int.toNat_zero, Nat.sub_self, frS, ptr, bne_self_eq_false, beq_self_eq_true]
    intro b14
    (refine hk _ ?_; clear hk k; try show Sat _ _ _ _ _)
    (repeat refine Sat.seq ?_)
    (refine Sat.region_k fun k hk => ?_; simp -implicitDefEqProofs only [evr, id, reduceCtorEq, reduceIte, Nat.reduceMul, Nat.reduceAdd, Nat.reduceLT, Nat.reduceLeDiff, Nat.reduceEqDiff, Int.reduceLT, Int.reduceBEq, Int.reduceBNe, Nat.reduceBEq, List.append_nil, Int.toNat_zero, Nat.sub_self, frS, ptr, bne_self_eq_false, beq_self_eq_true])
    refine wcall_slice ((refMissingC (Frm.codes cb) n m).mono fun r h => mis_open h E2 P2 Q2 hE2 hP2 hQ2) rfl rfl ?_
    rintro r ⟨f, ⟨su, sv, rfl, hs, ht⟩, rfl⟩
    have hs4 := hs
    have ht4 := ht
    obtain ⟨a7, c7, z7, r7, x7, rfl, _⟩ := hs
    obtain ⟨a8, c8, z8, r8, x8, rfl, _⟩ := ht
    simp only [frS, evr, id, reduceCtorEq, reduceIte, Nat.reduceMul, Nat.reduceAdd, Nat.reduceLT, Nat.reduceLeDiff, Nat.reduceEqDiff, Int.reduceLT, Int.reduceBEq, Int.reduceBNe, Nat.reduceBEq, List.append_nil, Int.toNat_zero, Nat.sub_self, frS, ptr, bne_self_eq_false, beq_self_eq_true]
    intro b16
    (refine hk _ ?_; clear hk k; try show Sat _ _ _ _ _)
    (repeat refine Sat.seq ?_)
    (refine Sat.region_k fun k hk => ?_; simp -implicitDefEqProofs only [evr, id, reduceCtorEq, reduceIte, Nat.reduceMul, Nat.reduceAdd, Nat.reduceLT, Nat.reduceLeDiff, Nat.reduceEqDiff, Int.reduceLT, Int.reduceBEq, Int.reduceBNe, Nat.reduceBEq, List.append_nil, Int.toNat_zero, Nat.sub_self, frS, ptr, bne_self_eq_false, beq_self_eq_true])
    refine wcall_plain (stNeededG (Frm.codes cb) m neg hp' hq' hq0 hp30 hq30) (by simp -implicitDefEqProofs only [evr, id, reduceCtorEq, reduceIte, Nat.reduceMul, Nat.reduceAdd, Nat.reduceLT, Nat.reduceLeDiff, Nat.reduceEqDiff, Int.reduceLT, Int.reduceBEq, Int.reduceBNe, Nat.reduceBEq, List.append_nil, Int.toNat_zero, Nat.sub_self, frS, ptr, bne_self_eq_false, beq_self_eq_true]; try rfl) (fun r h => by obtain ⟨u, e, rfl⟩ := needG_shape h; exact ok_tupL rfl) ?_
    intro r hr1
    obtain ⟨u1, e1, rfl⟩ := needG_shape hr1
    simp -implicitDefEqProofs only [evr, id, reduceCtorEq, reduceIte, Nat.reduceMul, Nat.reduceAdd, Nat.reduceLT, Nat.reduceLeDiff, Nat.reduceEqDiff, Int.reduceLT, Int.reduceBEq, Int.reduceBNe, Nat.reduceBEq, List.append_nil, Int.toNat_zero, Nat.sub_self, frS, ptr, bne_self_eq_false, beq_self_eq_true]
    (refine hk _ ?_; clear hk k; try show Sat _ _ _ _ _)
    (repeat refine Sat.seq ?_)
    (refine Sat.region_k fun k hk => ?_; simp -implicitDefEqProofs only [evr, id, reduceCtorEq, reduceIte, Nat.reduceMul, Nat.reduceAdd, Nat.reduceLT, Nat.reduceLeDiff, Nat.reduceEqDiff, Int.reduceLT, Int.reduceBEq, Int.reduceBNe, Nat.reduceBEq, List.append_nil, Int.toNat_zero, Nat.sub_self, frS, ptr, bne_self_eq_false, beq_self_eq_true])
    refine wcall_plain ((refNeededC (Frm.codes cb) m ⟨hm1, hm2⟩ neg hp' hq' hq0 hp30 hq30).mono fun r h => needG_eq hr1 h) (by simp -implicitDefEqProofs only [evr, id, reduceCtorEq, reduceIte, Nat.reduceMul, Nat.reduceAdd, Nat.reduceLT, Nat.reduceLeDiff, Nat.reduceEqDiff, Int.reduceLT, Int.reduceBEq, Int.reduceBNe, Nat.reduceBEq, List.append_nil, Int.toNat_zero, Nat.sub_self, frS, ptr, bne_self_eq_false, beq_self_eq_true]; try rfl) (by rintro _ rfl; exact ok_tupL rfl) ?_
    rintro r rfl
    simp -implicitDefEqProofs only [evr, id, reduceCtorEq, reduceIte, Nat.reduceMul, Nat.reduceAdd, Nat.reduceLT, Nat.reduceLeDiff, Nat.reduceEqDiff, Int.reduceLT, Int.reduceBEq, Int.reduceBNe, Nat.reduceBEq, List.append_nil, Int.toNat_zero, Nat.sub_self, frS, ptr, bne_self_eq_false, beq_self_eq_true]
    (refine hk _ ?_; clear hk k; try show Sat _ _ _ _ _)
    (repeat refine Sat.seq ?_)
    (refine Sat.region_k fun k hk => ?_; simp -implicitDefEqProofs only [evr, id, reduceCtorEq, reduceIte, Nat.reduceMul, Nat.reduceAdd, Nat.reduceLT, Nat.reduceLeDiff, Nat.reduceEqDiff, Int.reduceLT, Int.reduceBEq, Int.reduceBNe, Nat.reduceBEq, List.append_nil, Int.toNat_zero, Nat.sub_self, frS, ptr, bne_self_eq_false, beq_self_eq_true])
    refine wcall_plain (refSameC (Frm.codes cb) hs1 hs2 bV1 bV1) (by simp -implicitDefEqProofs only [evr, id, reduceCtorEq, reduceIte, Nat.reduceMul, Nat.reduceAdd, Nat.reduceLT, Nat.reduceLeDiff, Nat.reduceEqDiff, Int.reduceLT, Int.reduceBEq, Int.reduceBNe, Nat.reduceBEq, List.append_nil, Int.toNat_zero, Nat.sub_self, frS, ptr, bne_self_eq_false, beq_self_eq_true]; try rfl) (by rintro _ rfl; exact ok_plain rfl) ?_
    rintro r rfl
    rw [decide_eq_true rfl]
    simp -implicitDefEqProofs only [evr, id, reduceCtorEq, reduceIte, Nat.reduceMul, Nat.reduceAdd, Nat.reduceLT, Nat.reduceLeDiff, Nat.reduceEqDiff, Int.reduceLT, Int.reduceBEq, Int.reduceBNe, Nat.reduceBEq, List.append_nil, Int.toNat_zero, Nat.sub_self, frS, ptr, bne_self_eq_false, beq_self_eq_true]
    refine wcall_plain (refSame3C (Frm.codes cb) false false hs3 ht3 hs4 ht4 bP2 bQ2 bP2 bQ2) (by simp -implicitDefEqProofs only [evr, id, reduceCtorEq, reduceIte, Nat.reduceMul, Nat.reduceAdd, Nat.reduceLT, Nat.reduceLeDiff, Nat.reduceEqDiff, Int.reduceLT, Int.reduceBEq, Int.reduceBNe, Nat.reduceBEq, List.append_nil, Int.toNat_zero, Nat.sub_self, frS, ptr, bne_self_eq_false, beq_self_eq_true]; try rfl) (by rintro _ rfl; exact ok_plain rfl) ?_
    rintro r rfl
    rw [decide_eq_true (p := false = false ∧ P2 = P2 ∧ Q2 = Q2) ⟨rfl, rfl, rfl⟩]
    simp -implicitDefEqProofs only [evr, id, reduceCtorEq, reduceIte, Nat.reduceMul, Nat.reduceAdd, Nat.reduceLT, Nat.reduceLeDiff, Nat.reduceEqDiff, Int.reduceLT, Int.reduceBEq, Int.reduceBNe, Nat.reduceBEq, List.append_nil, Int.toNat_zero, Nat.sub_self, frS, ptr, bne_self_eq_false, beq_self_eq_true]
    (refine hk _ ?_; clear hk k; try show Sat _ _ _ _ _)
    first
      | refine Sat.cond_ff rfl ?_
      | refine Sat.cond_b rfl (fun h => absurd h (by decide)) (fun _ => ?_)
    refine Sat.skip ?_
    simp only [thenK]
    (repeat refine Sat.seq ?_)
    (refine Sat.region_tree (.keep [0, 3, 7] [] (.one 1 (.alt 2 (.one 4 (.free 5 (.alt 6 (.one 8 (.one 9 (.one 10 .done))) (.alt 8 (.one 6 (.one 9 (.one 10 .done))) .none)))) (.alt 4 (.alt 2 (.free 5 (.alt 6 (.one 8 (.one 9 (.one 10 .done))) (.alt 8 (.one 6 (.one 9 (.one 10 .done))) .none))) (.alt 8 (.one 2 (.one 5 (.one 6 (.one 9 (.one 10 .done))))) .none)) .none)))) (by kernel_rfl) (by kernel_rfl) (fun _ _ h => h) fun k hk => ?_; simp only [WOT, List.map_cons, List.map_nil, List.getD_cons_zero, List.getD_cons_succ]; simp -implicitDefEqProofs only [evr, id, reduceCtorEq, reduceIte, Nat.reduceMul, Nat.reduceAdd, Nat.reduceLT, Nat.reduceLeDiff, Nat.reduceEqDiff, Int.reduceLT, Int.reduceBEq, Int.reduceBNe, Nat.reduceBEq, List.append_nil, Int.toNat_zero, Nat.sub_self, frS, ptr, bne_self_eq_false, beq_self_eq_true, WOT])
    repeat' (first
      | (refine wcall_plain (nextC cb 128 (by decide) (by decide)) rfl (by rintro _ ⟨x, rfl, _⟩; exact ok_plain rfl) ?_; rintro r ⟨u, rfl, hu0, hu1⟩; simp -implicitDefEqProofs only [evr, id, reduceCtorEq, reduceIte, Nat.reduceMul, Nat.reduceAdd, Nat.reduceLT, Nat.reduceLeDiff, Nat.reduceEqDiff, Int.reduceLT, Int.reduceBEq, Int.reduceBNe, Nat.reduceBEq, List.append_nil, Int.toNat_zero, Nat.sub_self, frS, ptr, bne_self_eq_false, beq_self_eq_true])
      | (refine wcall_plain (nextC cb 5 (by decide) (by decide)) rfl (by rintro _ ⟨x, rfl, _⟩; exact ok_plain rfl) ?_; rintro r ⟨y, rfl, hy0, hy1⟩; obtain ⟨y, rfl⟩ := Int.eq_ofNat_of_zero_le hy0; have hy5 : y < 5 := (by omega); obtain ⟨n', hn'⟩ := pick5 u y hy5; simp -implicitDefEqProofs only [evr, id, reduceCtorEq, reduceIte, Nat.reduceMul, Nat.reduceAdd, Nat.reduceLT, Nat.reduceLeDiff, Nat.reduceEqDiff, Int.reduceLT, Int.reduceBEq, Int.reduceBNe, Nat.reduceBEq, List.append_nil, Int.toNat_zero, Nat.sub_self, frS, ptr, bne_self_eq_false, beq_self_eq_true])
      | (refine wcall_plain (nextC cb 18 (by decide) (by decide)) rfl (by rintro _ ⟨x, rfl, _⟩; exact ok_plain rfl) ?_; rintro r ⟨m', rfl, hm0, hm1⟩; simp -implicitDefEqProofs only [evr, id, reduceCtorEq, reduceIte, Nat.reduceMul, Nat.reduceAdd, Nat.reduceLT, Nat.reduceLeDiff, Nat.reduceEqDiff, Int.reduceLT, Int.reduceBEq, Int.reduceBNe, Nat.reduceBEq, List.append_nil, Int.toNat_zero, Nat.sub_self, frS, ptr, bne_self_eq_false, beq_self_eq_true])
      | omega
      | (refine hk _ ?_; clear hk; simp only [thenK, blockK, reduceIte]; (repeat refine Sat.seq ?_); refine Sat.region_k fun k2 hk2 => ?_; simp -implicitDefEqProofs only [evr, id, reduceCtorEq, reduceIte, Nat.reduceMul, Nat.reduceAdd, Nat.reduceLT, Nat.reduceLeDiff, Nat.reduceEqDiff, Int.reduceLT, Int.reduceBEq, Int.reduceBNe, Nat.reduceBEq, List.append_nil, Int.toNat_zero, Nat.sub_self, frS, ptr, bne_self_eq_false, beq_self_eq_true, ei1]; refine hk2 _ ?_; simp only [thenK, blockK]; refine ⟨(i + 1, n', m'), ⟨(by show i + 1 ≤ 3; omega), (by show -9223372036854775808 ≤ m'; omega), (by show m' ≤ 9223372036854775807; omega)⟩, (by show 3 - (i + 1) < 3 - i; omega), ?_⟩; simp -implicitDefEqProofs only [evr, id, reduceCtorEq, reduceIte, Nat.reduceMul, Nat.reduceAdd, Nat.reduceLT, Nat.reduceLeDiff, Nat.reduceEqDiff, Int.reduceLT, Int.reduceBEq, Int.reduceBNe, Nat.reduceBEq, List.append_nil, Int.toNat_zero, Nat.sub_self, frS, ptr, bne_self_eq_false, beq_self_eq_true, evl]; exact hn')
      | (with_reducible refine And.intro ?_ ?_)
      | (with_reducible intro blk))
  · obtain rfl : i = 3 := by simp only [decide_eq_false_iff_not] at h; omega
    refine Sat.exit ?_
    simp only [thenK, blockK, reduceIte]
    (repeat refine Sat.seq ?_)
    (refine Sat.region_k fun k hk => ?_; simp -implicitDefEqProofs only [evr, id, reduceCtorEq, reduceIte, Nat.reduceMul, Nat.reduceAdd, Nat.reduceLT, Nat.reduceLeDiff, Nat.reduceEqDiff, Int.reduceLT, Int.reduceBEq, Int.reduceBNe, Nat.reduceBEq, List.append_nil, Int.toNat_zero, Nat.sub_self, frS, ptr, bne_self_eq_false, beq_self_eq_true])
    refine wcall_plain (nextC cb 7 (by decide) (by decide)) rfl (by rintro _ ⟨x, rfl, _⟩; exact ok_plain rfl) ?_
    rintro r ⟨j, rfl, hj0, hj1⟩
    simp -implicitDefEqProofs only [evr, id, reduceCtorEq, reduceIte, Nat.reduceMul, Nat.reduceAdd, Nat.reduceLT, Nat.reduceLeDiff, Nat.reduceEqDiff, Int.reduceLT, Int.reduceBEq, Int.reduceBNe, Nat.reduceBEq, List.append_nil, Int.toNat_zero, Nat.sub_self, frS, ptr, bne_self_eq_false, beq_self_eq_true]
    (refine hk _ ?_; clear hk k; try show Sat _ _ _ _ _)
    (repeat refine Sat.seq ?_)
    (refine Sat.region_k fun k hk => ?_; simp -implicitDefEqProofs only [evr, id, reduceCtorEq, reduceIte, Nat.reduceMul, Nat.reduceAdd, Nat.reduceLT, Nat.reduceLeDiff, Nat.reduceEqDiff, Int.reduceLT, Int.reduceBEq, Int.reduceBNe, Nat.reduceBEq, List.append_nil, Int.toNat_zero, Nat.sub_self, frS, ptr, bne_self_eq_false, beq_self_eq_true])
    refine wcall_slice (stFailG (Frm.codes cb) j neg hp' hq' hq0 hp30 hq30) rfl (by simp -implicitDefEqProofs only [evr, id, reduceCtorEq, reduceIte, Nat.reduceMul, Nat.reduceAdd, Nat.reduceLT, Nat.reduceLeDiff, Nat.reduceEqDiff, Int.reduceLT, Int.reduceBEq, Int.reduceBNe, Nat.reduceBEq, List.append_nil, Int.toNat_zero, Nat.sub_self, frS, ptr, bne_self_eq_false, beq_self_eq_true]; try rfl) ?_
    intro r hr
    obtain ⟨f, E, P, Q, rfl, ⟨su, sv, rfl, hs, ht⟩, hd, bP, bQ⟩ := failG_cases hr
    have hs3 := hs
    have ht3 := ht
    obtain ⟨a5, c5, z5, r5, x5, rfl, _⟩ := hs
    obtain ⟨a6, c6, z6, r6, x6, rfl, _⟩ := ht
    simp only [frS, evr, id, reduceCtorEq, reduceIte, Nat.reduceMul, Nat.reduceAdd, Nat.reduceLT, Nat.reduceLeDiff, Nat.reduceEqDiff, Int.reduceLT, Int.reduceBEq, Int.reduceBNe, Nat.reduceBEq, List.append_nil, Int.toNat_zero, Nat.sub_self, frS, ptr, bne_self_eq_false, beq_self_eq_true]
    intro b23
    (refine hk _ ?_; clear hk k; try show Sat _ _ _ _ _)
    (repeat refine Sat.seq ?_)
    (refine Sat.region_k fun k hk => ?_; simp -implicitDefEqProofs only [evr, id, reduceCtorEq, reduceIte, Nat.reduceMul, Nat.reduceAdd, Nat.reduceLT, Nat.reduceLeDiff, Nat.reduceEqDiff, Int.reduceLT, Int.reduceBEq, Int.reduceBNe, Nat.reduceBEq, List.append_nil, Int.toNat_zero, Nat.sub_self, frS, ptr, bne_self_eq_false, beq_self_eq_true])
    refine wcall_slice (refFailC (Frm.codes cb) j neg hp' hq' hp30 hq30) rfl (by simp -implicitDefEqProofs only [evr, id, reduceCtorEq, reduceIte, Nat.reduceMul, Nat.reduceAdd, Nat.reduceLT, Nat.reduceLeDiff, Nat.reduceEqDiff, Int.reduceLT, Int.reduceBEq, Int.reduceBNe, Nat.reduceBEq, List.append_nil, Int.toNat_zero, Nat.sub_self, frS, ptr, bne_self_eq_false, beq_self_eq_true]; try rfl) ?_
    intro r hr2
    obtain ⟨f, E', P', Q', rfl, ⟨su, sv, rfl, hs, ht⟩, hd2, _, _⟩ := failG_cases hr2
    obtain ⟨rfl, rfl, rfl⟩ := failD_eq hd hd2
    have hs4 := hs
    have ht4 := ht
    obtain ⟨a7, c7, z7, r7, x7, rfl, _⟩ := hs
    obtain ⟨a8, c8, z8, r8, x8, rfl, _⟩ := ht
    simp only [frS, evr, id, reduceCtorEq, reduceIte, Nat.reduceMul, Nat.reduceAdd, Nat.reduceLT, Nat.reduceLeDiff, Nat.reduceEqDiff, Int.reduceLT, Int.reduceBEq, Int.reduceBNe, Nat.reduceBEq, List.append_nil, Int.toNat_zero, Nat.sub_self, frS, ptr, bne_self_eq_false, beq_self_eq_true]
    intro b25
    (refine hk _ ?_; clear hk k; try show Sat _ _ _ _ _)
    (repeat refine Sat.seq ?_)
    (refine Sat.region_k fun k hk => ?_; simp -implicitDefEqProofs only [evr, id, reduceCtorEq, reduceIte, Nat.reduceMul, Nat.reduceAdd, Nat.reduceLT, Nat.reduceLeDiff, Nat.reduceEqDiff, Int.reduceLT, Int.reduceBEq, Int.reduceBNe, Nat.reduceBEq, List.append_nil, Int.toNat_zero, Nat.sub_self, frS, ptr, bne_self_eq_false, beq_self_eq_true])
    refine wcall_plain (refSame3C (Frm.codes cb) false false hs3 ht3 hs4 ht4 bP bQ bP bQ) (by simp -implicitDefEqProofs only [evr, id, reduceCtorEq, reduceIte, Nat.reduceMul, Nat.reduceAdd, Nat.reduceLT, Nat.reduceLeDiff, Nat.reduceEqDiff, Int.reduceLT, Int.reduceBEq, Int.reduceBNe, Nat.reduceBEq, List.append_nil, Int.toNat_zero, Nat.sub_self, frS, ptr, bne_self_eq_false, beq_self_eq_true]; try rfl) (by rintro _ rfl; exact ok_plain rfl) ?_
    rintro r rfl
    rw [decide_eq_true (p := false = false ∧ P = P ∧ Q = Q) ⟨rfl, rfl, rfl⟩]
    simp -implicitDefEqProofs only [evr, id, reduceCtorEq, reduceIte, Nat.reduceMul, Nat.reduceAdd, Nat.reduceLT, Nat.reduceLeDiff, Nat.reduceEqDiff, Int.reduceLT, Int.reduceBEq, Int.reduceBNe, Nat.reduceBEq, List.append_nil, Int.toNat_zero, Nat.sub_self, frS, ptr, bne_self_eq_false, beq_self_eq_true]
    (refine hk _ ?_; clear hk k; try show Sat _ _ _ _ _)
    refine Sat.ret ?_
    simp only [Try.results5, evr, id, reduceCtorEq, reduceIte, Nat.reduceMul, Nat.reduceAdd, Nat.reduceLT, Nat.reduceLeDiff, Nat.reduceEqDiff, Int.reduceLT, Int.reduceBEq, Int.reduceBNe, Nat.reduceBEq, List.append_nil, Int.toNat_zero, Nat.sub_self, frS, ptr, bne_self_eq_false, beq_self_eq_true]
theorem exact_holds : Rows.StoppingExactSaid := stoppingExact.of_walk fun a0 z0 a1 a2 w ⟨h, hz⟩ h1 h2 => by
  obtain ⟨a, cap, rfl, hok⟩ := slB_of h
  exact walk_of (exactC a cap z0 hz a1 a2 (by have := bounds_i64 h2; omega)) (fun s hs => by
    rcases List.mem_cons.1 hs with rfl | hs
    · exact hok
    · rcases List.mem_cons.1 hs with rfl | hs
      · trivial
      · rw [List.mem_singleton.1 hs]; trivial)
#print axioms exact_holds
end Go.Proofs.Ytagmohpafjncfaa
