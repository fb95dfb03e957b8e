/- FractionLimits: a fraction of 64 full limbs: its sum and its double are beyond the limit, its quotient and its differences are not. The law holds of every input. -/
import Derived.Test.YtjaplngagbiimaaDoorPk2
set_option linter.unusedSimpArgs false
set_option linter.unusedVariables false
namespace Go.Proofs.YtjaplngagbiimaaDoor
open Eng Lmb Go.RowKit

set_option maxHeartbeats 4000000 in
set_option maxRecDepth 100000 in
theorem limitsC (n : Int) (hn0 : 0 ≤ n) (hn1 : n < 4294967296) : Contract Frm.nil Tryd.prog 5 [.i .u32 n] (fun r => r = .b true) := by
  obtain ⟨M, hM⟩ : ∃ M, FullN M := ⟨_, fullN_is⟩
  refine contract_of Tryd.func5 rfl (by kernel_rfl) ?_
  simp only [Tryd.ntmps5, argEnv]
  (repeat refine Sat.seq ?_)
  (refine Sat.region_k fun k hk => ?_; simp -implicitDefEqProofs only [evr, id, reduceCtorEq, reduceIte, Nat.reduceMul, Nat.reduceAdd, Nat.reduceLT, Nat.reduceLeDiff, Nat.reduceEqDiff, Int.reduceLT, Int.reduceBEq, Int.reduceBNe, Nat.reduceBEq, List.append_nil, Int.toNat_zero, Int.toNat_natCast, Nat.sub_self, frS, ptr]; refine hk _ ?_; clear hk k; try show Sat _ _ _ _ _)
  (repeat refine Sat.seq ?_)
  (refine Sat.region_k fun k hk => ?_; simp -implicitDefEqProofs only [evr, id, reduceCtorEq, reduceIte, Nat.reduceMul, Nat.reduceAdd, Nat.reduceLT, Nat.reduceLeDiff, Nat.reduceEqDiff, Int.reduceLT, Int.reduceBEq, Int.reduceBNe, Nat.reduceBEq, List.append_nil, Int.toNat_zero, Int.toNat_natCast, Nat.sub_self, frS, ptr])
  refine wcall_plain (awakeC Frm.nil) rfl (by rintro _ rfl; exact ok_plain rfl) ?_
  rintro r rfl
  simp -implicitDefEqProofs only [evr, id, reduceCtorEq, reduceIte, Nat.reduceMul, Nat.reduceAdd, Nat.reduceLT, Nat.reduceLeDiff, Nat.reduceEqDiff, Int.reduceLT, Int.reduceBEq, Int.reduceBNe, Nat.reduceBEq, List.append_nil, Int.toNat_zero, Int.toNat_natCast, Nat.sub_self, frS, ptr]
  (refine hk _ ?_; clear hk k; try show Sat _ _ _ _ _)
  (repeat refine Sat.seq ?_)
  refine Sat.cond_b rfl (fun h => absurd h (by decide)) (fun _ => ?_)
  refine Sat.skip ?_
  simp only [thenK]
  refine Sat.seq ?_
  (refine Sat.region_k fun k hk => ?_; simp -implicitDefEqProofs only [evr, id, reduceCtorEq, reduceIte, Nat.reduceMul, Nat.reduceAdd, Nat.reduceLT, Nat.reduceLeDiff, Nat.reduceEqDiff, Int.reduceLT, Int.reduceBEq, Int.reduceBNe, Nat.reduceBEq, List.append_nil, Int.toNat_zero, Int.toNat_natCast, Nat.sub_self, frS, ptr])
  refine And.intro (by decide) (fun a cap => ?_)
  (refine hk _ ?_; clear hk k; try show Sat _ _ _ _ _)
  (repeat refine Sat.seq ?_)
  (refine Sat.region_k fun k hk => ?_; simp -implicitDefEqProofs only [evr, id, reduceCtorEq, reduceIte, Nat.reduceMul, Nat.reduceAdd, Nat.reduceLT, Nat.reduceLeDiff, Nat.reduceEqDiff, Int.reduceLT, Int.reduceBEq, Int.reduceBNe, Nat.reduceBEq, List.append_nil, Int.toNat_zero, Int.toNat_natCast, Nat.sub_self, frS, ptr]; refine hk _ ?_; clear hk k; try show Sat _ _ _ _ _)
  (repeat refine Sat.seq ?_)
  refine Sat.block ?_
  (repeat refine Sat.seq ?_)
  refine Sat.loop (ι := Nat) (fun i => ⟨94, [(4, .i .i64 (i : Nat)), (3, .os 0 a 64 cap), (0, .i .u32 n)], [.row a 3 64 cap 1 (fillR i)]⟩) (fun i => i ≤ 64) (fun i => 64 - i) 0 (by decide) (by simp -implicitDefEqProofs only [evr, id, reduceCtorEq, reduceIte, Nat.reduceMul, Nat.reduceAdd, Nat.reduceLT, Nat.reduceLeDiff, Nat.reduceEqDiff, Int.reduceLT, Int.reduceBEq, Int.reduceBNe, Nat.reduceBEq, List.append_nil, Int.toNat_zero, Int.toNat_natCast, Nat.sub_self, frS, ptr, evl]; exact ⟨⟨rfl, rfl⟩, rfl, fill_new⟩) ?_
  intro i hi
  (repeat refine Sat.seq ?_)
  (refine Sat.region_k fun k hk => ?_; simp -implicitDefEqProofs only [evr, id, reduceCtorEq, reduceIte, Nat.reduceMul, Nat.reduceAdd, Nat.reduceLT, Nat.reduceLeDiff, Nat.reduceEqDiff, Int.reduceLT, Int.reduceBEq, Int.reduceBNe, Nat.reduceBEq, List.append_nil, Int.toNat_zero, Int.toNat_natCast, Nat.sub_self, frS, ptr]; refine hk _ ?_; clear hk k; try show Sat _ _ _ _ _)
  (repeat refine Sat.seq ?_)
  refine Sat.cond_b rfl (fun h => ?_) (fun h => ?_)
  · simp only [decide_eq_true_eq] at h
    have hi2 : i < 64 := by omega
    have ei : IntKind.i64.wrap ((i : Int) + 1) = ((i + 1 : Nat) : Int) := by rw [w64 (by omega)]; rfl
    refine Sat.skip ?_
    simp only [thenK]
    (repeat refine Sat.seq ?_)
    refine Sat.block ?_
    (repeat refine Sat.seq ?_)
    (refine Sat.region_k fun k hk => ?_; simp -implicitDefEqProofs only [evr, id, reduceCtorEq, reduceIte, Nat.reduceMul, Nat.reduceAdd, Nat.reduceLT, Nat.reduceLeDiff, Nat.reduceEqDiff, Int.reduceLT, Int.reduceBEq, Int.reduceBNe, Nat.reduceBEq, List.append_nil, Int.toNat_zero, Int.toNat_natCast, Nat.sub_self, frS, ptr])
    refine ⟨by omega, hi2, ?_⟩
    refine hk _ ?_
    clear hk k
    simp only [thenK, blockK]
    (repeat refine Sat.seq ?_)
    refine Sat.region_k fun k hk => ?_
    simp -implicitDefEqProofs only [evr, id, reduceCtorEq, reduceIte, Nat.reduceMul, Nat.reduceAdd, Nat.reduceLT, Nat.reduceLeDiff, Nat.reduceEqDiff, Int.reduceLT, Int.reduceBEq, Int.reduceBNe, Nat.reduceBEq, List.append_nil, Int.toNat_zero, Int.toNat_natCast, Nat.sub_self, frS, ptr, ei]
    refine hk _ ?_
    simp only [thenK, blockK]
    refine ⟨i + 1, by omega, by omega, ?_⟩
    simp -implicitDefEqProofs only [evr, id, reduceCtorEq, reduceIte, Nat.reduceMul, Nat.reduceAdd, Nat.reduceLT, Nat.reduceLeDiff, Nat.reduceEqDiff, Int.reduceLT, Int.reduceBEq, Int.reduceBNe, Nat.reduceBEq, List.append_nil, Int.toNat_zero, Int.toNat_natCast, Nat.sub_self, frS, ptr, evl]
    exact fill_put i
  · simp only [decide_eq_false_iff_not] at h
    obtain rfl : i = 64 := by omega
    refine Sat.exit ?_
    simp only [thenK, blockK, reduceIte]
    refine Sat.settle2 3 rfl rfl ?_
    (repeat refine Sat.seq ?_)
    (refine Sat.region_k fun k hk => ?_; simp -implicitDefEqProofs only [evr, id, reduceCtorEq, reduceIte, Nat.reduceMul, Nat.reduceAdd, Nat.reduceLT, Nat.reduceLeDiff, Nat.reduceEqDiff, Int.reduceLT, Int.reduceBEq, Int.reduceBNe, Nat.reduceBEq, List.append_nil, Int.toNat_zero, Int.toNat_natCast, Nat.sub_self, frS, ptr])
    intro b1 b2 b3 b4 b5
    (refine hk _ ?_; clear hk k; try show Sat _ _ _ _ _)
    refine Sat.settleLeafF 4 2 rfl rfl rfl ?_
    simp only [List.set_cons_succ, List.set_cons_zero]
    refine Sat.settleLeafF 5 1 rfl rfl rfl ?_
    simp only [List.set_cons_succ, List.set_cons_zero]
    refine Sat.settleLeafF 5 2 rfl rfl rfl ?_
    simp only [List.set_cons_succ, List.set_cons_zero]
    have nM : Nats (.sl a 64 cap 1 (fillR 64)) M := fill_nats hM
    have n1 : ∀ b : Nat, Nats (.sl (some ⟨b, 0, none⟩) 1 1 1 (rdL [SV.i .i64 1] 1)) 1 := fun b => nats_one (x := 1) (by omega) (by omega)
    have hp := hM.pos
    refine Sat.le (st' := ⟨94, [(6, .op 5 b5 0), (5, .op 4 b4 0), (0, .i .u32 n)], [.gone, .gone, .gone, .gone, .box b4 29 [.b false, .sl a 64 cap 1 (fillR 64), .sl (some ⟨b1, 0, none⟩) 1 1 1 (rdL [SV.i .i64 1] 1)], .box b5 29 [.b false, .sl (some ⟨b2, 0, none⟩) 1 1 1 (rdL [SV.i .i64 1] 1), .sl (some ⟨b3, 0, none⟩) 1 1 1 (rdL [SV.i .i64 1] 1)]]⟩) ?_ (by simp -implicitDefEqProofs only [evr, id, reduceCtorEq, reduceIte, Nat.reduceMul, Nat.reduceAdd, Nat.reduceLT, Nat.reduceLeDiff, Nat.reduceEqDiff, Int.reduceLT, Int.reduceBEq, Int.reduceBNe, Nat.reduceBEq, List.append_nil, Int.toNat_zero, Int.toNat_natCast, Nat.sub_self, frS, ptr, evl])
    (repeat refine Sat.seq ?_)
    (refine Sat.region_k fun k hk => ?_; simp -implicitDefEqProofs only [evr, id, reduceCtorEq, reduceIte, Nat.reduceMul, Nat.reduceAdd, Nat.reduceLT, Nat.reduceLeDiff, Nat.reduceEqDiff, Int.reduceLT, Int.reduceBEq, Int.reduceBNe, Nat.reduceBEq, List.append_nil, Int.toNat_zero, Int.toNat_natCast, Nat.sub_self, frS, ptr])
    refine wcall_slice (fractionAddC Frm.nil false false nM (n1 b1) (n1 b2) (n1 b3) (hM.small (by omega)) (hM.small (by omega)) (hM.small (by omega)) (hM.small (by omega)) (hM.small (by omega)) (hM.small (by omega)) (hM.small (by omega)) (hM.small (by omega)) (by decide) (by decide)) rfl (by simp only [frS, evr, id, reduceCtorEq, reduceIte, Nat.reduceMul, Nat.reduceAdd, Nat.reduceLT, Nat.reduceLeDiff, Nat.reduceEqDiff, Int.reduceLT, Int.reduceBEq, Int.reduceBNe, Nat.reduceBEq, List.append_nil, Int.toNat_zero, Int.toNat_natCast, Nat.sub_self, frS, ptr]; try rfl) ?_
    rintro _ (⟨hbad, _⟩ | ⟨_, f, rfl, hf⟩)
    · rw [hM.add] at hbad; cases hbad
    obtain ⟨gnu, gau, glu, gcu, gzu, gru, kau, klu, kcu, kzu, kru, rfl⟩ := frS_open hf
    try simp only [frS, evr, id, reduceCtorEq, reduceIte, Nat.reduceMul, Nat.reduceAdd, Nat.reduceLT, Nat.reduceLeDiff, Nat.reduceEqDiff, Int.reduceLT, Int.reduceBEq, Int.reduceBNe, Nat.reduceBEq, List.append_nil, Int.toNat_zero, Int.toNat_natCast, Nat.sub_self, frS, ptr]
    intro b7
    (refine hk _ ?_; clear hk k; try show Sat _ _ _ _ _)
    (repeat refine Sat.seq ?_)
    (refine Sat.region_k fun k hk => ?_; simp -implicitDefEqProofs only [evr, id, reduceCtorEq, reduceIte, Nat.reduceMul, Nat.reduceAdd, Nat.reduceLT, Nat.reduceLeDiff, Nat.reduceEqDiff, Int.reduceLT, Int.reduceBEq, Int.reduceBNe, Nat.reduceBEq, List.append_nil, Int.toNat_zero, Int.toNat_natCast, Nat.sub_self, frS, ptr])
    intro b8 b9
    have n2 : ∀ b : Nat, Nats (.sl (some ⟨b, 0, none⟩) 1 1 1 (rdL [.i .i64 2] 1)) 2 := fun b => nats_one (x := 2) (by omega) (by omega)
    have hsm : ∀ x : Nat, x ≤ 2 * M + 2 → (x : Int) < pw 256 := fun x hx => hM.small hx
    refine wcall_leaf [.os 7 (some ⟨b8, 0, none⟩) 1 1, .os 8 (some ⟨b9, 0, none⟩) 1 1] rfl rfl (fractionMulC Frm.nil false false nM (n1 b1) (n2 b8) (n1 b9) (hsm _ (by omega)) (hsm _ (by omega)) (hsm _ (by omega)) (hsm _ (by omega)) (hsm _ (by omega)) (hsm _ (by omega)) (by decide) (by decide)) (by simp only [List.map_cons, List.map_nil, leafS_frS, frS]; simp [roSl, asAny, asRead, frz, frzOne]) ?_
    rintro _ (⟨hbad, _⟩ | ⟨_, f, rfl, hf⟩)
    · rw [hM.mul] at hbad; cases hbad
    obtain ⟨gnv, gav, glv, gcv, gzv, grv, kav, klv, kcv, kzv, krv, rfl⟩ := frS_open hf
    try simp only [frS, evr, id, reduceCtorEq, reduceIte, Nat.reduceMul, Nat.reduceAdd, Nat.reduceLT, Nat.reduceLeDiff, Nat.reduceEqDiff, Int.reduceLT, Int.reduceBEq, Int.reduceBNe, Nat.reduceBEq, List.append_nil, Int.toNat_zero, Int.toNat_natCast, Nat.sub_self, frS, ptr]
    intro b10
    (refine hk _ ?_; clear hk k; try show Sat _ _ _ _ _)
    (repeat refine Sat.seq ?_)
    (refine Sat.region_k fun k hk => ?_; simp -implicitDefEqProofs only [evr, id, reduceCtorEq, reduceIte, Nat.reduceMul, Nat.reduceAdd, Nat.reduceLT, Nat.reduceLeDiff, Nat.reduceEqDiff, Int.reduceLT, Int.reduceBEq, Int.reduceBNe, Nat.reduceBEq, List.append_nil, Int.toNat_zero, Int.toNat_natCast, Nat.sub_self, frS, ptr])
    refine wcall_slice (fractionDivC Frm.nil false false nM (n1 b1) nM (n1 b1) (hsm _ (by omega)) (hsm _ (by omega)) (hsm _ (by omega)) (hsm _ (by omega)) (hsm _ (by omega)) (hsm _ (by omega)) (by decide)) rfl (by simp only [frS, evr, id, reduceCtorEq, reduceIte, Nat.reduceMul, Nat.reduceAdd, Nat.reduceLT, Nat.reduceLeDiff, Nat.reduceEqDiff, Int.reduceLT, Int.reduceBEq, Int.reduceBNe, Nat.reduceBEq, List.append_nil, Int.toNat_zero, Int.toNat_natCast, Nat.sub_self, frS, ptr]; try rfl) ?_
    rintro _ (⟨h0, _⟩ | ⟨_, (⟨_, f, rfl, hf⟩ | ⟨hbad, _⟩)⟩)
    · omega
    rotate_left
    · rw [hM.dN, hM.dP, hM.dQ] at hbad
      exact absurd hbad (by decide +kernel)
    rw [hM.dN, hM.dP, hM.dQ] at hf
    obtain ⟨sp, sq, rfl, hdp, hdq⟩ := hf
    have hdp' := hdp
    have hdq' := hdq
    obtain ⟨a1, c1, z1, r1, x1, rfl, _⟩ := hdp
    obtain ⟨a2, c2, z2, r2, x2, rfl, _⟩ := hdq
    try simp only [frS, evr, id, reduceCtorEq, reduceIte, Nat.reduceMul, Nat.reduceAdd, Nat.reduceLT, Nat.reduceLeDiff, Nat.reduceEqDiff, Int.reduceLT, Int.reduceBEq, Int.reduceBNe, Nat.reduceBEq, List.append_nil, Int.toNat_zero, Int.toNat_natCast, Nat.sub_self, frS, ptr]
    intro b11
    (refine hk _ ?_; clear hk k; try show Sat _ _ _ _ _)
    obtain ⟨c, hc0, hc1, ec⟩ : ∃ c : Nat, 0 < c ∧ c ≤ 1000 ∧ IntKind.i64.wrap (1 + (IntKind.i64.wrap n).tmod 1000) = (c : Int) := by
      refine ⟨(1 + n % 1000).toNat, by omega, by omega, ?_⟩
      rw [w64 (x := n) (by omega), Int.tmod_eq_emod_of_nonneg hn0, w64 (by omega)]
      omega
    have nc : ∀ b : Nat, Nats (.sl (some ⟨b, 0, none⟩) 1 1 1 (rdL [.i .i64 (c : Int)] 1)) c := fun b => nats_one (by omega) (by omega)
    obtain ⟨s1, s2, s3, s4⟩ := hM.sub hc1
    (repeat refine Sat.seq ?_)
    refine Sat.region_k fun k hk => ?_
    simp -implicitDefEqProofs only [evr, id, reduceCtorEq, reduceIte, Nat.reduceMul, Nat.reduceAdd, Nat.reduceLT, Nat.reduceLeDiff, Nat.reduceEqDiff, Int.reduceLT, Int.reduceBEq, Int.reduceBNe, Nat.reduceBEq, List.append_nil, Int.toNat_zero, Int.toNat_natCast, Nat.sub_self, frS, ptr, ec]
    refine ⟨by decide, fun b12 b13 => ?_⟩
    have hsub := fractionSubC Frm.nil false false nM (n1 b1) (nc b12) (n1 b13) (hsm _ (by omega)) (hsm _ (by omega)) (hsm _ (by omega)) (hsm _ (by omega)) (hsm _ (by omega)) (hsm _ (by omega)) (hsm _ (by omega)) (hsm _ (by omega)) (by decide) (by decide)
    rw [s1, s2, s3] at hsub
    refine wcall_leaf [.os 11 (some ⟨b12, 0, none⟩) 1 1, .os 12 (some ⟨b13, 0, none⟩) 1 1] rfl rfl hsub (by simp only [List.map_cons, List.map_nil, leafS_frS, frS]; simp [roSl, asAny, asRead, frz, frzOne]) ?_
    rintro _ (⟨_, f, rfl, hf⟩ | ⟨hbad, _⟩)
    rotate_left
    · rw [s4] at hbad; cases hbad
    obtain ⟨sp, sq, rfl, hep, heq⟩ := hf
    have hep' := hep
    obtain ⟨a3, c3, z3, r3, x3, rfl, _⟩ := hep
    obtain ⟨a4, c4, z4, r4, x4, rfl, _⟩ := heq
    have hlen := hM.len hc1 hep'
    try simp only [frS, evr, id, reduceCtorEq, reduceIte, Nat.reduceMul, Nat.reduceAdd, Nat.reduceLT, Nat.reduceLeDiff, Nat.reduceEqDiff, Int.reduceLT, Int.reduceBEq, Int.reduceBNe, Nat.reduceBEq, List.append_nil, Int.toNat_zero, Int.toNat_natCast, Nat.sub_self, frS, ptr]
    intro b14
    (refine hk _ ?_; clear hk k; try show Sat _ _ _ _ _)
    have hs := refSame3C Frm.nil false false hdp' hdq' (n1 b2) (n1 b3) (hM.small5 (by omega)) (hM.small5 (by omega)) (hM.small5 (by omega)) (hM.small5 (by omega))
    rw [decide_eq_true ⟨rfl, rfl, rfl⟩] at hs
    have hv := fractionValidC Frm.nil false nM (n1 b1) (hM.small5 (by omega)) (hM.small5 (by omega))
    rw [hM.ok] at hv
    (repeat refine Sat.seq ?_)
    (refine Sat.region_k fun k hk => ?_; simp -implicitDefEqProofs only [evr, id, reduceCtorEq, reduceIte, Nat.reduceMul, Nat.reduceAdd, Nat.reduceLT, Nat.reduceLeDiff, Nat.reduceEqDiff, Int.reduceLT, Int.reduceBEq, Int.reduceBNe, Nat.reduceBEq, List.append_nil, Int.toNat_zero, Int.toNat_natCast, Nat.sub_self, frS, ptr])
    refine wcall_plain hv ?_ (fun _ h => by subst h; exact ok_plain rfl) ?_
    · simp only [frS, evr, id, reduceCtorEq, reduceIte, Nat.reduceMul, Nat.reduceAdd, Nat.reduceLT, Nat.reduceLeDiff, Nat.reduceEqDiff, Int.reduceLT, Int.reduceBEq, Int.reduceBNe, Nat.reduceBEq, List.append_nil, Int.toNat_zero, Int.toNat_natCast, Nat.sub_self, frS, ptr]
      try rfl
    rintro _ rfl
    simp -implicitDefEqProofs only [evr, id, reduceCtorEq, reduceIte, Nat.reduceMul, Nat.reduceAdd, Nat.reduceLT, Nat.reduceLeDiff, Nat.reduceEqDiff, Int.reduceLT, Int.reduceBEq, Int.reduceBNe, Nat.reduceBEq, List.append_nil, Int.toNat_zero, Int.toNat_natCast, Nat.sub_self, frS, ptr]
    refine wcall_plain hs ?_ (fun _ h => by subst h; exact ok_plain rfl) ?_
    · simp only [frS, evr, id, reduceCtorEq, reduceIte, Nat.reduceMul, Nat.reduceAdd, Nat.reduceLT, Nat.reduceLeDiff, Nat.reduceEqDiff, Int.reduceLT, Int.reduceBEq, Int.reduceBNe, Nat.reduceBEq, List.append_nil, Int.toNat_zero, Int.toNat_natCast, Nat.sub_self, frS, ptr]
      try rfl
    rintro _ rfl
    simp only [hlen, evr, id, reduceCtorEq, reduceIte, Nat.reduceMul, Nat.reduceAdd, Nat.reduceLT, Nat.reduceLeDiff, Nat.reduceEqDiff, Int.reduceLT, Int.reduceBEq, Int.reduceBNe, Nat.reduceBEq, List.append_nil, Int.toNat_zero, Int.toNat_natCast, Nat.sub_self, frS, ptr]
    refine hk _ ?_
    clear hk
    refine Sat.ret ?_
    simp only [Tryd.results5, evr, id, reduceCtorEq, reduceIte, Nat.reduceMul, Nat.reduceAdd, Nat.reduceLT, Nat.reduceLeDiff, Nat.reduceEqDiff, Int.reduceLT, Int.reduceBEq, Int.reduceBNe, Nat.reduceBEq, List.append_nil, Int.toNat_zero, Int.toNat_natCast, Nat.sub_self, frS, ptr]
theorem limits_holds : Rows.FractionLimitsCardSaid := fractionLimits.card_of_walk fun a0 w hL h => by
  have hb := bounds_u32 h
  exact walk_of (limitsC a0 (by omega) (by omega)) (fun s hs => by rw [List.mem_singleton.1 hs]; trivial)
end Go.Proofs.YtjaplngagbiimaaDoor
