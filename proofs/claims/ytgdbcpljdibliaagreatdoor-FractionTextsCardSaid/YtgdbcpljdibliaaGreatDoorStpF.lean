/- Fractions, by the evaluator: package fraction's Reduce and Compare. -/
import Derived.Test.YtgdbcpljdibliaaGreatDoorNtE
import Derived.Test.YtgdbcpljdibliaaGreatDoorPk4
set_option linter.unusedSimpArgs false
set_option linter.unusedVariables false
namespace Go.Proofs.YtgdbcpljdibliaaGreatDoor
open Eng Lmb
def frS (neg : Bool) (sp sq : SV) : SV := .agg 3 fun j => [SV.b neg, sp, sq].getD j default
def FrS (r : SV) (neg : Bool) (p q : Nat) : Prop := ∃ sp sq, r = frS neg sp sq ∧ Nats sp p ∧ Nats sq q
theorem Nats.len {a : Option Addr} {len cap sz n : Nat} {rd : Nat → Nat → SV} (h : Nats (.sl a len cap sz rd) n) : (0 < (len : Int)) = (0 < n) := by
  obtain ⟨a', cap', sz', rd', xs, he, _, _, hd⟩ := h
  simp only [SV.sl.injEq] at he
  have := hd.len_zero
  apply propext
  rw [he.2.1]
  omega
set_option maxRecDepth 100000 in
theorem fractionReducedC (F : Frm) (neg : Bool) {sp sq : SV} {p q : Nat} (hp : Nats sp p) (hq : Nats sq q) (h1 : (p : Int) < pw 256) (h2 : (q : Int) < pw 256) (h0 : 0 < q) : Contract F Tryz.prog 50 [.b neg, sp, sq] (fun r => FrS r (neg && decide (0 < p / Nat.gcd p q)) (p / Nat.gcd p q) (q / Nat.gcd p q)) := by
  have hp' := hp
  have hq' := hq
  have hg : 0 < Nat.gcd p q := Nat.gcd_pos_of_pos_right _ h0
  obtain ⟨a1, c1, z1, r1, x1, rfl, _⟩ := hp
  obtain ⟨a2, c2, z2, r2, x2, rfl, _⟩ := hq
  refine contract_of Tryz.func50 rfl (by kernel_rfl) ?_
  simp only [Tryz.ntmps50, argEnv]
  (repeat refine Sat.seq ?_)
  (refine Sat.region_k fun k hk => ?_; simp -implicitDefEqProofs only [evr, id, reduceCtorEq, reduceIte, Nat.reduceMul, Nat.reduceAdd, Nat.reduceLT, Nat.reduceLeDiff, Nat.reduceEqDiff, Int.reduceLT, Int.reduceBEq, Int.reduceBNe, Nat.reduceBEq, evn])
  intro b6
  (refine hk _ ?_; clear hk k; try show Sat _ _ _ _ _)
  (repeat refine Sat.seq ?_)
  (refine Sat.region_k fun k hk => ?_; simp -implicitDefEqProofs only [evr, id, reduceCtorEq, reduceIte, Nat.reduceMul, Nat.reduceAdd, Nat.reduceLT, Nat.reduceLeDiff, Nat.reduceEqDiff, Int.reduceLT, Int.reduceBEq, Int.reduceBNe, Nat.reduceBEq, evn])
  refine wcall_slice (gcdC F hp' hq' h1 h2) rfl rfl ?_
  intro r hs
  have hgs := hs
  obtain ⟨a3, c3, z3, r3, x3, rfl, _⟩ := hs
  simp -implicitDefEqProofs only [evr, id, reduceCtorEq, reduceIte, Nat.reduceMul, Nat.reduceAdd, Nat.reduceLT, Nat.reduceLeDiff, Nat.reduceEqDiff, Int.reduceLT, Int.reduceBEq, Int.reduceBNe, Nat.reduceBEq, evn]
  (refine hk _ ?_; clear hk k; try show Sat _ _ _ _ _)
  (repeat refine Sat.seq ?_)
  (refine Sat.region_k fun k hk => ?_; simp -implicitDefEqProofs only [evr, id, reduceCtorEq, reduceIte, Nat.reduceMul, Nat.reduceAdd, Nat.reduceLT, Nat.reduceLeDiff, Nat.reduceEqDiff, Int.reduceLT, Int.reduceBEq, Int.reduceBNe, Nat.reduceBEq, evn])
  refine wcall_slice (divModC F hp' hgs h1 hg) rfl rfl ?_
  rintro r ⟨s, t, rfl, hs, ht⟩
  have hs4 := hs
  obtain ⟨a4, c4, z4, r4, x4, rfl, _⟩ := hs
  obtain ⟨a5, c5, z5, r5, x5, rfl, _⟩ := ht
  simp -implicitDefEqProofs only [evr, id, reduceCtorEq, reduceIte, Nat.reduceMul, Nat.reduceAdd, Nat.reduceLT, Nat.reduceLeDiff, Nat.reduceEqDiff, Int.reduceLT, Int.reduceBEq, Int.reduceBNe, Nat.reduceBEq, evn]
  (refine hk _ ?_; clear hk k; try show Sat _ _ _ _ _)
  (repeat refine Sat.seq ?_)
  (refine Sat.region_k fun k hk => ?_; simp -implicitDefEqProofs only [evr, id, reduceCtorEq, reduceIte, Nat.reduceMul, Nat.reduceAdd, Nat.reduceLT, Nat.reduceLeDiff, Nat.reduceEqDiff, Int.reduceLT, Int.reduceBEq, Int.reduceBNe, Nat.reduceBEq, evn])
  refine wcall_slice (divModC F hq' hgs h2 hg) rfl rfl ?_
  rintro r ⟨s, t, rfl, hs, ht⟩
  have hs6 := hs
  obtain ⟨a6, c6, z6, r6, x6, rfl, _⟩ := hs
  obtain ⟨a7, c7, z7, r7, x7, rfl, _⟩ := ht
  simp -implicitDefEqProofs only [evr, id, reduceCtorEq, reduceIte, Nat.reduceMul, Nat.reduceAdd, Nat.reduceLT, Nat.reduceLeDiff, Nat.reduceEqDiff, Int.reduceLT, Int.reduceBEq, Int.reduceBNe, Nat.reduceBEq, evn]
  (refine hk _ ?_; clear hk k; try show Sat _ _ _ _ _)
  (repeat refine Sat.seq ?_)
  (refine Sat.region_k fun k hk => ?_; simp -implicitDefEqProofs only [evr, id, reduceCtorEq, reduceIte, Nat.reduceMul, Nat.reduceAdd, Nat.reduceLT, Nat.reduceLeDiff, Nat.reduceEqDiff, Int.reduceLT, Int.reduceBEq, Int.reduceBNe, Nat.reduceBEq, evn])
  have e := hs4.len
  refine ⟨fun h => ?_, fun h => ?_⟩
  · (refine hk _ ?_; clear hk k; try show Sat _ _ _ _ _)
    refine Sat.ret ?_
    simp only [Tryz.results50, evr, id, reduceCtorEq, reduceIte, Nat.reduceMul, Nat.reduceAdd, Nat.reduceLT, Nat.reduceLeDiff, Nat.reduceEqDiff, Int.reduceLT, Int.reduceBEq, Int.reduceBNe, Nat.reduceBEq, List.append_nil, Int.toNat_zero, Nat.sub_self]
    simp only [e, h, Bool.true_and]
    exact ⟨_, _, rfl, hs4, hs6⟩
  · (refine hk _ ?_; clear hk k; try show Sat _ _ _ _ _)
    refine Sat.boxBools 0 rfl ?_
    simp only [roB, List.map_cons, List.map_nil, List.set_cons_zero]
    refine Sat.ret ?_
    simp only [Tryz.results50, evr, id, reduceCtorEq, reduceIte, Nat.reduceMul, Nat.reduceAdd, Nat.reduceLT, Nat.reduceLeDiff, Nat.reduceEqDiff, Int.reduceLT, Int.reduceBEq, Int.reduceBNe, Nat.reduceBEq, List.append_nil, Int.toNat_zero, Nat.sub_self]
    simp only [h, Bool.false_and]
    exact ⟨_, _, rfl, hs4, hs6⟩
set_option maxRecDepth 100000 in
theorem fractionReduceC (F : Frm) (neg : Bool) {sp sq : SV} {p q : Nat} (hp : Nats sp p) (hq : Nats sq q) (h1 : (p : Int) < pw 256) (h2 : (q : Int) < pw 256) (h0 : 0 < q) : Contract F Tryz.prog 15 [frS neg sp sq] (fun r => FrS r (neg && decide (0 < p / Nat.gcd p q)) (p / Nat.gcd p q) (q / Nat.gcd p q)) := by
  have hp' := hp
  have hq' := hq
  obtain ⟨a1, c1, z1, r1, x1, rfl, _⟩ := hp
  obtain ⟨a2, c2, z2, r2, x2, rfl, _⟩ := hq
  refine contract_of Tryz.func15 rfl (by kernel_rfl) ?_
  simp only [Tryz.ntmps15, argEnv, frS]
  (repeat refine Sat.seq ?_)
  (refine Sat.region_k fun k hk => ?_; simp -implicitDefEqProofs only [evr, id, reduceCtorEq, reduceIte, Nat.reduceMul, Nat.reduceAdd, Nat.reduceLT, Nat.reduceLeDiff, Nat.reduceEqDiff, Int.reduceLT, Int.reduceBEq, Int.reduceBNe, Nat.reduceBEq, evn])
  intro b1 b2
  (refine hk _ ?_; clear hk k; try show Sat _ _ _ _ _)
  (repeat refine Sat.seq ?_)
  (refine Sat.region_k fun k hk => ?_; simp -implicitDefEqProofs only [evr, id, reduceCtorEq, reduceIte, Nat.reduceMul, Nat.reduceAdd, Nat.reduceLT, Nat.reduceLeDiff, Nat.reduceEqDiff, Int.reduceLT, Int.reduceBEq, Int.reduceBNe, Nat.reduceBEq, evn])
  refine wcall_slice (fractionReducedC F neg hp' hq' h1 h2 h0) rfl (by simp -implicitDefEqProofs only [evr, id, reduceCtorEq, reduceIte, Nat.reduceMul, Nat.reduceAdd, Nat.reduceLT, Nat.reduceLeDiff, Nat.reduceEqDiff, Int.reduceLT, Int.reduceBEq, Int.reduceBNe, Nat.reduceBEq, evn]; try rfl) ?_
  rintro r ⟨sp3, sq3, rfl, h3, h4⟩
  have h3' := h3
  have h4' := h4
  obtain ⟨a3, c3, z3, r3, x3, rfl, _⟩ := h3
  obtain ⟨a4, c4, z4, r4, x4, rfl, _⟩ := h4
  simp only [frS, evr, id, reduceCtorEq, reduceIte, Nat.reduceMul, Nat.reduceAdd, Nat.reduceLT, Nat.reduceLeDiff, Nat.reduceEqDiff, Int.reduceLT, Int.reduceBEq, Int.reduceBNe, Nat.reduceBEq, List.append_nil, Int.toNat_zero, Nat.sub_self]
  (refine hk _ ?_; clear hk k; try show Sat _ _ _ _ _)
  refine Sat.ret ?_
  simp only [Tryz.results15, evr, id, reduceCtorEq, reduceIte, Nat.reduceMul, Nat.reduceAdd, Nat.reduceLT, Nat.reduceLeDiff, Nat.reduceEqDiff, Int.reduceLT, Int.reduceBEq, Int.reduceBNe, Nat.reduceBEq, List.append_nil, Int.toNat_zero, Nat.sub_self]
  exact ⟨_, _, rfl, h3', h4'⟩
def sumV (na : Bool) (a : Nat) (nb : Bool) (b : Nat) : Bool × Nat := if na = nb then (na, a + b) else if a < b then (nb, b - a) else (na, a - b)
set_option maxRecDepth 100000 in
theorem fractionSumC (F : Frm) (na nb : Bool) {sa sb : SV} {a b : Nat} (ha : Nats sa a) (hb : Nats sb b) (h1 : (a : Int) < pw 256) (h2 : (b : Int) < pw 256) (h3 : ((a + b : Nat) : Int) < pw 256) : Contract F Tryz.prog 47 [.b na, sa, .b nb, sb] (fun r => ∃ s, r = tupL [.b (sumV na a nb b).1, s] ∧ Nats s (sumV na a nb b).2) := by
  have ha' := ha
  have hb' := hb
  obtain ⟨a1, c1, z1, r1, x1, rfl, _⟩ := ha
  obtain ⟨a2, c2, z2, r2, x2, rfl, _⟩ := hb
  refine contract_of Tryz.func47 rfl (by kernel_rfl) ?_
  simp only [Tryz.ntmps47, argEnv]
  (repeat refine Sat.seq ?_)
  (refine Sat.region_k fun k hk => ?_; simp -implicitDefEqProofs only [evr, id, reduceCtorEq, reduceIte, Nat.reduceMul, Nat.reduceAdd, Nat.reduceLT, Nat.reduceLeDiff, Nat.reduceEqDiff, Int.reduceLT, Int.reduceBEq, Int.reduceBNe, Nat.reduceBEq, evn]; refine hk _ ?_; clear hk k; try show Sat _ _ _ _ _)
  (repeat refine Sat.seq ?_)
  (refine Sat.region_k fun k hk => ?_; simp -implicitDefEqProofs only [evr, id, reduceCtorEq, reduceIte, Nat.reduceMul, Nat.reduceAdd, Nat.reduceLT, Nat.reduceLeDiff, Nat.reduceEqDiff, Int.reduceLT, Int.reduceBEq, Int.reduceBNe, Nat.reduceBEq, evn]; refine hk _ ?_; clear hk k; try show Sat _ _ _ _ _)
  refine Sat.cond_b rfl (fun h => ?_) (fun h => ?_)
  · have hn : na = nb := by simpa using h
    (repeat refine Sat.seq ?_)
    (refine Sat.region_k fun k hk => ?_; simp -implicitDefEqProofs only [evr, id, reduceCtorEq, reduceIte, Nat.reduceMul, Nat.reduceAdd, Nat.reduceLT, Nat.reduceLeDiff, Nat.reduceEqDiff, Int.reduceLT, Int.reduceBEq, Int.reduceBNe, Nat.reduceBEq, evn])
    refine wcall_slice (addC F ha' hb' h3) rfl rfl ?_
    rintro r ⟨s, rfl, hs⟩
    have hs' := hs
    obtain ⟨a3, c3, z3, r3, x3, rfl, _⟩ := hs
    simp -implicitDefEqProofs only [evr, id, reduceCtorEq, reduceIte, Nat.reduceMul, Nat.reduceAdd, Nat.reduceLT, Nat.reduceLeDiff, Nat.reduceEqDiff, Int.reduceLT, Int.reduceBEq, Int.reduceBNe, Nat.reduceBEq, evn]
    (refine hk _ ?_; clear hk k; try show Sat _ _ _ _ _)
    (repeat refine Sat.seq ?_)
    (refine Sat.region_k fun k hk => ?_; simp -implicitDefEqProofs only [evr, id, reduceCtorEq, reduceIte, Nat.reduceMul, Nat.reduceAdd, Nat.reduceLT, Nat.reduceLeDiff, Nat.reduceEqDiff, Int.reduceLT, Int.reduceBEq, Int.reduceBNe, Nat.reduceBEq, evn]; refine hk _ ?_; clear hk k; try show Sat _ _ _ _ _)
    refine Sat.ret ?_
    simp only [Tryz.results47, evr, id, reduceCtorEq, reduceIte, Nat.reduceMul, Nat.reduceAdd, Nat.reduceLT, Nat.reduceLeDiff, Nat.reduceEqDiff, Int.reduceLT, Int.reduceBEq, Int.reduceBNe, Nat.reduceBEq, List.append_nil, Int.toNat_zero, Nat.sub_self]
    unfold sumV
    rw [if_pos hn]
    exact ⟨_, rfl, hs'⟩
  have hn : ¬ na = nb := by simpa using h
  refine Sat.skip ?_
  simp only [thenK]
  (repeat refine Sat.seq ?_)
  (refine Sat.region_k fun k hk => ?_; simp -implicitDefEqProofs only [evr, id, reduceCtorEq, reduceIte, Nat.reduceMul, Nat.reduceAdd, Nat.reduceLT, Nat.reduceLeDiff, Nat.reduceEqDiff, Int.reduceLT, Int.reduceBEq, Int.reduceBNe, Nat.reduceBEq, evn])
  refine wcall_plain (natCmpC F ha' hb') rfl (by rintro _ rfl; exact ok_plain rfl) ?_
  rintro r rfl
  simp -implicitDefEqProofs only [evr, id, reduceCtorEq, reduceIte, Nat.reduceMul, Nat.reduceAdd, Nat.reduceLT, Nat.reduceLeDiff, Nat.reduceEqDiff, Int.reduceLT, Int.reduceBEq, Int.reduceBNe, Nat.reduceBEq, evn]
  (refine hk _ ?_; clear hk k; try show Sat _ _ _ _ _)
  (repeat refine Sat.seq ?_)
  refine Sat.cond_b rfl (fun h => ?_) (fun h => ?_)
  · have hlt : a < b := by
      by_cases h9 : a < b
      · exact h9
      exfalso
      simp only [decide_eq_true_eq] at h
      by_cases h8 : b < a
      · rw [cmpI_gt (by omega)] at h; omega
      · rw [cmpI_eq (by omega)] at h; omega
    (repeat refine Sat.seq ?_)
    (refine Sat.region_k fun k hk => ?_; simp -implicitDefEqProofs only [evr, id, reduceCtorEq, reduceIte, Nat.reduceMul, Nat.reduceAdd, Nat.reduceLT, Nat.reduceLeDiff, Nat.reduceEqDiff, Int.reduceLT, Int.reduceBEq, Int.reduceBNe, Nat.reduceBEq, evn]; refine hk _ ?_; clear hk k; try show Sat _ _ _ _ _)
    (repeat refine Sat.seq ?_)
    (refine Sat.region_k fun k hk => ?_; simp -implicitDefEqProofs only [evr, id, reduceCtorEq, reduceIte, Nat.reduceMul, Nat.reduceAdd, Nat.reduceLT, Nat.reduceLeDiff, Nat.reduceEqDiff, Int.reduceLT, Int.reduceBEq, Int.reduceBNe, Nat.reduceBEq, evn])
    refine wcall_slice (subC F hb' ha' h2 (Nat.le_of_lt hlt)) rfl rfl ?_
    rintro r ⟨s, rfl, hs⟩
    have hs' := hs
    obtain ⟨a3, c3, z3, r3, x3, rfl, _⟩ := hs
    simp -implicitDefEqProofs only [evr, id, reduceCtorEq, reduceIte, Nat.reduceMul, Nat.reduceAdd, Nat.reduceLT, Nat.reduceLeDiff, Nat.reduceEqDiff, Int.reduceLT, Int.reduceBEq, Int.reduceBNe, Nat.reduceBEq, evn]
    (refine hk _ ?_; clear hk k; try show Sat _ _ _ _ _)
    (repeat refine Sat.seq ?_)
    (refine Sat.region_k fun k hk => ?_; simp -implicitDefEqProofs only [evr, id, reduceCtorEq, reduceIte, Nat.reduceMul, Nat.reduceAdd, Nat.reduceLT, Nat.reduceLeDiff, Nat.reduceEqDiff, Int.reduceLT, Int.reduceBEq, Int.reduceBNe, Nat.reduceBEq, evn]; refine hk _ ?_; clear hk k; try show Sat _ _ _ _ _)
    refine Sat.ret ?_
    simp only [Tryz.results47, evr, id, reduceCtorEq, reduceIte, Nat.reduceMul, Nat.reduceAdd, Nat.reduceLT, Nat.reduceLeDiff, Nat.reduceEqDiff, Int.reduceLT, Int.reduceBEq, Int.reduceBNe, Nat.reduceBEq, List.append_nil, Int.toNat_zero, Nat.sub_self]
    unfold sumV
    rw [if_neg hn, if_pos hlt]
    exact ⟨_, rfl, hs'⟩
  · have hlt : ¬ a < b := by
      intro h9
      rw [cmpI_lt (by omega)] at h
      revert h
      decide
    refine Sat.skip ?_
    simp only [thenK]
    (repeat refine Sat.seq ?_)
    (refine Sat.region_k fun k hk => ?_; simp -implicitDefEqProofs only [evr, id, reduceCtorEq, reduceIte, Nat.reduceMul, Nat.reduceAdd, Nat.reduceLT, Nat.reduceLeDiff, Nat.reduceEqDiff, Int.reduceLT, Int.reduceBEq, Int.reduceBNe, Nat.reduceBEq, evn])
    refine wcall_slice (subC F ha' hb' h1 (by omega)) rfl rfl ?_
    rintro r ⟨s, rfl, hs⟩
    have hs' := hs
    obtain ⟨a3, c3, z3, r3, x3, rfl, _⟩ := hs
    simp -implicitDefEqProofs only [evr, id, reduceCtorEq, reduceIte, Nat.reduceMul, Nat.reduceAdd, Nat.reduceLT, Nat.reduceLeDiff, Nat.reduceEqDiff, Int.reduceLT, Int.reduceBEq, Int.reduceBNe, Nat.reduceBEq, evn]
    (refine hk _ ?_; clear hk k; try show Sat _ _ _ _ _)
    (repeat refine Sat.seq ?_)
    (refine Sat.region_k fun k hk => ?_; simp -implicitDefEqProofs only [evr, id, reduceCtorEq, reduceIte, Nat.reduceMul, Nat.reduceAdd, Nat.reduceLT, Nat.reduceLeDiff, Nat.reduceEqDiff, Int.reduceLT, Int.reduceBEq, Int.reduceBNe, Nat.reduceBEq, evn]; refine hk _ ?_; clear hk k; try show Sat _ _ _ _ _)
    refine Sat.ret ?_
    simp only [Tryz.results47, evr, id, reduceCtorEq, reduceIte, Nat.reduceMul, Nat.reduceAdd, Nat.reduceLT, Nat.reduceLeDiff, Nat.reduceEqDiff, Int.reduceLT, Int.reduceBEq, Int.reduceBNe, Nat.reduceBEq, List.append_nil, Int.toNat_zero, Nat.sub_self]
    unfold sumV
    rw [if_neg hn, if_neg hlt]
    exact ⟨_, rfl, hs'⟩
end Go.Proofs.YtgdbcpljdibliaaGreatDoor
