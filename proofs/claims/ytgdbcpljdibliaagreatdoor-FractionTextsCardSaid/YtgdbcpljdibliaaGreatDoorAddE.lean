/- Package fraction: Valid, checked, Add: what each gives. -/
import Derived.Test.YtgdbcpljdibliaaGreatDoorIntE
import Derived.Test.YtgdbcpljdibliaaGreatDoorFrG
set_option linter.unusedSimpArgs false
set_option linter.unusedVariables false
namespace Go.Proofs.YtgdbcpljdibliaaGreatDoor
open Eng Lmb Go.RowKit
theorem norm_last {xs : List Int} (h : Norm xs) (h0 : 0 < xs.length) : xs.getD (xs.length - 1) 0 ≠ 0 := by
  induction xs with
  | nil => simp at h0
  | cons x t ih =>
    cases t with
    | nil => rw [norm_one] at h; simpa using h
    | cons y t =>
      have h2 : Norm (y :: t) := by rwa [norm_cons] at h
      have := ih h2 (by simp)
      simpa using this
set_option maxRecDepth 100000 in
theorem natValidC (F : Frm) {s : SV} {n : Nat} (hs : Nats s n) (hb : (n : Int) < pw 512) : Contract F Tryz.prog 64 [s] (fun r => r = .b (decide ((n : Int) < pw 256))) := by
  obtain ⟨xs, hi1, d1⟩ := hs.ints
  have l1 := (d1.len_le 512).2 hb
  have l2 := d1.len_le 256
  obtain ⟨a1, c1, z1, r1, rfl, hz1, hr1⟩ := hi1
  refine contract_of Tryz.func64 rfl (by kernel_rfl) ?_
  simp only [Tryz.ntmps64, argEnv]
  (repeat refine Sat.seq ?_)
  (refine Sat.region_k fun k hk => ?_; simp -implicitDefEqProofs only [evr, id, reduceCtorEq, reduceIte, Nat.reduceMul, Nat.reduceAdd, Nat.reduceLT, Nat.reduceLeDiff, Nat.reduceEqDiff, Int.reduceLT, Int.reduceBEq, Int.reduceBNe, Nat.reduceBEq, frS, evn]; refine hk _ ?_; clear hk k; try show Sat _ _ _ _ _)
  (repeat refine Sat.seq ?_)
  (refine Sat.region_k fun k hk => ?_; simp -implicitDefEqProofs only [evr, id, reduceCtorEq, reduceIte, Nat.reduceMul, Nat.reduceAdd, Nat.reduceLT, Nat.reduceLeDiff, Nat.reduceEqDiff, Int.reduceLT, Int.reduceBEq, Int.reduceBNe, Nat.reduceBEq, frS, evn]; refine hk _ ?_; clear hk k; try show Sat _ _ _ _ _)
  (repeat refine Sat.seq ?_)
  refine Sat.block ?_
  (repeat refine Sat.seq ?_)
  refine Sat.loop (ι := Nat) (fun q => ⟨35, [(7, .i .i64 (q : Int)), (6, .i .i64 (xs.length : Nat)), (5, .sl a1 xs.length c1 z1 r1), (0, .sl a1 xs.length c1 z1 r1)], []⟩)
    (fun q => q ≤ xs.length) (fun q => xs.length - q) 0 (Nat.zero_le _) (by simp -implicitDefEqProofs only [evr, id, reduceCtorEq, reduceIte, Nat.reduceMul, Nat.reduceAdd, Nat.reduceLT, Nat.reduceLeDiff, Nat.reduceEqDiff, Int.reduceLT, Int.reduceBEq, Int.reduceBNe, Nat.reduceBEq, frS, evl, evn]; try rfl) ?_
  rintro q hq
  (repeat refine Sat.seq ?_)
  (refine Sat.region_k fun k hk => ?_; simp -implicitDefEqProofs only [evr, id, reduceCtorEq, reduceIte, Nat.reduceMul, Nat.reduceAdd, Nat.reduceLT, Nat.reduceLeDiff, Nat.reduceEqDiff, Int.reduceLT, Int.reduceBEq, Int.reduceBNe, Nat.reduceBEq, frS, evn]; refine hk _ ?_; clear hk k; try show Sat _ _ _ _ _)
  (repeat refine Sat.seq ?_)
  refine Sat.cond_b rfl (fun h => ?_) (fun h => ?_)
  · simp only [decide_eq_true_eq] at h
    have hj : q < xs.length := by omega
    have hsz1 : z1 = 1 := hz1.resolve_left (by omega)
    subst hsz1
    have g1 := hr1 q hj
    have bx := limbs_getD d1.limbs q
    have ej1 : IntKind.i64.wrap ((q : Int) + 1) = ((q + 1 : Nat) : Int) := by rw [w64 (by omega)]; omega
    refine Sat.skip ?_
    simp only [thenK]
    (repeat refine Sat.seq ?_)
    refine Sat.block ?_
    (repeat refine Sat.seq ?_)
    (refine Sat.region_k fun k hk => ?_; simp -implicitDefEqProofs only [evr, id, reduceCtorEq, reduceIte, Nat.reduceMul, Nat.reduceAdd, Nat.reduceLT, Nat.reduceLeDiff, Nat.reduceEqDiff, Int.reduceLT, Int.reduceBEq, Int.reduceBNe, Nat.reduceBEq, frS, evn])
    refine ⟨by omega, ?_⟩
    rw [g1]
    (refine hk _ ?_; clear hk k; try show Sat _ _ _ _ _)
    (repeat refine Sat.seq ?_)
    refine Sat.region_at ⟨35, [(16, .b false), (7, .i .i64 (q : Int)), (6, .i .i64 (xs.length : Nat)), (5, .sl a1 xs.length c1 1 r1), (0, .sl a1 xs.length c1 1 r1)], []⟩ (fun k hk => ?_) ?_
    · simp -implicitDefEqProofs only [evr, id, reduceCtorEq, reduceIte, Nat.reduceMul, Nat.reduceAdd, Nat.reduceLT, Nat.reduceLeDiff, Nat.reduceEqDiff, Int.reduceLT, Int.reduceBEq, Int.reduceBNe, Nat.reduceBEq, frS, evn]
      refine ⟨fun h9 => by omega, fun h9 => ?_⟩
      refine hk _ ?_
      rw [decide_eq_false (by omega)]
      simp -implicitDefEqProofs only [evr, id, reduceCtorEq, reduceIte, Nat.reduceMul, Nat.reduceAdd, Nat.reduceLT, Nat.reduceLeDiff, Nat.reduceEqDiff, Int.reduceLT, Int.reduceBEq, Int.reduceBNe, Nat.reduceBEq, frS, evl, evn]
    simp only [thenK]
    refine Sat.cond_b rfl (fun h => by cases h) (fun h => ?_)
    refine Sat.skip ?_
    simp only [thenK, blockK]
    (repeat refine Sat.seq ?_)
    refine Sat.region_k fun k hk => ?_
    simp -implicitDefEqProofs only [evr, id, reduceCtorEq, reduceIte, Nat.reduceMul, Nat.reduceAdd, Nat.reduceLT, Nat.reduceLeDiff, Nat.reduceEqDiff, Int.reduceLT, Int.reduceBEq, Int.reduceBNe, Nat.reduceBEq, frS, ej1, evn]
    refine hk _ ?_
    simp only [thenK, blockK]
    refine ⟨q + 1, by show q + 1 ≤ xs.length; omega, by omega, ?_⟩
    simp -implicitDefEqProofs only [evr, id, reduceCtorEq, reduceIte, Nat.reduceMul, Nat.reduceAdd, Nat.reduceLT, Nat.reduceLeDiff, Nat.reduceEqDiff, Int.reduceLT, Int.reduceBEq, Int.reduceBNe, Nat.reduceBEq, frS, evl, evn]
  · refine Sat.exit ?_
    simp only [thenK, blockK, reduceIte]
    (repeat refine Sat.seq ?_)
    refine Sat.region_at ⟨35, [(2, .b (decide ((n : Int) < pw 256)))], []⟩ (fun k hk => ?_) ?_
    · simp -implicitDefEqProofs only [evr, id, reduceCtorEq, reduceIte, Nat.reduceMul, Nat.reduceAdd, Nat.reduceLT, Nat.reduceLeDiff, Nat.reduceEqDiff, Int.reduceLT, Int.reduceBEq, Int.reduceBNe, Nat.reduceBEq, frS, evn]
      refine ⟨fun h9 => ⟨fun h8 => ?_, fun h8 => ?_⟩, fun h9 => ?_⟩
      · refine hk _ ?_
        have e : decide ((n : Int) < pw 256) = true := decide_eq_true (l2.1 (by omega))
        rw [e]
        simp -implicitDefEqProofs only [evr, id, reduceCtorEq, reduceIte, Nat.reduceMul, Nat.reduceAdd, Nat.reduceLT, Nat.reduceLeDiff, Nat.reduceEqDiff, Int.reduceLT, Int.reduceBEq, Int.reduceBNe, Nat.reduceBEq, frS, evl, evn]
        try exact h8
      · have h7 : ¬ (xs.length : Int) = 0 := by
          intro h6
          rw [h6] at h8
          cases h8
        have hsz1 : z1 = 1 := hz1.resolve_left (by omega)
        subst hsz1
        have e1 : IntKind.i64.wrap ((xs.length : Int) - 1) = ((xs.length - 1 : Nat) : Int) := by rw [w64 (by omega)]; omega
        rw [e1]
        refine ⟨by omega, ?_⟩
        rw [Int.toNat_natCast, hr1 _ (by omega)]
        simp -implicitDefEqProofs only [evr, id, reduceCtorEq, reduceIte, Nat.reduceMul, Nat.reduceAdd, Nat.reduceLT, Nat.reduceLeDiff, Nat.reduceEqDiff, Int.reduceLT, Int.reduceBEq, Int.reduceBNe, Nat.reduceBEq, frS, evn]
        refine hk _ ?_
        have e : decide ((n : Int) < pw 256) = true := decide_eq_true (l2.1 (by omega))
        rw [e, bne_iff_ne.2 (norm_last d1.norm (by omega))]
        simp -implicitDefEqProofs only [evr, id, reduceCtorEq, reduceIte, Nat.reduceMul, Nat.reduceAdd, Nat.reduceLT, Nat.reduceLeDiff, Nat.reduceEqDiff, Int.reduceLT, Int.reduceBEq, Int.reduceBNe, Nat.reduceBEq, frS, evl, evn]
      · refine hk _ ?_
        have e : decide ((n : Int) < pw 256) = false := decide_eq_false (fun h6 => h9 (by have := l2.2 h6; omega))
        rw [e]
        simp -implicitDefEqProofs only [evr, id, reduceCtorEq, reduceIte, Nat.reduceMul, Nat.reduceAdd, Nat.reduceLT, Nat.reduceLeDiff, Nat.reduceEqDiff, Int.reduceLT, Int.reduceBEq, Int.reduceBNe, Nat.reduceBEq, frS, evl, evn]
        try exact h9
    simp only [thenK]
    refine Sat.ret ?_
    simp only [Tryz.results64, evr, id, reduceCtorEq, reduceIte, Nat.reduceMul, Nat.reduceAdd, Nat.reduceLT, Nat.reduceLeDiff, Nat.reduceEqDiff, Int.reduceLT, Int.reduceBEq, Int.reduceBNe, Nat.reduceBEq, List.append_nil, Int.toNat_zero, Nat.sub_self, frS]
set_option maxRecDepth 100000 in
theorem fracTermC (F : Frm) {s : SV} {n : Nat} (hs : Nats s n) (hb : (n : Int) < pw 512) : Contract F Tryz.prog 63 [s] (fun r => r = .b (decide ((n : Int) < pw 64))) := by
  have hs' := hs
  obtain ⟨xs, hi1, d1⟩ := hs.ints
  have l2 := d1.len_le 64
  obtain ⟨a1, c1, z1, r1, rfl, hz1, hr1⟩ := hi1
  refine contract_of Tryz.func63 rfl (by kernel_rfl) ?_
  simp only [Tryz.ntmps63, argEnv]
  (repeat refine Sat.seq ?_)
  (refine Sat.region_k fun k hk => ?_; simp -implicitDefEqProofs only [evr, id, reduceCtorEq, reduceIte, Nat.reduceMul, Nat.reduceAdd, Nat.reduceLT, Nat.reduceLeDiff, Nat.reduceEqDiff, Int.reduceLT, Int.reduceBEq, Int.reduceBNe, Nat.reduceBEq, frS, evn]; refine hk _ ?_; clear hk k; try show Sat _ _ _ _ _)
  (repeat refine Sat.seq ?_)
  refine Sat.region_at ⟨10, [(2, .b (decide ((n : Int) < pw 64)))], []⟩ (fun k hk => ?_) ?_
  · simp -implicitDefEqProofs only [evr, id, reduceCtorEq, reduceIte, Nat.reduceMul, Nat.reduceAdd, Nat.reduceLT, Nat.reduceLeDiff, Nat.reduceEqDiff, Int.reduceLT, Int.reduceBEq, Int.reduceBNe, Nat.reduceBEq, frS, evn]
    refine wcall_plain (natValidC F hs' hb) rfl (by rintro _ rfl; exact ok_plain rfl) ?_
    rintro y rfl
    simp -implicitDefEqProofs only [evr, id, reduceCtorEq, reduceIte, Nat.reduceMul, Nat.reduceAdd, Nat.reduceLT, Nat.reduceLeDiff, Nat.reduceEqDiff, Int.reduceLT, Int.reduceBEq, Int.reduceBNe, Nat.reduceBEq, frS, evn]
    refine ⟨fun h9 => ?_, fun h9 => ?_⟩
    · refine hk _ ?_
      have e : decide ((n : Int) < pw 64) = decide ((xs.length : Int) ≤ 64) := by
        congr 1
        apply propext
        rw [← l2]
        omega
      rw [e]
      simp -implicitDefEqProofs only [evr, id, reduceCtorEq, reduceIte, Nat.reduceMul, Nat.reduceAdd, Nat.reduceLT, Nat.reduceLeDiff, Nat.reduceEqDiff, Int.reduceLT, Int.reduceBEq, Int.reduceBNe, Nat.reduceBEq, frS, evl, evn]
    · refine hk _ ?_
      have e : decide ((n : Int) < pw 64) = false := decide_eq_false fun h8 => h9 (by have := pw_mono (show 64 ≤ 256 by omega); omega)
      rw [e]
      simp -implicitDefEqProofs only [evr, id, reduceCtorEq, reduceIte, Nat.reduceMul, Nat.reduceAdd, Nat.reduceLT, Nat.reduceLeDiff, Nat.reduceEqDiff, Int.reduceLT, Int.reduceBEq, Int.reduceBNe, Nat.reduceBEq, frS, evl, evn]
      try exact decide_eq_false h9
  simp only [thenK]
  refine Sat.ret ?_
  simp only [Tryz.results63, evr, id, reduceCtorEq, reduceIte, Nat.reduceMul, Nat.reduceAdd, Nat.reduceLT, Nat.reduceLeDiff, Nat.reduceEqDiff, Int.reduceLT, Int.reduceBEq, Int.reduceBNe, Nat.reduceBEq, List.append_nil, Int.toNat_zero, Nat.sub_self, frS]
def frOk (neg : Bool) (p q : Nat) : Bool := decide ((p : Int) < pw 64) && (decide ((q : Int) < pw 64) && (decide (0 < q) && !(neg && decide (p = 0))))
set_option maxRecDepth 100000 in
theorem fractionValidC (F : Frm) (neg : Bool) {sp sq : SV} {p q : Nat} (hp : Nats sp p) (hq : Nats sq q) (b1 : (p : Int) < pw 512) (b2 : (q : Int) < pw 512) : Contract F Tryz.prog 34 [frS neg sp sq] (fun r => r = .b (frOk neg p q)) := by
  have hp' := hp
  have hq' := hq
  obtain ⟨a1, c1, z1, r1, x1, rfl, _⟩ := hp
  obtain ⟨a2, c2, z2, r2, x2, rfl, _⟩ := hq
  have hl1 := hp'.len0
  have hl2 := hq'.len
  refine contract_of Tryz.func34 rfl (by kernel_rfl) ?_
  simp only [Tryz.ntmps34, argEnv, frS]
  (repeat refine Sat.seq ?_)
  (refine Sat.region_k fun k hk => ?_; simp -implicitDefEqProofs only [evr, id, reduceCtorEq, reduceIte, Nat.reduceMul, Nat.reduceAdd, Nat.reduceLT, Nat.reduceLeDiff, Nat.reduceEqDiff, Int.reduceLT, Int.reduceBEq, Int.reduceBNe, Nat.reduceBEq, frS, evn])
  intro blk1
  (refine hk _ ?_; clear hk k; try show Sat _ _ _ _ _)
  (repeat refine Sat.seq ?_)
  (refine Sat.region_k fun k hk => ?_; simp -implicitDefEqProofs only [evr, id, reduceCtorEq, reduceIte, Nat.reduceMul, Nat.reduceAdd, Nat.reduceLT, Nat.reduceLeDiff, Nat.reduceEqDiff, Int.reduceLT, Int.reduceBEq, Int.reduceBNe, Nat.reduceBEq, frS, evn]; refine hk _ ?_; clear hk k; try show Sat _ _ _ _ _)
  (repeat refine Sat.seq ?_)
  refine Sat.region_at ⟨31, [(2, .b (frOk neg p q))], []⟩ (fun k hk => ?_) ?_
  · simp -implicitDefEqProofs only [evr, id, reduceCtorEq, reduceIte, Nat.reduceMul, Nat.reduceAdd, Nat.reduceLT, Nat.reduceLeDiff, Nat.reduceEqDiff, Int.reduceLT, Int.reduceBEq, Int.reduceBNe, Nat.reduceBEq, frS, evn]
    refine wcall_plain (fracTermC F hp' b1) rfl (by rintro _ rfl; exact ok_plain rfl) ?_
    rintro y rfl
    simp -implicitDefEqProofs only [evr, id, reduceCtorEq, reduceIte, Nat.reduceMul, Nat.reduceAdd, Nat.reduceLT, Nat.reduceLeDiff, Nat.reduceEqDiff, Int.reduceLT, Int.reduceBEq, Int.reduceBNe, Nat.reduceBEq, frS, evn]
    unfold frOk at hk
    refine ⟨fun h9 => ?_, fun h9 => ?_⟩
    · rw [decide_eq_true h9, Bool.true_and] at hk
      refine wcall_plain (fracTermC F hq' b2) rfl (by rintro _ rfl; exact ok_plain rfl) ?_
      rintro y rfl
      simp -implicitDefEqProofs only [evr, id, reduceCtorEq, reduceIte, Nat.reduceMul, Nat.reduceAdd, Nat.reduceLT, Nat.reduceLeDiff, Nat.reduceEqDiff, Int.reduceLT, Int.reduceBEq, Int.reduceBNe, Nat.reduceBEq, frS, hl1, hl2, evn]
      refine ⟨fun h8 => ?_, fun h8 => ?_⟩
      · rw [decide_eq_true h8, Bool.true_and] at hk
        refine ⟨fun h7 => ?_, fun h7 => ?_⟩
        · rw [decide_eq_true h7, Bool.true_and] at hk
          refine ⟨fun h6 => ?_, fun h6 => ?_⟩
          · refine hk _ ?_
            subst h6
            simp -implicitDefEqProofs only [evr, id, reduceCtorEq, reduceIte, Nat.reduceMul, Nat.reduceAdd, Nat.reduceLT, Nat.reduceLeDiff, Nat.reduceEqDiff, Int.reduceLT, Int.reduceBEq, Int.reduceBNe, Nat.reduceBEq, frS, evl, evn]
          · refine hk _ ?_
            subst h6
            simp -implicitDefEqProofs only [evr, id, reduceCtorEq, reduceIte, Nat.reduceMul, Nat.reduceAdd, Nat.reduceLT, Nat.reduceLeDiff, Nat.reduceEqDiff, Int.reduceLT, Int.reduceBEq, Int.reduceBNe, Nat.reduceBEq, frS, evl, evn]
            rfl
        · rw [decide_eq_false h7, Bool.false_and] at hk
          refine hk _ ?_
          simp -implicitDefEqProofs only [evr, id, reduceCtorEq, reduceIte, Nat.reduceMul, Nat.reduceAdd, Nat.reduceLT, Nat.reduceLeDiff, Nat.reduceEqDiff, Int.reduceLT, Int.reduceBEq, Int.reduceBNe, Nat.reduceBEq, frS, evl, evn]
          try exact decide_eq_false h7
      · rw [decide_eq_false h8, Bool.false_and] at hk
        refine hk _ ?_
        simp -implicitDefEqProofs only [evr, id, reduceCtorEq, reduceIte, Nat.reduceMul, Nat.reduceAdd, Nat.reduceLT, Nat.reduceLeDiff, Nat.reduceEqDiff, Int.reduceLT, Int.reduceBEq, Int.reduceBNe, Nat.reduceBEq, frS, evl, evn]
        try exact decide_eq_false h8
    · rw [decide_eq_false h9, Bool.false_and] at hk
      refine hk _ ?_
      simp -implicitDefEqProofs only [evr, id, reduceCtorEq, reduceIte, Nat.reduceMul, Nat.reduceAdd, Nat.reduceLT, Nat.reduceLeDiff, Nat.reduceEqDiff, Int.reduceLT, Int.reduceBEq, Int.reduceBNe, Nat.reduceBEq, frS, evl, evn]
      try exact decide_eq_false h9
  simp only [thenK]
  refine Sat.ret ?_
  simp only [Tryz.results34, evr, id, reduceCtorEq, reduceIte, Nat.reduceMul, Nat.reduceAdd, Nat.reduceLT, Nat.reduceLeDiff, Nat.reduceEqDiff, Int.reduceLT, Int.reduceBEq, Int.reduceBNe, Nat.reduceBEq, List.append_nil, Int.toNat_zero, Nat.sub_self, frS]
set_option maxRecDepth 100000 in
theorem checkedC (F : Frm) (neg : Bool) {sp sq : SV} {p q : Nat} (hp : Nats sp p) (hq : Nats sq q) (b1 : (p : Int) < pw 512) (b2 : (q : Int) < pw 512) : Contract F Tryz.prog 46 [frS neg sp sq]
    (fun r => (frOk neg p q = true ∧ ∃ f, r = tupL [f, .i .i64 0] ∧ FrS f neg p q) ∨ (frOk neg p q = false ∧ ∃ f, r = tupL [f, .i .i64 5] ∧ FrS f false 0 0)) := by
  have hp' := hp
  have hq' := hq
  obtain ⟨a1, c1, z1, r1, x1, rfl, _⟩ := hp
  obtain ⟨a2, c2, z2, r2, x2, rfl, _⟩ := hq
  refine contract_of Tryz.func46 rfl (by kernel_rfl) ?_
  simp only [Tryz.ntmps46, argEnv, frS]
  (repeat refine Sat.seq ?_)
  (refine Sat.region_k fun k hk => ?_; simp -implicitDefEqProofs only [evr, id, reduceCtorEq, reduceIte, Nat.reduceMul, Nat.reduceAdd, Nat.reduceLT, Nat.reduceLeDiff, Nat.reduceEqDiff, Int.reduceLT, Int.reduceBEq, Int.reduceBNe, Nat.reduceBEq, frS, evn])
  intro blk1 blk2
  (refine hk _ ?_; clear hk k; try show Sat _ _ _ _ _)
  (repeat refine Sat.seq ?_)
  (refine Sat.region_k fun k hk => ?_; simp -implicitDefEqProofs only [evr, id, reduceCtorEq, reduceIte, Nat.reduceMul, Nat.reduceAdd, Nat.reduceLT, Nat.reduceLeDiff, Nat.reduceEqDiff, Int.reduceLT, Int.reduceBEq, Int.reduceBNe, Nat.reduceBEq, frS, evn])
  refine wcall_plain (fractionValidC F neg hp' hq' b1 b2) (by simp -implicitDefEqProofs only [evr, id, reduceCtorEq, reduceIte, Nat.reduceMul, Nat.reduceAdd, Nat.reduceLT, Nat.reduceLeDiff, Nat.reduceEqDiff, Int.reduceLT, Int.reduceBEq, Int.reduceBNe, Nat.reduceBEq, frS, evn]; try rfl) (by rintro _ rfl; exact ok_plain rfl) ?_
  rintro y rfl
  simp -implicitDefEqProofs only [evr, id, reduceCtorEq, reduceIte, Nat.reduceMul, Nat.reduceAdd, Nat.reduceLT, Nat.reduceLeDiff, Nat.reduceEqDiff, Int.reduceLT, Int.reduceBEq, Int.reduceBNe, Nat.reduceBEq, frS, evn]
  (refine hk _ ?_; clear hk k; try show Sat _ _ _ _ _)
  refine Sat.cond_b rfl (fun h => ?_) (fun h => ?_)
  · have h0 : frOk neg p q = false := by simpa using h
    (repeat refine Sat.seq ?_)
    (refine Sat.region_k fun k hk => ?_; simp -implicitDefEqProofs only [evr, id, reduceCtorEq, reduceIte, Nat.reduceMul, Nat.reduceAdd, Nat.reduceLT, Nat.reduceLeDiff, Nat.reduceEqDiff, Int.reduceLT, Int.reduceBEq, Int.reduceBNe, Nat.reduceBEq, frS, evn]; refine hk _ ?_; clear hk k; try show Sat _ _ _ _ _)
    refine Sat.ret ?_
    simp only [Tryz.results46, evr, id, reduceCtorEq, reduceIte, Nat.reduceMul, Nat.reduceAdd, Nat.reduceLT, Nat.reduceLeDiff, Nat.reduceEqDiff, Int.reduceLT, Int.reduceBEq, Int.reduceBNe, Nat.reduceBEq, List.append_nil, Int.toNat_zero, Nat.sub_self, frS]
    exact .inr ⟨h0, _, rfl, _, _, rfl, Nats.nil, Nats.nil⟩
  · have h0 : frOk neg p q = true := by simpa using h
    refine Sat.skip ?_
    simp only [thenK]
    (repeat refine Sat.seq ?_)
    (refine Sat.region_k fun k hk => ?_; simp -implicitDefEqProofs only [evr, id, reduceCtorEq, reduceIte, Nat.reduceMul, Nat.reduceAdd, Nat.reduceLT, Nat.reduceLeDiff, Nat.reduceEqDiff, Int.reduceLT, Int.reduceBEq, Int.reduceBNe, Nat.reduceBEq, frS, evn]; refine hk _ ?_; clear hk k; try show Sat _ _ _ _ _)
    refine Sat.ret ?_
    simp only [Tryz.results46, evr, id, reduceCtorEq, reduceIte, Nat.reduceMul, Nat.reduceAdd, Nat.reduceLT, Nat.reduceLeDiff, Nat.reduceEqDiff, Int.reduceLT, Int.reduceBEq, Int.reduceBNe, Nat.reduceBEq, List.append_nil, Int.toNat_zero, Nat.sub_self, frS]
    exact .inl ⟨h0, _, rfl, _, _, rfl, hp', hq'⟩
def addG (na : Bool) (p q : Nat) (nb : Bool) (r s : Nat) : Nat := Nat.gcd (sumV na (p * s) nb (r * q)).2 (q * s)
def addP (na : Bool) (p q : Nat) (nb : Bool) (r s : Nat) : Nat := (sumV na (p * s) nb (r * q)).2 / addG na p q nb r s
def addQ (na : Bool) (p q : Nat) (nb : Bool) (r s : Nat) : Nat := q * s / addG na p q nb r s
def addN (na : Bool) (p q : Nat) (nb : Bool) (r s : Nat) : Bool := (sumV na (p * s) nb (r * q)).1 && decide (0 < addP na p q nb r s)
theorem sumV_le (na : Bool) (a : Nat) (nb : Bool) (b : Nat) : (sumV na a nb b).2 ≤ a + b := by
  unfold sumV
  split
  · exact Nat.le_refl _
  · split <;> simp <;> omega
set_option maxRecDepth 100000 in
theorem fractionAddC (F : Frm) (na nb : Bool) {sp sq sr ss : SV} {p q r s : Nat} (hp : Nats sp p) (hq : Nats sq q) (hr : Nats sr r) (hs : Nats ss s)
    (b1 : (p : Int) < pw 256) (b2 : (q : Int) < pw 256) (b3 : (r : Int) < pw 256) (b4 : (s : Int) < pw 256) (b5 : ((p * s : Nat) : Int) < pw 256) (b6 : ((r * q : Nat) : Int) < pw 256) (b7 : ((p * s + r * q : Nat) : Int) < pw 256) (b8 : ((q * s : Nat) : Int) < pw 256) (hq0 : 0 < q) (hs0 : 0 < s) :
    Contract F Tryz.prog 16 [frS na sp sq, frS nb sr ss]
      (fun x => (frOk (addN na p q nb r s) (addP na p q nb r s) (addQ na p q nb r s) = true ∧ ∃ f, x = tupL [f, .i .i64 0] ∧ FrS f (addN na p q nb r s) (addP na p q nb r s) (addQ na p q nb r s)) ∨ (frOk (addN na p q nb r s) (addP na p q nb r s) (addQ na p q nb r s) = false ∧ ∃ f, x = tupL [f, .i .i64 5] ∧ FrS f false 0 0)) := by
  have hp' := hp
  have hq' := hq
  have hr' := hr
  have hs' := hs
  have up : ∀ x : Nat, (x : Int) < pw 256 → (x : Int) < pw 512 := fun x hx => by have := pw_mono (show 256 ≤ 512 by omega); omega
  obtain ⟨a1, c1, z1, r1, x1, rfl, _⟩ := hp
  obtain ⟨a2, c2, z2, r2, x2, rfl, _⟩ := hq
  obtain ⟨a3, c3, z3, r3, x3, rfl, _⟩ := hr
  obtain ⟨a4, c4, z4, r4, x4, rfl, _⟩ := hs
  refine contract_of Tryz.func16 rfl (by kernel_rfl) ?_
  simp only [Tryz.ntmps16, argEnv, frS]
  (repeat refine Sat.seq ?_)
  (refine Sat.region_k fun k hk => ?_; simp -implicitDefEqProofs only [evr, id, reduceCtorEq, reduceIte, Nat.reduceMul, Nat.reduceAdd, Nat.reduceLT, Nat.reduceLeDiff, Nat.reduceEqDiff, Int.reduceLT, Int.reduceBEq, Int.reduceBNe, Nat.reduceBEq, frS, evn])
  intro k1 k2 k3
  (refine hk _ ?_; clear hk k; try show Sat _ _ _ _ _)
  (repeat refine Sat.seq ?_)
  (refine Sat.region_rows [⟨0, 10, 4, 0⟩, ⟨1, 11, 512, 1⟩, ⟨0, 12, 4, 0⟩, ⟨4, 13, 2048, 1⟩, ⟨0, 14, 8, 0⟩, ⟨16, 15, 8192, 1⟩, ⟨40, 16, 20480, 2⟩, ⟨0, 17, 8, 0⟩, ⟨128, 18, 65536, 1⟩, ⟨0, 19, 8, 0⟩, ⟨512, 20, 262144, 1⟩, ⟨0, 21, 4, 0⟩, ⟨2048, 22, 1048576, 1⟩, ⟨5184, 23, 2621440, 2⟩, ⟨8514, 24, 4359168, 2⟩, ⟨16384, 9, 8388608, 0⟩, ⟨32768, 25, 256, 0⟩, ⟨32768, 26, 256, 0⟩, ⟨131071, 7, 16777216, 0⟩, ⟨524287, 8, 33554432, 0⟩] [0, 2, 4, 7, 9, 11, 1, 3, 5, 8, 10, 12] [(6, false), (13, false), (14, false), (15, false), (16, true), (17, true), (18, false), (19, false)] [6, 13] (by kernel_rfl) (by kernel_rfl) (fun _ _ h => h) fun k hk => ?_; simp only [List.map_cons, List.map_nil, List.getD_cons_zero, List.getD_cons_succ, btseq_cons, btseq_free, btseq_nil]; simp -implicitDefEqProofs only [evr, id, reduceCtorEq, reduceIte, Nat.reduceMul, Nat.reduceAdd, Nat.reduceLT, Nat.reduceLeDiff, Nat.reduceEqDiff, Int.reduceLT, Int.reduceBEq, Int.reduceBNe, Nat.reduceBEq, frS, evn])
  refine wcall_slice (fractionProductC F hp' hs' b1 b4 b5) rfl (by simp -implicitDefEqProofs only [evr, id, reduceCtorEq, reduceIte, Nat.reduceMul, Nat.reduceAdd, Nat.reduceLT, Nat.reduceLeDiff, Nat.reduceEqDiff, Int.reduceLT, Int.reduceBEq, Int.reduceBNe, Nat.reduceBEq, frS, evn]; try rfl) ?_
  intro y hy
  have hy1 := hy
  obtain ⟨a5, c5, z5, r5, x5, rfl, _⟩ := hy
  simp -implicitDefEqProofs only [evr, id, reduceCtorEq, reduceIte, Nat.reduceMul, Nat.reduceAdd, Nat.reduceLT, Nat.reduceLeDiff, Nat.reduceEqDiff, Int.reduceLT, Int.reduceBEq, Int.reduceBNe, Nat.reduceBEq, frS, evn]
  refine wcall_slice (fractionProductC F hr' hq' b3 b2 b6) rfl (by simp -implicitDefEqProofs only [evr, id, reduceCtorEq, reduceIte, Nat.reduceMul, Nat.reduceAdd, Nat.reduceLT, Nat.reduceLeDiff, Nat.reduceEqDiff, Int.reduceLT, Int.reduceBEq, Int.reduceBNe, Nat.reduceBEq, frS, evn]; try rfl) ?_
  intro y hy
  have hy2 := hy
  obtain ⟨a6, c6, z6, r6, x6, rfl, _⟩ := hy
  simp -implicitDefEqProofs only [evr, id, reduceCtorEq, reduceIte, Nat.reduceMul, Nat.reduceAdd, Nat.reduceLT, Nat.reduceLeDiff, Nat.reduceEqDiff, Int.reduceLT, Int.reduceBEq, Int.reduceBNe, Nat.reduceBEq, frS, evn]
  refine wcall_slice (fractionSumC F na nb hy1 hy2 b5 b6 b7) rfl (by simp -implicitDefEqProofs only [evr, id, reduceCtorEq, reduceIte, Nat.reduceMul, Nat.reduceAdd, Nat.reduceLT, Nat.reduceLeDiff, Nat.reduceEqDiff, Int.reduceLT, Int.reduceBEq, Int.reduceBNe, Nat.reduceBEq, frS, evn]; try rfl) ?_
  rintro y ⟨sv, rfl, hy⟩
  have hy3 := hy
  obtain ⟨a7, c7, z7, r7, x7, rfl, _⟩ := hy
  simp -implicitDefEqProofs only [evr, id, reduceCtorEq, reduceIte, Nat.reduceMul, Nat.reduceAdd, Nat.reduceLT, Nat.reduceLeDiff, Nat.reduceEqDiff, Int.reduceLT, Int.reduceBEq, Int.reduceBNe, Nat.reduceBEq, frS, evn]
  (refine hk _ ?_; clear hk k; try show Sat _ _ _ _ _)
  have bs : (((sumV na (p * s) nb (r * q)).2 : Nat) : Int) < pw 256 := by have := sumV_le na (p * s) nb (r * q); omega
  have bP : ((addP na p q nb r s : Nat) : Int) < pw 512 := up _ (by have : addP na p q nb r s ≤ (sumV na (p * s) nb (r * q)).2 := Nat.div_le_self _ _; omega)
  have bQ : ((addQ na p q nb r s : Nat) : Int) < pw 512 := up _ (by have : addQ na p q nb r s ≤ q * s := Nat.div_le_self _ _; omega)
  (repeat refine Sat.seq ?_)
  (refine Sat.region_k fun k hk => ?_; simp -implicitDefEqProofs only [evr, id, reduceCtorEq, reduceIte, Nat.reduceMul, Nat.reduceAdd, Nat.reduceLT, Nat.reduceLeDiff, Nat.reduceEqDiff, Int.reduceLT, Int.reduceBEq, Int.reduceBNe, Nat.reduceBEq, frS, evn])
  refine wcall_slice (fractionProductC F hq' hs' b2 b4 b8) rfl (by simp -implicitDefEqProofs only [evr, id, reduceCtorEq, reduceIte, Nat.reduceMul, Nat.reduceAdd, Nat.reduceLT, Nat.reduceLeDiff, Nat.reduceEqDiff, Int.reduceLT, Int.reduceBEq, Int.reduceBNe, Nat.reduceBEq, frS, evn]; try rfl) ?_
  intro y hy
  have hy4 := hy
  obtain ⟨a8, c8, z8, r8, x8, rfl, _⟩ := hy
  simp -implicitDefEqProofs only [evr, id, reduceCtorEq, reduceIte, Nat.reduceMul, Nat.reduceAdd, Nat.reduceLT, Nat.reduceLeDiff, Nat.reduceEqDiff, Int.reduceLT, Int.reduceBEq, Int.reduceBNe, Nat.reduceBEq, frS, evn]
  refine wcall_slice (fractionReducedC F _ hy3 hy4 bs b8 (Nat.mul_pos hq0 hs0)) rfl (by simp -implicitDefEqProofs only [evr, id, reduceCtorEq, reduceIte, Nat.reduceMul, Nat.reduceAdd, Nat.reduceLT, Nat.reduceLeDiff, Nat.reduceEqDiff, Int.reduceLT, Int.reduceBEq, Int.reduceBNe, Nat.reduceBEq, frS, evn]; try rfl) ?_
  rintro y ⟨sp3, sq3, rfl, h3, h4⟩
  have h3' : Nats sp3 (addP na p q nb r s) := h3
  have h4' : Nats sq3 (addQ na p q nb r s) := h4
  have h3b := h3'
  have h4b := h4'
  clear h3 h4
  obtain ⟨a9, c9, z9, r9, x9, rfl, _⟩ := h3b
  obtain ⟨a10, c10, z10, r10, x10, rfl, _⟩ := h4b
  simp only [frS, evr, id, reduceCtorEq, reduceIte, Nat.reduceMul, Nat.reduceAdd, Nat.reduceLT, Nat.reduceLeDiff, Nat.reduceEqDiff, Int.reduceLT, Int.reduceBEq, Int.reduceBNe, Nat.reduceBEq, List.append_nil, Int.toNat_zero, Nat.sub_self, frS]
  refine wcall_slice (checkedC F (addN na p q nb r s) h3' h4' bP bQ) rfl (by simp -implicitDefEqProofs only [evr, id, reduceCtorEq, reduceIte, Nat.reduceMul, Nat.reduceAdd, Nat.reduceLT, Nat.reduceLeDiff, Nat.reduceEqDiff, Int.reduceLT, Int.reduceBEq, Int.reduceBNe, Nat.reduceBEq, frS, evn]; try rfl) ?_
  rintro y (⟨hok, f, rfl, sp5, sq5, rfl, h5, h6⟩ | ⟨hok, f, rfl, sp5, sq5, rfl, h5, h6⟩)
  · have h5' := h5
    have h6' := h6
    obtain ⟨a11, c11, z11, r11, x11, rfl, _⟩ := h5
    obtain ⟨a12, c12, z12, r12, x12, rfl, _⟩ := h6
    simp only [frS, evr, id, reduceCtorEq, reduceIte, Nat.reduceMul, Nat.reduceAdd, Nat.reduceLT, Nat.reduceLeDiff, Nat.reduceEqDiff, Int.reduceLT, Int.reduceBEq, Int.reduceBNe, Nat.reduceBEq, List.append_nil, Int.toNat_zero, Nat.sub_self, frS]
    (refine hk _ ?_; clear hk k; try show Sat _ _ _ _ _)
    refine Sat.ret ?_
    simp only [Tryz.results16, evr, id, reduceCtorEq, reduceIte, Nat.reduceMul, Nat.reduceAdd, Nat.reduceLT, Nat.reduceLeDiff, Nat.reduceEqDiff, Int.reduceLT, Int.reduceBEq, Int.reduceBNe, Nat.reduceBEq, List.append_nil, Int.toNat_zero, Nat.sub_self, frS]
    exact .inl ⟨hok, _, rfl, _, _, rfl, h5', h6'⟩
  · have h5' := h5
    have h6' := h6
    obtain ⟨a11, c11, z11, r11, x11, rfl, _⟩ := h5
    obtain ⟨a12, c12, z12, r12, x12, rfl, _⟩ := h6
    simp only [frS, evr, id, reduceCtorEq, reduceIte, Nat.reduceMul, Nat.reduceAdd, Nat.reduceLT, Nat.reduceLeDiff, Nat.reduceEqDiff, Int.reduceLT, Int.reduceBEq, Int.reduceBNe, Nat.reduceBEq, List.append_nil, Int.toNat_zero, Nat.sub_self, frS]
    (refine hk _ ?_; clear hk k; try show Sat _ _ _ _ _)
    refine Sat.ret ?_
    simp only [Tryz.results16, evr, id, reduceCtorEq, reduceIte, Nat.reduceMul, Nat.reduceAdd, Nat.reduceLT, Nat.reduceLeDiff, Nat.reduceEqDiff, Int.reduceLT, Int.reduceBEq, Int.reduceBNe, Nat.reduceBEq, List.append_nil, Int.toNat_zero, Nat.sub_self, frS]
    exact .inr ⟨hok, _, rfl, _, _, rfl, h5', h6'⟩
end Go.Proofs.YtgdbcpljdibliaaGreatDoor
