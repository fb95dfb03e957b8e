/- The reference of package natural, by the evaluator: Order, limb, Trim, Plus. -/
import Derived.Test.YtagmohpafjncfaaNtE
import Derived.Test.YtagmohpafjncfaaRefNM
import Derived.Test.YtagmohpafjncfaaZTrimRef
import Derived.Test.YtagmohpafjncfaaEngR
set_option linter.unusedSimpArgs false
set_option linter.unusedVariables false
namespace Go.Proofs.Ytagmohpafjncfaa
open Eng Lmb Go.RowKit
def Ints (s : SV) (xs : List Int) : Prop := ∃ (a : Option Addr) (cap sz : Nat) (rd : Nat → Nat → SV), s = .sl a xs.length cap sz rd ∧ (xs.length = 0 ∨ sz = 1) ∧ (∀ i, i < xs.length → rd i 0 = .i .i64 (xs.getD i 0))
theorem Nats.ints {s : SV} {n : Nat} (h : Nats s n) : ∃ xs, Ints s xs ∧ Dig xs n := by
  obtain ⟨a, cap, sz, rd, xs, e, hz, hr, hd⟩ := h
  exact ⟨xs, ⟨a, cap, sz, rd, e, hz, hr⟩, hd⟩
theorem Ints.nats {s : SV} {xs : List Int} {n : Nat} (h : Ints s xs) (hd : Dig xs n) : Nats s n := by
  obtain ⟨a, cap, sz, rd, e, hz, hr⟩ := h
  exact ⟨a, cap, sz, rd, xs, e, hz, hr, hd⟩
theorem rd_to {R : Nat → Prop} {w : World} {s : SV} {xs : List Int} (hs : s.ok R w) (hn : Ints s xs) (hR : ∀ b, R b → b < w.heap.size) : @Zn.Rd (zoneOf R w) .i64 w s.den xs := by
  obtain ⟨a, cap, sz, rd, rfl, hz, hrd⟩ := hn
  obtain ⟨h1, h2, h3⟩ := hs
  refine ⟨a, cap, rfl, h1, ⟨h2, Nat.le_refl _, ?_⟩, ?_⟩
  · rcases h3 with h3 | ⟨blk, off, rfl, hr, _⟩
    · exact .inl h3
    · exact .inr fun x hx => by cases hx; exact .inl hr
  · rcases h3 with h3 | ⟨blk, off, rfl, hr, hc⟩
    · exact .inl h3
    rcases hz with hz | rfl
    · exact .inl hz
    · refine .inr ⟨blk, off, rfl, hR _ hr, fun i hi => ?_⟩
      have := (hc i 0 hi (by omega)).1
      rw [hrd i hi, Nat.mul_one, Nat.add_zero] at this
      exact this
theorem refTrimC (F : Frm) {s : SV} {xs : List Int} (h : Ints s xs) (hl : Limbs xs) : Contract F Try.prog 66 [s] (fun r => Nats r (val xs).toNat) := by
  refine ofCalls Try.func66 rfl (by kernel_rfl) fun R w hargs hR => ?_
  refine (@Zn.ref_trim_rd (zoneOf R w) _ _ w (rd_to (hargs s (by simp)) h hR)).mono ?_
  rintro e w' ⟨v, rfl, hv, rfl⟩
  obtain ⟨t, rfl, ht, hok⟩ := nat_from (R := R) (w := w) (w' := w) (n := (val xs).toNat) ⟨_, hv, dig_trim hl⟩
  exact ⟨t, rfl, ht, hok, Below.refl _ _⟩
set_option maxRecDepth 100000 in
theorem refOrderC (F : Frm) (x y : Int) : Contract F Try.prog 80 [.i .i64 x, .i .i64 y] (fun r => r = .i .i64 (cmpI x y)) := by
  refine contract_of Try.func80 rfl (by kernel_rfl) ?_
  simp only [Try.ntmps80, argEnv]
  (repeat refine Sat.seq ?_)
  (refine Sat.region_k fun k hk => ?_; simp -implicitDefEqProofs only [evr, id, reduceCtorEq, reduceIte, Nat.reduceMul, Nat.reduceAdd, Nat.reduceLT, Nat.reduceLeDiff, Nat.reduceEqDiff, Int.reduceLT, Int.reduceBEq, Int.reduceBNe, Nat.reduceBEq, List.append_nil, Int.toNat_zero, Nat.sub_self]; refine hk _ ?_; clear hk k; try show Sat _ _ _ _ _)
  (repeat refine Sat.seq ?_)
  (refine Sat.region_k fun k hk => ?_; simp -implicitDefEqProofs only [evr, id, reduceCtorEq, reduceIte, Nat.reduceMul, Nat.reduceAdd, Nat.reduceLT, Nat.reduceLeDiff, Nat.reduceEqDiff, Int.reduceLT, Int.reduceBEq, Int.reduceBNe, Nat.reduceBEq, List.append_nil, Int.toNat_zero, Nat.sub_self]; refine hk _ ?_; clear hk k; try show Sat _ _ _ _ _)
  refine Sat.cond_b rfl (fun h => ?_) (fun h => ?_)
  · simp only [decide_eq_true_eq] at h
    (repeat refine Sat.seq ?_)
    (refine Sat.region_k fun k hk => ?_; simp -implicitDefEqProofs only [evr, id, reduceCtorEq, reduceIte, Nat.reduceMul, Nat.reduceAdd, Nat.reduceLT, Nat.reduceLeDiff, Nat.reduceEqDiff, Int.reduceLT, Int.reduceBEq, Int.reduceBNe, Nat.reduceBEq, List.append_nil, Int.toNat_zero, Nat.sub_self]; refine hk _ ?_; clear hk k; try show Sat _ _ _ _ _)
    refine Sat.ret ?_
    simp only [Try.results80, evr, id, reduceCtorEq, reduceIte, Nat.reduceMul, Nat.reduceAdd, Nat.reduceLT, Nat.reduceLeDiff, Nat.reduceEqDiff, Int.reduceLT, Int.reduceBEq, Int.reduceBNe, Nat.reduceBEq, List.append_nil, Int.toNat_zero, Nat.sub_self]
    rw [cmpI_lt h]
  · simp only [decide_eq_false_iff_not] at h
    refine Sat.skip ?_
    simp only [thenK]
    (repeat refine Sat.seq ?_)
    (refine Sat.region_k fun k hk => ?_; simp -implicitDefEqProofs only [evr, id, reduceCtorEq, reduceIte, Nat.reduceMul, Nat.reduceAdd, Nat.reduceLT, Nat.reduceLeDiff, Nat.reduceEqDiff, Int.reduceLT, Int.reduceBEq, Int.reduceBNe, Nat.reduceBEq, List.append_nil, Int.toNat_zero, Nat.sub_self]; refine hk _ ?_; clear hk k; try show Sat _ _ _ _ _)
    refine Sat.cond_b rfl (fun h2 => ?_) (fun h2 => ?_)
    · simp only [decide_eq_true_eq] at h2
      (repeat refine Sat.seq ?_)
      (refine Sat.region_k fun k hk => ?_; simp -implicitDefEqProofs only [evr, id, reduceCtorEq, reduceIte, Nat.reduceMul, Nat.reduceAdd, Nat.reduceLT, Nat.reduceLeDiff, Nat.reduceEqDiff, Int.reduceLT, Int.reduceBEq, Int.reduceBNe, Nat.reduceBEq, List.append_nil, Int.toNat_zero, Nat.sub_self]; refine hk _ ?_; clear hk k; try show Sat _ _ _ _ _)
      refine Sat.ret ?_
      simp only [Try.results80, evr, id, reduceCtorEq, reduceIte, Nat.reduceMul, Nat.reduceAdd, Nat.reduceLT, Nat.reduceLeDiff, Nat.reduceEqDiff, Int.reduceLT, Int.reduceBEq, Int.reduceBNe, Nat.reduceBEq, List.append_nil, Int.toNat_zero, Nat.sub_self]
      rw [cmpI_gt h2]
    · simp only [decide_eq_false_iff_not] at h2
      refine Sat.skip ?_
      simp only [thenK]
      (repeat refine Sat.seq ?_)
      (refine Sat.region_k fun k hk => ?_; simp -implicitDefEqProofs only [evr, id, reduceCtorEq, reduceIte, Nat.reduceMul, Nat.reduceAdd, Nat.reduceLT, Nat.reduceLeDiff, Nat.reduceEqDiff, Int.reduceLT, Int.reduceBEq, Int.reduceBNe, Nat.reduceBEq, List.append_nil, Int.toNat_zero, Nat.sub_self]; refine hk _ ?_; clear hk k; try show Sat _ _ _ _ _)
      refine Sat.ret ?_
      simp only [Try.results80, evr, id, reduceCtorEq, reduceIte, Nat.reduceMul, Nat.reduceAdd, Nat.reduceLT, Nat.reduceLeDiff, Nat.reduceEqDiff, Int.reduceLT, Int.reduceBEq, Int.reduceBNe, Nat.reduceBEq, List.append_nil, Int.toNat_zero, Nat.sub_self]
      rw [cmpI_eq (by omega)]
set_option maxRecDepth 100000 in
theorem refLimbC (F : Frm) {s : SV} {xs : List Int} (h : Ints s xs) (i : Nat) : Contract F Try.prog 69 [s, .i .i64 i] (fun r => r = .i .i64 (xs.getD i 0)) := by
  obtain ⟨a, cap, sz, rd, rfl, hz, hrd⟩ := h
  refine contract_of Try.func69 rfl (by kernel_rfl) ?_
  simp only [Try.ntmps69, argEnv]
  (repeat refine Sat.seq ?_)
  (refine Sat.region_k fun k hk => ?_; simp -implicitDefEqProofs only [evr, id, reduceCtorEq, reduceIte, Nat.reduceMul, Nat.reduceAdd, Nat.reduceLT, Nat.reduceLeDiff, Nat.reduceEqDiff, Int.reduceLT, Int.reduceBEq, Int.reduceBNe, Nat.reduceBEq, List.append_nil, Int.toNat_zero, Nat.sub_self]; refine hk _ ?_; clear hk k; try show Sat _ _ _ _ _)
  (repeat refine Sat.seq ?_)
  (refine Sat.region_k fun k hk => ?_; simp -implicitDefEqProofs only [evr, id, reduceCtorEq, reduceIte, Nat.reduceMul, Nat.reduceAdd, Nat.reduceLT, Nat.reduceLeDiff, Nat.reduceEqDiff, Int.reduceLT, Int.reduceBEq, Int.reduceBNe, Nat.reduceBEq, List.append_nil, Int.toNat_zero, Nat.sub_self]; refine hk _ ?_; clear hk k; try show Sat _ _ _ _ _)
  refine Sat.cond_b rfl (fun h => ?_) (fun h => ?_)
  · simp only [decide_eq_true_eq] at h
    have hlt : i < xs.length := by omega
    have hsz : sz = 1 := by
      rcases hz with hz | hz
      · omega
      · exact hz
    subst hsz
    (repeat refine Sat.seq ?_)
    (refine Sat.region_k fun k hk => ?_; simp -implicitDefEqProofs only [evr, id, reduceCtorEq, reduceIte, Nat.reduceMul, Nat.reduceAdd, Nat.reduceLT, Nat.reduceLeDiff, Nat.reduceEqDiff, Int.reduceLT, Int.reduceBEq, Int.reduceBNe, Nat.reduceBEq, List.append_nil, Int.toNat_zero, Nat.sub_self])
    refine ⟨by omega, ?_⟩
    rw [hrd i hlt]
    (refine hk _ ?_; clear hk k; try show Sat _ _ _ _ _)
    refine Sat.ret ?_
    simp only [Try.results69, evr, id, reduceCtorEq, reduceIte, Nat.reduceMul, Nat.reduceAdd, Nat.reduceLT, Nat.reduceLeDiff, Nat.reduceEqDiff, Int.reduceLT, Int.reduceBEq, Int.reduceBNe, Nat.reduceBEq, List.append_nil, Int.toNat_zero, Nat.sub_self]
  · simp only [decide_eq_false_iff_not] at h
    refine Sat.skip ?_
    simp only [thenK]
    (repeat refine Sat.seq ?_)
    (refine Sat.region_k fun k hk => ?_; simp -implicitDefEqProofs only [evr, id, reduceCtorEq, reduceIte, Nat.reduceMul, Nat.reduceAdd, Nat.reduceLT, Nat.reduceLeDiff, Nat.reduceEqDiff, Int.reduceLT, Int.reduceBEq, Int.reduceBNe, Nat.reduceBEq, List.append_nil, Int.toNat_zero, Nat.sub_self]; refine hk _ ?_; clear hk k; try show Sat _ _ _ _ _)
    refine Sat.ret ?_
    simp only [Try.results69, evr, id, reduceCtorEq, reduceIte, Nat.reduceMul, Nat.reduceAdd, Nat.reduceLT, Nat.reduceLeDiff, Nat.reduceEqDiff, Int.reduceLT, Int.reduceBEq, Int.reduceBNe, Nat.reduceBEq, List.append_nil, Int.toNat_zero, Nat.sub_self]
    have : xs.length ≤ i := by omega
    simp [List.getD, this]
theorem getD_snoc_lt {os : List Int} {x : Int} {p : Nat} (h : p < os.length) : (os ++ [x]).getD p 0 = os.getD p 0 := by
  simp [List.getD, List.getElem?_append_left h]
theorem getD_snoc_eq {os : List Int} {x : Int} : (os ++ [x]).getD os.length 0 = x := by
  simp [List.getD]
theorem rd_snoc {os : List Int} {x y : Int} {n : Nat} (hn : os.length = n) (hx : y = x) : rdEq (n + 1) 1 (rdCat n (fun p _ => .i .i64 (os.getD p 0)) (rdL [.i .i64 y] 1)) (fun p _ => .i .i64 ((os ++ [x]).getD p 0)) := by
  subst hn
  refine rdEq_one (fun p j hp hj => ?_) ?_
  · show SV.i .i64 _ = SV.i .i64 _
    rw [getD_snoc_lt hp]
  · show SV.i .i64 _ = SV.i .i64 _
    rw [getD_snoc_eq, hx]
set_option maxRecDepth 100000 in
theorem refPlusC (F : Frm) {sa sb : SV} {m n : Nat} (ha : Nats sa m) (hb : Nats sb n) (b1 : (m : Int) < pw 512) (b2 : (n : Int) < pw 512) : Contract F Try.prog 50 [sa, sb] (fun r => Nats r (m + n)) := by
  obtain ⟨xs, hi1, d1⟩ := ha.ints
  obtain ⟨ys, hi2, d2⟩ := hb.ints
  have l1 := (d1.len_le 512).2 b1
  have l2 := (d2.len_le 512).2 b2
  have hj1 := hi1
  have hj2 := hi2
  obtain ⟨a1, c1, z1, r1, rfl, _⟩ := hi1
  obtain ⟨a2, c2, z2, r2, rfl, _⟩ := hi2
  refine contract_of Try.func50 rfl (by kernel_rfl) ?_
  simp only [Try.ntmps50, argEnv]
  (repeat refine Sat.seq ?_)
  (refine Sat.region_k fun k hk => ?_; simp -implicitDefEqProofs only [evr, id, reduceCtorEq, reduceIte, Nat.reduceMul, Nat.reduceAdd, Nat.reduceLT, Nat.reduceLeDiff, Nat.reduceEqDiff, Int.reduceLT, Int.reduceBEq, Int.reduceBNe, Nat.reduceBEq, List.append_nil, Int.toNat_zero, Nat.sub_self]; refine hk _ ?_; clear hk k; try show Sat _ _ _ _ _)
  (repeat refine Sat.seq ?_)
  (refine Sat.region_k fun k hk => ?_; simp -implicitDefEqProofs only [evr, id, reduceCtorEq, reduceIte, Nat.reduceMul, Nat.reduceAdd, Nat.reduceLT, Nat.reduceLeDiff, Nat.reduceEqDiff, Int.reduceLT, Int.reduceBEq, Int.reduceBNe, Nat.reduceBEq, List.append_nil, Int.toNat_zero, Nat.sub_self]; refine hk _ ?_; clear hk k; try show Sat _ _ _ _ _)
  (repeat refine Sat.seq ?_)
  (refine Sat.region_k fun k hk => ?_; simp -implicitDefEqProofs only [evr, id, reduceCtorEq, reduceIte, Nat.reduceMul, Nat.reduceAdd, Nat.reduceLT, Nat.reduceLeDiff, Nat.reduceEqDiff, Int.reduceLT, Int.reduceBEq, Int.reduceBNe, Nat.reduceBEq, List.append_nil, Int.toNat_zero, Nat.sub_self]; refine hk _ ?_; clear hk k; try show Sat _ _ _ _ _)
  (repeat refine Sat.seq ?_)
  (refine Sat.region_k fun k hk => ?_; simp -implicitDefEqProofs only [evr, id, reduceCtorEq, reduceIte, Nat.reduceMul, Nat.reduceAdd, Nat.reduceLT, Nat.reduceLeDiff, Nat.reduceEqDiff, Int.reduceLT, Int.reduceBEq, Int.reduceBNe, Nat.reduceBEq, List.append_nil, Int.toNat_zero, Nat.sub_self]; refine hk _ ?_; clear hk k; try show Sat _ _ _ _ _)
  (repeat refine Sat.seq ?_)
  refine Sat.block ?_
  refine Sat.adopt 5 3 1 (fun p _ => .i .i64 (([] : List Int).getD p 0)) rfl ?_
  refine Sat.loop (ι := Nat × Int × List Int × Option Addr × Nat) (fun x => ⟨42, [(7, .i .i64 x.1), (6, .i .i64 x.2.1), (0, .sl a1 xs.length c1 z1 r1), (1, .sl a2 ys.length c2 z2 r2), (5, .os 0 x.2.2.2.1 x.1 x.2.2.2.2)], [.row x.2.2.2.1 3 x.1 x.2.2.2.2 1 (fun p _ => .i .i64 (x.2.2.1.getD p 0))]⟩)
    (fun x => PlusInv xs ys x.2.2.1 x.1 x.2.1) (fun x => 2000 - x.1) (0, 0, [], none, 0) (PlusInv.start xs ys) (by simp -implicitDefEqProofs only [evr, id, reduceCtorEq, reduceIte, Nat.reduceMul, Nat.reduceAdd, Nat.reduceLT, Nat.reduceLeDiff, Nat.reduceEqDiff, Int.reduceLT, Int.reduceBEq, Int.reduceBNe, Nat.reduceBEq, List.append_nil, Int.toNat_zero, Nat.sub_self, evl]; try rfl) ?_
  rintro ⟨i, c, os, a, cap⟩ hinv
  simp only at hinv ⊢
  have t1 := hinv.tight
  have t2 := hinv.c0
  have t3 := hinv.c1
  have t4 := hinv.len
  have bx := limbs_getD d1.limbs i
  have bY := limbs_getD d2.limbs i
  have hi : i ≤ 513 := by omega
  (repeat refine Sat.seq ?_)
  refine Sat.region_at ⟨42, [(22, .b (decide (i < xs.length ∨ i < ys.length ∨ 0 < c))), (7, .i .i64 i), (6, .i .i64 c), (0, .sl a1 xs.length c1 z1 r1), (1, .sl a2 ys.length c2 z2 r2), (5, .os 0 a i cap)], [.row a 3 i cap 1 (fun p _ => .i .i64 (os.getD p 0))]⟩ (fun k hk => ?_) ?_
  · simp -implicitDefEqProofs only [evr, id, reduceCtorEq, reduceIte, Nat.reduceMul, Nat.reduceAdd, Nat.reduceLT, Nat.reduceLeDiff, Nat.reduceEqDiff, Int.reduceLT, Int.reduceBEq, Int.reduceBNe, Nat.reduceBEq, List.append_nil, Int.toNat_zero, Nat.sub_self]
    refine ⟨fun h => ?_, fun h => ⟨fun h2 => ?_, fun h2 => ?_⟩⟩
    · refine hk _ ?_
      have e : decide (i < xs.length ∨ i < ys.length ∨ 0 < c) = true := decide_eq_true (.inl (by omega))
      rw [e]
      simp -implicitDefEqProofs only [evr, id, reduceCtorEq, reduceIte, Nat.reduceMul, Nat.reduceAdd, Nat.reduceLT, Nat.reduceLeDiff, Nat.reduceEqDiff, Int.reduceLT, Int.reduceBEq, Int.reduceBNe, Nat.reduceBEq, List.append_nil, Int.toNat_zero, Nat.sub_self, evl]
    · refine hk _ ?_
      have e : decide (i < xs.length ∨ i < ys.length ∨ 0 < c) = true := decide_eq_true (.inr (.inl (by omega)))
      rw [e]
      simp -implicitDefEqProofs only [evr, id, reduceCtorEq, reduceIte, Nat.reduceMul, Nat.reduceAdd, Nat.reduceLT, Nat.reduceLeDiff, Nat.reduceEqDiff, Int.reduceLT, Int.reduceBEq, Int.reduceBNe, Nat.reduceBEq, List.append_nil, Int.toNat_zero, Nat.sub_self, evl]
    · refine hk _ ?_
      have e : decide (i < xs.length ∨ i < ys.length ∨ 0 < c) = decide (0 < c) := by
        congr 1
        apply propext
        constructor
        · rintro (h3 | h3 | h3)
          · omega
          · omega
          · exact h3
        · exact fun h3 => .inr (.inr h3)
      rw [e]
      simp -implicitDefEqProofs only [evr, id, reduceCtorEq, reduceIte, Nat.reduceMul, Nat.reduceAdd, Nat.reduceLT, Nat.reduceLeDiff, Nat.reduceEqDiff, Int.reduceLT, Int.reduceBEq, Int.reduceBNe, Nat.reduceBEq, List.append_nil, Int.toNat_zero, Nat.sub_self, evl]
  simp only [thenK]
  refine Sat.cond_b rfl (fun h => ?_) (fun h => ?_)
  · have hg : i < xs.length ∨ i < ys.length ∨ 0 < c := of_decide_eq_true h
    have hnext := hinv.step d1.limbs d2.limbs hg
    refine Sat.skip ?_
    simp only [thenK]
    (repeat refine Sat.seq ?_)
    refine Sat.block ?_
    (repeat refine Sat.seq ?_)
    (refine Sat.region_k fun k hk => ?_; simp -implicitDefEqProofs only [evr, id, reduceCtorEq, reduceIte, Nat.reduceMul, Nat.reduceAdd, Nat.reduceLT, Nat.reduceLeDiff, Nat.reduceEqDiff, Int.reduceLT, Int.reduceBEq, Int.reduceBNe, Nat.reduceBEq, List.append_nil, Int.toNat_zero, Nat.sub_self])
    refine wcall_plain (refLimbC F hj1 i) (by simp -implicitDefEqProofs only [evr, id, reduceCtorEq, reduceIte, Nat.reduceMul, Nat.reduceAdd, Nat.reduceLT, Nat.reduceLeDiff, Nat.reduceEqDiff, Int.reduceLT, Int.reduceBEq, Int.reduceBNe, Nat.reduceBEq, List.append_nil, Int.toNat_zero, Nat.sub_self]; try rfl) (by rintro _ rfl; exact ok_plain rfl) ?_
    rintro y rfl
    simp -implicitDefEqProofs only [evr, id, reduceCtorEq, reduceIte, Nat.reduceMul, Nat.reduceAdd, Nat.reduceLT, Nat.reduceLeDiff, Nat.reduceEqDiff, Int.reduceLT, Int.reduceBEq, Int.reduceBNe, Nat.reduceBEq, List.append_nil, Int.toNat_zero, Nat.sub_self]
    refine wcall_plain (refLimbC F hj2 i) (by simp -implicitDefEqProofs only [evr, id, reduceCtorEq, reduceIte, Nat.reduceMul, Nat.reduceAdd, Nat.reduceLT, Nat.reduceLeDiff, Nat.reduceEqDiff, Int.reduceLT, Int.reduceBEq, Int.reduceBNe, Nat.reduceBEq, List.append_nil, Int.toNat_zero, Nat.sub_self]; try rfl) (by rintro _ rfl; exact ok_plain rfl) ?_
    rintro y rfl
    have w1 : IntKind.i64.wrap (xs.getD i 0 + ys.getD i 0) = xs.getD i 0 + ys.getD i 0 := w64 (by omega)
    have w2 : IntKind.i64.wrap (xs.getD i 0 + ys.getD i 0 + c) = xs.getD i 0 + ys.getD i 0 + c := w64 (by omega)
    simp -implicitDefEqProofs only [evr, id, reduceCtorEq, reduceIte, Nat.reduceMul, Nat.reduceAdd, Nat.reduceLT, Nat.reduceLeDiff, Nat.reduceEqDiff, Int.reduceLT, Int.reduceBEq, Int.reduceBNe, Nat.reduceBEq, List.append_nil, Int.toNat_zero, Nat.sub_self, w1, w2]
    refine hk _ ?_
    clear hk k
    try show Sat _ _ _ _ _
    have tm : (xs.getD i 0 + ys.getD i 0 + c).tmod 1073741824 = (xs.getD i 0 + ys.getD i 0 + c) % 1073741824 := Int.tmod_eq_emod_of_nonneg (by omega)
    have td : IntKind.i64.wrap ((xs.getD i 0 + ys.getD i 0 + c).tdiv 1073741824) = (xs.getD i 0 + ys.getD i 0 + c) / 1073741824 := by
      rw [Int.tdiv_eq_ediv_of_nonneg (by omega), w64 (by omega)]
    have ti : IntKind.i64.wrap ((i : Int) + 1) = ((i + 1 : Nat) : Int) := by rw [w64 (by omega)]; omega
    (repeat refine Sat.seq ?_)
    (refine Sat.region_k fun k hk => ?_; simp -implicitDefEqProofs only [evr, id, reduceCtorEq, reduceIte, Nat.reduceMul, Nat.reduceAdd, Nat.reduceLT, Nat.reduceLeDiff, Nat.reduceEqDiff, Int.reduceLT, Int.reduceBEq, Int.reduceBNe, Nat.reduceBEq, List.append_nil, Int.toNat_zero, Nat.sub_self])
    refine ⟨by decide, fun blk => ?_⟩
    refine ⟨⟨by unfold maxLen; omega, by omega⟩, fun a2_1 cap2 => ?_⟩
    (refine hk _ ?_; clear hk k; try show Sat _ _ _ _ _)
    (repeat refine Sat.seq ?_)
    refine Sat.region_k fun k hk => ?_
    simp -implicitDefEqProofs only [evr, id, reduceCtorEq, reduceIte, Nat.reduceMul, Nat.reduceAdd, Nat.reduceLT, Nat.reduceLeDiff, Nat.reduceEqDiff, Int.reduceLT, Int.reduceBEq, Int.reduceBNe, Nat.reduceBEq, List.append_nil, Int.toNat_zero, Nat.sub_self, td]
    refine ⟨by decide, ?_⟩
    refine hk _ ?_
    clear hk k
    simp only [thenK, blockK]
    (repeat refine Sat.seq ?_)
    refine Sat.region_k fun k hk => ?_
    simp -implicitDefEqProofs only [evr, id, reduceCtorEq, reduceIte, Nat.reduceMul, Nat.reduceAdd, Nat.reduceLT, Nat.reduceLeDiff, Nat.reduceEqDiff, Int.reduceLT, Int.reduceBEq, Int.reduceBNe, Nat.reduceBEq, List.append_nil, Int.toNat_zero, Nat.sub_self, ti]
    refine hk _ ?_
    simp only [thenK, blockK]
    refine ⟨(i + 1, _, _, a2_1, cap2), hnext, by show 2000 - (i + 1) < 2000 - i; omega, ?_⟩
    simp -implicitDefEqProofs only [evr, id, reduceCtorEq, reduceIte, Nat.reduceMul, Nat.reduceAdd, Nat.reduceLT, Nat.reduceLeDiff, Nat.reduceEqDiff, Int.reduceLT, Int.reduceBEq, Int.reduceBNe, Nat.reduceBEq, List.append_nil, Int.toNat_zero, Nat.sub_self, evl]
    exact rd_snoc t4 tm
  · have hg : ¬ (i < xs.length ∨ i < ys.length ∨ 0 < c) := of_decide_eq_false h
    have hd := hinv.done d1 d2 (by omega) (by omega) (by omega)
    refine Sat.exit ?_
    simp only [thenK, blockK, reduceIte]
    (repeat refine Sat.seq ?_)
    (refine Sat.region_k fun k hk => ?_; simp -implicitDefEqProofs only [evr, id, reduceCtorEq, reduceIte, Nat.reduceMul, Nat.reduceAdd, Nat.reduceLT, Nat.reduceLeDiff, Nat.reduceEqDiff, Int.reduceLT, Int.reduceBEq, Int.reduceBNe, Nat.reduceBEq, List.append_nil, Int.toNat_zero, Nat.sub_self]; refine hk _ ?_; clear hk k; try show Sat _ _ _ _ _)
    refine Sat.ret ?_
    simp only [Try.results50, evr, id, reduceCtorEq, reduceIte, Nat.reduceMul, Nat.reduceAdd, Nat.reduceLT, Nat.reduceLeDiff, Nat.reduceEqDiff, Int.reduceLT, Int.reduceBEq, Int.reduceBNe, Nat.reduceBEq, List.append_nil, Int.toNat_zero, Nat.sub_self]
    exact nats_of t4 (fun p hp => rfl) hd
end Go.Proofs.Ytagmohpafjncfaa

/- The reference of package natural, by the evaluator: Less, Compare. -/
set_option linter.unusedSimpArgs false
set_option linter.unusedVariables false
namespace Go.Proofs.Ytagmohpafjncfaa
open Eng Lmb Go.RowKit
set_option maxRecDepth 100000 in
theorem refLessC (F : Frm) {sa sb : SV} {m n : Nat} (ha : Nats sa m) (hb : Nats sb n) (b1 : (m : Int) < pw 512) (hle : n ≤ m) : Contract F Try.prog 45 [sa, sb] (fun r => Nats r (m - n)) := by
  obtain ⟨xs, hi1, d1⟩ := ha.ints
  obtain ⟨ys, hi2, d2⟩ := hb.ints
  have l1 := (d1.len_le 512).2 b1
  have l2 := d2.mono_len d1 hle
  have hj1 := hi1
  have hj2 := hi2
  obtain ⟨a1, c1, z1, r1, rfl, hz1, hr1⟩ := hi1
  obtain ⟨a2, c2, z2, r2, rfl, _⟩ := hi2
  refine contract_of Try.func45 rfl (by kernel_rfl) ?_
  simp only [Try.ntmps45, argEnv]
  (repeat refine Sat.seq ?_)
  (refine Sat.region_k fun k hk => ?_; simp -implicitDefEqProofs only [evr, id, reduceCtorEq, reduceIte, Nat.reduceMul, Nat.reduceAdd, Nat.reduceLT, Nat.reduceLeDiff, Nat.reduceEqDiff, Int.reduceLT, Int.reduceBEq, Int.reduceBNe, Nat.reduceBEq, List.append_nil, Int.toNat_zero, Nat.sub_self]; refine hk _ ?_; clear hk k; try show Sat _ _ _ _ _)
  (repeat refine Sat.seq ?_)
  (refine Sat.region_k fun k hk => ?_; simp -implicitDefEqProofs only [evr, id, reduceCtorEq, reduceIte, Nat.reduceMul, Nat.reduceAdd, Nat.reduceLT, Nat.reduceLeDiff, Nat.reduceEqDiff, Int.reduceLT, Int.reduceBEq, Int.reduceBNe, Nat.reduceBEq, List.append_nil, Int.toNat_zero, Nat.sub_self]; refine hk _ ?_; clear hk k; try show Sat _ _ _ _ _)
  (repeat refine Sat.seq ?_)
  (refine Sat.region_k fun k hk => ?_; simp -implicitDefEqProofs only [evr, id, reduceCtorEq, reduceIte, Nat.reduceMul, Nat.reduceAdd, Nat.reduceLT, Nat.reduceLeDiff, Nat.reduceEqDiff, Int.reduceLT, Int.reduceBEq, Int.reduceBNe, Nat.reduceBEq, List.append_nil, Int.toNat_zero, Nat.sub_self]; refine hk _ ?_; clear hk k; try show Sat _ _ _ _ _)
  (repeat refine Sat.seq ?_)
  (refine Sat.region_k fun k hk => ?_; simp -implicitDefEqProofs only [evr, id, reduceCtorEq, reduceIte, Nat.reduceMul, Nat.reduceAdd, Nat.reduceLT, Nat.reduceLeDiff, Nat.reduceEqDiff, Int.reduceLT, Int.reduceBEq, Int.reduceBNe, Nat.reduceBEq, List.append_nil, Int.toNat_zero, Nat.sub_self]; refine hk _ ?_; clear hk k; try show Sat _ _ _ _ _)
  (repeat refine Sat.seq ?_)
  refine Sat.block ?_
  refine Sat.adopt 5 3 1 (fun p _ => .i .i64 (([] : List Int).getD p 0)) rfl ?_
  refine Sat.loop (ι := Nat × Int × List Int × Option Addr × Nat) (fun x => ⟨35, [(7, .i .i64 x.1), (6, .i .i64 x.2.1), (0, .sl a1 xs.length c1 z1 r1), (1, .sl a2 ys.length c2 z2 r2), (5, .os 0 x.2.2.2.1 x.1 x.2.2.2.2)], [.row x.2.2.2.1 3 x.1 x.2.2.2.2 1 (fun p _ => .i .i64 (x.2.2.1.getD p 0))]⟩)
    (fun x => x.1 ≤ xs.length ∧ LessInv xs ys x.2.2.1 x.1 x.2.1) (fun x => xs.length - x.1) (0, 0, [], none, 0) ⟨Nat.zero_le _, LessInv.start xs ys⟩ (by simp -implicitDefEqProofs only [evr, id, reduceCtorEq, reduceIte, Nat.reduceMul, Nat.reduceAdd, Nat.reduceLT, Nat.reduceLeDiff, Nat.reduceEqDiff, Int.reduceLT, Int.reduceBEq, Int.reduceBNe, Nat.reduceBEq, List.append_nil, Int.toNat_zero, Nat.sub_self, evl]; try rfl) ?_
  rintro ⟨i, c, os, a, cap⟩ ⟨hi, hinv⟩
  simp only at hi hinv ⊢
  have t2 := hinv.c0
  have t3 := hinv.c1
  have t4 := hinv.len
  have bx := limbs_getD d1.limbs i
  have bY := limbs_getD d2.limbs i
  (repeat refine Sat.seq ?_)
  (refine Sat.region_k fun k hk => ?_; simp -implicitDefEqProofs only [evr, id, reduceCtorEq, reduceIte, Nat.reduceMul, Nat.reduceAdd, Nat.reduceLT, Nat.reduceLeDiff, Nat.reduceEqDiff, Int.reduceLT, Int.reduceBEq, Int.reduceBNe, Nat.reduceBEq, List.append_nil, Int.toNat_zero, Nat.sub_self]; refine hk _ ?_; clear hk k; try show Sat _ _ _ _ _)
  (repeat refine Sat.seq ?_)
  refine Sat.cond_b rfl (fun h => ?_) (fun h => ?_)
  · simp only [decide_eq_true_eq] at h
    have hlt : i < xs.length := by omega
    have hsz : z1 = 1 := by
      rcases hz1 with hz | hz
      · omega
      · exact hz
    subst hsz
    have hnext := hinv.step d1.limbs d2.limbs
    have w1 : IntKind.i64.wrap (xs.getD i 0 - ys.getD i 0) = xs.getD i 0 - ys.getD i 0 := w64 (by omega)
    have w2 : IntKind.i64.wrap (xs.getD i 0 - ys.getD i 0 - c) = xs.getD i 0 - ys.getD i 0 - c := w64 (by omega)
    have ti : IntKind.i64.wrap ((i : Int) + 1) = ((i + 1 : Nat) : Int) := by rw [w64 (by omega)]; omega
    refine Sat.skip ?_
    simp only [thenK]
    (repeat refine Sat.seq ?_)
    refine Sat.block ?_
    (repeat refine Sat.seq ?_)
    (refine Sat.region_qk (by kernel_rfl) (by kernel_rfl) fun k hk => ?_; simp -implicitDefEqProofs only [evr, id, reduceCtorEq, reduceIte, Nat.reduceMul, Nat.reduceAdd, Nat.reduceLT, Nat.reduceLeDiff, Nat.reduceEqDiff, Int.reduceLT, Int.reduceBEq, Int.reduceBNe, Nat.reduceBEq, List.append_nil, Int.toNat_zero, Nat.sub_self])
    refine ⟨by omega, ?_⟩
    rw [hr1 i hlt]
    refine qcall (refLimbC Frm.nil hj2 i) (by simp -implicitDefEqProofs only [evr, id, reduceCtorEq, reduceIte, Nat.reduceMul, Nat.reduceAdd, Nat.reduceLT, Nat.reduceLeDiff, Nat.reduceEqDiff, Int.reduceLT, Int.reduceBEq, Int.reduceBNe, Nat.reduceBEq, List.append_nil, Int.toNat_zero, Nat.sub_self]; try rfl) (ok_plain rfl) ?_
    simp -implicitDefEqProofs only [evr, id, reduceCtorEq, reduceIte, Nat.reduceMul, Nat.reduceAdd, Nat.reduceLT, Nat.reduceLeDiff, Nat.reduceEqDiff, Int.reduceLT, Int.reduceBEq, Int.reduceBNe, Nat.reduceBEq, List.append_nil, Int.toNat_zero, Nat.sub_self, w1, w2]
    refine hk _ ?_
    clear hk k
    try show Sat _ _ _ _ _
    (repeat refine Sat.seq ?_)
    (refine Sat.region_k fun k hk => ?_; simp -implicitDefEqProofs only [evr, id, reduceCtorEq, reduceIte, Nat.reduceMul, Nat.reduceAdd, Nat.reduceLT, Nat.reduceLeDiff, Nat.reduceEqDiff, Int.reduceLT, Int.reduceBEq, Int.reduceBNe, Nat.reduceBEq, List.append_nil, Int.toNat_zero, Nat.sub_self]; refine hk _ ?_; clear hk k; try show Sat _ _ _ _ _)
    (repeat refine Sat.seq ?_)
    (refine Sat.region_k fun k hk => ?_; simp -implicitDefEqProofs only [evr, id, reduceCtorEq, reduceIte, Nat.reduceMul, Nat.reduceAdd, Nat.reduceLT, Nat.reduceLeDiff, Nat.reduceEqDiff, Int.reduceLT, Int.reduceBEq, Int.reduceBNe, Nat.reduceBEq, List.append_nil, Int.toNat_zero, Nat.sub_self]; refine hk _ ?_; clear hk k; try show Sat _ _ _ _ _)
    have b9 : -2147483648 < xs.getD i 0 - ys.getD i 0 - c ∧ xs.getD i 0 - ys.getD i 0 - c < 2147483648 := by omega
    generalize xs.getD i 0 - ys.getD i 0 - c = x at *
    (repeat refine Sat.seq ?_)
    refine Sat.at ⟨35, [(8, .i .i64 (dI x)), (6, .i .i64 (cI x)), (7, .i .i64 i), (0, .sl a1 xs.length c1 1 r1), (1, .sl a2 ys.length c2 z2 r2), (5, .os 0 a i cap)], [.row a 3 i cap 1 (fun p _ => .i .i64 (os.getD p 0))]⟩ ?_ ?_
    · refine Sat.cond_b rfl (fun h5 => ?_) (fun h5 => ?_)
      · simp only [decide_eq_true_eq] at h5
        have e1 : IntKind.i64.wrap (x + 1073741824) = dI x := by rw [w64 (by omega)]; unfold dI; rw [if_pos h5]
        have e2 : cI x = 1 := by unfold cI; rw [if_pos h5]
        (repeat refine Sat.seq ?_)
        refine Sat.region_k fun k hk => ?_
        simp -implicitDefEqProofs only [evr, id, reduceCtorEq, reduceIte, Nat.reduceMul, Nat.reduceAdd, Nat.reduceLT, Nat.reduceLeDiff, Nat.reduceEqDiff, Int.reduceLT, Int.reduceBEq, Int.reduceBNe, Nat.reduceBEq, List.append_nil, Int.toNat_zero, Nat.sub_self, e1]
        (refine hk _ ?_; clear hk k; try show Sat _ _ _ _ _)
        refine Sat.region_k fun k hk => ?_
        simp -implicitDefEqProofs only [evr, id, reduceCtorEq, reduceIte, Nat.reduceMul, Nat.reduceAdd, Nat.reduceLT, Nat.reduceLeDiff, Nat.reduceEqDiff, Int.reduceLT, Int.reduceBEq, Int.reduceBNe, Nat.reduceBEq, List.append_nil, Int.toNat_zero, Nat.sub_self]
        refine hk _ ?_
        simp only [thenK, e2]
        simp -implicitDefEqProofs only [evr, id, reduceCtorEq, reduceIte, Nat.reduceMul, Nat.reduceAdd, Nat.reduceLT, Nat.reduceLeDiff, Nat.reduceEqDiff, Int.reduceLT, Int.reduceBEq, Int.reduceBNe, Nat.reduceBEq, List.append_nil, Int.toNat_zero, Nat.sub_self, evl]
      · simp only [decide_eq_false_iff_not] at h5
        have e1 : dI x = x := by unfold dI; rw [if_neg h5]
        have e2 : cI x = 0 := by unfold cI; rw [if_neg h5]
        refine Sat.skip ?_
        simp only [thenK, e1, e2]
        simp -implicitDefEqProofs only [evr, id, reduceCtorEq, reduceIte, Nat.reduceMul, Nat.reduceAdd, Nat.reduceLT, Nat.reduceLeDiff, Nat.reduceEqDiff, Int.reduceLT, Int.reduceBEq, Int.reduceBNe, Nat.reduceBEq, List.append_nil, Int.toNat_zero, Nat.sub_self, evl]
    · simp only [thenK]
      (repeat refine Sat.seq ?_)
      (refine Sat.region_k fun k hk => ?_; simp -implicitDefEqProofs only [evr, id, reduceCtorEq, reduceIte, Nat.reduceMul, Nat.reduceAdd, Nat.reduceLT, Nat.reduceLeDiff, Nat.reduceEqDiff, Int.reduceLT, Int.reduceBEq, Int.reduceBNe, Nat.reduceBEq, List.append_nil, Int.toNat_zero, Nat.sub_self])
      intro blk
      refine ⟨⟨by unfold maxLen; omega, by omega⟩, fun a2_1 cap2 => ?_⟩
      refine hk _ ?_
      clear hk k
      simp only [thenK, blockK]
      (repeat refine Sat.seq ?_)
      refine Sat.region_k fun k hk => ?_
      simp -implicitDefEqProofs only [evr, id, reduceCtorEq, reduceIte, Nat.reduceMul, Nat.reduceAdd, Nat.reduceLT, Nat.reduceLeDiff, Nat.reduceEqDiff, Int.reduceLT, Int.reduceBEq, Int.reduceBNe, Nat.reduceBEq, List.append_nil, Int.toNat_zero, Nat.sub_self, ti]
      refine hk _ ?_
      simp only [thenK, blockK]
      refine ⟨(i + 1, cI x, os ++ [dI x], a2_1, cap2), ⟨by show i + 1 ≤ xs.length; omega, hnext⟩, by show xs.length - (i + 1) < xs.length - i; omega, ?_⟩
      simp -implicitDefEqProofs only [evr, id, reduceCtorEq, reduceIte, Nat.reduceMul, Nat.reduceAdd, Nat.reduceLT, Nat.reduceLeDiff, Nat.reduceEqDiff, Int.reduceLT, Int.reduceBEq, Int.reduceBNe, Nat.reduceBEq, List.append_nil, Int.toNat_zero, Nat.sub_self, evl]
      exact rd_snoc t4 rfl
  · simp only [decide_eq_false_iff_not] at h
    have hi2 : i = xs.length := by omega
    subst hi2
    have hd := hinv.done d1 d2 hle
    refine Sat.exit ?_
    simp only [thenK, blockK, reduceIte]
    (repeat refine Sat.seq ?_)
    (refine Sat.region_k fun k hk => ?_; simp -implicitDefEqProofs only [evr, id, reduceCtorEq, reduceIte, Nat.reduceMul, Nat.reduceAdd, Nat.reduceLT, Nat.reduceLeDiff, Nat.reduceEqDiff, Int.reduceLT, Int.reduceBEq, Int.reduceBNe, Nat.reduceBEq, List.append_nil, Int.toNat_zero, Nat.sub_self])
    refine wcall_slice (refTrimC F (s := .sl a os.length cap 1 (fun p _ => .i .i64 (os.getD p 0))) ⟨a, cap, 1, _, rfl, .inr rfl, fun p _ => rfl⟩ hinv.limbs) (by simp -implicitDefEqProofs only [evr, id, reduceCtorEq, reduceIte, Nat.reduceMul, Nat.reduceAdd, Nat.reduceLT, Nat.reduceLeDiff, Nat.reduceEqDiff, Int.reduceLT, Int.reduceBEq, Int.reduceBNe, Nat.reduceBEq, List.append_nil, Int.toNat_zero, Nat.sub_self]; try rfl) (by simp -implicitDefEqProofs only [evr, id, reduceCtorEq, reduceIte, Nat.reduceMul, Nat.reduceAdd, Nat.reduceLT, Nat.reduceLeDiff, Nat.reduceEqDiff, Int.reduceLT, Int.reduceBEq, Int.reduceBNe, Nat.reduceBEq, List.append_nil, Int.toNat_zero, Nat.sub_self, t4]; try rfl) ?_
    intro y hy
    rw [hd] at hy
    have hs8 := hy
    obtain ⟨a8, c8, z8, r8, x8, rfl, _⟩ := hy
    simp -implicitDefEqProofs only [evr, id, reduceCtorEq, reduceIte, Nat.reduceMul, Nat.reduceAdd, Nat.reduceLT, Nat.reduceLeDiff, Nat.reduceEqDiff, Int.reduceLT, Int.reduceBEq, Int.reduceBNe, Nat.reduceBEq, List.append_nil, Int.toNat_zero, Nat.sub_self]
    (refine hk _ ?_; clear hk k; try show Sat _ _ _ _ _)
    refine Sat.ret ?_
    simp only [Try.results45, evr, id, reduceCtorEq, reduceIte, Nat.reduceMul, Nat.reduceAdd, Nat.reduceLT, Nat.reduceLeDiff, Nat.reduceEqDiff, Int.reduceLT, Int.reduceBEq, Int.reduceBNe, Nat.reduceBEq, List.append_nil, Int.toNat_zero, Nat.sub_self]
    exact hs8
set_option maxRecDepth 100000 in
theorem refCompareC (F : Frm) {sa sb : SV} {m n : Nat} (ha : Nats sa m) (hb : Nats sb n) (b1 : (m : Int) < pw 512) : Contract F Try.prog 70 [sa, sb] (fun r => r = .i .i64 (cmpI m n)) := by
  obtain ⟨xs, hi1, d1⟩ := ha.ints
  obtain ⟨ys, hi2, d2⟩ := hb.ints
  have l1 := (d1.len_le 512).2 b1
  obtain ⟨a1, c1, z1, r1, rfl, hz1, hr1⟩ := hi1
  obtain ⟨a2, c2, z2, r2, rfl, hz2, hr2⟩ := hi2
  refine contract_of Try.func70 rfl (by kernel_rfl) ?_
  simp only [Try.ntmps70, argEnv]
  (repeat refine Sat.seq ?_)
  (refine Sat.region_k fun k hk => ?_; simp -implicitDefEqProofs only [evr, id, reduceCtorEq, reduceIte, Nat.reduceMul, Nat.reduceAdd, Nat.reduceLT, Nat.reduceLeDiff, Nat.reduceEqDiff, Int.reduceLT, Int.reduceBEq, Int.reduceBNe, Nat.reduceBEq, List.append_nil, Int.toNat_zero, Nat.sub_self]; refine hk _ ?_; clear hk k; try show Sat _ _ _ _ _)
  (repeat refine Sat.seq ?_)
  (refine Sat.region_k fun k hk => ?_; simp -implicitDefEqProofs only [evr, id, reduceCtorEq, reduceIte, Nat.reduceMul, Nat.reduceAdd, Nat.reduceLT, Nat.reduceLeDiff, Nat.reduceEqDiff, Int.reduceLT, Int.reduceBEq, Int.reduceBNe, Nat.reduceBEq, List.append_nil, Int.toNat_zero, Nat.sub_self]; refine hk _ ?_; clear hk k; try show Sat _ _ _ _ _)
  refine Sat.cond_b rfl (fun h => ?_) (fun h => ?_)
  · have hne : xs.length ≠ ys.length := by
      intro h9
      rw [h9] at h
      simp at h
    (repeat refine Sat.seq ?_)
    (refine Sat.region_k fun k hk => ?_; simp -implicitDefEqProofs only [evr, id, reduceCtorEq, reduceIte, Nat.reduceMul, Nat.reduceAdd, Nat.reduceLT, Nat.reduceLeDiff, Nat.reduceEqDiff, Int.reduceLT, Int.reduceBEq, Int.reduceBNe, Nat.reduceBEq, List.append_nil, Int.toNat_zero, Nat.sub_self])
    refine wcall_plain (refOrderC F _ _) (by simp -implicitDefEqProofs only [evr, id, reduceCtorEq, reduceIte, Nat.reduceMul, Nat.reduceAdd, Nat.reduceLT, Nat.reduceLeDiff, Nat.reduceEqDiff, Int.reduceLT, Int.reduceBEq, Int.reduceBNe, Nat.reduceBEq, List.append_nil, Int.toNat_zero, Nat.sub_self]; try rfl) (by rintro _ rfl; exact ok_plain rfl) ?_
    rintro y rfl
    simp -implicitDefEqProofs only [evr, id, reduceCtorEq, reduceIte, Nat.reduceMul, Nat.reduceAdd, Nat.reduceLT, Nat.reduceLeDiff, Nat.reduceEqDiff, Int.reduceLT, Int.reduceBEq, Int.reduceBNe, Nat.reduceBEq, List.append_nil, Int.toNat_zero, Nat.sub_self]
    (refine hk _ ?_; clear hk k; try show Sat _ _ _ _ _)
    refine Sat.ret ?_
    simp only [Try.results70, evr, id, reduceCtorEq, reduceIte, Nat.reduceMul, Nat.reduceAdd, Nat.reduceLT, Nat.reduceLeDiff, Nat.reduceEqDiff, Int.reduceLT, Int.reduceBEq, Int.reduceBNe, Nat.reduceBEq, List.append_nil, Int.toNat_zero, Nat.sub_self]
    rw [cmp_len d1 d2 hne]
  have hle : xs.length = ys.length := by
    simp only [bne_eq_false_iff_eq] at h
    omega
  have e0 : IntKind.i64.wrap ((xs.length : Int) - 1) = (xs.length : Int) - 1 := w64 (by omega)
  refine Sat.skip ?_
  simp only [thenK]
  (repeat refine Sat.seq ?_)
  refine Sat.region_k fun k hk => ?_
  simp -implicitDefEqProofs only [evr, id, reduceCtorEq, reduceIte, Nat.reduceMul, Nat.reduceAdd, Nat.reduceLT, Nat.reduceLeDiff, Nat.reduceEqDiff, Int.reduceLT, Int.reduceBEq, Int.reduceBNe, Nat.reduceBEq, List.append_nil, Int.toNat_zero, Nat.sub_self, e0]
  (refine hk _ ?_; clear hk k; try show Sat _ _ _ _ _)
  (repeat refine Sat.seq ?_)
  refine Sat.block ?_
  (repeat refine Sat.seq ?_)
  refine Sat.loop (ι := Nat) (fun q => ⟨41, [(5, .i .i64 ((q : Int) - 1)), (0, .sl a1 xs.length c1 z1 r1), (1, .sl a2 ys.length c2 z2 r2)], []⟩)
    (fun q => q ≤ xs.length ∧ xs.drop q = ys.drop q) (fun q => q) xs.length ⟨Nat.le_refl _, by rw [List.drop_length, hle, List.drop_length]⟩ (by simp -implicitDefEqProofs only [evr, id, reduceCtorEq, reduceIte, Nat.reduceMul, Nat.reduceAdd, Nat.reduceLT, Nat.reduceLeDiff, Nat.reduceEqDiff, Int.reduceLT, Int.reduceBEq, Int.reduceBNe, Nat.reduceBEq, List.append_nil, Int.toNat_zero, Nat.sub_self, evl]; try rfl) ?_
  rintro q ⟨hq, hdr⟩
  (repeat refine Sat.seq ?_)
  (refine Sat.region_k fun k hk => ?_; simp -implicitDefEqProofs only [evr, id, reduceCtorEq, reduceIte, Nat.reduceMul, Nat.reduceAdd, Nat.reduceLT, Nat.reduceLeDiff, Nat.reduceEqDiff, Int.reduceLT, Int.reduceBEq, Int.reduceBNe, Nat.reduceBEq, List.append_nil, Int.toNat_zero, Nat.sub_self]; refine hk _ ?_; clear hk k; try show Sat _ _ _ _ _)
  (repeat refine Sat.seq ?_)
  refine Sat.cond_b rfl (fun h2 => ?_) (fun h2 => ?_)
  · simp only [decide_eq_true_eq] at h2
    obtain ⟨j, rfl⟩ : ∃ j, q = j + 1 := ⟨q - 1, by omega⟩
    have hj : j < xs.length := by omega
    have hj2 : j < ys.length := by omega
    have ej : (((j + 1 : Nat) : Int) - 1) = (j : Int) := by omega
    have ej2 : IntKind.i64.wrap ((j : Int) - 1) = (j : Int) - 1 := w64 (by omega)
    have hsz1 : z1 = 1 := by
      rcases hz1 with hz | hz
      · omega
      · exact hz
    have hsz2 : z2 = 1 := by
      rcases hz2 with hz | hz
      · omega
      · exact hz
    subst hsz1 hsz2
    have g1 := hr1 j hj
    have g2 := hr2 j hj2
    refine Sat.skip ?_
    simp only [thenK, ej]
    (repeat refine Sat.seq ?_)
    refine Sat.block ?_
    (repeat refine Sat.seq ?_)
    (refine Sat.region_qk (by kernel_rfl) (by kernel_rfl) fun k hk => ?_; simp -implicitDefEqProofs only [evr, id, reduceCtorEq, reduceIte, Nat.reduceMul, Nat.reduceAdd, Nat.reduceLT, Nat.reduceLeDiff, Nat.reduceEqDiff, Int.reduceLT, Int.reduceBEq, Int.reduceBNe, Nat.reduceBEq, List.append_nil, Int.toNat_zero, Nat.sub_self])
    refine ⟨by omega, by omega, ?_⟩
    rw [g1, g2]
    simp -implicitDefEqProofs only [evr, id, reduceCtorEq, reduceIte, Nat.reduceMul, Nat.reduceAdd, Nat.reduceLT, Nat.reduceLeDiff, Nat.reduceEqDiff, Int.reduceLT, Int.reduceBEq, Int.reduceBNe, Nat.reduceBEq, List.append_nil, Int.toNat_zero, Nat.sub_self]
    (refine hk _ ?_; clear hk k; try show Sat _ _ _ _ _)
    (repeat refine Sat.seq ?_)
    refine Sat.cond_b rfl (fun h5 => ?_) (fun h5 => ?_)
    · have h6 : xs.getD j 0 ≠ ys.getD j 0 := by simpa using h5
      have hcmp := cmp_limb d1.limbs d2.limbs hj hj2 hdr h6
      rw [d1.val, d2.val] at hcmp
      (repeat refine Sat.seq ?_)
      (refine Sat.region_qk (by kernel_rfl) (by kernel_rfl) fun k hk => ?_; simp -implicitDefEqProofs only [evr, id, reduceCtorEq, reduceIte, Nat.reduceMul, Nat.reduceAdd, Nat.reduceLT, Nat.reduceLeDiff, Nat.reduceEqDiff, Int.reduceLT, Int.reduceBEq, Int.reduceBNe, Nat.reduceBEq, List.append_nil, Int.toNat_zero, Nat.sub_self])
      refine ⟨by omega, by omega, ?_⟩
      rw [g1, g2]
      refine qcall (refOrderC Frm.nil _ _) (by simp -implicitDefEqProofs only [evr, id, reduceCtorEq, reduceIte, Nat.reduceMul, Nat.reduceAdd, Nat.reduceLT, Nat.reduceLeDiff, Nat.reduceEqDiff, Int.reduceLT, Int.reduceBEq, Int.reduceBNe, Nat.reduceBEq, List.append_nil, Int.toNat_zero, Nat.sub_self]; try rfl) (ok_plain rfl) ?_
      simp -implicitDefEqProofs only [evr, id, reduceCtorEq, reduceIte, Nat.reduceMul, Nat.reduceAdd, Nat.reduceLT, Nat.reduceLeDiff, Nat.reduceEqDiff, Int.reduceLT, Int.reduceBEq, Int.reduceBNe, Nat.reduceBEq, List.append_nil, Int.toNat_zero, Nat.sub_self]
      (refine hk _ ?_; clear hk k; try show Sat _ _ _ _ _)
      refine Sat.ret ?_
      simp only [thenK, blockK, Try.results70, evr, id, reduceCtorEq, reduceIte, Nat.reduceMul, Nat.reduceAdd, Nat.reduceLT, Nat.reduceLeDiff, Nat.reduceEqDiff, Int.reduceLT, Int.reduceBEq, Int.reduceBNe, Nat.reduceBEq, List.append_nil, Int.toNat_zero, Nat.sub_self]
      first | rw [hcmp] | rw [← hcmp]
    · have h6 : xs.getD j 0 = ys.getD j 0 := by simpa using h5
      refine Sat.skip ?_
      simp only [thenK, blockK]
      (repeat refine Sat.seq ?_)
      refine Sat.region_k fun k hk => ?_
      simp -implicitDefEqProofs only [evr, id, reduceCtorEq, reduceIte, Nat.reduceMul, Nat.reduceAdd, Nat.reduceLT, Nat.reduceLeDiff, Nat.reduceEqDiff, Int.reduceLT, Int.reduceBEq, Int.reduceBNe, Nat.reduceBEq, List.append_nil, Int.toNat_zero, Nat.sub_self, ej2]
      refine hk _ ?_
      simp only [thenK, blockK]
      refine ⟨j, ⟨by show j ≤ xs.length; omega, drop_eq_step hj hj2 hdr h6⟩, by show j < j + 1; omega, ?_⟩
      simp -implicitDefEqProofs only [evr, id, reduceCtorEq, reduceIte, Nat.reduceMul, Nat.reduceAdd, Nat.reduceLT, Nat.reduceLeDiff, Nat.reduceEqDiff, Int.reduceLT, Int.reduceBEq, Int.reduceBNe, Nat.reduceBEq, List.append_nil, Int.toNat_zero, Nat.sub_self, evl]
  · simp only [decide_eq_false_iff_not] at h2
    obtain rfl : q = 0 := by omega
    rw [List.drop_zero, List.drop_zero] at hdr
    have hmn : m = n := (d1.inj d2).1 hdr
    refine Sat.exit ?_
    simp only [thenK, blockK, reduceIte]
    (repeat refine Sat.seq ?_)
    (refine Sat.region_k fun k hk => ?_; simp -implicitDefEqProofs only [evr, id, reduceCtorEq, reduceIte, Nat.reduceMul, Nat.reduceAdd, Nat.reduceLT, Nat.reduceLeDiff, Nat.reduceEqDiff, Int.reduceLT, Int.reduceBEq, Int.reduceBNe, Nat.reduceBEq, List.append_nil, Int.toNat_zero, Nat.sub_self]; refine hk _ ?_; clear hk k; try show Sat _ _ _ _ _)
    refine Sat.ret ?_
    simp only [Try.results70, evr, id, reduceCtorEq, reduceIte, Nat.reduceMul, Nat.reduceAdd, Nat.reduceLT, Nat.reduceLeDiff, Nat.reduceEqDiff, Int.reduceLT, Int.reduceBEq, Int.reduceBNe, Nat.reduceBEq, List.append_nil, Int.toNat_zero, Nat.sub_self]
    rw [cmpI_eq (by omega)]
end Go.Proofs.Ytagmohpafjncfaa

/- The reference of package natural, by the evaluator: half, Times. -/
set_option linter.unusedSimpArgs false
set_option linter.unusedVariables false
namespace Go.Proofs.Ytagmohpafjncfaa
open Eng Lmb Go.RowKit
theorem rd_zero {n N : Nat} {rd : Nat → Nat → SV} (h : ∀ p, rd p 0 = .i .i64 0) : rdEq n 1 rd (fun p _ => .i .i64 ((List.replicate N 0).getD p 0)) := by
  intro p j hp hj
  obtain rfl : j = 0 := by omega
  rw [h p]
  show SV.i .i64 0 = SV.i .i64 _
  congr 1
  simp only [List.getD, List.getElem?_replicate]
  split <;> rfl
theorem rd_set {qs : List Int} {n ix : Nat} {x y : Int} (hx : y = x) (h : ix < qs.length) : rdEq n 1 (rdSet (fun p _ => .i .i64 (qs.getD p 0)) ix 0 [.i .i64 y]) (fun p _ => .i .i64 ((qs.set ix x).getD p 0)) := by
  subst hx
  intro p j hp hj
  obtain rfl : j = 0 := by omega
  unfold rdSet
  show (if _ then _ else _) = SV.i .i64 _
  rw [getD_set _ _ _ h]
  by_cases hpx : p = ix
  · subst hpx
    simp
  · rw [if_neg (by intro h; exact hpx h.1), if_neg (fun h => hpx h.symm)]
set_option maxRecDepth 100000 in
theorem refHalfC (F : Frm) {sa : SV} {m : Nat} (ha : Nats sa m) (b1 : (m : Int) < pw 512) : Contract F Try.prog 79 [sa] (fun r => Nats r (m / 2)) := by
  obtain ⟨xs, hi1, d1⟩ := ha.ints
  have l1 := (d1.len_le 512).2 b1
  obtain ⟨a1, c1, z1, r1, rfl, hz1, hr1⟩ := hi1
  refine contract_of Try.func79 rfl (by kernel_rfl) ?_
  simp only [Try.ntmps79, argEnv]
  have e0 : IntKind.i64.wrap ((xs.length : Int) - 1) = (xs.length : Int) - 1 := w64 (by omega)
  (repeat refine Sat.seq ?_)
  (refine Sat.region_k fun k hk => ?_; simp -implicitDefEqProofs only [evr, id, reduceCtorEq, reduceIte, Nat.reduceMul, Nat.reduceAdd, Nat.reduceLT, Nat.reduceLeDiff, Nat.reduceEqDiff, Int.reduceLT, Int.reduceBEq, Int.reduceBNe, Nat.reduceBEq, List.append_nil, Nat.sub_self]; refine hk _ ?_; clear hk k; try show Sat _ _ _ _ _)
  (repeat refine Sat.seq ?_)
  (refine Sat.region_k fun k hk => ?_; simp -implicitDefEqProofs only [evr, id, reduceCtorEq, reduceIte, Nat.reduceMul, Nat.reduceAdd, Nat.reduceLT, Nat.reduceLeDiff, Nat.reduceEqDiff, Int.reduceLT, Int.reduceBEq, Int.reduceBNe, Nat.reduceBEq, List.append_nil, Nat.sub_self])
  refine ⟨by omega, fun a cap => ?_⟩
  (refine hk _ ?_; clear hk k; try show Sat _ _ _ _ _)
  (repeat refine Sat.seq ?_)
  (refine Sat.region_k fun k hk => ?_; simp -implicitDefEqProofs only [evr, id, reduceCtorEq, reduceIte, Nat.reduceMul, Nat.reduceAdd, Nat.reduceLT, Nat.reduceLeDiff, Nat.reduceEqDiff, Int.reduceLT, Int.reduceBEq, Int.reduceBNe, Nat.reduceBEq, List.append_nil, Nat.sub_self]; refine hk _ ?_; clear hk k; try show Sat _ _ _ _ _)
  (repeat refine Sat.seq ?_)
  refine Sat.region_k fun k hk => ?_
  simp -implicitDefEqProofs only [evr, id, reduceCtorEq, reduceIte, Nat.reduceMul, Nat.reduceAdd, Nat.reduceLT, Nat.reduceLeDiff, Nat.reduceEqDiff, Int.reduceLT, Int.reduceBEq, Int.reduceBNe, Nat.reduceBEq, List.append_nil, Nat.sub_self, e0]
  (refine hk _ ?_; clear hk k; try show Sat _ _ _ _ _)
  (repeat refine Sat.seq ?_)
  refine Sat.block ?_
  (repeat refine Sat.seq ?_)
  refine Sat.loop (ι := Nat × Int × List Int) (fun x => ⟨33, [(5, .i .i64 ((x.1 : Int) - 1)), (4, .i .i64 x.2.1), (3, .os 0 a xs.length cap), (0, .sl a1 xs.length c1 z1 r1)], [.row a 3 xs.length cap 1 (fun p _ => .i .i64 (x.2.2.getD p 0))]⟩)
    (fun x => x.1 ≤ xs.length ∧ SmallInv xs 2 x.1 x.2.2 x.2.1) (fun x => x.1) (xs.length, 0, List.replicate xs.length 0) ⟨Nat.le_refl _, SmallInv.start xs 2 (by decide)⟩ (by simp -implicitDefEqProofs only [evr, id, reduceCtorEq, reduceIte, Nat.reduceMul, Nat.reduceAdd, Nat.reduceLT, Nat.reduceLeDiff, Nat.reduceEqDiff, Int.reduceLT, Int.reduceBEq, Int.reduceBNe, Nat.reduceBEq, List.append_nil, Nat.sub_self, evl]; exact rd_zero (fun p => rfl)) ?_
  rintro ⟨q, rest, qs⟩ ⟨hq, hinv⟩
  simp only at hq hinv ⊢
  have t1 := hinv.r0
  have t2 := hinv.r1
  have t3 := hinv.len
  (repeat refine Sat.seq ?_)
  (refine Sat.region_k fun k hk => ?_; simp -implicitDefEqProofs only [evr, id, reduceCtorEq, reduceIte, Nat.reduceMul, Nat.reduceAdd, Nat.reduceLT, Nat.reduceLeDiff, Nat.reduceEqDiff, Int.reduceLT, Int.reduceBEq, Int.reduceBNe, Nat.reduceBEq, List.append_nil, Nat.sub_self]; refine hk _ ?_; clear hk k; try show Sat _ _ _ _ _)
  (repeat refine Sat.seq ?_)
  refine Sat.cond_b rfl (fun h2 => ?_) (fun h2 => ?_)
  · simp only [decide_eq_true_eq] at h2
    obtain ⟨j, rfl⟩ : ∃ j, q = j + 1 := ⟨q - 1, by omega⟩
    have hj : j < xs.length := by omega
    have ej : (((j + 1 : Nat) : Int) - 1) = (j : Int) := by omega
    have ej2 : IntKind.i64.wrap ((j : Int) - 1) = (j : Int) - 1 := w64 (by omega)
    have hsz1 : z1 = 1 := by
      rcases hz1 with hz | hz
      · omega
      · exact hz
    subst hsz1
    have g1 := hr1 j hj
    have bx := limbs_getD d1.limbs j
    have hnext := hinv.step d1.limbs hj
    have w1 : IntKind.i64.wrap (rest * 1073741824) = rest * 1073741824 := w64 (by omega)
    have w2 : IntKind.i64.wrap (xs.getD j 0 + rest * 1073741824) = rest * 1073741824 + xs.getD j 0 := by rw [w64 (by omega)]; omega
    have tq : IntKind.i64.wrap ((rest * 1073741824 + xs.getD j 0).tdiv 2) = (rest * 1073741824 + xs.getD j 0) / 2 := by
      rw [Int.tdiv_eq_ediv_of_nonneg (by omega), w64 (by omega)]
    have tm : (rest * 1073741824 + xs.getD j 0).tmod 2 = (rest * 1073741824 + xs.getD j 0) % 2 := Int.tmod_eq_emod_of_nonneg (by omega)
    refine Sat.skip ?_
    simp only [thenK, ej]
    (repeat refine Sat.seq ?_)
    refine Sat.block ?_
    (repeat refine Sat.seq ?_)
    refine Sat.region_k fun k hk => ?_
    simp -implicitDefEqProofs only [evr, id, reduceCtorEq, reduceIte, Nat.reduceMul, Nat.reduceAdd, Nat.reduceLT, Nat.reduceLeDiff, Nat.reduceEqDiff, Int.reduceLT, Int.reduceBEq, Int.reduceBNe, Nat.reduceBEq, List.append_nil, Nat.sub_self]
    refine ⟨by omega, ?_⟩
    rw [g1]
    simp -implicitDefEqProofs only [evr, id, reduceCtorEq, reduceIte, Nat.reduceMul, Nat.reduceAdd, Nat.reduceLT, Nat.reduceLeDiff, Nat.reduceEqDiff, Int.reduceLT, Int.reduceBEq, Int.reduceBNe, Nat.reduceBEq, List.append_nil, Nat.sub_self, w1, w2]
    (refine hk _ ?_; clear hk k; try show Sat _ _ _ _ _)
    (repeat refine Sat.seq ?_)
    refine Sat.region_k fun k hk => ?_
    simp -implicitDefEqProofs only [evr, id, reduceCtorEq, reduceIte, Nat.reduceMul, Nat.reduceAdd, Nat.reduceLT, Nat.reduceLeDiff, Nat.reduceEqDiff, Int.reduceLT, Int.reduceBEq, Int.reduceBNe, Nat.reduceBEq, List.append_nil, Nat.sub_self, tq]
    refine ⟨by decide, by omega, by omega, ?_⟩
    (refine hk _ ?_; clear hk k; try show Sat _ _ _ _ _)
    refine Sat.region_k fun k hk => ?_
    simp -implicitDefEqProofs only [evr, id, reduceCtorEq, reduceIte, Nat.reduceMul, Nat.reduceAdd, Nat.reduceLT, Nat.reduceLeDiff, Nat.reduceEqDiff, Int.reduceLT, Int.reduceBEq, Int.reduceBNe, Nat.reduceBEq, List.append_nil, Nat.sub_self, tm]
    refine ⟨by decide, ?_⟩
    refine hk _ ?_
    clear hk k
    simp only [thenK, blockK]
    (repeat refine Sat.seq ?_)
    refine Sat.region_k fun k hk => ?_
    simp -implicitDefEqProofs only [evr, id, reduceCtorEq, reduceIte, Nat.reduceMul, Nat.reduceAdd, Nat.reduceLT, Nat.reduceLeDiff, Nat.reduceEqDiff, Int.reduceLT, Int.reduceBEq, Int.reduceBNe, Nat.reduceBEq, List.append_nil, Nat.sub_self, ej2]
    refine hk _ ?_
    simp only [thenK, blockK]
    refine ⟨(j, (rest * 1073741824 + xs.getD j 0) % 2, qs.set j ((rest * 1073741824 + xs.getD j 0) / 2)), ⟨by show j ≤ xs.length; omega, hnext⟩, by show j < j + 1; omega, ?_⟩
    simp -implicitDefEqProofs only [evr, id, reduceCtorEq, reduceIte, Nat.reduceMul, Nat.reduceAdd, Nat.reduceLT, Nat.reduceLeDiff, Nat.reduceEqDiff, Int.reduceLT, Int.reduceBEq, Int.reduceBNe, Nat.reduceBEq, List.append_nil, Nat.sub_self, evl]
    exact rd_set rfl (by omega)
  · simp only [decide_eq_false_iff_not] at h2
    obtain rfl : q = 0 := by omega
    have hd := (hinv.done (n := m) (c := 2) d1.val rfl).1
    have hv : (val qs).toNat = m / 2 := by
      have h8 := hd.val
      rw [trim_val] at h8
      omega
    refine Sat.exit ?_
    simp only [thenK, blockK, reduceIte]
    (repeat refine Sat.seq ?_)
    (refine Sat.region_k fun k hk => ?_; simp -implicitDefEqProofs only [evr, id, reduceCtorEq, reduceIte, Nat.reduceMul, Nat.reduceAdd, Nat.reduceLT, Nat.reduceLeDiff, Nat.reduceEqDiff, Int.reduceLT, Int.reduceBEq, Int.reduceBNe, Nat.reduceBEq, List.append_nil, Nat.sub_self])
    refine wcall_slice (refTrimC F (s := .sl a qs.length cap 1 (fun p _ => .i .i64 (qs.getD p 0))) ⟨a, cap, 1, _, rfl, .inr rfl, fun p _ => rfl⟩ hinv.limbs) (by simp -implicitDefEqProofs only [evr, id, reduceCtorEq, reduceIte, Nat.reduceMul, Nat.reduceAdd, Nat.reduceLT, Nat.reduceLeDiff, Nat.reduceEqDiff, Int.reduceLT, Int.reduceBEq, Int.reduceBNe, Nat.reduceBEq, List.append_nil, Nat.sub_self]; try rfl) (by simp -implicitDefEqProofs only [evr, id, reduceCtorEq, reduceIte, Nat.reduceMul, Nat.reduceAdd, Nat.reduceLT, Nat.reduceLeDiff, Nat.reduceEqDiff, Int.reduceLT, Int.reduceBEq, Int.reduceBNe, Nat.reduceBEq, List.append_nil, Nat.sub_self, t3]; try rfl) ?_
    intro y hy
    rw [hv] at hy
    have hs8 := hy
    obtain ⟨a8, c8, z8, r8, x8, rfl, _⟩ := hy
    simp -implicitDefEqProofs only [evr, id, reduceCtorEq, reduceIte, Nat.reduceMul, Nat.reduceAdd, Nat.reduceLT, Nat.reduceLeDiff, Nat.reduceEqDiff, Int.reduceLT, Int.reduceBEq, Int.reduceBNe, Nat.reduceBEq, List.append_nil, Nat.sub_self]
    (refine hk _ ?_; clear hk k; try show Sat _ _ _ _ _)
    refine Sat.ret ?_
    simp only [Try.results79, evr, id, reduceCtorEq, reduceIte, Nat.reduceMul, Nat.reduceAdd, Nat.reduceLT, Nat.reduceLeDiff, Nat.reduceEqDiff, Int.reduceLT, Int.reduceBEq, Int.reduceBNe, Nat.reduceBEq, List.append_nil, Nat.sub_self]
    exact hs8
def TimIn (xs ys os : List Int) (j q : Nat) (c : Int) (qs : List Int) : Prop := (q ≤ ys.length ∧ MulIn xs ys os qs j q c) ∨ (q = ys.length + 1 ∧ c = 0 ∧ MulOut xs ys qs (j + 1))
theorem TimIn.step {xs ys os qs : List Int} {j q : Nat} {c : Int} (h : TimIn xs ys os j q c qs) (dx : Limbs xs) (dy : Limbs ys) (ho : MulOut xs ys os j) (hj : j < xs.length) (hg : q < ys.length ∨ 0 < c) :
    TimIn xs ys os j (q + 1) ((qs.getD (j + q) 0 + xs.getD j 0 * ys.getD q 0 + c) / 1073741824) (qs.set (j + q) ((qs.getD (j + q) 0 + xs.getD j 0 * ys.getD q 0 + c) % 1073741824)) := by
  rcases h with ⟨hq, h⟩ | ⟨hq, hc, _⟩
  · rcases (show q < ys.length ∨ q = ys.length by omega) with hlt | rfl
    · exact .inl ⟨hlt, h.step dx dy hj hlt⟩
    · right
      have z1 : ys.getD ys.length 0 = 0 := by simp [List.getD]
      have z2 := h.zero (j + ys.length) (Nat.le_refl _)
      have c0 := h.c0
      have c1 := h.c1
      have e : qs.getD (j + ys.length) 0 + xs.getD j 0 * ys.getD ys.length 0 + c = c := by rw [z1, z2]; omega
      rw [e]
      have e1 : c % 1073741824 = c := by omega
      have e2 : c / 1073741824 = 0 := by omega
      rw [e1, e2]
      exact ⟨rfl, rfl, h.done ho hj⟩
  · omega
theorem set_same {l : List Int} {i : Nat} (h : l.getD i 0 = 0) (hi : i < l.length) : l.set i 0 = l := by
  have e : l[i] = 0 := by simpa [List.getD, hi] using h
  rw [← e, List.set_getElem_self]
theorem TimIn.exit {xs ys os qs : List Int} {j q : Nat} {c : Int} (h : TimIn xs ys os j q c qs) (ho : MulOut xs ys os j) (hj : j < xs.length) (hg : ¬ (q < ys.length ∨ 0 < c)) : MulOut xs ys qs (j + 1) := by
  rcases h with ⟨hq, h⟩ | ⟨hq, hc, h⟩
  · have c0 := h.c0
    have hc : c = 0 := by omega
    have hq2 : q = ys.length := by omega
    subst hc hq2
    have hd := h.done ho hj
    rwa [set_same (h.zero _ (Nat.le_refl _)) (by have := h.len; omega)] at hd
  · exact h
theorem TimIn.facts {xs ys os qs : List Int} {j q : Nat} {c : Int} (h : TimIn xs ys os j q c qs) : qs.length = xs.length + ys.length ∧ Limbs qs ∧ 0 ≤ c ∧ c < 1073741824 ∧ q ≤ ys.length + 1 := by
  rcases h with ⟨hq, h⟩ | ⟨hq, hc, h⟩
  · exact ⟨h.len, h.limbs, h.c0, h.c1, by omega⟩
  · exact ⟨h.len, h.limbs, by omega, by omega, by omega⟩
set_option maxRecDepth 100000 in
theorem refTimesC (F : Frm) {sa sb : SV} {m n : Nat} (ha : Nats sa m) (hb : Nats sb n) (b1 : (m : Int) < pw 512) (b2 : (n : Int) < pw 512) : Contract F Try.prog 51 [sa, sb] (fun r => Nats r (m * n)) := by
  obtain ⟨xs, hi1, d1⟩ := ha.ints
  obtain ⟨ys, hi2, d2⟩ := hb.ints
  have l1 := (d1.len_le 512).2 b1
  have l2 := (d2.len_le 512).2 b2
  have hj2 := hi2
  obtain ⟨a1, c1, z1, r1, rfl, hz1, hr1⟩ := hi1
  obtain ⟨a2, c2, z2, r2, rfl, hz2, hr2⟩ := hi2
  refine contract_of Try.func51 rfl (by kernel_rfl) ?_
  simp only [Try.ntmps51, argEnv]
  have e0 : IntKind.i64.wrap ((xs.length : Int) + (ys.length : Int)) = ((xs.length + ys.length : Nat) : Int) := by rw [w64 (by omega)]; omega
  generalize hN : xs.length + ys.length = N at e0
  (repeat refine Sat.seq ?_)
  (refine Sat.region_k fun k hk => ?_; simp -implicitDefEqProofs only [evr, id, reduceCtorEq, reduceIte, Nat.reduceMul, Nat.reduceAdd, Nat.reduceLT, Nat.reduceLeDiff, Nat.reduceEqDiff, Int.reduceLT, Int.reduceBEq, Int.reduceBNe, Nat.reduceBEq, List.append_nil, Nat.sub_self]; refine hk _ ?_; clear hk k; try show Sat _ _ _ _ _)
  (repeat refine Sat.seq ?_)
  refine Sat.region_k fun k hk => ?_
  simp -implicitDefEqProofs only [evr, id, reduceCtorEq, reduceIte, Nat.reduceMul, Nat.reduceAdd, Nat.reduceLT, Nat.reduceLeDiff, Nat.reduceEqDiff, Int.reduceLT, Int.reduceBEq, Int.reduceBNe, Nat.reduceBEq, List.append_nil, Nat.sub_self, e0]
  refine ⟨by omega, fun a cap => ?_⟩
  (refine hk _ ?_; clear hk k; try show Sat _ _ _ _ _)
  (repeat refine Sat.seq ?_)
  (refine Sat.region_k fun k hk => ?_; simp -implicitDefEqProofs only [evr, id, reduceCtorEq, reduceIte, Nat.reduceMul, Nat.reduceAdd, Nat.reduceLT, Nat.reduceLeDiff, Nat.reduceEqDiff, Int.reduceLT, Int.reduceBEq, Int.reduceBNe, Nat.reduceBEq, List.append_nil, Nat.sub_self]; refine hk _ ?_; clear hk k; try show Sat _ _ _ _ _)
  (repeat refine Sat.seq ?_)
  refine Sat.block ?_
  (repeat refine Sat.seq ?_)
  refine Sat.loop (ι := Nat × List Int) (fun x => ⟨60, [(6, .i .i64 x.1), (5, .os 0 a N cap), (0, .sl a1 xs.length c1 z1 r1), (1, .sl a2 ys.length c2 z2 r2)], [.row a 3 N cap 1 (fun p _ => .i .i64 (x.2.getD p 0))]⟩)
    (fun x => x.1 ≤ xs.length ∧ MulOut xs ys x.2 x.1) (fun x => xs.length - x.1) (0, List.replicate (xs.length + ys.length) 0) ⟨Nat.zero_le _, MulOut.start xs ys⟩ (by simp -implicitDefEqProofs only [evr, id, reduceCtorEq, reduceIte, Nat.reduceMul, Nat.reduceAdd, Nat.reduceLT, Nat.reduceLeDiff, Nat.reduceEqDiff, Int.reduceLT, Int.reduceBEq, Int.reduceBNe, Nat.reduceBEq, List.append_nil, Nat.sub_self, evl]; exact ⟨rfl, rd_zero (fun p => rfl)⟩) ?_
  rintro ⟨j, os⟩ ⟨hj, hout⟩
  simp only at hj hout ⊢
  (repeat refine Sat.seq ?_)
  (refine Sat.region_k fun k hk => ?_; simp -implicitDefEqProofs only [evr, id, reduceCtorEq, reduceIte, Nat.reduceMul, Nat.reduceAdd, Nat.reduceLT, Nat.reduceLeDiff, Nat.reduceEqDiff, Int.reduceLT, Int.reduceBEq, Int.reduceBNe, Nat.reduceBEq, List.append_nil, Nat.sub_self]; refine hk _ ?_; clear hk k; try show Sat _ _ _ _ _)
  (repeat refine Sat.seq ?_)
  refine Sat.cond_b rfl (fun h => ?_) (fun h => ?_)
  · simp only [decide_eq_true_eq] at h
    have hjl : j < xs.length := by omega
    have hsz1 : z1 = 1 := by
      rcases hz1 with hz | hz
      · omega
      · exact hz
    subst hsz1
    have g1 := hr1 j hjl
    have bx := limbs_getD d1.limbs j
    have ej1 : IntKind.i64.wrap ((j : Int) + 1) = ((j + 1 : Nat) : Int) := by rw [w64 (by omega)]; omega
    refine Sat.skip ?_
    simp only [thenK]
    (repeat refine Sat.seq ?_)
    refine Sat.block ?_
    (repeat refine Sat.seq ?_)
    (refine Sat.region_k fun k hk => ?_; simp -implicitDefEqProofs only [evr, id, reduceCtorEq, reduceIte, Nat.reduceMul, Nat.reduceAdd, Nat.reduceLT, Nat.reduceLeDiff, Nat.reduceEqDiff, Int.reduceLT, Int.reduceBEq, Int.reduceBNe, Nat.reduceBEq, List.append_nil, Nat.sub_self]; refine hk _ ?_; clear hk k; try show Sat _ _ _ _ _)
    (repeat refine Sat.seq ?_)
    (refine Sat.region_k fun k hk => ?_; simp -implicitDefEqProofs only [evr, id, reduceCtorEq, reduceIte, Nat.reduceMul, Nat.reduceAdd, Nat.reduceLT, Nat.reduceLeDiff, Nat.reduceEqDiff, Int.reduceLT, Int.reduceBEq, Int.reduceBNe, Nat.reduceBEq, List.append_nil, Nat.sub_self]; refine hk _ ?_; clear hk k; try show Sat _ _ _ _ _)
    (repeat refine Sat.seq ?_)
    refine Sat.block ?_
    (repeat refine Sat.seq ?_)
    refine Sat.loop (ι := Nat × Int × List Int) (fun x => ⟨60, [(8, .i .i64 x.1), (7, .i .i64 x.2.1), (6, .i .i64 j), (5, .os 0 a N cap), (0, .sl a1 xs.length c1 1 r1), (1, .sl a2 ys.length c2 z2 r2)], [.row a 3 N cap 1 (fun p _ => .i .i64 (x.2.2.getD p 0))]⟩)
      (fun x => TimIn xs ys os j x.1 x.2.1 x.2.2) (fun x => ys.length + 1 - x.1) (0, 0, os) (.inl ⟨Nat.zero_le _, MulIn.start hout⟩) (by simp -implicitDefEqProofs only [evr, id, reduceCtorEq, reduceIte, Nat.reduceMul, Nat.reduceAdd, Nat.reduceLT, Nat.reduceLeDiff, Nat.reduceEqDiff, Int.reduceLT, Int.reduceBEq, Int.reduceBNe, Nat.reduceBEq, List.append_nil, Nat.sub_self, evl]; try rfl) ?_
    rintro ⟨q, c, qs⟩ hin
    simp only at hin ⊢
    obtain ⟨f1, f2, f3, f4, f5⟩ := hin.facts
    have bo := limbs_getD f2 (j + q)
    have bY := limbs_getD d2.limbs q
    have bp := limb_prod bx bY
    (repeat refine Sat.seq ?_)
    refine Sat.region_at ⟨60, [(29, .b (decide (q < ys.length ∨ 0 < c))), (8, .i .i64 q), (7, .i .i64 c), (6, .i .i64 j), (5, .os 0 a N cap), (0, .sl a1 xs.length c1 1 r1), (1, .sl a2 ys.length c2 z2 r2)], [.row a 3 N cap 1 (fun p _ => .i .i64 (qs.getD p 0))]⟩ (fun k hk => ?_) ?_
    · simp -implicitDefEqProofs only [evr, id, reduceCtorEq, reduceIte, Nat.reduceMul, Nat.reduceAdd, Nat.reduceLT, Nat.reduceLeDiff, Nat.reduceEqDiff, Int.reduceLT, Int.reduceBEq, Int.reduceBNe, Nat.reduceBEq, List.append_nil, Nat.sub_self]
      refine ⟨fun h => ?_, fun h2 => ?_⟩
      · refine hk _ ?_
        have e : decide (q < ys.length ∨ 0 < c) = true := decide_eq_true (.inl (by omega))
        rw [e]
        simp -implicitDefEqProofs only [evr, id, reduceCtorEq, reduceIte, Nat.reduceMul, Nat.reduceAdd, Nat.reduceLT, Nat.reduceLeDiff, Nat.reduceEqDiff, Int.reduceLT, Int.reduceBEq, Int.reduceBNe, Nat.reduceBEq, List.append_nil, Nat.sub_self, evl]
      · refine hk _ ?_
        have e : decide (q < ys.length ∨ 0 < c) = decide (0 < c) := by
          congr 1
          apply propext
          constructor
          · rintro (h3 | h3)
            · omega
            · exact h3
          · exact fun h3 => .inr h3
        rw [e]
        simp -implicitDefEqProofs only [evr, id, reduceCtorEq, reduceIte, Nat.reduceMul, Nat.reduceAdd, Nat.reduceLT, Nat.reduceLeDiff, Nat.reduceEqDiff, Int.reduceLT, Int.reduceBEq, Int.reduceBNe, Nat.reduceBEq, List.append_nil, Nat.sub_self, evl]
    simp only [thenK]
    refine Sat.cond_b rfl (fun h3 => ?_) (fun h3 => ?_)
    · have hg : q < ys.length ∨ 0 < c := of_decide_eq_true h3
      have hnext := hin.step d1.limbs d2.limbs hout hjl hg
      have hql : q ≤ ys.length := by
        rcases hin with h9 | ⟨h9, h10, _⟩
        · exact h9.1
        · omega
      have w0 : IntKind.i64.wrap ((j : Int) + (q : Int)) = ((j + q : Nat) : Int) := by rw [w64 (by omega)]; omega
      have w1 : IntKind.i64.wrap (xs.getD j 0 * ys.getD q 0) = xs.getD j 0 * ys.getD q 0 := w64 (by omega)
      have w2 : IntKind.i64.wrap (qs.getD (j + q) 0 + xs.getD j 0 * ys.getD q 0) = qs.getD (j + q) 0 + xs.getD j 0 * ys.getD q 0 := w64 (by omega)
      have w3 : IntKind.i64.wrap (qs.getD (j + q) 0 + xs.getD j 0 * ys.getD q 0 + c) = qs.getD (j + q) 0 + xs.getD j 0 * ys.getD q 0 + c := w64 (by omega)
      refine Sat.skip ?_
      simp only [thenK]
      (repeat refine Sat.seq ?_)
      refine Sat.block ?_
      (repeat refine Sat.seq ?_)
      refine Sat.region_qk (by kernel_rfl) (by kernel_rfl) fun k hk => ?_
      simp -implicitDefEqProofs only [evr, id, reduceCtorEq, reduceIte, Nat.reduceMul, Nat.reduceAdd, Nat.reduceLT, Nat.reduceLeDiff, Nat.reduceEqDiff, Int.reduceLT, Int.reduceBEq, Int.reduceBNe, Nat.reduceBEq, List.append_nil, Nat.sub_self, w0]
      refine ⟨by omega, by omega, by omega, ?_⟩
      refine qcall (refLimbC Frm.nil hj2 q) (by simp -implicitDefEqProofs only [evr, id, reduceCtorEq, reduceIte, Nat.reduceMul, Nat.reduceAdd, Nat.reduceLT, Nat.reduceLeDiff, Nat.reduceEqDiff, Int.reduceLT, Int.reduceBEq, Int.reduceBNe, Nat.reduceBEq, List.append_nil, Nat.sub_self]; try rfl) (ok_plain rfl) ?_
      rw [g1]
      simp -implicitDefEqProofs only [evr, id, reduceCtorEq, reduceIte, Nat.reduceMul, Nat.reduceAdd, Nat.reduceLT, Nat.reduceLeDiff, Nat.reduceEqDiff, Int.reduceLT, Int.reduceBEq, Int.reduceBNe, Nat.reduceBEq, List.append_nil, Nat.sub_self, w1, w2, w3]
      refine hk _ ?_
      clear hk k
      try show Sat _ _ _ _ _
      generalize hxx : qs.getD (j + q) 0 + xs.getD j 0 * ys.getD q 0 + c = x at *
      have bxx : 0 ≤ x ∧ x < 2305843009213693952 := by omega
      have tm : x.tmod 1073741824 = x % 1073741824 := Int.tmod_eq_emod_of_nonneg (by omega)
      have td : IntKind.i64.wrap (x.tdiv 1073741824) = x / 1073741824 := by
        rw [Int.tdiv_eq_ediv_of_nonneg (by omega), w64 (by omega)]
      have tq : IntKind.i64.wrap ((q : Int) + 1) = ((q + 1 : Nat) : Int) := by rw [w64 (by omega)]; omega
      (repeat refine Sat.seq ?_)
      refine Sat.region_k fun k hk => ?_
      simp -implicitDefEqProofs only [evr, id, reduceCtorEq, reduceIte, Nat.reduceMul, Nat.reduceAdd, Nat.reduceLT, Nat.reduceLeDiff, Nat.reduceEqDiff, Int.reduceLT, Int.reduceBEq, Int.reduceBNe, Nat.reduceBEq, List.append_nil, Nat.sub_self, w0, tm]
      refine ⟨by decide, by omega, by omega, ?_⟩
      (refine hk _ ?_; clear hk k; try show Sat _ _ _ _ _)
      refine Sat.region_k fun k hk => ?_
      simp -implicitDefEqProofs only [evr, id, reduceCtorEq, reduceIte, Nat.reduceMul, Nat.reduceAdd, Nat.reduceLT, Nat.reduceLeDiff, Nat.reduceEqDiff, Int.reduceLT, Int.reduceBEq, Int.reduceBNe, Nat.reduceBEq, List.append_nil, Nat.sub_self, td]
      refine ⟨by decide, ?_⟩
      refine hk _ ?_
      clear hk k
      simp only [thenK, blockK]
      (repeat refine Sat.seq ?_)
      refine Sat.region_k fun k hk => ?_
      simp -implicitDefEqProofs only [evr, id, reduceCtorEq, reduceIte, Nat.reduceMul, Nat.reduceAdd, Nat.reduceLT, Nat.reduceLeDiff, Nat.reduceEqDiff, Int.reduceLT, Int.reduceBEq, Int.reduceBNe, Nat.reduceBEq, List.append_nil, Nat.sub_self, tq]
      refine hk _ ?_
      simp only [thenK, blockK]
      refine ⟨(q + 1, x / 1073741824, qs.set (j + q) (x % 1073741824)), hnext, by show ys.length + 1 - (q + 1) < ys.length + 1 - q; omega, ?_⟩
      simp -implicitDefEqProofs only [evr, id, reduceCtorEq, reduceIte, Nat.reduceMul, Nat.reduceAdd, Nat.reduceLT, Nat.reduceLeDiff, Nat.reduceEqDiff, Int.reduceLT, Int.reduceBEq, Int.reduceBNe, Nat.reduceBEq, List.append_nil, Nat.sub_self, evl]
      exact rd_set rfl (by omega)
    · have hg : ¬ (q < ys.length ∨ 0 < c) := of_decide_eq_false h3
      have hnext := hin.exit hout hjl hg
      refine Sat.exit ?_
      simp only [thenK, blockK, reduceIte]
      (repeat refine Sat.seq ?_)
      refine Sat.region_k fun k hk => ?_
      simp -implicitDefEqProofs only [evr, id, reduceCtorEq, reduceIte, Nat.reduceMul, Nat.reduceAdd, Nat.reduceLT, Nat.reduceLeDiff, Nat.reduceEqDiff, Int.reduceLT, Int.reduceBEq, Int.reduceBNe, Nat.reduceBEq, List.append_nil, Nat.sub_self, ej1]
      refine hk _ ?_
      simp only [thenK, blockK]
      refine ⟨(j + 1, qs), ⟨by show j + 1 ≤ xs.length; omega, hnext⟩, by show xs.length - (j + 1) < xs.length - j; omega, ?_⟩
      simp -implicitDefEqProofs only [evr, id, reduceCtorEq, reduceIte, Nat.reduceMul, Nat.reduceAdd, Nat.reduceLT, Nat.reduceLeDiff, Nat.reduceEqDiff, Int.reduceLT, Int.reduceBEq, Int.reduceBNe, Nat.reduceBEq, List.append_nil, Nat.sub_self, evl]
  · simp only [decide_eq_false_iff_not] at h
    have hj9 : j = xs.length := by omega
    subst hj9
    have hd := hout.done d1.val d2.val
    have hv : (val os).toNat = m * n := by
      have h8 := hd.val
      rw [trim_val] at h8
      omega
    have t3 := hout.len
    refine Sat.exit ?_
    simp only [thenK, blockK, reduceIte]
    (repeat refine Sat.seq ?_)
    (refine Sat.region_k fun k hk => ?_; simp -implicitDefEqProofs only [evr, id, reduceCtorEq, reduceIte, Nat.reduceMul, Nat.reduceAdd, Nat.reduceLT, Nat.reduceLeDiff, Nat.reduceEqDiff, Int.reduceLT, Int.reduceBEq, Int.reduceBNe, Nat.reduceBEq, List.append_nil, Nat.sub_self])
    refine wcall_slice (refTrimC F (s := .sl a os.length cap 1 (fun p _ => .i .i64 (os.getD p 0))) ⟨a, cap, 1, _, rfl, .inr rfl, fun p _ => rfl⟩ hout.limbs) (by simp -implicitDefEqProofs only [evr, id, reduceCtorEq, reduceIte, Nat.reduceMul, Nat.reduceAdd, Nat.reduceLT, Nat.reduceLeDiff, Nat.reduceEqDiff, Int.reduceLT, Int.reduceBEq, Int.reduceBNe, Nat.reduceBEq, List.append_nil, Nat.sub_self]; try rfl) (by simp -implicitDefEqProofs only [evr, id, reduceCtorEq, reduceIte, Nat.reduceMul, Nat.reduceAdd, Nat.reduceLT, Nat.reduceLeDiff, Nat.reduceEqDiff, Int.reduceLT, Int.reduceBEq, Int.reduceBNe, Nat.reduceBEq, List.append_nil, Nat.sub_self, t3, hN]; try rfl) ?_
    intro y hy
    rw [hv] at hy
    have hs8 := hy
    obtain ⟨a8, c8, z8, r8, x8, rfl, _⟩ := hy
    simp -implicitDefEqProofs only [evr, id, reduceCtorEq, reduceIte, Nat.reduceMul, Nat.reduceAdd, Nat.reduceLT, Nat.reduceLeDiff, Nat.reduceEqDiff, Int.reduceLT, Int.reduceBEq, Int.reduceBNe, Nat.reduceBEq, List.append_nil, Nat.sub_self]
    (refine hk _ ?_; clear hk k; try show Sat _ _ _ _ _)
    refine Sat.ret ?_
    simp only [Try.results51, evr, id, reduceCtorEq, reduceIte, Nat.reduceMul, Nat.reduceAdd, Nat.reduceLT, Nat.reduceLeDiff, Nat.reduceEqDiff, Int.reduceLT, Int.reduceBEq, Int.reduceBNe, Nat.reduceBEq, List.append_nil, Nat.sub_self]
    exact hs8
end Go.Proofs.Ytagmohpafjncfaa

/- The evaluator, part S: Bools of a variable that are written out, as Bools. -/
set_option linter.unusedSimpArgs false
set_option linter.unusedVariables false
namespace Go.Proofs.Ytagmohpafjncfaa
namespace Eng
variable {P : Program} {F : Frm}
theorem Sat.boxBools {c : Code} {K : Exit → St → Prop} {n : Nat} {env : List (Nat × SV)} {own : List Own} (id : Nat) {blk ty : Nat} {cs : List SV} (hl : own[id]? = some (.box blk ty cs))
    (h : Sat P F c ⟨n, env, own.set id (.box blk ty (cs.map roB))⟩ K) : Sat P F c ⟨n, env, own⟩ K := by
  rintro R0 w0 a w ⟨ob, R, hr⟩
  refine h R0 w0 a w ⟨ob, R, ?_⟩
  have hbox := hr.own id _ hl
  have hidl : id < own.length := (List.getElem?_eq_some_iff.1 hl).1
  have hden : (cs.map roB).map SV.den = cs.map SV.den := by
    rw [List.map_map]
    exact List.map_congr_left fun s _ => roB_den s
  have hok : (Own.box blk ty (cs.map roB)).ok R ob w := by
    refine ⟨hbox.1, hbox.2.1, by rw [hden]; exact hbox.2.2.1, fun x hx => ?_⟩
    obtain ⟨s, hs, rfl⟩ := List.mem_map.1 hx
    obtain ⟨h1, h2⟩ := hbox.2.2.2 s hs
    refine ⟨by rw [roB_den]; exact h1, ?_⟩
    cases s <;> first | exact h2 | trivial
  refine ⟨hr.defers, hr.env, hr.size, ?_, ?_, hr.evo, hr.inv, hr.obM, ?_, hr.obw, hr.rr, hr.r0⟩
  · intro i x hx
    rw [List.getElem?_set] at hx
    split at hx
    · simp only [hidl, if_true, Option.some.injEq] at hx
      subst hx
      exact hok
    · exact hr.own i x hx
  · intro i k x y hik hx hy b hb1 hb2
    rw [List.getElem?_set] at hx hy
    split at hx <;> split at hy
    · omega
    · rename_i e1 _
      subst e1
      simp only [hidl, if_true, Option.some.injEq] at hx
      subst hx
      exact hr.dist id k _ y hik hl hy b hb1 hb2
    · rename_i _ e1
      subst e1
      simp only [hidl, if_true, Option.some.injEq] at hy
      subst hy
      exact hr.dist i id x _ hik hx hl b hb1 hb2
    · exact hr.dist i k x y hik hx hy b hb1 hb2
  · exact gb_set (m := w0.w.heap.size) (Nat.le_refl _) hr.gb hl fun b hb => .inl hb
end Eng
end Go.Proofs.Ytagmohpafjncfaa

/- Fractions, by the evaluator: package fraction's Reduce and Compare. -/
set_option linter.unusedSimpArgs false
set_option linter.unusedVariables false
namespace Go.Proofs.Ytagmohpafjncfaa
open Eng Lmb
def frS (neg : Bool) (sp sq : SV) : SV := .agg 3 fun j => [SV.b neg, sp, sq].getD j default
def FrS (r : SV) (neg : Bool) (p q : Nat) : Prop := ∃ sp sq, r = frS neg sp sq ∧ Nats sp p ∧ Nats sq q
theorem Nats.len {a : Option Addr} {len cap sz n : Nat} {rd : Nat → Nat → SV} (h : Nats (.sl a len cap sz rd) n) : (0 < (len : Int)) = (0 < n) := by
  obtain ⟨a', cap', sz', rd', xs, he, _, _, hd⟩ := h
  simp only [SV.sl.injEq] at he
  have := hd.len_zero
  apply propext
  rw [he.2.1]
  omega
set_option maxRecDepth 100000 in
theorem fractionReducedC (F : Frm) (neg : Bool) {sp sq : SV} {p q : Nat} (hp : Nats sp p) (hq : Nats sq q) (h1 : (p : Int) < pw 256) (h2 : (q : Int) < pw 256) (h0 : 0 < q) : Contract F Try.prog 60 [.b neg, sp, sq] (fun r => FrS r (neg && decide (0 < p / Nat.gcd p q)) (p / Nat.gcd p q) (q / Nat.gcd p q)) := by
  have hp' := hp
  have hq' := hq
  have hg : 0 < Nat.gcd p q := Nat.gcd_pos_of_pos_right _ h0
  obtain ⟨a1, c1, z1, r1, x1, rfl, _⟩ := hp
  obtain ⟨a2, c2, z2, r2, x2, rfl, _⟩ := hq
  refine contract_of Try.func60 rfl (by kernel_rfl) ?_
  simp only [Try.ntmps60, argEnv]
  (repeat refine Sat.seq ?_)
  (refine Sat.region_k fun k hk => ?_; simp -implicitDefEqProofs only [evr, id, reduceCtorEq, reduceIte, Nat.reduceMul, Nat.reduceAdd, Nat.reduceLT, Nat.reduceLeDiff, Nat.reduceEqDiff, Int.reduceLT, Int.reduceBEq, Int.reduceBNe, Nat.reduceBEq, List.append_nil, Int.toNat_zero, Nat.sub_self])
  intro b6
  (refine hk _ ?_; clear hk k; try show Sat _ _ _ _ _)
  (repeat refine Sat.seq ?_)
  (refine Sat.region_k fun k hk => ?_; simp -implicitDefEqProofs only [evr, id, reduceCtorEq, reduceIte, Nat.reduceMul, Nat.reduceAdd, Nat.reduceLT, Nat.reduceLeDiff, Nat.reduceEqDiff, Int.reduceLT, Int.reduceBEq, Int.reduceBNe, Nat.reduceBEq, List.append_nil, Int.toNat_zero, Nat.sub_self])
  refine wcall_slice (gcdC F hp' hq' h1 h2) rfl rfl ?_
  intro r hs
  have hgs := hs
  obtain ⟨a3, c3, z3, r3, x3, rfl, _⟩ := hs
  simp -implicitDefEqProofs only [evr, id, reduceCtorEq, reduceIte, Nat.reduceMul, Nat.reduceAdd, Nat.reduceLT, Nat.reduceLeDiff, Nat.reduceEqDiff, Int.reduceLT, Int.reduceBEq, Int.reduceBNe, Nat.reduceBEq, List.append_nil, Int.toNat_zero, Nat.sub_self]
  (refine hk _ ?_; clear hk k; try show Sat _ _ _ _ _)
  (repeat refine Sat.seq ?_)
  (refine Sat.region_k fun k hk => ?_; simp -implicitDefEqProofs only [evr, id, reduceCtorEq, reduceIte, Nat.reduceMul, Nat.reduceAdd, Nat.reduceLT, Nat.reduceLeDiff, Nat.reduceEqDiff, Int.reduceLT, Int.reduceBEq, Int.reduceBNe, Nat.reduceBEq, List.append_nil, Int.toNat_zero, Nat.sub_self])
  refine wcall_slice (divModC F hp' hgs h1 hg) rfl rfl ?_
  rintro r ⟨s, t, rfl, hs, ht⟩
  have hs4 := hs
  obtain ⟨a4, c4, z4, r4, x4, rfl, _⟩ := hs
  obtain ⟨a5, c5, z5, r5, x5, rfl, _⟩ := ht
  simp -implicitDefEqProofs only [evr, id, reduceCtorEq, reduceIte, Nat.reduceMul, Nat.reduceAdd, Nat.reduceLT, Nat.reduceLeDiff, Nat.reduceEqDiff, Int.reduceLT, Int.reduceBEq, Int.reduceBNe, Nat.reduceBEq, List.append_nil, Int.toNat_zero, Nat.sub_self]
  (refine hk _ ?_; clear hk k; try show Sat _ _ _ _ _)
  (repeat refine Sat.seq ?_)
  (refine Sat.region_k fun k hk => ?_; simp -implicitDefEqProofs only [evr, id, reduceCtorEq, reduceIte, Nat.reduceMul, Nat.reduceAdd, Nat.reduceLT, Nat.reduceLeDiff, Nat.reduceEqDiff, Int.reduceLT, Int.reduceBEq, Int.reduceBNe, Nat.reduceBEq, List.append_nil, Int.toNat_zero, Nat.sub_self])
  refine wcall_slice (divModC F hq' hgs h2 hg) rfl rfl ?_
  rintro r ⟨s, t, rfl, hs, ht⟩
  have hs6 := hs
  obtain ⟨a6, c6, z6, r6, x6, rfl, _⟩ := hs
  obtain ⟨a7, c7, z7, r7, x7, rfl, _⟩ := ht
  simp -implicitDefEqProofs only [evr, id, reduceCtorEq, reduceIte, Nat.reduceMul, Nat.reduceAdd, Nat.reduceLT, Nat.reduceLeDiff, Nat.reduceEqDiff, Int.reduceLT, Int.reduceBEq, Int.reduceBNe, Nat.reduceBEq, List.append_nil, Int.toNat_zero, Nat.sub_self]
  (refine hk _ ?_; clear hk k; try show Sat _ _ _ _ _)
  (repeat refine Sat.seq ?_)
  (refine Sat.region_k fun k hk => ?_; simp -implicitDefEqProofs only [evr, id, reduceCtorEq, reduceIte, Nat.reduceMul, Nat.reduceAdd, Nat.reduceLT, Nat.reduceLeDiff, Nat.reduceEqDiff, Int.reduceLT, Int.reduceBEq, Int.reduceBNe, Nat.reduceBEq, List.append_nil, Int.toNat_zero, Nat.sub_self])
  have e := hs4.len
  refine ⟨fun h => ?_, fun h => ?_⟩
  · (refine hk _ ?_; clear hk k; try show Sat _ _ _ _ _)
    refine Sat.ret ?_
    simp only [Try.results60, evr, id, reduceCtorEq, reduceIte, Nat.reduceMul, Nat.reduceAdd, Nat.reduceLT, Nat.reduceLeDiff, Nat.reduceEqDiff, Int.reduceLT, Int.reduceBEq, Int.reduceBNe, Nat.reduceBEq, List.append_nil, Int.toNat_zero, Nat.sub_self]
    simp only [e, h, Bool.true_and]
    exact ⟨_, _, rfl, hs4, hs6⟩
  · (refine hk _ ?_; clear hk k; try show Sat _ _ _ _ _)
    refine Sat.boxBools 0 rfl ?_
    simp only [roB, List.map_cons, List.map_nil, List.set_cons_zero]
    refine Sat.ret ?_
    simp only [Try.results60, evr, id, reduceCtorEq, reduceIte, Nat.reduceMul, Nat.reduceAdd, Nat.reduceLT, Nat.reduceLeDiff, Nat.reduceEqDiff, Int.reduceLT, Int.reduceBEq, Int.reduceBNe, Nat.reduceBEq, List.append_nil, Int.toNat_zero, Nat.sub_self]
    simp only [h, Bool.false_and]
    exact ⟨_, _, rfl, hs4, hs6⟩
set_option maxRecDepth 100000 in
theorem fractionReduceC (F : Frm) (neg : Bool) {sp sq : SV} {p q : Nat} (hp : Nats sp p) (hq : Nats sq q) (h1 : (p : Int) < pw 256) (h2 : (q : Int) < pw 256) (h0 : 0 < q) : Contract F Try.prog 33 [frS neg sp sq] (fun r => FrS r (neg && decide (0 < p / Nat.gcd p q)) (p / Nat.gcd p q) (q / Nat.gcd p q)) := by
  have hp' := hp
  have hq' := hq
  obtain ⟨a1, c1, z1, r1, x1, rfl, _⟩ := hp
  obtain ⟨a2, c2, z2, r2, x2, rfl, _⟩ := hq
  refine contract_of Try.func33 rfl (by kernel_rfl) ?_
  simp only [Try.ntmps33, argEnv, frS]
  (repeat refine Sat.seq ?_)
  (refine Sat.region_k fun k hk => ?_; simp -implicitDefEqProofs only [evr, id, reduceCtorEq, reduceIte, Nat.reduceMul, Nat.reduceAdd, Nat.reduceLT, Nat.reduceLeDiff, Nat.reduceEqDiff, Int.reduceLT, Int.reduceBEq, Int.reduceBNe, Nat.reduceBEq, List.append_nil, Int.toNat_zero, Nat.sub_self])
  intro b1 b2
  (refine hk _ ?_; clear hk k; try show Sat _ _ _ _ _)
  (repeat refine Sat.seq ?_)
  (refine Sat.region_k fun k hk => ?_; simp -implicitDefEqProofs only [evr, id, reduceCtorEq, reduceIte, Nat.reduceMul, Nat.reduceAdd, Nat.reduceLT, Nat.reduceLeDiff, Nat.reduceEqDiff, Int.reduceLT, Int.reduceBEq, Int.reduceBNe, Nat.reduceBEq, List.append_nil, Int.toNat_zero, Nat.sub_self])
  refine wcall_slice (fractionReducedC F neg hp' hq' h1 h2 h0) rfl (by simp -implicitDefEqProofs only [evr, id, reduceCtorEq, reduceIte, Nat.reduceMul, Nat.reduceAdd, Nat.reduceLT, Nat.reduceLeDiff, Nat.reduceEqDiff, Int.reduceLT, Int.reduceBEq, Int.reduceBNe, Nat.reduceBEq, List.append_nil, Int.toNat_zero, Nat.sub_self]; try rfl) ?_
  rintro r ⟨sp3, sq3, rfl, h3, h4⟩
  have h3' := h3
  have h4' := h4
  obtain ⟨a3, c3, z3, r3, x3, rfl, _⟩ := h3
  obtain ⟨a4, c4, z4, r4, x4, rfl, _⟩ := h4
  simp only [frS, evr, id, reduceCtorEq, reduceIte, Nat.reduceMul, Nat.reduceAdd, Nat.reduceLT, Nat.reduceLeDiff, Nat.reduceEqDiff, Int.reduceLT, Int.reduceBEq, Int.reduceBNe, Nat.reduceBEq, List.append_nil, Int.toNat_zero, Nat.sub_self]
  (refine hk _ ?_; clear hk k; try show Sat _ _ _ _ _)
  refine Sat.ret ?_
  simp only [Try.results33, evr, id, reduceCtorEq, reduceIte, Nat.reduceMul, Nat.reduceAdd, Nat.reduceLT, Nat.reduceLeDiff, Nat.reduceEqDiff, Int.reduceLT, Int.reduceBEq, Int.reduceBNe, Nat.reduceBEq, List.append_nil, Int.toNat_zero, Nat.sub_self]
  exact ⟨_, _, rfl, h3', h4'⟩
def sumV (na : Bool) (a : Nat) (nb : Bool) (b : Nat) : Bool × Nat := if na = nb then (na, a + b) else if a < b then (nb, b - a) else (na, a - b)
set_option maxRecDepth 100000 in
theorem fractionSumC (F : Frm) (na nb : Bool) {sa sb : SV} {a b : Nat} (ha : Nats sa a) (hb : Nats sb b) (h1 : (a : Int) < pw 256) (h2 : (b : Int) < pw 256) (h3 : ((a + b : Nat) : Int) < pw 256) : Contract F Try.prog 34 [.b na, sa, .b nb, sb] (fun r => ∃ s, r = tupL [.b (sumV na a nb b).1, s] ∧ Nats s (sumV na a nb b).2) := by
  have ha' := ha
  have hb' := hb
  obtain ⟨a1, c1, z1, r1, x1, rfl, _⟩ := ha
  obtain ⟨a2, c2, z2, r2, x2, rfl, _⟩ := hb
  refine contract_of Try.func34 rfl (by kernel_rfl) ?_
  simp only [Try.ntmps34, argEnv]
  (repeat refine Sat.seq ?_)
  (refine Sat.region_k fun k hk => ?_; simp -implicitDefEqProofs only [evr, id, reduceCtorEq, reduceIte, Nat.reduceMul, Nat.reduceAdd, Nat.reduceLT, Nat.reduceLeDiff, Nat.reduceEqDiff, Int.reduceLT, Int.reduceBEq, Int.reduceBNe, Nat.reduceBEq, List.append_nil, Int.toNat_zero, Nat.sub_self]; refine hk _ ?_; clear hk k; try show Sat _ _ _ _ _)
  (repeat refine Sat.seq ?_)
  (refine Sat.region_k fun k hk => ?_; simp -implicitDefEqProofs only [evr, id, reduceCtorEq, reduceIte, Nat.reduceMul, Nat.reduceAdd, Nat.reduceLT, Nat.reduceLeDiff, Nat.reduceEqDiff, Int.reduceLT, Int.reduceBEq, Int.reduceBNe, Nat.reduceBEq, List.append_nil, Int.toNat_zero, Nat.sub_self]; refine hk _ ?_; clear hk k; try show Sat _ _ _ _ _)
  refine Sat.cond_b rfl (fun h => ?_) (fun h => ?_)
  · have hn : na = nb := by simpa using h
    (repeat refine Sat.seq ?_)
    (refine Sat.region_k fun k hk => ?_; simp -implicitDefEqProofs only [evr, id, reduceCtorEq, reduceIte, Nat.reduceMul, Nat.reduceAdd, Nat.reduceLT, Nat.reduceLeDiff, Nat.reduceEqDiff, Int.reduceLT, Int.reduceBEq, Int.reduceBNe, Nat.reduceBEq, List.append_nil, Int.toNat_zero, Nat.sub_self])
    refine wcall_slice (addC F ha' hb' h3) rfl rfl ?_
    rintro r ⟨s, rfl, hs⟩
    have hs' := hs
    obtain ⟨a3, c3, z3, r3, x3, rfl, _⟩ := hs
    simp -implicitDefEqProofs only [evr, id, reduceCtorEq, reduceIte, Nat.reduceMul, Nat.reduceAdd, Nat.reduceLT, Nat.reduceLeDiff, Nat.reduceEqDiff, Int.reduceLT, Int.reduceBEq, Int.reduceBNe, Nat.reduceBEq, List.append_nil, Int.toNat_zero, Nat.sub_self]
    (refine hk _ ?_; clear hk k; try show Sat _ _ _ _ _)
    (repeat refine Sat.seq ?_)
    (refine Sat.region_k fun k hk => ?_; simp -implicitDefEqProofs only [evr, id, reduceCtorEq, reduceIte, Nat.reduceMul, Nat.reduceAdd, Nat.reduceLT, Nat.reduceLeDiff, Nat.reduceEqDiff, Int.reduceLT, Int.reduceBEq, Int.reduceBNe, Nat.reduceBEq, List.append_nil, Int.toNat_zero, Nat.sub_self]; refine hk _ ?_; clear hk k; try show Sat _ _ _ _ _)
    refine Sat.ret ?_
    simp only [Try.results34, evr, id, reduceCtorEq, reduceIte, Nat.reduceMul, Nat.reduceAdd, Nat.reduceLT, Nat.reduceLeDiff, Nat.reduceEqDiff, Int.reduceLT, Int.reduceBEq, Int.reduceBNe, Nat.reduceBEq, List.append_nil, Int.toNat_zero, Nat.sub_self]
    unfold sumV
    rw [if_pos hn]
    exact ⟨_, rfl, hs'⟩
  have hn : ¬ na = nb := by simpa using h
  refine Sat.skip ?_
  simp only [thenK]
  (repeat refine Sat.seq ?_)
  (refine Sat.region_k fun k hk => ?_; simp -implicitDefEqProofs only [evr, id, reduceCtorEq, reduceIte, Nat.reduceMul, Nat.reduceAdd, Nat.reduceLT, Nat.reduceLeDiff, Nat.reduceEqDiff, Int.reduceLT, Int.reduceBEq, Int.reduceBNe, Nat.reduceBEq, List.append_nil, Int.toNat_zero, Nat.sub_self])
  refine wcall_plain (natCmpC F ha' hb') rfl (by rintro _ rfl; exact ok_plain rfl) ?_
  rintro r rfl
  simp -implicitDefEqProofs only [evr, id, reduceCtorEq, reduceIte, Nat.reduceMul, Nat.reduceAdd, Nat.reduceLT, Nat.reduceLeDiff, Nat.reduceEqDiff, Int.reduceLT, Int.reduceBEq, Int.reduceBNe, Nat.reduceBEq, List.append_nil, Int.toNat_zero, Nat.sub_self]
  (refine hk _ ?_; clear hk k; try show Sat _ _ _ _ _)
  (repeat refine Sat.seq ?_)
  refine Sat.cond_b rfl (fun h => ?_) (fun h => ?_)
  · have hlt : a < b := by
      by_cases h9 : a < b
      · exact h9
      exfalso
      simp only [decide_eq_true_eq] at h
      by_cases h8 : b < a
      · rw [cmpI_gt (by omega)] at h; omega
      · rw [cmpI_eq (by omega)] at h; omega
    (repeat refine Sat.seq ?_)
    (refine Sat.region_k fun k hk => ?_; simp -implicitDefEqProofs only [evr, id, reduceCtorEq, reduceIte, Nat.reduceMul, Nat.reduceAdd, Nat.reduceLT, Nat.reduceLeDiff, Nat.reduceEqDiff, Int.reduceLT, Int.reduceBEq, Int.reduceBNe, Nat.reduceBEq, List.append_nil, Int.toNat_zero, Nat.sub_self]; refine hk _ ?_; clear hk k; try show Sat _ _ _ _ _)
    (repeat refine Sat.seq ?_)
    (refine Sat.region_k fun k hk => ?_; simp -implicitDefEqProofs only [evr, id, reduceCtorEq, reduceIte, Nat.reduceMul, Nat.reduceAdd, Nat.reduceLT, Nat.reduceLeDiff, Nat.reduceEqDiff, Int.reduceLT, Int.reduceBEq, Int.reduceBNe, Nat.reduceBEq, List.append_nil, Int.toNat_zero, Nat.sub_self])
    refine wcall_slice (subC F hb' ha' h2 (Nat.le_of_lt hlt)) rfl rfl ?_
    rintro r ⟨s, rfl, hs⟩
    have hs' := hs
    obtain ⟨a3, c3, z3, r3, x3, rfl, _⟩ := hs
    simp -implicitDefEqProofs only [evr, id, reduceCtorEq, reduceIte, Nat.reduceMul, Nat.reduceAdd, Nat.reduceLT, Nat.reduceLeDiff, Nat.reduceEqDiff, Int.reduceLT, Int.reduceBEq, Int.reduceBNe, Nat.reduceBEq, List.append_nil, Int.toNat_zero, Nat.sub_self]
    (refine hk _ ?_; clear hk k; try show Sat _ _ _ _ _)
    (repeat refine Sat.seq ?_)
    (refine Sat.region_k fun k hk => ?_; simp -implicitDefEqProofs only [evr, id, reduceCtorEq, reduceIte, Nat.reduceMul, Nat.reduceAdd, Nat.reduceLT, Nat.reduceLeDiff, Nat.reduceEqDiff, Int.reduceLT, Int.reduceBEq, Int.reduceBNe, Nat.reduceBEq, List.append_nil, Int.toNat_zero, Nat.sub_self]; refine hk _ ?_; clear hk k; try show Sat _ _ _ _ _)
    refine Sat.ret ?_
    simp only [Try.results34, evr, id, reduceCtorEq, reduceIte, Nat.reduceMul, Nat.reduceAdd, Nat.reduceLT, Nat.reduceLeDiff, Nat.reduceEqDiff, Int.reduceLT, Int.reduceBEq, Int.reduceBNe, Nat.reduceBEq, List.append_nil, Int.toNat_zero, Nat.sub_self]
    unfold sumV
    rw [if_neg hn, if_pos hlt]
    exact ⟨_, rfl, hs'⟩
  · have hlt : ¬ a < b := by
      intro h9
      rw [cmpI_lt (by omega)] at h
      revert h
      decide
    refine Sat.skip ?_
    simp only [thenK]
    (repeat refine Sat.seq ?_)
    (refine Sat.region_k fun k hk => ?_; simp -implicitDefEqProofs only [evr, id, reduceCtorEq, reduceIte, Nat.reduceMul, Nat.reduceAdd, Nat.reduceLT, Nat.reduceLeDiff, Nat.reduceEqDiff, Int.reduceLT, Int.reduceBEq, Int.reduceBNe, Nat.reduceBEq, List.append_nil, Int.toNat_zero, Nat.sub_self])
    refine wcall_slice (subC F ha' hb' h1 (by omega)) rfl rfl ?_
    rintro r ⟨s, rfl, hs⟩
    have hs' := hs
    obtain ⟨a3, c3, z3, r3, x3, rfl, _⟩ := hs
    simp -implicitDefEqProofs only [evr, id, reduceCtorEq, reduceIte, Nat.reduceMul, Nat.reduceAdd, Nat.reduceLT, Nat.reduceLeDiff, Nat.reduceEqDiff, Int.reduceLT, Int.reduceBEq, Int.reduceBNe, Nat.reduceBEq, List.append_nil, Int.toNat_zero, Nat.sub_self]
    (refine hk _ ?_; clear hk k; try show Sat _ _ _ _ _)
    (repeat refine Sat.seq ?_)
    (refine Sat.region_k fun k hk => ?_; simp -implicitDefEqProofs only [evr, id, reduceCtorEq, reduceIte, Nat.reduceMul, Nat.reduceAdd, Nat.reduceLT, Nat.reduceLeDiff, Nat.reduceEqDiff, Int.reduceLT, Int.reduceBEq, Int.reduceBNe, Nat.reduceBEq, List.append_nil, Int.toNat_zero, Nat.sub_self]; refine hk _ ?_; clear hk k; try show Sat _ _ _ _ _)
    refine Sat.ret ?_
    simp only [Try.results34, evr, id, reduceCtorEq, reduceIte, Nat.reduceMul, Nat.reduceAdd, Nat.reduceLT, Nat.reduceLeDiff, Nat.reduceEqDiff, Int.reduceLT, Int.reduceBEq, Int.reduceBNe, Nat.reduceBEq, List.append_nil, Int.toNat_zero, Nat.sub_self]
    unfold sumV
    rw [if_neg hn, if_neg hlt]
    exact ⟨_, rfl, hs'⟩
end Go.Proofs.Ytagmohpafjncfaa

/- The reference of package natural, by the evaluator: Gcd. -/
set_option linter.unusedSimpArgs false
set_option linter.unusedVariables false
namespace Go.Proofs.Ytagmohpafjncfaa
open Eng Lmb Go.RowKit
theorem Nats.head {s : SV} {p : Nat} (h : Nats s p) (hp : 0 < p) : ∃ (a : Option Addr) (len cap : Nat) (rd : Nat → Nat → SV) (x : Int), s = .sl a len cap 1 rd ∧ 0 < len ∧ rd 0 0 = .i .i64 x ∧ (x.tmod 2 == 0) = decide (p % 2 = 0) := by
  obtain ⟨a, cap, sz, rd, xs, rfl, hz, hr, hd⟩ := h
  have hl : 0 < xs.length := by
    have := hd.len_zero
    omega
  have hsz : sz = 1 := by
    rcases hz with hz | hz
    · omega
    · exact hz
  subst hsz
  have he := even_limb hd
  have hb := limbs_getD hd.limbs 0
  refine ⟨a, xs.length, cap, rd, xs.getD 0 0, rfl, hl, hr 0 hl, ?_⟩
  rw [Int.tmod_eq_emod_of_nonneg hb.1]
  by_cases h9 : p % 2 = 0
  · rw [decide_eq_true h9, beq_iff_eq]; omega
  · rw [decide_eq_false h9, beq_eq_false_iff_ne]; omega
set_option maxRecDepth 100000 in
theorem refGcdC (F : Frm) {sa sb : SV} {m n : Nat} (ha : Nats sa m) (hb : Nats sb n) (b1 : (m : Int) < pw 256) (b2 : (n : Int) < pw 256) (hm : 0 < m) (hn : 0 < n) : Contract F Try.prog 64 [sa, sb] (fun r => Nats r (Nat.gcd m n)) := by
  have up : ∀ x : Nat, (x ≤ m ∨ x ≤ n) → (x : Int) < pw 512 := fun x hx => by
    have := pw_mono (show 256 ≤ 512 by omega)
    rcases hx with hx | hx <;> omega
  have hg0 : 0 < Nat.gcd m n := Nat.gcd_pos_of_pos_left _ hm
  have hgm : Nat.gcd m n ≤ m := Nat.le_of_dvd hm (Nat.gcd_dvd_left m n)
  have ha' := ha
  have hb' := hb
  obtain ⟨a1, l1, c1, r1, x1, rfl, hl1, _, _⟩ := ha.head hm
  obtain ⟨a2, l2, c2, r2, x2, rfl, hl2, _, _⟩ := hb.head hn
  refine contract_of Try.func64 rfl (by kernel_rfl) ?_
  simp only [Try.ntmps64, argEnv]
  (repeat refine Sat.seq ?_)
  (refine Sat.region_k fun k hk => ?_; simp -implicitDefEqProofs only [evr, id, reduceCtorEq, reduceIte, Nat.reduceMul, Nat.reduceAdd, Nat.reduceLT, Nat.reduceLeDiff, Nat.reduceEqDiff, Int.reduceLT, Int.reduceBEq, Int.reduceBNe, Nat.reduceBEq, List.append_nil, Int.toNat_zero, Nat.sub_self]; refine hk _ ?_; clear hk k; try show Sat _ _ _ _ _)
  (repeat refine Sat.seq ?_)
  refine Sat.region_at ⟨77, [(13, .b false), (0, .sl a1 l1 c1 1 r1), (1, .sl a2 l2 c2 1 r2)], []⟩ (fun k hk => ?_) ?_
  · simp -implicitDefEqProofs only [evr, id, reduceCtorEq, reduceIte, Nat.reduceMul, Nat.reduceAdd, Nat.reduceLT, Nat.reduceLeDiff, Nat.reduceEqDiff, Int.reduceLT, Int.reduceBEq, Int.reduceBNe, Nat.reduceBEq, List.append_nil, Int.toNat_zero, Nat.sub_self]
    have e1 : ((l1 : Int) == 0) = false := by rw [beq_eq_false_iff_ne]; omega
    have e2 : ((l2 : Int) == 0) = false := by rw [beq_eq_false_iff_ne]; omega
    refine ⟨fun h => ?_, fun h => ?_⟩
    · rw [e1] at h; cases h
    · refine hk _ ?_
      rw [e2]
      simp -implicitDefEqProofs only [evr, id, reduceCtorEq, reduceIte, Nat.reduceMul, Nat.reduceAdd, Nat.reduceLT, Nat.reduceLeDiff, Nat.reduceEqDiff, Int.reduceLT, Int.reduceBEq, Int.reduceBNe, Nat.reduceBEq, List.append_nil, Int.toNat_zero, Nat.sub_self, evl]
  simp only [thenK]
  refine Sat.cond_b rfl (fun h => by cases h) (fun h => ?_)
  refine Sat.skip ?_
  simp only [thenK]
  (repeat refine Sat.seq ?_)
  (refine Sat.region_k fun k hk => ?_; simp -implicitDefEqProofs only [evr, id, reduceCtorEq, reduceIte, Nat.reduceMul, Nat.reduceAdd, Nat.reduceLT, Nat.reduceLeDiff, Nat.reduceEqDiff, Int.reduceLT, Int.reduceBEq, Int.reduceBNe, Nat.reduceBEq, List.append_nil, Int.toNat_zero, Nat.sub_self])
  intro blk
  (refine hk _ ?_; clear hk k; try show Sat _ _ _ _ _)
  have h1s : Nats (.sl (some ⟨blk, 0, none⟩) 1 1 1 (rdL [SV.i .i64 1] 1)) 1 := nats_of (xs := [1]) rfl (fun p hp => by have hp0 : p = 0 := by omega
                                                                                                                       subst hp0; rfl) (dig_one (x := 1) (by omega) (by omega))
  refine Sat.settle2 5 rfl rfl ?_
  simp -implicitDefEqProofs only [evr, id, reduceCtorEq, reduceIte, Nat.reduceMul, Nat.reduceAdd, Nat.reduceLT, Nat.reduceLeDiff, Nat.reduceEqDiff, Int.reduceLT, Int.reduceBEq, Int.reduceBNe, Nat.reduceBEq, List.append_nil, Int.toNat_zero, Nat.sub_self]
  (repeat refine Sat.seq ?_)
  refine Sat.block ?_
  (repeat refine Sat.seq ?_)
  refine Sat.loop (ι := (SV × SV × SV) × (Nat × Nat × Nat)) (fun x => ⟨77, [(0, x.1.1), (1, x.1.2.1), (5, x.1.2.2)], []⟩)
    (fun x => (Nats x.1.1 x.2.1 ∧ Nats x.1.2.1 x.2.2.1 ∧ Nats x.1.2.2 x.2.2.2) ∧ (0 < x.2.1 ∧ x.2.1 ≤ m) ∧ (0 < x.2.2.1 ∧ x.2.2.1 ≤ n) ∧ x.2.2.2 * Nat.gcd x.2.1 x.2.2.1 = Nat.gcd m n) (fun x => x.2.1) ((.sl a1 l1 c1 1 r1, .sl a2 l2 c2 1 r2, .sl (some ⟨blk, 0, none⟩) 1 1 1 (rdL [SV.i .i64 1] 1)), (m, n, 1)) ⟨⟨ha', hb', h1s⟩, ⟨hm, Nat.le_refl _⟩, ⟨hn, Nat.le_refl _⟩, Nat.one_mul _⟩ (by simp -implicitDefEqProofs only [evr, id, reduceCtorEq, reduceIte, Nat.reduceMul, Nat.reduceAdd, Nat.reduceLT, Nat.reduceLeDiff, Nat.reduceEqDiff, Int.reduceLT, Int.reduceBEq, Int.reduceBNe, Nat.reduceBEq, List.append_nil, Int.toNat_zero, Nat.sub_self, evl]; try rfl) ?_
  rintro ⟨⟨sp, sq, st⟩, ⟨p, q, t⟩⟩ ⟨⟨hp, hq, ht⟩, ⟨p0, p1⟩, ⟨q0, q1⟩, hg⟩
  simp only at hp hq ht p0 p1 q0 q1 hg ⊢
  have hp' := hp
  have hq' := hq
  have ht' := ht
  obtain ⟨a3, l3, c3, r3, x3, rfl, hl3, hx3, he3⟩ := hp.head p0
  obtain ⟨a4, l4, c4, r4, x4, rfl, hl4, hx4, he4⟩ := hq.head q0
  obtain ⟨a5, c5, z5, r5, xs5, rfl, _⟩ := ht
  have htm : t ≤ m := by
    have g0 : 0 < Nat.gcd p q := Nat.gcd_pos_of_pos_left _ p0
    have := Nat.le_mul_of_pos_right t g0
    omega
  have hl3' : (0 : Int) < (l3 : Int) := by omega
  have hl4' : (0 : Int) < (l4 : Int) := by omega
  (repeat refine Sat.seq ?_)
  refine Sat.region_at ⟨77, [(29, .b (decide (p % 2 = 0 ∧ q % 2 = 0))), (0, .sl a3 l3 c3 1 r3), (1, .sl a4 l4 c4 1 r4), (5, .sl a5 xs5.length c5 z5 r5)], []⟩ (fun k hk => ?_) ?_
  · simp -implicitDefEqProofs only [evr, id, reduceCtorEq, reduceIte, Nat.reduceMul, Nat.reduceAdd, Nat.reduceLT, Nat.reduceLeDiff, Nat.reduceEqDiff, Int.reduceLT, Int.reduceBEq, Int.reduceBNe, Nat.reduceBEq, List.append_nil, Int.toNat_zero, Nat.sub_self]
    refine ⟨by omega, ?_⟩
    rw [hx3]
    simp -implicitDefEqProofs only [evr, id, reduceCtorEq, reduceIte, Nat.reduceMul, Nat.reduceAdd, Nat.reduceLT, Nat.reduceLeDiff, Nat.reduceEqDiff, Int.reduceLT, Int.reduceBEq, Int.reduceBNe, Nat.reduceBEq, List.append_nil, Int.toNat_zero, Nat.sub_self, he3]
    refine ⟨by decide, fun h => ?_, fun h => ?_⟩
    · refine ⟨by omega, ?_⟩
      rw [hx4]
      simp -implicitDefEqProofs only [evr, id, reduceCtorEq, reduceIte, Nat.reduceMul, Nat.reduceAdd, Nat.reduceLT, Nat.reduceLeDiff, Nat.reduceEqDiff, Int.reduceLT, Int.reduceBEq, Int.reduceBNe, Nat.reduceBEq, List.append_nil, Int.toNat_zero, Nat.sub_self, he4]
      refine ⟨by decide, ?_⟩
      refine hk _ ?_
      have e : decide (p % 2 = 0 ∧ q % 2 = 0) = decide (q % 2 = 0) := by simp [h]
      rw [e]
      simp -implicitDefEqProofs only [evr, id, reduceCtorEq, reduceIte, Nat.reduceMul, Nat.reduceAdd, Nat.reduceLT, Nat.reduceLeDiff, Nat.reduceEqDiff, Int.reduceLT, Int.reduceBEq, Int.reduceBNe, Nat.reduceBEq, List.append_nil, Int.toNat_zero, Nat.sub_self, evl]
    · refine hk _ ?_
      have e : decide (p % 2 = 0 ∧ q % 2 = 0) = false := by simp [h]
      rw [e]
      simp -implicitDefEqProofs only [evr, id, reduceCtorEq, reduceIte, Nat.reduceMul, Nat.reduceAdd, Nat.reduceLT, Nat.reduceLeDiff, Nat.reduceEqDiff, Int.reduceLT, Int.reduceBEq, Int.reduceBNe, Nat.reduceBEq, List.append_nil, Int.toNat_zero, Nat.sub_self, evl]
  simp only [thenK]
  refine Sat.cond_b rfl (fun h => ?_) (fun h => ?_)
  · obtain ⟨hp2, hq2⟩ := of_decide_eq_true h
    have hgt := gcd_twos hp2 hq2
    refine Sat.skip ?_
    simp only [thenK]
    (repeat refine Sat.seq ?_)
    refine Sat.block ?_
    (refine Sat.region_k fun k hk => ?_; simp -implicitDefEqProofs only [evr, id, reduceCtorEq, reduceIte, Nat.reduceMul, Nat.reduceAdd, Nat.reduceLT, Nat.reduceLeDiff, Nat.reduceEqDiff, Int.reduceLT, Int.reduceBEq, Int.reduceBNe, Nat.reduceBEq, List.append_nil, Int.toNat_zero, Nat.sub_self])
    refine wcall_slice (refHalfC F hp' (up p (.inl p1))) rfl rfl ?_
    intro y hy
    have hs6 := hy
    obtain ⟨a6, c6, z6, r6, x6, rfl, _⟩ := hy
    simp -implicitDefEqProofs only [evr, id, reduceCtorEq, reduceIte, Nat.reduceMul, Nat.reduceAdd, Nat.reduceLT, Nat.reduceLeDiff, Nat.reduceEqDiff, Int.reduceLT, Int.reduceBEq, Int.reduceBNe, Nat.reduceBEq, List.append_nil, Int.toNat_zero, Nat.sub_self]
    refine wcall_slice (refHalfC F hq' (up q (.inr q1))) rfl rfl ?_
    intro y hy
    have hs7 := hy
    obtain ⟨a7, c7, z7, r7, x7, rfl, _⟩ := hy
    simp -implicitDefEqProofs only [evr, id, reduceCtorEq, reduceIte, Nat.reduceMul, Nat.reduceAdd, Nat.reduceLT, Nat.reduceLeDiff, Nat.reduceEqDiff, Int.reduceLT, Int.reduceBEq, Int.reduceBNe, Nat.reduceBEq, List.append_nil, Int.toNat_zero, Nat.sub_self]
    refine wcall_slice (refPlusC F ht' ht' (up t (.inl htm)) (up t (.inl htm))) rfl rfl ?_
    intro y hy
    have hs8 := hy
    obtain ⟨a8, c8, z8, r8, x8, rfl, _⟩ := hy
    simp -implicitDefEqProofs only [evr, id, reduceCtorEq, reduceIte, Nat.reduceMul, Nat.reduceAdd, Nat.reduceLT, Nat.reduceLeDiff, Nat.reduceEqDiff, Int.reduceLT, Int.reduceBEq, Int.reduceBNe, Nat.reduceBEq, List.append_nil, Int.toNat_zero, Nat.sub_self]
    refine hk _ ?_
    simp only [thenK, blockK]
    refine ⟨((_, _, _), (p / 2, q / 2, t + t)), ⟨⟨hs6, hs7, hs8⟩, ⟨by show 0 < p / 2; omega, by show p / 2 ≤ m; omega⟩, ⟨by show 0 < q / 2; omega, by show q / 2 ≤ n; omega⟩, by show (t + t) * Nat.gcd (p / 2) (q / 2) = Nat.gcd m n; rw [← hg, ← hgt, ← Nat.mul_assoc, Nat.mul_two]⟩, by show p / 2 < p; omega, ?_⟩
    simp -implicitDefEqProofs only [evr, id, reduceCtorEq, reduceIte, Nat.reduceMul, Nat.reduceAdd, Nat.reduceLT, Nat.reduceLeDiff, Nat.reduceEqDiff, Int.reduceLT, Int.reduceBEq, Int.reduceBNe, Nat.reduceBEq, List.append_nil, Int.toNat_zero, Nat.sub_self, evl]
  have hod := gcd_odd (of_decide_eq_false h)
  refine Sat.exit ?_
  simp only [thenK, blockK, reduceIte]
  generalize hG : Nat.gcd p q = G at hg hod
  (repeat refine Sat.seq ?_)
  refine Sat.block ?_
  (repeat refine Sat.seq ?_)
  refine Sat.loop (ι := (SV × SV) × (Nat × Nat)) (fun x => ⟨77, [(0, x.1.1), (1, x.1.2), (5, .sl a5 xs5.length c5 z5 r5)], []⟩)
    (fun x => (Nats x.1.1 x.2.1 ∧ Nats x.1.2 x.2.2) ∧ x.2.1 ≤ m ∧ x.2.2 ≤ n ∧ Nat.gcd x.2.1 x.2.2 = G) (fun x => x.2.1 + x.2.2) ((.sl a3 l3 c3 1 r3, .sl a4 l4 c4 1 r4), (p, q)) ⟨⟨hp', hq'⟩, p1, q1, hG⟩ (by simp -implicitDefEqProofs only [evr, id, reduceCtorEq, reduceIte, Nat.reduceMul, Nat.reduceAdd, Nat.reduceLT, Nat.reduceLeDiff, Nat.reduceEqDiff, Int.reduceLT, Int.reduceBEq, Int.reduceBNe, Nat.reduceBEq, List.append_nil, Int.toNat_zero, Nat.sub_self, evl]; try rfl) ?_
  clear hp hq hp' hq' hx3 hx4 he3 he4 hl3 hl4 hl3' hl4' p0 p1 q0 q1 hG
  rintro ⟨⟨sp, sq⟩, ⟨p2, q2⟩⟩ ⟨⟨hp, hq⟩, p1, q1, hG⟩
  simp only at hp hq p1 q1 hG ⊢
  have hp' := hp
  have hq' := hq
  obtain ⟨a6, c6, z6, r6, x6, rfl, _⟩ := hp
  obtain ⟨a7, c7, z7, r7, x7, rfl, _⟩ := hq
  have hlp := hp'.len
  have hlq := hq'.len
  (repeat refine Sat.seq ?_)
  refine Sat.region_at ⟨77, [(44, .b (decide (0 < p2 ∧ 0 < q2))), (0, .sl a6 x6.length c6 z6 r6), (1, .sl a7 x7.length c7 z7 r7), (5, .sl a5 xs5.length c5 z5 r5)], []⟩ (fun k hk => ?_) ?_
  · simp -implicitDefEqProofs only [evr, id, reduceCtorEq, reduceIte, Nat.reduceMul, Nat.reduceAdd, Nat.reduceLT, Nat.reduceLeDiff, Nat.reduceEqDiff, Int.reduceLT, Int.reduceBEq, Int.reduceBNe, Nat.reduceBEq, List.append_nil, Int.toNat_zero, Nat.sub_self]
    refine ⟨fun h => ?_, fun h => ?_⟩
    · refine hk _ ?_
      rw [hlp] at h
      have e : decide (0 < p2 ∧ 0 < q2) = decide (0 < (x7.length : Int)) := by
        congr 1
        rw [hlq]
        simp [h]
      rw [e]
      simp -implicitDefEqProofs only [evr, id, reduceCtorEq, reduceIte, Nat.reduceMul, Nat.reduceAdd, Nat.reduceLT, Nat.reduceLeDiff, Nat.reduceEqDiff, Int.reduceLT, Int.reduceBEq, Int.reduceBNe, Nat.reduceBEq, List.append_nil, Int.toNat_zero, Nat.sub_self, evl]
    · refine hk _ ?_
      rw [hlp] at h
      have e : decide (0 < p2 ∧ 0 < q2) = false := by simp [h]
      rw [e]
      simp -implicitDefEqProofs only [evr, id, reduceCtorEq, reduceIte, Nat.reduceMul, Nat.reduceAdd, Nat.reduceLT, Nat.reduceLeDiff, Nat.reduceEqDiff, Int.reduceLT, Int.reduceBEq, Int.reduceBNe, Nat.reduceBEq, List.append_nil, Int.toNat_zero, Nat.sub_self, evl]
  simp only [thenK]
  refine Sat.cond_b rfl (fun h => ?_) (fun h => ?_)
  · obtain ⟨p0, q0⟩ := of_decide_eq_true h
    obtain ⟨b1', b2', b3', b4', x8, e8, hl8, hx8, he8⟩ := hp'.head p0
    simp only [SV.sl.injEq] at e8
    obtain ⟨rfl, rfl, rfl, rfl, rfl⟩ := e8
    obtain ⟨b5', b6', b7', b8', x9, e9, hl9, hx9, he9⟩ := hq'.head q0
    simp only [SV.sl.injEq] at e9
    obtain ⟨rfl, rfl, rfl, rfl, rfl⟩ := e9
    have hl8' : (0 : Int) < (x6.length : Int) := by omega
    have hl9' : (0 : Int) < (x7.length : Int) := by omega
    refine Sat.skip ?_
    simp only [thenK]
    (repeat refine Sat.seq ?_)
    refine Sat.block ?_
    refine Sat.block ?_
    (repeat refine Sat.seq ?_)
    refine Sat.region_k fun k hk => ?_
    simp -implicitDefEqProofs only [evr, id, reduceCtorEq, reduceIte, Nat.reduceMul, Nat.reduceAdd, Nat.reduceLT, Nat.reduceLeDiff, Nat.reduceEqDiff, Int.reduceLT, Int.reduceBEq, Int.reduceBNe, Nat.reduceBEq, List.append_nil, Int.toNat_zero, Nat.sub_self]
    refine ⟨by omega, ?_⟩
    rw [hx8]
    simp -implicitDefEqProofs only [evr, id, reduceCtorEq, reduceIte, Nat.reduceMul, Nat.reduceAdd, Nat.reduceLT, Nat.reduceLeDiff, Nat.reduceEqDiff, Int.reduceLT, Int.reduceBEq, Int.reduceBNe, Nat.reduceBEq, List.append_nil, Int.toNat_zero, Nat.sub_self, he8]
    refine ⟨by decide, ?_⟩
    (refine hk _ ?_; clear hk k; try show Sat _ _ _ _ _)
    refine Sat.cond_b rfl (fun h5 => ?_) (fun h5 => ?_)
    · have h6 := of_decide_eq_true h5
      (repeat refine Sat.seq ?_)
      (refine Sat.region_k fun k hk => ?_; simp -implicitDefEqProofs only [evr, id, reduceCtorEq, reduceIte, Nat.reduceMul, Nat.reduceAdd, Nat.reduceLT, Nat.reduceLeDiff, Nat.reduceEqDiff, Int.reduceLT, Int.reduceBEq, Int.reduceBNe, Nat.reduceBEq, List.append_nil, Int.toNat_zero, Nat.sub_self])
      refine wcall_slice (refHalfC F hp' (up p2 (.inl p1))) rfl rfl ?_
      intro y hy
      have hs9 := hy
      obtain ⟨a9, c9, z9, r9, x9, rfl, _⟩ := hy
      simp -implicitDefEqProofs only [evr, id, reduceCtorEq, reduceIte, Nat.reduceMul, Nat.reduceAdd, Nat.reduceLT, Nat.reduceLeDiff, Nat.reduceEqDiff, Int.reduceLT, Int.reduceBEq, Int.reduceBNe, Nat.reduceBEq, List.append_nil, Int.toNat_zero, Nat.sub_self]
      refine hk _ ?_
      simp only [thenK, blockK]
      refine ⟨((_, _), ((p2 / 2), q2)), ⟨⟨hs9, hq'⟩, by show (p2 / 2) ≤ m; omega, by show q2 ≤ n; omega, by show Nat.gcd (p2 / 2) q2 = G; rw [gcd_half (by rw [hG]; exact hod) h6, hG]⟩, by show (p2 / 2) + q2 < p2 + q2; omega, ?_⟩
      simp -implicitDefEqProofs only [evr, id, reduceCtorEq, reduceIte, Nat.reduceMul, Nat.reduceAdd, Nat.reduceLT, Nat.reduceLeDiff, Nat.reduceEqDiff, Int.reduceLT, Int.reduceBEq, Int.reduceBNe, Nat.reduceBEq, List.append_nil, Int.toNat_zero, Nat.sub_self, evl]
    (repeat refine Sat.seq ?_)
    refine Sat.region_k fun k hk => ?_
    simp -implicitDefEqProofs only [evr, id, reduceCtorEq, reduceIte, Nat.reduceMul, Nat.reduceAdd, Nat.reduceLT, Nat.reduceLeDiff, Nat.reduceEqDiff, Int.reduceLT, Int.reduceBEq, Int.reduceBNe, Nat.reduceBEq, List.append_nil, Int.toNat_zero, Nat.sub_self]
    refine ⟨by omega, ?_⟩
    rw [hx9]
    simp -implicitDefEqProofs only [evr, id, reduceCtorEq, reduceIte, Nat.reduceMul, Nat.reduceAdd, Nat.reduceLT, Nat.reduceLeDiff, Nat.reduceEqDiff, Int.reduceLT, Int.reduceBEq, Int.reduceBNe, Nat.reduceBEq, List.append_nil, Int.toNat_zero, Nat.sub_self, he9]
    refine ⟨by decide, ?_⟩
    (refine hk _ ?_; clear hk k; try show Sat _ _ _ _ _)
    refine Sat.cond_b rfl (fun h7 => ?_) (fun h7 => ?_)
    · have h8 := of_decide_eq_true h7
      (repeat refine Sat.seq ?_)
      (refine Sat.region_k fun k hk => ?_; simp -implicitDefEqProofs only [evr, id, reduceCtorEq, reduceIte, Nat.reduceMul, Nat.reduceAdd, Nat.reduceLT, Nat.reduceLeDiff, Nat.reduceEqDiff, Int.reduceLT, Int.reduceBEq, Int.reduceBNe, Nat.reduceBEq, List.append_nil, Int.toNat_zero, Nat.sub_self])
      refine wcall_slice (refHalfC F hq' (up q2 (.inr q1))) rfl rfl ?_
      intro y hy
      have hs9 := hy
      obtain ⟨a9, c9, z9, r9, x9, rfl, _⟩ := hy
      simp -implicitDefEqProofs only [evr, id, reduceCtorEq, reduceIte, Nat.reduceMul, Nat.reduceAdd, Nat.reduceLT, Nat.reduceLeDiff, Nat.reduceEqDiff, Int.reduceLT, Int.reduceBEq, Int.reduceBNe, Nat.reduceBEq, List.append_nil, Int.toNat_zero, Nat.sub_self]
      refine hk _ ?_
      simp only [thenK, blockK]
      refine ⟨((_, _), (p2, (q2 / 2))), ⟨⟨hp', hs9⟩, by show p2 ≤ m; omega, by show (q2 / 2) ≤ n; omega, by show Nat.gcd p2 (q2 / 2) = G; rw [gcd_half' (by rw [hG]; exact hod) h8, hG]⟩, by show p2 + (q2 / 2) < p2 + q2; omega, ?_⟩
      simp -implicitDefEqProofs only [evr, id, reduceCtorEq, reduceIte, Nat.reduceMul, Nat.reduceAdd, Nat.reduceLT, Nat.reduceLeDiff, Nat.reduceEqDiff, Int.reduceLT, Int.reduceBEq, Int.reduceBNe, Nat.reduceBEq, List.append_nil, Int.toNat_zero, Nat.sub_self, evl]
    (repeat refine Sat.seq ?_)
    (refine Sat.region_k fun k hk => ?_; simp -implicitDefEqProofs only [evr, id, reduceCtorEq, reduceIte, Nat.reduceMul, Nat.reduceAdd, Nat.reduceLT, Nat.reduceLeDiff, Nat.reduceEqDiff, Int.reduceLT, Int.reduceBEq, Int.reduceBNe, Nat.reduceBEq, List.append_nil, Int.toNat_zero, Nat.sub_self])
    refine wcall_plain (refCompareC F hp' hq' (up p2 (.inl p1))) rfl (by rintro _ rfl; exact ok_plain rfl) ?_
    rintro y rfl
    simp -implicitDefEqProofs only [evr, id, reduceCtorEq, reduceIte, Nat.reduceMul, Nat.reduceAdd, Nat.reduceLT, Nat.reduceLeDiff, Nat.reduceEqDiff, Int.reduceLT, Int.reduceBEq, Int.reduceBNe, Nat.reduceBEq, List.append_nil, Int.toNat_zero, Nat.sub_self]
    (refine hk _ ?_; clear hk k; try show Sat _ _ _ _ _)
    refine Sat.cond_b rfl (fun h9 => ?_) (fun h9 => ?_)
    · have hle : q2 ≤ p2 := by
        by_cases h10 : p2 < q2
        · rw [cmpI_lt (by omega)] at h9; exact absurd h9 (by decide)
        · omega
      (repeat refine Sat.seq ?_)
      (refine Sat.region_k fun k hk => ?_; simp -implicitDefEqProofs only [evr, id, reduceCtorEq, reduceIte, Nat.reduceMul, Nat.reduceAdd, Nat.reduceLT, Nat.reduceLeDiff, Nat.reduceEqDiff, Int.reduceLT, Int.reduceBEq, Int.reduceBNe, Nat.reduceBEq, List.append_nil, Int.toNat_zero, Nat.sub_self])
      refine wcall_slice (refLessC F hp' hq' (up p2 (.inl p1)) hle) rfl rfl ?_
      intro y hy
      have hs9 := hy
      obtain ⟨a9, c9, z9, r9, x9, rfl, _⟩ := hy
      simp -implicitDefEqProofs only [evr, id, reduceCtorEq, reduceIte, Nat.reduceMul, Nat.reduceAdd, Nat.reduceLT, Nat.reduceLeDiff, Nat.reduceEqDiff, Int.reduceLT, Int.reduceBEq, Int.reduceBNe, Nat.reduceBEq, List.append_nil, Int.toNat_zero, Nat.sub_self]
      refine hk _ ?_
      simp only [thenK, blockK]
      refine ⟨((_, _), ((p2 - q2), q2)), ⟨⟨hs9, hq'⟩, by show (p2 - q2) ≤ m; omega, by show q2 ≤ n; omega, by show Nat.gcd (p2 - q2) q2 = G; rw [gcd_sub hle, hG]⟩, by show (p2 - q2) + q2 < p2 + q2; omega, ?_⟩
      simp -implicitDefEqProofs only [evr, id, reduceCtorEq, reduceIte, Nat.reduceMul, Nat.reduceAdd, Nat.reduceLT, Nat.reduceLeDiff, Nat.reduceEqDiff, Int.reduceLT, Int.reduceBEq, Int.reduceBNe, Nat.reduceBEq, List.append_nil, Int.toNat_zero, Nat.sub_self, evl]
    · have hle : p2 ≤ q2 := by
        by_cases h10 : q2 < p2
        · rw [cmpI_gt (by omega)] at h9; exact absurd h9 (by decide)
        · omega
      (repeat refine Sat.seq ?_)
      (refine Sat.region_k fun k hk => ?_; simp -implicitDefEqProofs only [evr, id, reduceCtorEq, reduceIte, Nat.reduceMul, Nat.reduceAdd, Nat.reduceLT, Nat.reduceLeDiff, Nat.reduceEqDiff, Int.reduceLT, Int.reduceBEq, Int.reduceBNe, Nat.reduceBEq, List.append_nil, Int.toNat_zero, Nat.sub_self])
      refine wcall_slice (refLessC F hq' hp' (up q2 (.inr q1)) hle) rfl rfl ?_
      intro y hy
      have hs9 := hy
      obtain ⟨a9, c9, z9, r9, x9, rfl, _⟩ := hy
      simp -implicitDefEqProofs only [evr, id, reduceCtorEq, reduceIte, Nat.reduceMul, Nat.reduceAdd, Nat.reduceLT, Nat.reduceLeDiff, Nat.reduceEqDiff, Int.reduceLT, Int.reduceBEq, Int.reduceBNe, Nat.reduceBEq, List.append_nil, Int.toNat_zero, Nat.sub_self]
      refine hk _ ?_
      simp only [thenK, blockK]
      refine ⟨((_, _), (p2, (q2 - p2))), ⟨⟨hp', hs9⟩, by show p2 ≤ m; omega, by show (q2 - p2) ≤ n; omega, by show Nat.gcd p2 (q2 - p2) = G; rw [Nat.gcd_comm, gcd_sub hle, Nat.gcd_comm, hG]⟩, by show p2 + (q2 - p2) < p2 + q2; omega, ?_⟩
      simp -implicitDefEqProofs only [evr, id, reduceCtorEq, reduceIte, Nat.reduceMul, Nat.reduceAdd, Nat.reduceLT, Nat.reduceLeDiff, Nat.reduceEqDiff, Int.reduceLT, Int.reduceBEq, Int.reduceBNe, Nat.reduceBEq, List.append_nil, Int.toNat_zero, Nat.sub_self, evl]
  have hz := of_decide_eq_false h
  have hsum : p2 + q2 = G := by
    rcases (show p2 = 0 ∨ q2 = 0 by omega) with rfl | rfl
    · rw [← hG]; simp
    · rw [← hG]; simp
  refine Sat.exit ?_
  simp only [thenK, blockK, reduceIte]
  (repeat refine Sat.seq ?_)
  (refine Sat.region_k fun k hk => ?_; simp -implicitDefEqProofs only [evr, id, reduceCtorEq, reduceIte, Nat.reduceMul, Nat.reduceAdd, Nat.reduceLT, Nat.reduceLeDiff, Nat.reduceEqDiff, Int.reduceLT, Int.reduceBEq, Int.reduceBNe, Nat.reduceBEq, List.append_nil, Int.toNat_zero, Nat.sub_self])
  refine wcall_slice (refPlusC F hp' hq' (up p2 (.inl p1)) (up q2 (.inr q1))) rfl rfl ?_
  intro y hy
  rw [hsum] at hy
  have hs9 := hy
  obtain ⟨a9, c9, z9, r9, x9, rfl, _⟩ := hy
  simp -implicitDefEqProofs only [evr, id, reduceCtorEq, reduceIte, Nat.reduceMul, Nat.reduceAdd, Nat.reduceLT, Nat.reduceLeDiff, Nat.reduceEqDiff, Int.reduceLT, Int.reduceBEq, Int.reduceBNe, Nat.reduceBEq, List.append_nil, Int.toNat_zero, Nat.sub_self]
  have ht0 : 0 < t := by
    rcases Nat.eq_zero_or_pos t with h9 | h9
    · rw [h9, Nat.zero_mul] at hg; omega
    · exact h9
  have hGm : G ≤ m := by
    have := Nat.le_mul_of_pos_left G ht0
    omega
  refine wcall_slice (refTimesC F ht' hs9 (up t (.inl htm)) (up G (.inl hGm))) rfl rfl ?_
  intro y hy
  rw [hg] at hy
  have hs8 := hy
  obtain ⟨a8, c8, z8, r8, x8, rfl, _⟩ := hy
  simp -implicitDefEqProofs only [evr, id, reduceCtorEq, reduceIte, Nat.reduceMul, Nat.reduceAdd, Nat.reduceLT, Nat.reduceLeDiff, Nat.reduceEqDiff, Int.reduceLT, Int.reduceBEq, Int.reduceBNe, Nat.reduceBEq, List.append_nil, Int.toNat_zero, Nat.sub_self]
  (refine hk _ ?_; clear hk k; try show Sat _ _ _ _ _)
  refine Sat.ret ?_
  simp only [Try.results64, evr, id, reduceCtorEq, reduceIte, Nat.reduceMul, Nat.reduceAdd, Nat.reduceLT, Nat.reduceLeDiff, Nat.reduceEqDiff, Int.reduceLT, Int.reduceBEq, Int.reduceBNe, Nat.reduceBEq, List.append_nil, Int.toNat_zero, Nat.sub_self]
  exact hs8
end Go.Proofs.Ytagmohpafjncfaa

/- The reference of package natural, by the evaluator: Split (begun: a slice of length 0 may have any cell size). -/
set_option linter.unusedSimpArgs false
set_option linter.unusedVariables false
namespace Go.Proofs.Ytagmohpafjncfaa
open Eng Lmb Go.RowKit
theorem Eng.Sat.know_sz {P : Program} {F : Frm} {c : Code} {K : Exit → St → Prop} {n : Nat} {env : List (Nat × SV)} {own : List Eng.Own} (t : Nat) {a : Option Addr} {len cap sz : Nat} {rd : Nat → Nat → SV} (hl : look env t = some (.sl a len cap sz rd)) (hz : len = 0 ∨ sz = 1)
    (h : Sat P F c ⟨n, (t, .sl a len cap 1 rd) :: env, own⟩ K) : Sat P F c ⟨n, env, own⟩ K := by
  rintro R0 w0 ac w ⟨ob, R, hr⟩
  refine h R0 w0 ac w ⟨ob, R, ?_⟩
  have hok := (hr.env t _ hl).2
  have hden := (hr.env t _ hl).1
  obtain ⟨h1, h2, h3⟩ := hok
  refine ⟨hr.defers, ?_, hr.size, hr.own, hr.dist, hr.evo, hr.inv, hr.obM, hr.gb, hr.obw, hr.rr, hr.r0⟩
  intro u s2 hu
  simp only [look] at hu
  by_cases e : t = u
  · rw [if_pos e, Option.some.injEq] at hu
    subst e hu
    refine ⟨hden, h1, h2, ?_⟩
    rcases hz with hz | rfl
    · exact .inl hz
    · exact h3
  · rw [if_neg e] at hu
    exact hr.env u s2 hu
theorem Nats.sz {a : Option Addr} {len cap sz n : Nat} {rd : Nat → Nat → SV} (h : Nats (.sl a len cap sz rd) n) : (len = 0 ∨ sz = 1) ∧ Nats (.sl a len cap 1 rd) n := by
  obtain ⟨a', cap', sz', rd', xs, e, hz, hr, hd⟩ := h
  simp only [SV.sl.injEq] at e
  obtain ⟨rfl, rfl, rfl, rfl, rfl⟩ := e
  exact ⟨hz, a, cap, 1, rd, xs, rfl, .inr rfl, hr, hd⟩
theorem rd_cons {x : Int} {rs : List Int} {rr : Nat → Nat → SV} (hr : ∀ i, i < rs.length → rr i 0 = .i .i64 (rs.getD i 0)) : ∀ i, i < (x :: rs).length → rdCat 1 (rdL [.i .i64 x] 1) rr i 0 = .i .i64 ((x :: rs).getD i 0) := by
  intro i hi
  unfold rdCat
  by_cases h : i < 1
  · obtain rfl : i = 0 := by omega
    rfl
  · obtain ⟨j, rfl⟩ : ∃ j, i = j + 1 := ⟨i - 1, by omega⟩
    rw [if_neg h, Nat.add_sub_cancel, hr j (by simpa using hi)]
    simp
theorem nats_one {a : Option Addr} {cap x : Nat} (h0 : 0 < x) (h1 : x < 1073741824) : Nats (.sl a 1 cap 1 (rdL [SV.i .i64 (x : Int)] 1)) x :=
  nats_of (xs := [(x : Int)]) rfl (fun p hp => by obtain rfl : p = 0 := by omega
                                                  rfl) (dig_one h0 h1)
set_option maxRecDepth 100000 in
theorem refSplitC (F : Frm) {sa sb : SV} {m n : Nat} (ha : Nats sa m) (hb : Nats sb n) (b1 : (m : Int) < pw 256) (b2 : (n : Int) < pw 256) (hn : 0 < n) : Contract F Try.prog 65 [sa, sb] (fun r => ∃ s t, r = tupL [s, t] ∧ Nats s (m / n) ∧ Nats t (m % n)) := by
  obtain ⟨xs, hi1, d1⟩ := ha.ints
  have l1 := (d1.len_le 256).2 b1
  have hb' := hb
  obtain ⟨a1, c1, z1, r1, rfl, hz1, hr1⟩ := hi1
  obtain ⟨a2, c2, z2, r2, x2, rfl, _⟩ := hb
  refine contract_of Try.func65 rfl (by kernel_rfl) ?_
  simp only [Try.ntmps65, argEnv]
  have e0 : IntKind.i64.wrap ((xs.length : Int) - 1) = (xs.length : Int) - 1 := w64 (by omega)
  (repeat refine Sat.seq ?_)
  (refine Sat.region_k fun k hk => ?_; simp -implicitDefEqProofs only [evr, id, reduceCtorEq, reduceIte, Nat.reduceMul, Nat.reduceAdd, Nat.reduceLT, Nat.reduceLeDiff, Nat.reduceEqDiff, Int.reduceLT, Int.reduceBEq, Int.reduceBNe, Nat.reduceBEq, List.append_nil, Nat.sub_self]; refine hk _ ?_; clear hk k; try show Sat _ _ _ _ _)
  (repeat refine Sat.seq ?_)
  (refine Sat.region_k fun k hk => ?_; simp -implicitDefEqProofs only [evr, id, reduceCtorEq, reduceIte, Nat.reduceMul, Nat.reduceAdd, Nat.reduceLT, Nat.reduceLeDiff, Nat.reduceEqDiff, Int.reduceLT, Int.reduceBEq, Int.reduceBNe, Nat.reduceBEq, List.append_nil, Nat.sub_self])
  refine ⟨by omega, fun a cap => ?_⟩
  (refine hk _ ?_; clear hk k; try show Sat _ _ _ _ _)
  (repeat refine Sat.seq ?_)
  (refine Sat.region_k fun k hk => ?_; simp -implicitDefEqProofs only [evr, id, reduceCtorEq, reduceIte, Nat.reduceMul, Nat.reduceAdd, Nat.reduceLT, Nat.reduceLeDiff, Nat.reduceEqDiff, Int.reduceLT, Int.reduceBEq, Int.reduceBNe, Nat.reduceBEq, List.append_nil, Nat.sub_self]; refine hk _ ?_; clear hk k; try show Sat _ _ _ _ _)
  (repeat refine Sat.seq ?_)
  refine Sat.region_k fun k hk => ?_
  simp -implicitDefEqProofs only [evr, id, reduceCtorEq, reduceIte, Nat.reduceMul, Nat.reduceAdd, Nat.reduceLT, Nat.reduceLeDiff, Nat.reduceEqDiff, Int.reduceLT, Int.reduceBEq, Int.reduceBNe, Nat.reduceBEq, List.append_nil, Nat.sub_self, e0]
  (refine hk _ ?_; clear hk k; try show Sat _ _ _ _ _)
  (repeat refine Sat.seq ?_)
  refine Sat.block ?_
  (repeat refine Sat.seq ?_)
  refine Sat.loop (ι := (Nat × List Int) × (SV × Nat)) (fun x => ⟨65, [(8, .i .i64 ((x.1.1 : Int) - 1)), (6, .os 0 a xs.length cap), (7, x.2.1), (0, .sl a1 xs.length c1 z1 r1), (1, .sl a2 x2.length c2 z2 r2)], [.row a 3 xs.length cap 1 (fun p _ => .i .i64 (x.1.2.getD p 0))]⟩)
    (fun x => x.1.1 ≤ xs.length ∧ SplitInv xs x.1.2 x.1.1 n x.2.2 ∧ Nats x.2.1 x.2.2 ∧ ∀ i, i < x.1.1 → x.1.2.getD i 0 = 0) (fun x => x.1.1) ((xs.length, List.replicate xs.length 0), (.sl none 0 0 0 (fun _ _ => .v undef), 0)) ⟨Nat.le_refl _, SplitInv.start xs hn, Nats.nil, fun i hi => by simp only [List.getD, List.getElem?_replicate]; split <;> rfl⟩ (by simp -implicitDefEqProofs only [evr, id, reduceCtorEq, reduceIte, Nat.reduceMul, Nat.reduceAdd, Nat.reduceLT, Nat.reduceLeDiff, Nat.reduceEqDiff, Int.reduceLT, Int.reduceBEq, Int.reduceBNe, Nat.reduceBEq, List.append_nil, Nat.sub_self, evl]; first | exact rd_zero (fun p => rfl) | exact ⟨rfl, rd_zero (fun p => rfl)⟩) ?_
  rintro ⟨⟨q, qs⟩, ⟨sr, r⟩⟩ ⟨hq, hinv, hr, hlow⟩
  simp only at hq hinv hr hlow ⊢
  obtain ⟨rs, hir, dr⟩ := hr.ints
  have hr' := hr
  obtain ⟨a3, c3, z3, r3, rfl, hz3, hr3⟩ := hir
  have hrl : rs.length ≤ 256 := (dr.len_le 256).2 (by have := hinv.lt; omega)
  (repeat refine Sat.seq ?_)
  (refine Sat.region_k fun k hk => ?_; simp -implicitDefEqProofs only [evr, id, reduceCtorEq, reduceIte, Nat.reduceMul, Nat.reduceAdd, Nat.reduceLT, Nat.reduceLeDiff, Nat.reduceEqDiff, Int.reduceLT, Int.reduceBEq, Int.reduceBNe, Nat.reduceBEq, List.append_nil, Nat.sub_self]; refine hk _ ?_; clear hk k; try show Sat _ _ _ _ _)
  (repeat refine Sat.seq ?_)
  refine Sat.cond_b rfl (fun h2 => ?_) (fun h2 => ?_)
  · simp only [decide_eq_true_eq] at h2
    obtain ⟨j, rfl⟩ : ∃ j, q = j + 1 := ⟨q - 1, by omega⟩
    have hj : j < xs.length := by omega
    have ej : (((j + 1 : Nat) : Int) - 1) = (j : Int) := by omega
    have ej2 : IntKind.i64.wrap ((j : Int) - 1) = (j : Int) - 1 := w64 (by omega)
    have hsz1 : z1 = 1 := by
      rcases hz1 with hz | hz
      · omega
      · exact hz
    subst hsz1
    have g1 := hr1 j hj
    have bx := limbs_getD d1.limbs j
    refine Sat.skip ?_
    simp only [thenK, ej]
    (repeat refine Sat.seq ?_)
    refine Sat.block ?_
    refine Sat.know_sz 7 rfl hz3 ?_
    (repeat refine Sat.seq ?_)
    refine Sat.region_k fun k hk => ?_
    simp -implicitDefEqProofs only [evr, id, reduceCtorEq, reduceIte, Nat.reduceMul, Nat.reduceAdd, Nat.reduceLT, Nat.reduceLeDiff, Nat.reduceEqDiff, Int.reduceLT, Int.reduceBEq, Int.reduceBNe, Nat.reduceBEq, List.append_nil, Nat.sub_self]
    refine ⟨by omega, ?_⟩
    rw [g1]
    simp -implicitDefEqProofs only [evr, id, reduceCtorEq, reduceIte, Nat.reduceMul, Nat.reduceAdd, Nat.reduceLT, Nat.reduceLeDiff, Nat.reduceEqDiff, Int.reduceLT, Int.reduceBEq, Int.reduceBNe, Nat.reduceBEq, List.append_nil, Nat.sub_self]
    intro blk
    refine ⟨⟨by unfold maxLen; omega, by omega⟩, fun a2_1 cap2 => ?_⟩
    have e1 : 1 + rs.length = (xs.getD j 0 :: rs).length := by rw [List.length_cons]; omega
    have hlim : Limbs (xs.getD j 0 :: rs) := limbs_cons.2 ⟨bx, dr.limbs⟩
    refine wcall_slice (refTrimC F (s := .sl a2_1 (xs.getD j 0 :: rs).length cap2 1 (rdCat 1 (rdL [.i .i64 (xs.getD j 0)] 1) r3)) ⟨_, _, 1, _, rfl, .inr rfl, rd_cons hr3⟩ hlim) (by simp -implicitDefEqProofs only [evr, id, reduceCtorEq, reduceIte, Nat.reduceMul, Nat.reduceAdd, Nat.reduceLT, Nat.reduceLeDiff, Nat.reduceEqDiff, Int.reduceLT, Int.reduceBEq, Int.reduceBNe, Nat.reduceBEq, List.append_nil, Nat.sub_self]; try rfl) (by simp -implicitDefEqProofs only [evr, id, reduceCtorEq, reduceIte, Nat.reduceMul, Nat.reduceAdd, Nat.reduceLT, Nat.reduceLeDiff, Nat.reduceEqDiff, Int.reduceLT, Int.reduceBEq, Int.reduceBNe, Nat.reduceBEq, List.append_nil, Nat.sub_self, e1]; try rfl) ?_
    intro y hy
    have hs4 := hy
    obtain ⟨a4, c4, z4, r4, x4, rfl, _⟩ := hy
    simp -implicitDefEqProofs only [evr, id, reduceCtorEq, reduceIte, Nat.reduceMul, Nat.reduceAdd, Nat.reduceLT, Nat.reduceLeDiff, Nat.reduceEqDiff, Int.reduceLT, Int.reduceBEq, Int.reduceBNe, Nat.reduceBEq, List.append_nil, Nat.sub_self]
    (refine hk _ ?_; clear hk k; try show Sat _ _ _ _ _)
    obtain ⟨tt, htt⟩ : ∃ tt : Nat, val (xs.getD j 0 :: rs) = (tt : Int) := ⟨_, (Int.toNat_of_nonneg (val_nonneg hlim)).symm⟩
    have htr : (xs.getD j 0).toNat + 1073741824 * r = tt := by
      rw [val_cons, dr.val] at htt
      omega
    rw [htt, Int.toNat_natCast] at hs4
    have hrn := hinv.lt
    have btt : (tt : Int) < pw 512 := by
      have h1 : pw 512 = pw 256 * pw 256 := pw_add 256 256
      have h2 : (1073741824 : Int) ≤ pw 256 := by
        have := pw_mono (show 1 ≤ 256 by omega)
        rw [pw_succ, pw_zero] at this
        omega
      have h3 : 1073741824 * (n : Int) ≤ pw 256 * pw 256 := Int.mul_le_mul h2 (by omega) (by omega) (by omega)
      omega
    (repeat refine Sat.seq ?_)
    (refine Sat.region_k fun k hk => ?_; simp -implicitDefEqProofs only [evr, id, reduceCtorEq, reduceIte, Nat.reduceMul, Nat.reduceAdd, Nat.reduceLT, Nat.reduceLeDiff, Nat.reduceEqDiff, Int.reduceLT, Int.reduceBEq, Int.reduceBNe, Nat.reduceBEq, List.append_nil, Nat.sub_self])
    refine wcall_plain (refCompareC F hs4 hb' btt) rfl (by rintro _ rfl; exact ok_plain rfl) ?_
    rintro y rfl
    simp -implicitDefEqProofs only [evr, id, reduceCtorEq, reduceIte, Nat.reduceMul, Nat.reduceAdd, Nat.reduceLT, Nat.reduceLeDiff, Nat.reduceEqDiff, Int.reduceLT, Int.reduceBEq, Int.reduceBNe, Nat.reduceBEq, List.append_nil, Nat.sub_self]
    (refine hk _ ?_; clear hk k; try show Sat _ _ _ _ _)
    refine Sat.cond_b rfl (fun h9 => ?_) (fun h9 => ?_)
    · have hlt : tt < n := by
        by_cases h10 : tt < n
        · exact h10
        exfalso
        by_cases h11 : n < tt
        · rw [cmpI_gt (by omega)] at h9; exact absurd h9 (by decide)
        · rw [cmpI_eq (by omega)] at h9; exact absurd h9 (by decide)
      have hst := (hinv.step d1.limbs hj (d := 0) (r' := tt) (by omega) hlt).1
      rw [show ((0 : Nat) : Int) = 0 by rfl, set_same (hlow j (by omega)) (by have := hinv.len; omega)] at hst
      refine Sat.exit ?_
      simp only [thenK, blockK, reduceIte]
      (repeat refine Sat.seq ?_)
      refine Sat.region_k fun k hk => ?_
      simp -implicitDefEqProofs only [evr, id, reduceCtorEq, reduceIte, Nat.reduceMul, Nat.reduceAdd, Nat.reduceLT, Nat.reduceLeDiff, Nat.reduceEqDiff, Int.reduceLT, Int.reduceBEq, Int.reduceBNe, Nat.reduceBEq, List.append_nil, Nat.sub_self, ej2]
      refine hk _ ?_
      simp only [thenK, blockK]
      refine ⟨((j, qs), (_, tt)), ⟨by show j ≤ xs.length; omega, hst, hs4, fun i hi => hlow i (by show i < j + 1; have : i < j := hi; omega)⟩, by show j < j + 1; omega, ?_⟩
      simp -implicitDefEqProofs only [evr, id, reduceCtorEq, reduceIte, Nat.reduceMul, Nat.reduceAdd, Nat.reduceLT, Nat.reduceLeDiff, Nat.reduceEqDiff, Int.reduceLT, Int.reduceBEq, Int.reduceBNe, Nat.reduceBEq, List.append_nil, Nat.sub_self, evl]
    have hge : n ≤ tt := by
      by_cases h10 : tt < n
      · rw [cmpI_lt (by omega)] at h9; exact absurd h9 (by decide)
      · omega
    have hstep := hinv.step d1.limbs hj (d := tt / n) (r' := tt % n) (by rw [htr, Nat.mul_comm]; exact (Nat.div_add_mod tt n).symm) (Nat.mod_lt _ hn)
    have hd1 : 1 ≤ tt / n := (Nat.one_le_div_iff hn).2 hge
    have hd2 := hstep.2
    have hst := hstep.1
    have hdm := Nat.div_add_mod tt n
    generalize hde : tt / n = d at hd1 hd2 hst hdm
    have bmul : ∀ z : Nat, z ≤ 1073741823 → (z : Int) < pw 256 ∧ (z : Int) < pw 512 ∧ ((n * z : Nat) : Int) < pw 512 := fun z hz => by
      have h1 : pw 512 = pw 256 * pw 256 := pw_add 256 256
      have h2 : (1073741824 : Int) ≤ pw 256 := by
        have := pw_mono (show 1 ≤ 256 by omega)
        rw [pw_succ, pw_zero] at this
        omega
      have h3 : (n : Int) * z ≤ (n : Int) * 1073741824 := Int.mul_le_mul_of_nonneg_left (by omega) (by omega)
      have h4 : (n : Int) * 1073741824 < pw 256 * 1073741824 := Int.mul_lt_mul_of_pos_right b2 (by decide)
      have h5 : pw 256 * 1073741824 ≤ pw 256 * pw 256 := Int.mul_le_mul_of_nonneg_left h2 (by omega)
      have h6 : (1073741824 : Int) ≤ pw 512 := by
        have := pw_mono (show 256 ≤ 512 by omega)
        omega
      refine ⟨by omega, by omega, ?_⟩
      rw [Int.natCast_mul]
      omega
    refine Sat.skip ?_
    simp only [thenK]
    (repeat refine Sat.seq ?_)
    (refine Sat.region_k fun k hk => ?_; simp -implicitDefEqProofs only [evr, id, reduceCtorEq, reduceIte, Nat.reduceMul, Nat.reduceAdd, Nat.reduceLT, Nat.reduceLeDiff, Nat.reduceEqDiff, Int.reduceLT, Int.reduceBEq, Int.reduceBNe, Nat.reduceBEq, List.append_nil, Nat.sub_self]; refine hk _ ?_; clear hk k; try show Sat _ _ _ _ _)
    (repeat refine Sat.seq ?_)
    refine Sat.block ?_
    (repeat refine Sat.seq ?_)
    refine Sat.loop (ι := Nat × Nat) (fun x => ⟨65, [(9, .i .i64 (x.1 : Int)), (10, .i .i64 (x.2 : Int)), (8, .i .i64 (j : Int)), (6, .os 0 a xs.length cap), (7, .sl a4 x4.length c4 z4 r4), (0, .sl a1 xs.length c1 1 r1), (1, .sl a2 x2.length c2 z2 r2)], [.row a 3 xs.length cap 1 (fun p _ => .i .i64 (qs.getD p 0))]⟩)
      (fun x => 1 ≤ x.1 ∧ x.1 ≤ d ∧ d ≤ x.2 ∧ x.2 ≤ 1073741823) (fun x => x.2 - x.1) (1, 1073741823) ⟨Nat.le_refl _, hd1, by omega, Nat.le_refl _⟩ (by simp -implicitDefEqProofs only [evr, id, reduceCtorEq, reduceIte, Nat.reduceMul, Nat.reduceAdd, Nat.reduceLT, Nat.reduceLeDiff, Nat.reduceEqDiff, Int.reduceLT, Int.reduceBEq, Int.reduceBNe, Nat.reduceBEq, List.append_nil, Nat.sub_self, evl]; exact ⟨rfl, rfl⟩) ?_
    rintro ⟨low, high⟩ ⟨i1, i2, i3, i4⟩
    simp only at i1 i2 i3 i4 ⊢
    (repeat refine Sat.seq ?_)
    (refine Sat.region_k fun k hk => ?_; simp -implicitDefEqProofs only [evr, id, reduceCtorEq, reduceIte, Nat.reduceMul, Nat.reduceAdd, Nat.reduceLT, Nat.reduceLeDiff, Nat.reduceEqDiff, Int.reduceLT, Int.reduceBEq, Int.reduceBNe, Nat.reduceBEq, List.append_nil, Nat.sub_self]; refine hk _ ?_; clear hk k; try show Sat _ _ _ _ _)
    (repeat refine Sat.seq ?_)
    refine Sat.cond_b rfl (fun h3 => ?_) (fun h3 => ?_)
    · simp only [decide_eq_true_eq] at h3
      have e1 : IntKind.i64.wrap ((low : Int) + (high : Int)) = (low : Int) + high := w64 (by omega)
      have e2 : IntKind.i64.wrap ((low : Int) + (high : Int) + 1) = (low : Int) + high + 1 := w64 (by omega)
      have e3 : IntKind.i64.wrap (((low : Int) + (high : Int) + 1).tdiv 2) = (((low + high + 1) / 2 : Nat) : Int) := by
        rw [Int.tdiv_eq_ediv_of_nonneg (by omega), w64 (by omega)]; omega
      have hmlo : low < (low + high + 1) / 2 := by omega
      have hmhi : (low + high + 1) / 2 ≤ high := by omega
      refine Sat.skip ?_
      simp only [thenK]
      (repeat refine Sat.seq ?_)
      refine Sat.block ?_
      (repeat refine Sat.seq ?_)
      refine Sat.region_k fun k hk => ?_
      simp -implicitDefEqProofs only [evr, id, reduceCtorEq, reduceIte, Nat.reduceMul, Nat.reduceAdd, Nat.reduceLT, Nat.reduceLeDiff, Nat.reduceEqDiff, Int.reduceLT, Int.reduceBEq, Int.reduceBNe, Nat.reduceBEq, List.append_nil, Nat.sub_self, e1, e2, e3]
      refine ⟨by decide, ?_⟩
      generalize (low + high + 1) / 2 = mid at hmlo hmhi
      (refine hk _ ?_; clear hk k; try show Sat _ _ _ _ _)
      (repeat refine Sat.seq ?_)
      obtain ⟨bm0, bm1, bm2⟩ := bmul mid (by omega)
      (refine Sat.region_k fun k hk => ?_; simp -implicitDefEqProofs only [evr, id, reduceCtorEq, reduceIte, Nat.reduceMul, Nat.reduceAdd, Nat.reduceLT, Nat.reduceLeDiff, Nat.reduceEqDiff, Int.reduceLT, Int.reduceBEq, Int.reduceBNe, Nat.reduceBEq, List.append_nil, Nat.sub_self])
      intro blk
      have hms : Nats (.sl (some ⟨blk, 0, none⟩) 1 1 1 (rdL [SV.i .i64 (mid : Int)] 1)) mid := nats_one (by omega) (by omega)
      refine wcall_slice (refTimesC F hb' hms (by have := pw_mono (show 256 ≤ 512 by omega); omega) bm1) (by simp -implicitDefEqProofs only [evr, id, reduceCtorEq, reduceIte, Nat.reduceMul, Nat.reduceAdd, Nat.reduceLT, Nat.reduceLeDiff, Nat.reduceEqDiff, Int.reduceLT, Int.reduceBEq, Int.reduceBNe, Nat.reduceBEq, List.append_nil, Nat.sub_self]; try rfl) (by simp -implicitDefEqProofs only [evr, id, reduceCtorEq, reduceIte, Nat.reduceMul, Nat.reduceAdd, Nat.reduceLT, Nat.reduceLeDiff, Nat.reduceEqDiff, Int.reduceLT, Int.reduceBEq, Int.reduceBNe, Nat.reduceBEq, List.append_nil, Nat.sub_self]; try rfl) ?_
      intro y hy
      have hs5 := hy
      obtain ⟨a5, c5, z5, r5, x5, rfl, _⟩ := hy
      simp -implicitDefEqProofs only [evr, id, reduceCtorEq, reduceIte, Nat.reduceMul, Nat.reduceAdd, Nat.reduceLT, Nat.reduceLeDiff, Nat.reduceEqDiff, Int.reduceLT, Int.reduceBEq, Int.reduceBNe, Nat.reduceBEq, List.append_nil, Nat.sub_self]
      refine wcall_plain (refCompareC F hs5 hs4 bm2) rfl (by rintro _ rfl; exact ok_plain rfl) ?_
      rintro y rfl
      simp -implicitDefEqProofs only [evr, id, reduceCtorEq, reduceIte, Nat.reduceMul, Nat.reduceAdd, Nat.reduceLT, Nat.reduceLeDiff, Nat.reduceEqDiff, Int.reduceLT, Int.reduceBEq, Int.reduceBNe, Nat.reduceBEq, List.append_nil, Nat.sub_self]
      (refine hk _ ?_; clear hk k; try show Sat _ _ _ _ _)
      refine Sat.cond_b rfl (fun h9 => ?_) (fun h9 => ?_)
      · have hle : mid ≤ d := by
          rw [← hde, Nat.le_div_iff_mul_le hn, Nat.mul_comm]
          by_cases h10 : n * mid ≤ tt
          · exact h10
          · rw [cmpI_gt (by omega)] at h9; exact absurd h9 (by decide)
        (refine Sat.region_k fun k hk => ?_; simp -implicitDefEqProofs only [evr, id, reduceCtorEq, reduceIte, Nat.reduceMul, Nat.reduceAdd, Nat.reduceLT, Nat.reduceLeDiff, Nat.reduceEqDiff, Int.reduceLT, Int.reduceBEq, Int.reduceBNe, Nat.reduceBEq, List.append_nil, Nat.sub_self])
        refine hk _ ?_
        simp only [thenK, blockK]
        refine ⟨(mid, high), ⟨by show 1 ≤ mid; omega, hle, i3, i4⟩, by show high - mid < high - low; omega, ?_⟩
        simp -implicitDefEqProofs only [evr, id, reduceCtorEq, reduceIte, Nat.reduceMul, Nat.reduceAdd, Nat.reduceLT, Nat.reduceLeDiff, Nat.reduceEqDiff, Int.reduceLT, Int.reduceBEq, Int.reduceBNe, Nat.reduceBEq, List.append_nil, Nat.sub_self, evl]
      · have hlt : d < mid := by
          rw [← hde, Nat.div_lt_iff_lt_mul hn, Nat.mul_comm]
          by_cases h10 : tt < n * mid
          · exact h10
          exfalso
          by_cases h11 : n * mid < tt
          · rw [cmpI_lt (by omega)] at h9; exact absurd h9 (by decide)
          · rw [cmpI_eq (by omega)] at h9; exact absurd h9 (by decide)
        have e5 : IntKind.i64.wrap ((mid : Int) - 1) = ((mid - 1 : Nat) : Int) := by rw [w64 (by omega)]; omega
        refine Sat.region_k fun k hk => ?_
        simp -implicitDefEqProofs only [evr, id, reduceCtorEq, reduceIte, Nat.reduceMul, Nat.reduceAdd, Nat.reduceLT, Nat.reduceLeDiff, Nat.reduceEqDiff, Int.reduceLT, Int.reduceBEq, Int.reduceBNe, Nat.reduceBEq, List.append_nil, Nat.sub_self, e5]
        refine hk _ ?_
        simp only [thenK, blockK]
        refine ⟨(low, mid - 1), ⟨i1, i2, by show d ≤ mid - 1; omega, by show mid - 1 ≤ 1073741823; omega⟩, by show mid - 1 - low < high - low; omega, ?_⟩
        simp -implicitDefEqProofs only [evr, id, reduceCtorEq, reduceIte, Nat.reduceMul, Nat.reduceAdd, Nat.reduceLT, Nat.reduceLeDiff, Nat.reduceEqDiff, Int.reduceLT, Int.reduceBEq, Int.reduceBNe, Nat.reduceBEq, List.append_nil, Nat.sub_self, evl]
    · simp only [decide_eq_false_iff_not] at h3
      obtain rfl : high = low := by omega
      obtain rfl : high = d := by omega
      clear i1 i2 i3 h3
      obtain ⟨bm0, bm1, bm2⟩ := bmul high (by omega)
      have hdle : n * high ≤ tt := by omega
      have hsub : tt - n * high = tt % n := by omega
      refine Sat.exit ?_
      simp only [thenK, blockK, reduceIte]
      (repeat refine Sat.seq ?_)
      (refine Sat.region_k fun k hk => ?_; simp -implicitDefEqProofs only [evr, id, reduceCtorEq, reduceIte, Nat.reduceMul, Nat.reduceAdd, Nat.reduceLT, Nat.reduceLeDiff, Nat.reduceEqDiff, Int.reduceLT, Int.reduceBEq, Int.reduceBNe, Nat.reduceBEq, List.append_nil, Nat.sub_self])
      refine ⟨by omega, by omega, ?_⟩
      (refine hk _ ?_; clear hk k; try show Sat _ _ _ _ _)
      (repeat refine Sat.seq ?_)
      (refine Sat.region_k fun k hk => ?_; simp -implicitDefEqProofs only [evr, id, reduceCtorEq, reduceIte, Nat.reduceMul, Nat.reduceAdd, Nat.reduceLT, Nat.reduceLeDiff, Nat.reduceEqDiff, Int.reduceLT, Int.reduceBEq, Int.reduceBNe, Nat.reduceBEq, List.append_nil, Nat.sub_self])
      intro blk
      have hms : Nats (.sl (some ⟨blk, 0, none⟩) 1 1 1 (rdL [SV.i .i64 (high : Int)] 1)) high := nats_one (by omega) (by omega)
      refine wcall_slice (refTimesC F hb' hms (by have := pw_mono (show 256 ≤ 512 by omega); omega) bm1) (by simp -implicitDefEqProofs only [evr, id, reduceCtorEq, reduceIte, Nat.reduceMul, Nat.reduceAdd, Nat.reduceLT, Nat.reduceLeDiff, Nat.reduceEqDiff, Int.reduceLT, Int.reduceBEq, Int.reduceBNe, Nat.reduceBEq, List.append_nil, Nat.sub_self]; try rfl) (by simp -implicitDefEqProofs only [evr, id, reduceCtorEq, reduceIte, Nat.reduceMul, Nat.reduceAdd, Nat.reduceLT, Nat.reduceLeDiff, Nat.reduceEqDiff, Int.reduceLT, Int.reduceBEq, Int.reduceBNe, Nat.reduceBEq, List.append_nil, Nat.sub_self]; try rfl) ?_
      intro y hy
      have hs5 := hy
      obtain ⟨a5, c5, z5, r5, x5, rfl, _⟩ := hy
      simp -implicitDefEqProofs only [evr, id, reduceCtorEq, reduceIte, Nat.reduceMul, Nat.reduceAdd, Nat.reduceLT, Nat.reduceLeDiff, Nat.reduceEqDiff, Int.reduceLT, Int.reduceBEq, Int.reduceBNe, Nat.reduceBEq, List.append_nil, Nat.sub_self]
      refine wcall_slice (refLessC F hs4 hs5 btt hdle) rfl rfl ?_
      intro y hy
      rw [hsub] at hy
      have hs6 := hy
      obtain ⟨a6, c6, z6, r6, x6, rfl, _⟩ := hy
      simp -implicitDefEqProofs only [evr, id, reduceCtorEq, reduceIte, Nat.reduceMul, Nat.reduceAdd, Nat.reduceLT, Nat.reduceLeDiff, Nat.reduceEqDiff, Int.reduceLT, Int.reduceBEq, Int.reduceBNe, Nat.reduceBEq, List.append_nil, Nat.sub_self]
      refine hk _ ?_
      clear hk k
      simp only [thenK, blockK]
      (repeat refine Sat.seq ?_)
      refine Sat.region_k fun k hk => ?_
      simp -implicitDefEqProofs only [evr, id, reduceCtorEq, reduceIte, Nat.reduceMul, Nat.reduceAdd, Nat.reduceLT, Nat.reduceLeDiff, Nat.reduceEqDiff, Int.reduceLT, Int.reduceBEq, Int.reduceBNe, Nat.reduceBEq, List.append_nil, Nat.sub_self, ej2]
      refine hk _ ?_
      simp only [thenK, blockK]
      refine ⟨((j, qs.set j (high : Int)), (_, tt % n)), ⟨by show j ≤ xs.length; omega, hst, hs6, fun i hi => by
        have hi' : i < j := hi
        show (qs.set j (high : Int)).getD i 0 = 0
        rw [getD_set _ _ _ (by have := hinv.len; omega), if_neg (by omega)]
        exact hlow i (by omega)⟩, by show j < j + 1; omega, ?_⟩
      simp -implicitDefEqProofs only [evr, id, reduceCtorEq, reduceIte, Nat.reduceMul, Nat.reduceAdd, Nat.reduceLT, Nat.reduceLeDiff, Nat.reduceEqDiff, Int.reduceLT, Int.reduceBEq, Int.reduceBNe, Nat.reduceBEq, List.append_nil, Nat.sub_self, evl]
      exact rd_set rfl (by have := hinv.len; omega)
  · simp only [decide_eq_false_iff_not] at h2
    obtain rfl : q = 0 := by omega
    obtain ⟨hd, hrm⟩ := hinv.done d1.val
    have hv : (val qs).toNat = m / n := by
      have h8 := hd.val
      rw [trim_val] at h8
      rw [h8]
      exact Int.toNat_natCast _
    have t3 := hinv.len
    refine Sat.exit ?_
    simp only [thenK, blockK, reduceIte]
    (repeat refine Sat.seq ?_)
    (refine Sat.region_k fun k hk => ?_; simp -implicitDefEqProofs only [evr, id, reduceCtorEq, reduceIte, Nat.reduceMul, Nat.reduceAdd, Nat.reduceLT, Nat.reduceLeDiff, Nat.reduceEqDiff, Int.reduceLT, Int.reduceBEq, Int.reduceBNe, Nat.reduceBEq, List.append_nil, Nat.sub_self])
    refine wcall_slice (refTrimC F (s := .sl a qs.length cap 1 (fun p _ => .i .i64 (qs.getD p 0))) ⟨a, cap, 1, _, rfl, .inr rfl, fun p _ => rfl⟩ hinv.limbs) (by simp -implicitDefEqProofs only [evr, id, reduceCtorEq, reduceIte, Nat.reduceMul, Nat.reduceAdd, Nat.reduceLT, Nat.reduceLeDiff, Nat.reduceEqDiff, Int.reduceLT, Int.reduceBEq, Int.reduceBNe, Nat.reduceBEq, List.append_nil, Nat.sub_self]; try rfl) (by simp -implicitDefEqProofs only [evr, id, reduceCtorEq, reduceIte, Nat.reduceMul, Nat.reduceAdd, Nat.reduceLT, Nat.reduceLeDiff, Nat.reduceEqDiff, Int.reduceLT, Int.reduceBEq, Int.reduceBNe, Nat.reduceBEq, List.append_nil, Nat.sub_self, t3]; try rfl) ?_
    intro y hy
    rw [hv] at hy
    have hs8 := hy
    obtain ⟨a8, c8, z8, r8, x8, rfl, _⟩ := hy
    simp -implicitDefEqProofs only [evr, id, reduceCtorEq, reduceIte, Nat.reduceMul, Nat.reduceAdd, Nat.reduceLT, Nat.reduceLeDiff, Nat.reduceEqDiff, Int.reduceLT, Int.reduceBEq, Int.reduceBNe, Nat.reduceBEq, List.append_nil, Nat.sub_self]
    (refine hk _ ?_; clear hk k; try show Sat _ _ _ _ _)
    refine Sat.ret ?_
    simp only [Try.results65, evr, id, reduceCtorEq, reduceIte, Nat.reduceMul, Nat.reduceAdd, Nat.reduceLT, Nat.reduceLeDiff, Nat.reduceEqDiff, Int.reduceLT, Int.reduceBEq, Int.reduceBNe, Nat.reduceBEq, List.append_nil, Nat.sub_self]
    exact ⟨_, _, rfl, hs8, by rw [← hrm]; exact hr'⟩
end Go.Proofs.Ytagmohpafjncfaa

/- The reference of fractions, by the evaluator: reduced. -/
set_option linter.unusedSimpArgs false
set_option linter.unusedVariables false
namespace Go.Proofs.Ytagmohpafjncfaa
open Eng Lmb Go.RowKit
theorem Nats.len0 {a : Option Addr} {len cap sz n : Nat} {rd : Nat → Nat → SV} (h : Nats (.sl a len cap sz rd) n) : ((len : Int) == 0) = decide (n = 0) := by
  have := h.len
  have e : (0 < (len : Int)) ↔ (0 < n) := by rw [this]
  by_cases hn : n = 0
  · rw [decide_eq_true hn, beq_iff_eq]; omega
  · rw [decide_eq_false hn, beq_eq_false_iff_ne]; omega
set_option maxRecDepth 100000 in
theorem refReducedC (F : Frm) (neg : Bool) {sp sq : SV} {p q : Nat} (hp : Nats sp p) (hq : Nats sq q) (h1 : (p : Int) < pw 256) (h2 : (q : Int) < pw 256) (h0 : 0 < q) : Contract F Try.prog 39 [.b neg, sp, sq] (fun r => FrS r (neg && decide (0 < p)) (p / Nat.gcd p q) (q / Nat.gcd p q)) := by
  have hp' := hp
  have hq' := hq
  have hg : 0 < Nat.gcd p q := Nat.gcd_pos_of_pos_right _ h0
  have hgq : Nat.gcd p q ≤ q := Nat.le_of_dvd h0 (Nat.gcd_dvd_right p q)
  obtain ⟨a1, c1, z1, r1, x1, rfl, _⟩ := hp
  obtain ⟨a2, c2, z2, r2, x2, rfl, _⟩ := hq
  have hl := hp'.len0
  refine contract_of Try.func39 rfl (by kernel_rfl) ?_
  simp only [Try.ntmps39, argEnv]
  (repeat refine Sat.seq ?_)
  (refine Sat.region_k fun k hk => ?_; simp -implicitDefEqProofs only [evr, id, reduceCtorEq, reduceIte, Nat.reduceMul, Nat.reduceAdd, Nat.reduceLT, Nat.reduceLeDiff, Nat.reduceEqDiff, Int.reduceLT, Int.reduceBEq, Int.reduceBNe, Nat.reduceBEq, List.append_nil, Int.toNat_zero, Nat.sub_self, frS])
  intro b6
  (refine hk _ ?_; clear hk k; try show Sat _ _ _ _ _)
  (repeat refine Sat.seq ?_)
  (refine Sat.region_k fun k hk => ?_; simp -implicitDefEqProofs only [evr, id, reduceCtorEq, reduceIte, Nat.reduceMul, Nat.reduceAdd, Nat.reduceLT, Nat.reduceLeDiff, Nat.reduceEqDiff, Int.reduceLT, Int.reduceBEq, Int.reduceBNe, Nat.reduceBEq, List.append_nil, Int.toNat_zero, Nat.sub_self, frS]; refine hk _ ?_; clear hk k; try show Sat _ _ _ _ _)
  refine Sat.cond_b rfl (fun h => ?_) (fun h => ?_)
  · have hp0 : p = 0 := by rw [hl] at h; exact of_decide_eq_true h
    subst hp0
    (repeat refine Sat.seq ?_)
    (refine Sat.region_k fun k hk => ?_; simp -implicitDefEqProofs only [evr, id, reduceCtorEq, reduceIte, Nat.reduceMul, Nat.reduceAdd, Nat.reduceLT, Nat.reduceLeDiff, Nat.reduceEqDiff, Int.reduceLT, Int.reduceBEq, Int.reduceBNe, Nat.reduceBEq, List.append_nil, Int.toNat_zero, Nat.sub_self, frS])
    intro blk
    (refine hk _ ?_; clear hk k; try show Sat _ _ _ _ _)
    refine Sat.ret ?_
    simp only [Try.results39, evr, id, reduceCtorEq, reduceIte, Nat.reduceMul, Nat.reduceAdd, Nat.reduceLT, Nat.reduceLeDiff, Nat.reduceEqDiff, Int.reduceLT, Int.reduceBEq, Int.reduceBNe, Nat.reduceBEq, List.append_nil, Int.toNat_zero, Nat.sub_self, frS]
    have e1 : q / Nat.gcd 0 q = 1 := by rw [Nat.gcd_zero_left]; exact Nat.div_self h0
    rw [e1, Nat.zero_div, decide_false, Bool.and_false]
    refine ⟨_, _, rfl, Nats.nil, nats_one (x := 1) (by omega) (by omega)⟩
  · have hp0 : 0 < p := by
      rw [hl] at h
      have := of_decide_eq_false h
      omega
    refine Sat.skip ?_
    simp only [thenK]
    (repeat refine Sat.seq ?_)
    (refine Sat.region_k fun k hk => ?_; simp -implicitDefEqProofs only [evr, id, reduceCtorEq, reduceIte, Nat.reduceMul, Nat.reduceAdd, Nat.reduceLT, Nat.reduceLeDiff, Nat.reduceEqDiff, Int.reduceLT, Int.reduceBEq, Int.reduceBNe, Nat.reduceBEq, List.append_nil, Int.toNat_zero, Nat.sub_self, frS])
    refine wcall_slice (refGcdC F hp' hq' h1 h2 hp0 h0) rfl rfl ?_
    intro r hs
    have hgs := hs
    obtain ⟨a3, c3, z3, r3, x3, rfl, _⟩ := hs
    simp -implicitDefEqProofs only [evr, id, reduceCtorEq, reduceIte, Nat.reduceMul, Nat.reduceAdd, Nat.reduceLT, Nat.reduceLeDiff, Nat.reduceEqDiff, Int.reduceLT, Int.reduceBEq, Int.reduceBNe, Nat.reduceBEq, List.append_nil, Int.toNat_zero, Nat.sub_self, frS]
    (refine hk _ ?_; clear hk k; try show Sat _ _ _ _ _)
    (repeat refine Sat.seq ?_)
    (refine Sat.region_k fun k hk => ?_; simp -implicitDefEqProofs only [evr, id, reduceCtorEq, reduceIte, Nat.reduceMul, Nat.reduceAdd, Nat.reduceLT, Nat.reduceLeDiff, Nat.reduceEqDiff, Int.reduceLT, Int.reduceBEq, Int.reduceBNe, Nat.reduceBEq, List.append_nil, Int.toNat_zero, Nat.sub_self, frS])
    refine wcall_slice (refSplitC F hp' hgs h1 (by omega) hg) rfl rfl ?_
    rintro r ⟨s, t, rfl, hs, ht⟩
    have hs4 := hs
    obtain ⟨a4, c4, z4, r4, x4, rfl, _⟩ := hs
    obtain ⟨a5, c5, z5, r5, x5, rfl, _⟩ := ht
    simp -implicitDefEqProofs only [evr, id, reduceCtorEq, reduceIte, Nat.reduceMul, Nat.reduceAdd, Nat.reduceLT, Nat.reduceLeDiff, Nat.reduceEqDiff, Int.reduceLT, Int.reduceBEq, Int.reduceBNe, Nat.reduceBEq, List.append_nil, Int.toNat_zero, Nat.sub_self, frS]
    (refine hk _ ?_; clear hk k; try show Sat _ _ _ _ _)
    (repeat refine Sat.seq ?_)
    (refine Sat.region_k fun k hk => ?_; simp -implicitDefEqProofs only [evr, id, reduceCtorEq, reduceIte, Nat.reduceMul, Nat.reduceAdd, Nat.reduceLT, Nat.reduceLeDiff, Nat.reduceEqDiff, Int.reduceLT, Int.reduceBEq, Int.reduceBNe, Nat.reduceBEq, List.append_nil, Int.toNat_zero, Nat.sub_self, frS])
    refine wcall_slice (refSplitC F hq' hgs h2 (by omega) hg) rfl rfl ?_
    rintro r ⟨s, t, rfl, hs, ht⟩
    have hs6 := hs
    obtain ⟨a6, c6, z6, r6, x6, rfl, _⟩ := hs
    obtain ⟨a7, c7, z7, r7, x7, rfl, _⟩ := ht
    simp -implicitDefEqProofs only [evr, id, reduceCtorEq, reduceIte, Nat.reduceMul, Nat.reduceAdd, Nat.reduceLT, Nat.reduceLeDiff, Nat.reduceEqDiff, Int.reduceLT, Int.reduceBEq, Int.reduceBNe, Nat.reduceBEq, List.append_nil, Int.toNat_zero, Nat.sub_self, frS]
    (refine hk _ ?_; clear hk k; try show Sat _ _ _ _ _)
    (repeat refine Sat.seq ?_)
    (refine Sat.region_k fun k hk => ?_; simp -implicitDefEqProofs only [evr, id, reduceCtorEq, reduceIte, Nat.reduceMul, Nat.reduceAdd, Nat.reduceLT, Nat.reduceLeDiff, Nat.reduceEqDiff, Int.reduceLT, Int.reduceBEq, Int.reduceBNe, Nat.reduceBEq, List.append_nil, Int.toNat_zero, Nat.sub_self, frS])
    (refine hk _ ?_; clear hk k; try show Sat _ _ _ _ _)
    refine Sat.ret ?_
    simp only [Try.results39, evr, id, reduceCtorEq, reduceIte, Nat.reduceMul, Nat.reduceAdd, Nat.reduceLT, Nat.reduceLeDiff, Nat.reduceEqDiff, Int.reduceLT, Int.reduceBEq, Int.reduceBNe, Nat.reduceBEq, List.append_nil, Int.toNat_zero, Nat.sub_self, frS]
    rw [decide_eq_true hp0, Bool.and_true]
    exact ⟨_, _, rfl, hs4, hs6⟩
set_option maxRecDepth 100000 in
theorem refReduceC (F : Frm) (neg : Bool) {sp sq : SV} {p q : Nat} (hp : Nats sp p) (hq : Nats sq q) (h1 : (p : Int) < pw 256) (h2 : (q : Int) < pw 256) (h0 : 0 < q) : Contract F Try.prog 42 [frS neg sp sq] (fun r => FrS r (neg && decide (0 < p)) (p / Nat.gcd p q) (q / Nat.gcd p q)) := by
  have hp' := hp
  have hq' := hq
  obtain ⟨a1, c1, z1, r1, x1, rfl, _⟩ := hp
  obtain ⟨a2, c2, z2, r2, x2, rfl, _⟩ := hq
  refine contract_of Try.func42 rfl (by kernel_rfl) ?_
  simp only [Try.ntmps42, argEnv, frS]
  (repeat refine Sat.seq ?_)
  (refine Sat.region_k fun k hk => ?_; simp -implicitDefEqProofs only [evr, id, reduceCtorEq, reduceIte, Nat.reduceMul, Nat.reduceAdd, Nat.reduceLT, Nat.reduceLeDiff, Nat.reduceEqDiff, Int.reduceLT, Int.reduceBEq, Int.reduceBNe, Nat.reduceBEq, List.append_nil, Int.toNat_zero, Nat.sub_self, frS])
  intro b1 b2
  (refine hk _ ?_; clear hk k; try show Sat _ _ _ _ _)
  (repeat refine Sat.seq ?_)
  (refine Sat.region_k fun k hk => ?_; simp -implicitDefEqProofs only [evr, id, reduceCtorEq, reduceIte, Nat.reduceMul, Nat.reduceAdd, Nat.reduceLT, Nat.reduceLeDiff, Nat.reduceEqDiff, Int.reduceLT, Int.reduceBEq, Int.reduceBNe, Nat.reduceBEq, List.append_nil, Int.toNat_zero, Nat.sub_self, frS])
  refine wcall_slice (refReducedC F neg hp' hq' h1 h2 h0) rfl (by simp -implicitDefEqProofs only [evr, id, reduceCtorEq, reduceIte, Nat.reduceMul, Nat.reduceAdd, Nat.reduceLT, Nat.reduceLeDiff, Nat.reduceEqDiff, Int.reduceLT, Int.reduceBEq, Int.reduceBNe, Nat.reduceBEq, List.append_nil, Int.toNat_zero, Nat.sub_self, frS]; try rfl) ?_
  rintro r ⟨sp3, sq3, rfl, h3, h4⟩
  have h3' := h3
  have h4' := h4
  obtain ⟨a3, c3, z3, r3, x3, rfl, _⟩ := h3
  obtain ⟨a4, c4, z4, r4, x4, rfl, _⟩ := h4
  simp only [frS, evr, id, reduceCtorEq, reduceIte, Nat.reduceMul, Nat.reduceAdd, Nat.reduceLT, Nat.reduceLeDiff, Nat.reduceEqDiff, Int.reduceLT, Int.reduceBEq, Int.reduceBNe, Nat.reduceBEq, List.append_nil, Int.toNat_zero, Nat.sub_self, frS]
  (refine hk _ ?_; clear hk k; try show Sat _ _ _ _ _)
  refine Sat.ret ?_
  simp only [Try.results42, evr, id, reduceCtorEq, reduceIte, Nat.reduceMul, Nat.reduceAdd, Nat.reduceLT, Nat.reduceLeDiff, Nat.reduceEqDiff, Int.reduceLT, Int.reduceBEq, Int.reduceBNe, Nat.reduceBEq, List.append_nil, Int.toNat_zero, Nat.sub_self, frS]
  exact ⟨_, _, rfl, h3', h4'⟩
end Go.Proofs.Ytagmohpafjncfaa

/- Fractions, by the evaluator: package fraction's Compare. -/
set_option linter.unusedSimpArgs false
set_option linter.unusedVariables false
namespace Go.Proofs.Ytagmohpafjncfaa
open Eng Lmb
def cmpV (na : Bool) (p q : Nat) (nb : Bool) (r s : Nat) : Int :=
  if (sumV na (p * s) (!nb) (r * q)).2 = 0 then 0 else if (sumV na (p * s) (!nb) (r * q)).1 = true then -1 else 1
theorem cmpV_pos (p q r s : Nat) : cmpV false p q false r s = cmpI (p * s : Nat) (r * q : Nat) := by
  unfold cmpV sumV
  simp only [Bool.not_false, Bool.false_eq_true, if_false]
  by_cases h : p * s < r * q
  · rw [if_pos h, cmpI_lt (by omega)]
    have : ¬ r * q - p * s = 0 := by omega
    simp [this]
  · rw [if_neg h]
    by_cases h2 : r * q < p * s
    · rw [cmpI_gt (by omega)]
      have : ¬ p * s - r * q = 0 := by omega
      simp [this]
    · rw [cmpI_eq (by omega)]
      have : p * s - r * q = 0 := by omega
      simp [this]
theorem Nats.zero {a : Option Addr} {len cap sz n : Nat} {rd : Nat → Nat → SV} (h : Nats (.sl a len cap sz rd) n) : ((len : Int) == 0) = decide (n = 0) := by
  have := h.len
  by_cases h0 : n = 0
  · rw [decide_eq_true h0]
    have : ¬ 0 < (len : Int) := by rw [this]; omega
    have : (len : Int) = 0 := by omega
    rw [this]; rfl
  · rw [decide_eq_false h0, beq_eq_false_iff_ne]
    have : 0 < (len : Int) := by rw [this]; omega
    omega
set_option maxRecDepth 100000 in
theorem fractionCompareC (F : Frm) (na nb : Bool) {sp sq sr ss : SV} {p q r s : Nat} (hp : Nats sp p) (hq : Nats sq q) (hr : Nats sr r) (hs : Nats ss s)
    (b1 : (p : Int) < pw 256) (b2 : (q : Int) < pw 256) (b3 : (r : Int) < pw 256) (b4 : (s : Int) < pw 256) (b5 : ((p * s : Nat) : Int) < pw 256) (b6 : ((r * q : Nat) : Int) < pw 256) (b7 : ((p * s + r * q : Nat) : Int) < pw 256) :
    Contract F Try.prog 14 [frS na sp sq, frS nb sr ss] (fun x => x = tupL [.i .i64 (cmpV na p q nb r s), .i .i64 0]) := by
  have hp' := hp
  have hq' := hq
  have hr' := hr
  have hs' := hs
  obtain ⟨a1, c1, z1, r1, x1, rfl, _⟩ := hp
  obtain ⟨a2, c2, z2, r2, x2, rfl, _⟩ := hq
  obtain ⟨a3, c3, z3, r3, x3, rfl, _⟩ := hr
  obtain ⟨a4, c4, z4, r4, x4, rfl, _⟩ := hs
  refine contract_of Try.func14 rfl (by kernel_rfl) ?_
  simp only [Try.ntmps14, argEnv, frS]
  (repeat refine Sat.seq ?_)
  (refine Sat.region_k fun k hk => ?_; simp -implicitDefEqProofs only [evr, id, reduceCtorEq, reduceIte, Nat.reduceMul, Nat.reduceAdd, Nat.reduceLT, Nat.reduceLeDiff, Nat.reduceEqDiff, Int.reduceLT, Int.reduceBEq, Int.reduceBNe, Nat.reduceBEq, List.append_nil, Int.toNat_zero, Nat.sub_self, frS])
  intro k1 k2
  (refine hk _ ?_; clear hk k; try show Sat _ _ _ _ _)
  (repeat refine Sat.seq ?_)
  (refine Sat.region_rows [⟨0, 10, 4, 0⟩, ⟨1, 11, 512, 1⟩, ⟨0, 12, 4, 0⟩, ⟨4, 13, 2048, 1⟩, ⟨0, 14, 8, 0⟩, ⟨16, 15, 8192, 1⟩, ⟨40, 16, 20480, 2⟩, ⟨0, 17, 8, 0⟩, ⟨128, 18, 65536, 1⟩, ⟨256, 19, 131072, 0⟩, ⟨0, 20, 8, 0⟩, ⟨1024, 21, 524288, 1⟩, ⟨0, 22, 4, 0⟩, ⟨4096, 23, 2097152, 1⟩, ⟨10304, 24, 5242880, 2⟩, ⟨16962, 25, 8684544, 2⟩, ⟨32768, 9, 16777216, 0⟩, ⟨65536, 26, 256, 0⟩, ⟨65536, 27, 256, 0⟩, ⟨262143, 7, 33554432, 0⟩, ⟨1048575, 8, 67108864, 0⟩] [0, 2, 4, 7, 10, 12, 1, 3, 5, 8, 11, 13, 9] [(6, false), (14, false), (15, false), (16, false), (17, true), (18, true), (19, false), (20, false)] [6, 14] (by kernel_rfl) (by kernel_rfl) (fun _ _ h => h) fun k hk => ?_; simp only [List.map_cons, List.map_nil, List.getD_cons_zero, List.getD_cons_succ, btseq_cons, btseq_free, btseq_nil]; simp -implicitDefEqProofs only [evr, id, reduceCtorEq, reduceIte, Nat.reduceMul, Nat.reduceAdd, Nat.reduceLT, Nat.reduceLeDiff, Nat.reduceEqDiff, Int.reduceLT, Int.reduceBEq, Int.reduceBNe, Nat.reduceBEq, List.append_nil, Int.toNat_zero, Nat.sub_self, frS])
  refine wcall_slice (fractionProductC F hp' hs' b1 b4 b5) rfl (by simp -implicitDefEqProofs only [evr, id, reduceCtorEq, reduceIte, Nat.reduceMul, Nat.reduceAdd, Nat.reduceLT, Nat.reduceLeDiff, Nat.reduceEqDiff, Int.reduceLT, Int.reduceBEq, Int.reduceBNe, Nat.reduceBEq, List.append_nil, Int.toNat_zero, Nat.sub_self, frS]; try rfl) ?_
  intro y hy
  have hy1 := hy
  obtain ⟨a5, c5, z5, r5, x5, rfl, _⟩ := hy
  simp -implicitDefEqProofs only [evr, id, reduceCtorEq, reduceIte, Nat.reduceMul, Nat.reduceAdd, Nat.reduceLT, Nat.reduceLeDiff, Nat.reduceEqDiff, Int.reduceLT, Int.reduceBEq, Int.reduceBNe, Nat.reduceBEq, List.append_nil, Int.toNat_zero, Nat.sub_self, frS]
  refine wcall_slice (fractionProductC F hr' hq' b3 b2 b6) rfl (by simp -implicitDefEqProofs only [evr, id, reduceCtorEq, reduceIte, Nat.reduceMul, Nat.reduceAdd, Nat.reduceLT, Nat.reduceLeDiff, Nat.reduceEqDiff, Int.reduceLT, Int.reduceBEq, Int.reduceBNe, Nat.reduceBEq, List.append_nil, Int.toNat_zero, Nat.sub_self, frS]; try rfl) ?_
  intro y hy
  have hy2 := hy
  obtain ⟨a6, c6, z6, r6, x6, rfl, _⟩ := hy
  simp -implicitDefEqProofs only [evr, id, reduceCtorEq, reduceIte, Nat.reduceMul, Nat.reduceAdd, Nat.reduceLT, Nat.reduceLeDiff, Nat.reduceEqDiff, Int.reduceLT, Int.reduceBEq, Int.reduceBNe, Nat.reduceBEq, List.append_nil, Int.toNat_zero, Nat.sub_self, frS]
  refine wcall_slice (fractionSumC F na (!nb) hy1 hy2 b5 b6 b7) rfl (by simp -implicitDefEqProofs only [evr, id, reduceCtorEq, reduceIte, Nat.reduceMul, Nat.reduceAdd, Nat.reduceLT, Nat.reduceLeDiff, Nat.reduceEqDiff, Int.reduceLT, Int.reduceBEq, Int.reduceBNe, Nat.reduceBEq, List.append_nil, Int.toNat_zero, Nat.sub_self, frS]; try rfl) ?_
  rintro y ⟨sv, rfl, hy⟩
  have hy3 := hy
  obtain ⟨a7, c7, z7, r7, x7, rfl, _⟩ := hy
  have hz := hy3.zero
  simp -implicitDefEqProofs only [evr, id, reduceCtorEq, reduceIte, Nat.reduceMul, Nat.reduceAdd, Nat.reduceLT, Nat.reduceLeDiff, Nat.reduceEqDiff, Int.reduceLT, Int.reduceBEq, Int.reduceBNe, Nat.reduceBEq, List.append_nil, Int.toNat_zero, Nat.sub_self, frS]
  (refine hk _ ?_; clear hk k; try show Sat _ _ _ _ _)
  (repeat refine Sat.seq ?_)
  refine Sat.block ?_
  (repeat refine Sat.seq ?_)
  (refine Sat.region_k fun k hk => ?_; simp -implicitDefEqProofs only [evr, id, reduceCtorEq, reduceIte, Nat.reduceMul, Nat.reduceAdd, Nat.reduceLT, Nat.reduceLeDiff, Nat.reduceEqDiff, Int.reduceLT, Int.reduceBEq, Int.reduceBNe, Nat.reduceBEq, List.append_nil, Int.toNat_zero, Nat.sub_self, frS]; refine hk _ ?_; clear hk k; try show Sat _ _ _ _ _)
  refine Sat.cond_b rfl (fun h => ?_) (fun h => ?_)
  · rw [hz] at h
    have h0 := of_decide_eq_true h
    (repeat refine Sat.seq ?_)
    (refine Sat.region_k fun k hk => ?_; simp -implicitDefEqProofs only [evr, id, reduceCtorEq, reduceIte, Nat.reduceMul, Nat.reduceAdd, Nat.reduceLT, Nat.reduceLeDiff, Nat.reduceEqDiff, Int.reduceLT, Int.reduceBEq, Int.reduceBNe, Nat.reduceBEq, List.append_nil, Int.toNat_zero, Nat.sub_self, frS]; refine hk _ ?_; clear hk k; try show Sat _ _ _ _ _)
    refine Sat.ret ?_
    simp only [thenK, blockK, Try.results14, evr, id, reduceCtorEq, reduceIte, Nat.reduceMul, Nat.reduceAdd, Nat.reduceLT, Nat.reduceLeDiff, Nat.reduceEqDiff, Int.reduceLT, Int.reduceBEq, Int.reduceBNe, Nat.reduceBEq, List.append_nil, Int.toNat_zero, Nat.sub_self, frS]
    unfold cmpV
    rw [if_pos h0]
  · rw [hz] at h
    have h0 := of_decide_eq_false h
    (repeat refine Sat.seq ?_)
    (refine Sat.region_k fun k hk => ?_; simp -implicitDefEqProofs only [evr, id, reduceCtorEq, reduceIte, Nat.reduceMul, Nat.reduceAdd, Nat.reduceLT, Nat.reduceLeDiff, Nat.reduceEqDiff, Int.reduceLT, Int.reduceBEq, Int.reduceBNe, Nat.reduceBEq, List.append_nil, Int.toNat_zero, Nat.sub_self, frS]; refine hk _ ?_; clear hk k; try show Sat _ _ _ _ _)
    refine Sat.cond_b rfl (fun h2 => ?_) (fun h2 => ?_)
    · (repeat refine Sat.seq ?_)
      (refine Sat.region_k fun k hk => ?_; simp -implicitDefEqProofs only [evr, id, reduceCtorEq, reduceIte, Nat.reduceMul, Nat.reduceAdd, Nat.reduceLT, Nat.reduceLeDiff, Nat.reduceEqDiff, Int.reduceLT, Int.reduceBEq, Int.reduceBNe, Nat.reduceBEq, List.append_nil, Int.toNat_zero, Nat.sub_self, frS]; refine hk _ ?_; clear hk k; try show Sat _ _ _ _ _)
      refine Sat.ret ?_
      simp only [thenK, blockK, Try.results14, evr, id, reduceCtorEq, reduceIte, Nat.reduceMul, Nat.reduceAdd, Nat.reduceLT, Nat.reduceLeDiff, Nat.reduceEqDiff, Int.reduceLT, Int.reduceBEq, Int.reduceBNe, Nat.reduceBEq, List.append_nil, Int.toNat_zero, Nat.sub_self, frS]
      unfold cmpV
      rw [if_neg h0, if_pos h2]
    · refine Sat.skip ?_
      simp only [thenK, blockK]
      (repeat refine Sat.seq ?_)
      (refine Sat.region_k fun k hk => ?_; simp -implicitDefEqProofs only [evr, id, reduceCtorEq, reduceIte, Nat.reduceMul, Nat.reduceAdd, Nat.reduceLT, Nat.reduceLeDiff, Nat.reduceEqDiff, Int.reduceLT, Int.reduceBEq, Int.reduceBNe, Nat.reduceBEq, List.append_nil, Int.toNat_zero, Nat.sub_self, frS]; refine hk _ ?_; clear hk k; try show Sat _ _ _ _ _)
      refine Sat.ret ?_
      simp only [Try.results14, evr, id, reduceCtorEq, reduceIte, Nat.reduceMul, Nat.reduceAdd, Nat.reduceLT, Nat.reduceLeDiff, Nat.reduceEqDiff, Int.reduceLT, Int.reduceBEq, Int.reduceBNe, Nat.reduceBEq, List.append_nil, Int.toNat_zero, Nat.sub_self, frS]
      unfold cmpV
      rw [if_neg h0, if_neg (by simpa using h2)]
end Go.Proofs.Ytagmohpafjncfaa
