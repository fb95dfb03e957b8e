/- The reference of package natural, by the evaluator: Gcd. -/
import Derived.Test.YtagmohpafjncfaaPk1
import Derived.Test.YtagmohpafjncfaaEngR
import Derived.Test.YtagmohpafjncfaaZChoose
import Derived.WalkKit
set_option linter.unusedSimpArgs false
set_option linter.unusedVariables false
namespace Go.Proofs.Ytagmohpafjncfaa
open Eng Lmb Go.RowKit
theorem Nats.head {s : SV} {p : Nat} (h : Nats s p) (hp : 0 < p) : ∃ (a : Option Addr) (len cap : Nat) (rd : Nat → Nat → SV) (x : Int), s = .sl a len cap 1 rd ∧ 0 < len ∧ rd 0 0 = .i .i64 x ∧ (x.tmod 2 == 0) = decide (p % 2 = 0) := by
  obtain ⟨a, cap, sz, rd, xs, rfl, hz, hr, hd⟩ := h
  have hl : 0 < xs.length := by
    have := hd.len_zero
    omega
  have hsz : sz = 1 := by
    rcases hz with hz | hz
    · omega
    · exact hz
  subst hsz
  have he := even_limb hd
  have hb := limbs_getD hd.limbs 0
  refine ⟨a, xs.length, cap, rd, xs.getD 0 0, rfl, hl, hr 0 hl, ?_⟩
  rw [Int.tmod_eq_emod_of_nonneg hb.1]
  by_cases h9 : p % 2 = 0
  · rw [decide_eq_true h9, beq_iff_eq]; omega
  · rw [decide_eq_false h9, beq_eq_false_iff_ne]; omega
set_option maxRecDepth 100000 in
theorem refGcdC (F : Frm) {sa sb : SV} {m n : Nat} (ha : Nats sa m) (hb : Nats sb n) (b1 : (m : Int) < pw 256) (b2 : (n : Int) < pw 256) (hm : 0 < m) (hn : 0 < n) : Contract F Try.prog 64 [sa, sb] (fun r => Nats r (Nat.gcd m n)) := by
  have up : ∀ x : Nat, (x ≤ m ∨ x ≤ n) → (x : Int) < pw 512 := fun x hx => by
    have := pw_mono (show 256 ≤ 512 by omega)
    rcases hx with hx | hx <;> omega
  have hg0 : 0 < Nat.gcd m n := Nat.gcd_pos_of_pos_left _ hm
  have hgm : Nat.gcd m n ≤ m := Nat.le_of_dvd hm (Nat.gcd_dvd_left m n)
  have ha' := ha
  have hb' := hb
  obtain ⟨a1, l1, c1, r1, x1, rfl, hl1, _, _⟩ := ha.head hm
  obtain ⟨a2, l2, c2, r2, x2, rfl, hl2, _, _⟩ := hb.head hn
  refine contract_of Try.func64 rfl (by kernel_rfl) ?_
  simp only [Try.ntmps64, argEnv]
  (repeat refine Sat.seq ?_)
  (refine Sat.region_k fun k hk => ?_; simp -implicitDefEqProofs only [evr, id, reduceCtorEq, reduceIte, Nat.reduceMul, Nat.reduceAdd, Nat.reduceLT, Nat.reduceLeDiff, Nat.reduceEqDiff, Int.reduceLT, Int.reduceBEq, Int.reduceBNe, Nat.reduceBEq, List.append_nil, Int.toNat_zero, Nat.sub_self]; refine hk _ ?_; clear hk k; try show Sat _ _ _ _ _)
  (repeat refine Sat.seq ?_)
  refine Sat.region_at ⟨77, [(13, .b false), (0, .sl a1 l1 c1 1 r1), (1, .sl a2 l2 c2 1 r2)], []⟩ (fun k hk => ?_) ?_
  · simp -implicitDefEqProofs only [evr, id, reduceCtorEq, reduceIte, Nat.reduceMul, Nat.reduceAdd, Nat.reduceLT, Nat.reduceLeDiff, Nat.reduceEqDiff, Int.reduceLT, Int.reduceBEq, Int.reduceBNe, Nat.reduceBEq, List.append_nil, Int.toNat_zero, Nat.sub_self]
    have e1 : ((l1 : Int) == 0) = false := by rw [beq_eq_false_iff_ne]; omega
    have e2 : ((l2 : Int) == 0) = false := by rw [beq_eq_false_iff_ne]; omega
    refine ⟨fun h => ?_, fun h => ?_⟩
    · rw [e1] at h; cases h
    · refine hk _ ?_
      rw [e2]
      simp -implicitDefEqProofs only [evr, id, reduceCtorEq, reduceIte, Nat.reduceMul, Nat.reduceAdd, Nat.reduceLT, Nat.reduceLeDiff, Nat.reduceEqDiff, Int.reduceLT, Int.reduceBEq, Int.reduceBNe, Nat.reduceBEq, List.append_nil, Int.toNat_zero, Nat.sub_self, evl]
  simp only [thenK]
  refine Sat.cond_b rfl (fun h => by cases h) (fun h => ?_)
  refine Sat.skip ?_
  simp only [thenK]
  (repeat refine Sat.seq ?_)
  (refine Sat.region_k fun k hk => ?_; simp -implicitDefEqProofs only [evr, id, reduceCtorEq, reduceIte, Nat.reduceMul, Nat.reduceAdd, Nat.reduceLT, Nat.reduceLeDiff, Nat.reduceEqDiff, Int.reduceLT, Int.reduceBEq, Int.reduceBNe, Nat.reduceBEq, List.append_nil, Int.toNat_zero, Nat.sub_self])
  intro blk
  (refine hk _ ?_; clear hk k; try show Sat _ _ _ _ _)
  have h1s : Nats (.sl (some ⟨blk, 0, none⟩) 1 1 1 (rdL [SV.i .i64 1] 1)) 1 := nats_of (xs := [1]) rfl (fun p hp => by have hp0 : p = 0 := by omega
                                                                                                                       subst hp0; rfl) (dig_one (x := 1) (by omega) (by omega))
  refine Sat.settle2 5 rfl rfl ?_
  simp -implicitDefEqProofs only [evr, id, reduceCtorEq, reduceIte, Nat.reduceMul, Nat.reduceAdd, Nat.reduceLT, Nat.reduceLeDiff, Nat.reduceEqDiff, Int.reduceLT, Int.reduceBEq, Int.reduceBNe, Nat.reduceBEq, List.append_nil, Int.toNat_zero, Nat.sub_self]
  (repeat refine Sat.seq ?_)
  refine Sat.block ?_
  (repeat refine Sat.seq ?_)
  refine Sat.loop (ι := (SV × SV × SV) × (Nat × Nat × Nat)) (fun x => ⟨77, [(0, x.1.1), (1, x.1.2.1), (5, x.1.2.2)], []⟩)
    (fun x => (Nats x.1.1 x.2.1 ∧ Nats x.1.2.1 x.2.2.1 ∧ Nats x.1.2.2 x.2.2.2) ∧ (0 < x.2.1 ∧ x.2.1 ≤ m) ∧ (0 < x.2.2.1 ∧ x.2.2.1 ≤ n) ∧ x.2.2.2 * Nat.gcd x.2.1 x.2.2.1 = Nat.gcd m n) (fun x => x.2.1) ((.sl a1 l1 c1 1 r1, .sl a2 l2 c2 1 r2, .sl (some ⟨blk, 0, none⟩) 1 1 1 (rdL [SV.i .i64 1] 1)), (m, n, 1)) ⟨⟨ha', hb', h1s⟩, ⟨hm, Nat.le_refl _⟩, ⟨hn, Nat.le_refl _⟩, Nat.one_mul _⟩ (by simp -implicitDefEqProofs only [evr, id, reduceCtorEq, reduceIte, Nat.reduceMul, Nat.reduceAdd, Nat.reduceLT, Nat.reduceLeDiff, Nat.reduceEqDiff, Int.reduceLT, Int.reduceBEq, Int.reduceBNe, Nat.reduceBEq, List.append_nil, Int.toNat_zero, Nat.sub_self, evl]; try rfl) ?_
  rintro ⟨⟨sp, sq, st⟩, ⟨p, q, t⟩⟩ ⟨⟨hp, hq, ht⟩, ⟨p0, p1⟩, ⟨q0, q1⟩, hg⟩
  simp only at hp hq ht p0 p1 q0 q1 hg ⊢
  have hp' := hp
  have hq' := hq
  have ht' := ht
  obtain ⟨a3, l3, c3, r3, x3, rfl, hl3, hx3, he3⟩ := hp.head p0
  obtain ⟨a4, l4, c4, r4, x4, rfl, hl4, hx4, he4⟩ := hq.head q0
  obtain ⟨a5, c5, z5, r5, xs5, rfl, _⟩ := ht
  have htm : t ≤ m := by
    have g0 : 0 < Nat.gcd p q := Nat.gcd_pos_of_pos_left _ p0
    have := Nat.le_mul_of_pos_right t g0
    omega
  have hl3' : (0 : Int) < (l3 : Int) := by omega
  have hl4' : (0 : Int) < (l4 : Int) := by omega
  (repeat refine Sat.seq ?_)
  refine Sat.region_at ⟨77, [(29, .b (decide (p % 2 = 0 ∧ q % 2 = 0))), (0, .sl a3 l3 c3 1 r3), (1, .sl a4 l4 c4 1 r4), (5, .sl a5 xs5.length c5 z5 r5)], []⟩ (fun k hk => ?_) ?_
  · simp -implicitDefEqProofs only [evr, id, reduceCtorEq, reduceIte, Nat.reduceMul, Nat.reduceAdd, Nat.reduceLT, Nat.reduceLeDiff, Nat.reduceEqDiff, Int.reduceLT, Int.reduceBEq, Int.reduceBNe, Nat.reduceBEq, List.append_nil, Int.toNat_zero, Nat.sub_self]
    refine ⟨by omega, ?_⟩
    rw [hx3]
    simp -implicitDefEqProofs only [evr, id, reduceCtorEq, reduceIte, Nat.reduceMul, Nat.reduceAdd, Nat.reduceLT, Nat.reduceLeDiff, Nat.reduceEqDiff, Int.reduceLT, Int.reduceBEq, Int.reduceBNe, Nat.reduceBEq, List.append_nil, Int.toNat_zero, Nat.sub_self, he3]
    refine ⟨by decide, fun h => ?_, fun h => ?_⟩
    · refine ⟨by omega, ?_⟩
      rw [hx4]
      simp -implicitDefEqProofs only [evr, id, reduceCtorEq, reduceIte, Nat.reduceMul, Nat.reduceAdd, Nat.reduceLT, Nat.reduceLeDiff, Nat.reduceEqDiff, Int.reduceLT, Int.reduceBEq, Int.reduceBNe, Nat.reduceBEq, List.append_nil, Int.toNat_zero, Nat.sub_self, he4]
      refine ⟨by decide, ?_⟩
      refine hk _ ?_
      have e : decide (p % 2 = 0 ∧ q % 2 = 0) = decide (q % 2 = 0) := by simp [h]
      rw [e]
      simp -implicitDefEqProofs only [evr, id, reduceCtorEq, reduceIte, Nat.reduceMul, Nat.reduceAdd, Nat.reduceLT, Nat.reduceLeDiff, Nat.reduceEqDiff, Int.reduceLT, Int.reduceBEq, Int.reduceBNe, Nat.reduceBEq, List.append_nil, Int.toNat_zero, Nat.sub_self, evl]
    · refine hk _ ?_
      have e : decide (p % 2 = 0 ∧ q % 2 = 0) = false := by simp [h]
      rw [e]
      simp -implicitDefEqProofs only [evr, id, reduceCtorEq, reduceIte, Nat.reduceMul, Nat.reduceAdd, Nat.reduceLT, Nat.reduceLeDiff, Nat.reduceEqDiff, Int.reduceLT, Int.reduceBEq, Int.reduceBNe, Nat.reduceBEq, List.append_nil, Int.toNat_zero, Nat.sub_self, evl]
  simp only [thenK]
  refine Sat.cond_b rfl (fun h => ?_) (fun h => ?_)
  · obtain ⟨hp2, hq2⟩ := of_decide_eq_true h
    have hgt := gcd_twos hp2 hq2
    refine Sat.skip ?_
    simp only [thenK]
    (repeat refine Sat.seq ?_)
    refine Sat.block ?_
    (refine Sat.region_k fun k hk => ?_; simp -implicitDefEqProofs only [evr, id, reduceCtorEq, reduceIte, Nat.reduceMul, Nat.reduceAdd, Nat.reduceLT, Nat.reduceLeDiff, Nat.reduceEqDiff, Int.reduceLT, Int.reduceBEq, Int.reduceBNe, Nat.reduceBEq, List.append_nil, Int.toNat_zero, Nat.sub_self])
    refine wcall_slice (refHalfC F hp' (up p (.inl p1))) rfl rfl ?_
    intro y hy
    have hs6 := hy
    obtain ⟨a6, c6, z6, r6, x6, rfl, _⟩ := hy
    simp -implicitDefEqProofs only [evr, id, reduceCtorEq, reduceIte, Nat.reduceMul, Nat.reduceAdd, Nat.reduceLT, Nat.reduceLeDiff, Nat.reduceEqDiff, Int.reduceLT, Int.reduceBEq, Int.reduceBNe, Nat.reduceBEq, List.append_nil, Int.toNat_zero, Nat.sub_self]
    refine wcall_slice (refHalfC F hq' (up q (.inr q1))) rfl rfl ?_
    intro y hy
    have hs7 := hy
    obtain ⟨a7, c7, z7, r7, x7, rfl, _⟩ := hy
    simp -implicitDefEqProofs only [evr, id, reduceCtorEq, reduceIte, Nat.reduceMul, Nat.reduceAdd, Nat.reduceLT, Nat.reduceLeDiff, Nat.reduceEqDiff, Int.reduceLT, Int.reduceBEq, Int.reduceBNe, Nat.reduceBEq, List.append_nil, Int.toNat_zero, Nat.sub_self]
    refine wcall_slice (refPlusC F ht' ht' (up t (.inl htm)) (up t (.inl htm))) rfl rfl ?_
    intro y hy
    have hs8 := hy
    obtain ⟨a8, c8, z8, r8, x8, rfl, _⟩ := hy
    simp -implicitDefEqProofs only [evr, id, reduceCtorEq, reduceIte, Nat.reduceMul, Nat.reduceAdd, Nat.reduceLT, Nat.reduceLeDiff, Nat.reduceEqDiff, Int.reduceLT, Int.reduceBEq, Int.reduceBNe, Nat.reduceBEq, List.append_nil, Int.toNat_zero, Nat.sub_self]
    refine hk _ ?_
    simp only [thenK, blockK]
    refine ⟨((_, _, _), (p / 2, q / 2, t + t)), ⟨⟨hs6, hs7, hs8⟩, ⟨by show 0 < p / 2; omega, by show p / 2 ≤ m; omega⟩, ⟨by show 0 < q / 2; omega, by show q / 2 ≤ n; omega⟩, by show (t + t) * Nat.gcd (p / 2) (q / 2) = Nat.gcd m n; rw [← hg, ← hgt, ← Nat.mul_assoc, Nat.mul_two]⟩, by show p / 2 < p; omega, ?_⟩
    simp -implicitDefEqProofs only [evr, id, reduceCtorEq, reduceIte, Nat.reduceMul, Nat.reduceAdd, Nat.reduceLT, Nat.reduceLeDiff, Nat.reduceEqDiff, Int.reduceLT, Int.reduceBEq, Int.reduceBNe, Nat.reduceBEq, List.append_nil, Int.toNat_zero, Nat.sub_self, evl]
  have hod := gcd_odd (of_decide_eq_false h)
  refine Sat.exit ?_
  simp only [thenK, blockK, reduceIte]
  generalize hG : Nat.gcd p q = G at hg hod
  (repeat refine Sat.seq ?_)
  refine Sat.block ?_
  (repeat refine Sat.seq ?_)
  refine Sat.loop (ι := (SV × SV) × (Nat × Nat)) (fun x => ⟨77, [(0, x.1.1), (1, x.1.2), (5, .sl a5 xs5.length c5 z5 r5)], []⟩)
    (fun x => (Nats x.1.1 x.2.1 ∧ Nats x.1.2 x.2.2) ∧ x.2.1 ≤ m ∧ x.2.2 ≤ n ∧ Nat.gcd x.2.1 x.2.2 = G) (fun x => x.2.1 + x.2.2) ((.sl a3 l3 c3 1 r3, .sl a4 l4 c4 1 r4), (p, q)) ⟨⟨hp', hq'⟩, p1, q1, hG⟩ (by simp -implicitDefEqProofs only [evr, id, reduceCtorEq, reduceIte, Nat.reduceMul, Nat.reduceAdd, Nat.reduceLT, Nat.reduceLeDiff, Nat.reduceEqDiff, Int.reduceLT, Int.reduceBEq, Int.reduceBNe, Nat.reduceBEq, List.append_nil, Int.toNat_zero, Nat.sub_self, evl]; try rfl) ?_
  clear hp hq hp' hq' hx3 hx4 he3 he4 hl3 hl4 hl3' hl4' p0 p1 q0 q1 hG
  rintro ⟨⟨sp, sq⟩, ⟨p2, q2⟩⟩ ⟨⟨hp, hq⟩, p1, q1, hG⟩
  simp only at hp hq p1 q1 hG ⊢
  have hp' := hp
  have hq' := hq
  obtain ⟨a6, c6, z6, r6, x6, rfl, _⟩ := hp
  obtain ⟨a7, c7, z7, r7, x7, rfl, _⟩ := hq
  have hlp := hp'.len
  have hlq := hq'.len
  (repeat refine Sat.seq ?_)
  refine Sat.region_at ⟨77, [(44, .b (decide (0 < p2 ∧ 0 < q2))), (0, .sl a6 x6.length c6 z6 r6), (1, .sl a7 x7.length c7 z7 r7), (5, .sl a5 xs5.length c5 z5 r5)], []⟩ (fun k hk => ?_) ?_
  · simp -implicitDefEqProofs only [evr, id, reduceCtorEq, reduceIte, Nat.reduceMul, Nat.reduceAdd, Nat.reduceLT, Nat.reduceLeDiff, Nat.reduceEqDiff, Int.reduceLT, Int.reduceBEq, Int.reduceBNe, Nat.reduceBEq, List.append_nil, Int.toNat_zero, Nat.sub_self]
    refine ⟨fun h => ?_, fun h => ?_⟩
    · refine hk _ ?_
      rw [hlp] at h
      have e : decide (0 < p2 ∧ 0 < q2) = decide (0 < (x7.length : Int)) := by
        congr 1
        rw [hlq]
        simp [h]
      rw [e]
      simp -implicitDefEqProofs only [evr, id, reduceCtorEq, reduceIte, Nat.reduceMul, Nat.reduceAdd, Nat.reduceLT, Nat.reduceLeDiff, Nat.reduceEqDiff, Int.reduceLT, Int.reduceBEq, Int.reduceBNe, Nat.reduceBEq, List.append_nil, Int.toNat_zero, Nat.sub_self, evl]
    · refine hk _ ?_
      rw [hlp] at h
      have e : decide (0 < p2 ∧ 0 < q2) = false := by simp [h]
      rw [e]
      simp -implicitDefEqProofs only [evr, id, reduceCtorEq, reduceIte, Nat.reduceMul, Nat.reduceAdd, Nat.reduceLT, Nat.reduceLeDiff, Nat.reduceEqDiff, Int.reduceLT, Int.reduceBEq, Int.reduceBNe, Nat.reduceBEq, List.append_nil, Int.toNat_zero, Nat.sub_self, evl]
  simp only [thenK]
  refine Sat.cond_b rfl (fun h => ?_) (fun h => ?_)
  · obtain ⟨p0, q0⟩ := of_decide_eq_true h
    obtain ⟨b1', b2', b3', b4', x8, e8, hl8, hx8, he8⟩ := hp'.head p0
    simp only [SV.sl.injEq] at e8
    obtain ⟨rfl, rfl, rfl, rfl, rfl⟩ := e8
    obtain ⟨b5', b6', b7', b8', x9, e9, hl9, hx9, he9⟩ := hq'.head q0
    simp only [SV.sl.injEq] at e9
    obtain ⟨rfl, rfl, rfl, rfl, rfl⟩ := e9
    have hl8' : (0 : Int) < (x6.length : Int) := by omega
    have hl9' : (0 : Int) < (x7.length : Int) := by omega
    refine Sat.skip ?_
    simp only [thenK]
    (repeat refine Sat.seq ?_)
    refine Sat.block ?_
    refine Sat.block ?_
    (repeat refine Sat.seq ?_)
    refine Sat.region_k fun k hk => ?_
    simp -implicitDefEqProofs only [evr, id, reduceCtorEq, reduceIte, Nat.reduceMul, Nat.reduceAdd, Nat.reduceLT, Nat.reduceLeDiff, Nat.reduceEqDiff, Int.reduceLT, Int.reduceBEq, Int.reduceBNe, Nat.reduceBEq, List.append_nil, Int.toNat_zero, Nat.sub_self]
    refine ⟨by omega, ?_⟩
    rw [hx8]
    simp -implicitDefEqProofs only [evr, id, reduceCtorEq, reduceIte, Nat.reduceMul, Nat.reduceAdd, Nat.reduceLT, Nat.reduceLeDiff, Nat.reduceEqDiff, Int.reduceLT, Int.reduceBEq, Int.reduceBNe, Nat.reduceBEq, List.append_nil, Int.toNat_zero, Nat.sub_self, he8]
    refine ⟨by decide, ?_⟩
    (refine hk _ ?_; clear hk k; try show Sat _ _ _ _ _)
    refine Sat.cond_b rfl (fun h5 => ?_) (fun h5 => ?_)
    · have h6 := of_decide_eq_true h5
      (repeat refine Sat.seq ?_)
      (refine Sat.region_k fun k hk => ?_; simp -implicitDefEqProofs only [evr, id, reduceCtorEq, reduceIte, Nat.reduceMul, Nat.reduceAdd, Nat.reduceLT, Nat.reduceLeDiff, Nat.reduceEqDiff, Int.reduceLT, Int.reduceBEq, Int.reduceBNe, Nat.reduceBEq, List.append_nil, Int.toNat_zero, Nat.sub_self])
      refine wcall_slice (refHalfC F hp' (up p2 (.inl p1))) rfl rfl ?_
      intro y hy
      have hs9 := hy
      obtain ⟨a9, c9, z9, r9, x9, rfl, _⟩ := hy
      simp -implicitDefEqProofs only [evr, id, reduceCtorEq, reduceIte, Nat.reduceMul, Nat.reduceAdd, Nat.reduceLT, Nat.reduceLeDiff, Nat.reduceEqDiff, Int.reduceLT, Int.reduceBEq, Int.reduceBNe, Nat.reduceBEq, List.append_nil, Int.toNat_zero, Nat.sub_self]
      refine hk _ ?_
      simp only [thenK, blockK]
      refine ⟨((_, _), ((p2 / 2), q2)), ⟨⟨hs9, hq'⟩, by show (p2 / 2) ≤ m; omega, by show q2 ≤ n; omega, by show Nat.gcd (p2 / 2) q2 = G; rw [gcd_half (by rw [hG]; exact hod) h6, hG]⟩, by show (p2 / 2) + q2 < p2 + q2; omega, ?_⟩
      simp -implicitDefEqProofs only [evr, id, reduceCtorEq, reduceIte, Nat.reduceMul, Nat.reduceAdd, Nat.reduceLT, Nat.reduceLeDiff, Nat.reduceEqDiff, Int.reduceLT, Int.reduceBEq, Int.reduceBNe, Nat.reduceBEq, List.append_nil, Int.toNat_zero, Nat.sub_self, evl]
    (repeat refine Sat.seq ?_)
    refine Sat.region_k fun k hk => ?_
    simp -implicitDefEqProofs only [evr, id, reduceCtorEq, reduceIte, Nat.reduceMul, Nat.reduceAdd, Nat.reduceLT, Nat.reduceLeDiff, Nat.reduceEqDiff, Int.reduceLT, Int.reduceBEq, Int.reduceBNe, Nat.reduceBEq, List.append_nil, Int.toNat_zero, Nat.sub_self]
    refine ⟨by omega, ?_⟩
    rw [hx9]
    simp -implicitDefEqProofs only [evr, id, reduceCtorEq, reduceIte, Nat.reduceMul, Nat.reduceAdd, Nat.reduceLT, Nat.reduceLeDiff, Nat.reduceEqDiff, Int.reduceLT, Int.reduceBEq, Int.reduceBNe, Nat.reduceBEq, List.append_nil, Int.toNat_zero, Nat.sub_self, he9]
    refine ⟨by decide, ?_⟩
    (refine hk _ ?_; clear hk k; try show Sat _ _ _ _ _)
    refine Sat.cond_b rfl (fun h7 => ?_) (fun h7 => ?_)
    · have h8 := of_decide_eq_true h7
      (repeat refine Sat.seq ?_)
      (refine Sat.region_k fun k hk => ?_; simp -implicitDefEqProofs only [evr, id, reduceCtorEq, reduceIte, Nat.reduceMul, Nat.reduceAdd, Nat.reduceLT, Nat.reduceLeDiff, Nat.reduceEqDiff, Int.reduceLT, Int.reduceBEq, Int.reduceBNe, Nat.reduceBEq, List.append_nil, Int.toNat_zero, Nat.sub_self])
      refine wcall_slice (refHalfC F hq' (up q2 (.inr q1))) rfl rfl ?_
      intro y hy
      have hs9 := hy
      obtain ⟨a9, c9, z9, r9, x9, rfl, _⟩ := hy
      simp -implicitDefEqProofs only [evr, id, reduceCtorEq, reduceIte, Nat.reduceMul, Nat.reduceAdd, Nat.reduceLT, Nat.reduceLeDiff, Nat.reduceEqDiff, Int.reduceLT, Int.reduceBEq, Int.reduceBNe, Nat.reduceBEq, List.append_nil, Int.toNat_zero, Nat.sub_self]
      refine hk _ ?_
      simp only [thenK, blockK]
      refine ⟨((_, _), (p2, (q2 / 2))), ⟨⟨hp', hs9⟩, by show p2 ≤ m; omega, by show (q2 / 2) ≤ n; omega, by show Nat.gcd p2 (q2 / 2) = G; rw [gcd_half' (by rw [hG]; exact hod) h8, hG]⟩, by show p2 + (q2 / 2) < p2 + q2; omega, ?_⟩
      simp -implicitDefEqProofs only [evr, id, reduceCtorEq, reduceIte, Nat.reduceMul, Nat.reduceAdd, Nat.reduceLT, Nat.reduceLeDiff, Nat.reduceEqDiff, Int.reduceLT, Int.reduceBEq, Int.reduceBNe, Nat.reduceBEq, List.append_nil, Int.toNat_zero, Nat.sub_self, evl]
    (repeat refine Sat.seq ?_)
    (refine Sat.region_k fun k hk => ?_; simp -implicitDefEqProofs only [evr, id, reduceCtorEq, reduceIte, Nat.reduceMul, Nat.reduceAdd, Nat.reduceLT, Nat.reduceLeDiff, Nat.reduceEqDiff, Int.reduceLT, Int.reduceBEq, Int.reduceBNe, Nat.reduceBEq, List.append_nil, Int.toNat_zero, Nat.sub_self])
    refine wcall_plain (refCompareC F hp' hq' (up p2 (.inl p1))) rfl (by rintro _ rfl; exact ok_plain rfl) ?_
    rintro y rfl
    simp -implicitDefEqProofs only [evr, id, reduceCtorEq, reduceIte, Nat.reduceMul, Nat.reduceAdd, Nat.reduceLT, Nat.reduceLeDiff, Nat.reduceEqDiff, Int.reduceLT, Int.reduceBEq, Int.reduceBNe, Nat.reduceBEq, List.append_nil, Int.toNat_zero, Nat.sub_self]
    (refine hk _ ?_; clear hk k; try show Sat _ _ _ _ _)
    refine Sat.cond_b rfl (fun h9 => ?_) (fun h9 => ?_)
    · have hle : q2 ≤ p2 := by
        by_cases h10 : p2 < q2
        · rw [cmpI_lt (by omega)] at h9; exact absurd h9 (by decide)
        · omega
      (repeat refine Sat.seq ?_)
      (refine Sat.region_k fun k hk => ?_; simp -implicitDefEqProofs only [evr, id, reduceCtorEq, reduceIte, Nat.reduceMul, Nat.reduceAdd, Nat.reduceLT, Nat.reduceLeDiff, Nat.reduceEqDiff, Int.reduceLT, Int.reduceBEq, Int.reduceBNe, Nat.reduceBEq, List.append_nil, Int.toNat_zero, Nat.sub_self])
      refine wcall_slice (refLessC F hp' hq' (up p2 (.inl p1)) hle) rfl rfl ?_
      intro y hy
      have hs9 := hy
      obtain ⟨a9, c9, z9, r9, x9, rfl, _⟩ := hy
      simp -implicitDefEqProofs only [evr, id, reduceCtorEq, reduceIte, Nat.reduceMul, Nat.reduceAdd, Nat.reduceLT, Nat.reduceLeDiff, Nat.reduceEqDiff, Int.reduceLT, Int.reduceBEq, Int.reduceBNe, Nat.reduceBEq, List.append_nil, Int.toNat_zero, Nat.sub_self]
      refine hk _ ?_
      simp only [thenK, blockK]
      refine ⟨((_, _), ((p2 - q2), q2)), ⟨⟨hs9, hq'⟩, by show (p2 - q2) ≤ m; omega, by show q2 ≤ n; omega, by show Nat.gcd (p2 - q2) q2 = G; rw [gcd_sub hle, hG]⟩, by show (p2 - q2) + q2 < p2 + q2; omega, ?_⟩
      simp -implicitDefEqProofs only [evr, id, reduceCtorEq, reduceIte, Nat.reduceMul, Nat.reduceAdd, Nat.reduceLT, Nat.reduceLeDiff, Nat.reduceEqDiff, Int.reduceLT, Int.reduceBEq, Int.reduceBNe, Nat.reduceBEq, List.append_nil, Int.toNat_zero, Nat.sub_self, evl]
    · have hle : p2 ≤ q2 := by
        by_cases h10 : q2 < p2
        · rw [cmpI_gt (by omega)] at h9; exact absurd h9 (by decide)
        · omega
      (repeat refine Sat.seq ?_)
      (refine Sat.region_k fun k hk => ?_; simp -implicitDefEqProofs only [evr, id, reduceCtorEq, reduceIte, Nat.reduceMul, Nat.reduceAdd, Nat.reduceLT, Nat.reduceLeDiff, Nat.reduceEqDiff, Int.reduceLT, Int.reduceBEq, Int.reduceBNe, Nat.reduceBEq, List.append_nil, Int.toNat_zero, Nat.sub_self])
      refine wcall_slice (refLessC F hq' hp' (up q2 (.inr q1)) hle) rfl rfl ?_
      intro y hy
      have hs9 := hy
      obtain ⟨a9, c9, z9, r9, x9, rfl, _⟩ := hy
      simp -implicitDefEqProofs only [evr, id, reduceCtorEq, reduceIte, Nat.reduceMul, Nat.reduceAdd, Nat.reduceLT, Nat.reduceLeDiff, Nat.reduceEqDiff, Int.reduceLT, Int.reduceBEq, Int.reduceBNe, Nat.reduceBEq, List.append_nil, Int.toNat_zero, Nat.sub_self]
      refine hk _ ?_
      simp only [thenK, blockK]
      refine ⟨((_, _), (p2, (q2 - p2))), ⟨⟨hp', hs9⟩, by show p2 ≤ m; omega, by show (q2 - p2) ≤ n; omega, by show Nat.gcd p2 (q2 - p2) = G; rw [Nat.gcd_comm, gcd_sub hle, Nat.gcd_comm, hG]⟩, by show p2 + (q2 - p2) < p2 + q2; omega, ?_⟩
      simp -implicitDefEqProofs only [evr, id, reduceCtorEq, reduceIte, Nat.reduceMul, Nat.reduceAdd, Nat.reduceLT, Nat.reduceLeDiff, Nat.reduceEqDiff, Int.reduceLT, Int.reduceBEq, Int.reduceBNe, Nat.reduceBEq, List.append_nil, Int.toNat_zero, Nat.sub_self, evl]
  have hz := of_decide_eq_false h
  have hsum : p2 + q2 = G := by
    rcases (show p2 = 0 ∨ q2 = 0 by omega) with rfl | rfl
    · rw [← hG]; simp
    · rw [← hG]; simp
  refine Sat.exit ?_
  simp only [thenK, blockK, reduceIte]
  (repeat refine Sat.seq ?_)
  (refine Sat.region_k fun k hk => ?_; simp -implicitDefEqProofs only [evr, id, reduceCtorEq, reduceIte, Nat.reduceMul, Nat.reduceAdd, Nat.reduceLT, Nat.reduceLeDiff, Nat.reduceEqDiff, Int.reduceLT, Int.reduceBEq, Int.reduceBNe, Nat.reduceBEq, List.append_nil, Int.toNat_zero, Nat.sub_self])
  refine wcall_slice (refPlusC F hp' hq' (up p2 (.inl p1)) (up q2 (.inr q1))) rfl rfl ?_
  intro y hy
  rw [hsum] at hy
  have hs9 := hy
  obtain ⟨a9, c9, z9, r9, x9, rfl, _⟩ := hy
  simp -implicitDefEqProofs only [evr, id, reduceCtorEq, reduceIte, Nat.reduceMul, Nat.reduceAdd, Nat.reduceLT, Nat.reduceLeDiff, Nat.reduceEqDiff, Int.reduceLT, Int.reduceBEq, Int.reduceBNe, Nat.reduceBEq, List.append_nil, Int.toNat_zero, Nat.sub_self]
  have ht0 : 0 < t := by
    rcases Nat.eq_zero_or_pos t with h9 | h9
    · rw [h9, Nat.zero_mul] at hg; omega
    · exact h9
  have hGm : G ≤ m := by
    have := Nat.le_mul_of_pos_left G ht0
    omega
  refine wcall_slice (refTimesC F ht' hs9 (up t (.inl htm)) (up G (.inl hGm))) rfl rfl ?_
  intro y hy
  rw [hg] at hy
  have hs8 := hy
  obtain ⟨a8, c8, z8, r8, x8, rfl, _⟩ := hy
  simp -implicitDefEqProofs only [evr, id, reduceCtorEq, reduceIte, Nat.reduceMul, Nat.reduceAdd, Nat.reduceLT, Nat.reduceLeDiff, Nat.reduceEqDiff, Int.reduceLT, Int.reduceBEq, Int.reduceBNe, Nat.reduceBEq, List.append_nil, Int.toNat_zero, Nat.sub_self]
  (refine hk _ ?_; clear hk k; try show Sat _ _ _ _ _)
  refine Sat.ret ?_
  simp only [Try.results64, evr, id, reduceCtorEq, reduceIte, Nat.reduceMul, Nat.reduceAdd, Nat.reduceLT, Nat.reduceLeDiff, Nat.reduceEqDiff, Int.reduceLT, Int.reduceBEq, Int.reduceBNe, Nat.reduceBEq, List.append_nil, Int.toNat_zero, Nat.sub_self]
  exact hs8
end Go.Proofs.Ytagmohpafjncfaa

/- The reference of package natural, by the evaluator: Split (begun: a slice of length 0 may have any cell size). -/
set_option linter.unusedSimpArgs false
set_option linter.unusedVariables false
namespace Go.Proofs.Ytagmohpafjncfaa
open Eng Lmb Go.RowKit
theorem Eng.Sat.know_sz {P : Program} {F : Frm} {c : Code} {K : Exit → St → Prop} {n : Nat} {env : List (Nat × SV)} {own : List Eng.Own} (t : Nat) {a : Option Addr} {len cap sz : Nat} {rd : Nat → Nat → SV} (hl : look env t = some (.sl a len cap sz rd)) (hz : len = 0 ∨ sz = 1)
    (h : Sat P F c ⟨n, (t, .sl a len cap 1 rd) :: env, own⟩ K) : Sat P F c ⟨n, env, own⟩ K := by
  rintro R0 w0 ac w ⟨ob, R, hr⟩
  refine h R0 w0 ac w ⟨ob, R, ?_⟩
  have hok := (hr.env t _ hl).2
  have hden := (hr.env t _ hl).1
  obtain ⟨h1, h2, h3⟩ := hok
  refine ⟨hr.defers, ?_, hr.size, hr.own, hr.dist, hr.evo, hr.inv, hr.obM, hr.gb, hr.obw, hr.rr, hr.r0⟩
  intro u s2 hu
  simp only [look] at hu
  by_cases e : t = u
  · rw [if_pos e, Option.some.injEq] at hu
    subst e hu
    refine ⟨hden, h1, h2, ?_⟩
    rcases hz with hz | rfl
    · exact .inl hz
    · exact h3
  · rw [if_neg e] at hu
    exact hr.env u s2 hu
theorem Nats.sz {a : Option Addr} {len cap sz n : Nat} {rd : Nat → Nat → SV} (h : Nats (.sl a len cap sz rd) n) : (len = 0 ∨ sz = 1) ∧ Nats (.sl a len cap 1 rd) n := by
  obtain ⟨a', cap', sz', rd', xs, e, hz, hr, hd⟩ := h
  simp only [SV.sl.injEq] at e
  obtain ⟨rfl, rfl, rfl, rfl, rfl⟩ := e
  exact ⟨hz, a, cap, 1, rd, xs, rfl, .inr rfl, hr, hd⟩
theorem rd_cons {x : Int} {rs : List Int} {rr : Nat → Nat → SV} (hr : ∀ i, i < rs.length → rr i 0 = .i .i64 (rs.getD i 0)) : ∀ i, i < (x :: rs).length → rdCat 1 (rdL [.i .i64 x] 1) rr i 0 = .i .i64 ((x :: rs).getD i 0) := by
  intro i hi
  unfold rdCat
  by_cases h : i < 1
  · obtain rfl : i = 0 := by omega
    rfl
  · obtain ⟨j, rfl⟩ : ∃ j, i = j + 1 := ⟨i - 1, by omega⟩
    rw [if_neg h, Nat.add_sub_cancel, hr j (by simpa using hi)]
    simp
theorem nats_one {a : Option Addr} {cap x : Nat} (h0 : 0 < x) (h1 : x < 1073741824) : Nats (.sl a 1 cap 1 (rdL [SV.i .i64 (x : Int)] 1)) x :=
  nats_of (xs := [(x : Int)]) rfl (fun p hp => by obtain rfl : p = 0 := by omega
                                                  rfl) (dig_one h0 h1)
set_option maxRecDepth 100000 in
theorem refSplitC (F : Frm) {sa sb : SV} {m n : Nat} (ha : Nats sa m) (hb : Nats sb n) (b1 : (m : Int) < pw 256) (b2 : (n : Int) < pw 256) (hn : 0 < n) : Contract F Try.prog 65 [sa, sb] (fun r => ∃ s t, r = tupL [s, t] ∧ Nats s (m / n) ∧ Nats t (m % n)) := by
  obtain ⟨xs, hi1, d1⟩ := ha.ints
  have l1 := (d1.len_le 256).2 b1
  have hb' := hb
  obtain ⟨a1, c1, z1, r1, rfl, hz1, hr1⟩ := hi1
  obtain ⟨a2, c2, z2, r2, x2, rfl, _⟩ := hb
  refine contract_of Try.func65 rfl (by kernel_rfl) ?_
  simp only [Try.ntmps65, argEnv]
  have e0 : IntKind.i64.wrap ((xs.length : Int) - 1) = (xs.length : Int) - 1 := w64 (by omega)
  (repeat refine Sat.seq ?_)
  (refine Sat.region_k fun k hk => ?_; simp -implicitDefEqProofs only [evr, id, reduceCtorEq, reduceIte, Nat.reduceMul, Nat.reduceAdd, Nat.reduceLT, Nat.reduceLeDiff, Nat.reduceEqDiff, Int.reduceLT, Int.reduceBEq, Int.reduceBNe, Nat.reduceBEq, List.append_nil, Nat.sub_self]; refine hk _ ?_; clear hk k; try show Sat _ _ _ _ _)
  (repeat refine Sat.seq ?_)
  (refine Sat.region_k fun k hk => ?_; simp -implicitDefEqProofs only [evr, id, reduceCtorEq, reduceIte, Nat.reduceMul, Nat.reduceAdd, Nat.reduceLT, Nat.reduceLeDiff, Nat.reduceEqDiff, Int.reduceLT, Int.reduceBEq, Int.reduceBNe, Nat.reduceBEq, List.append_nil, Nat.sub_self])
  refine ⟨by omega, fun a cap => ?_⟩
  (refine hk _ ?_; clear hk k; try show Sat _ _ _ _ _)
  (repeat refine Sat.seq ?_)
  (refine Sat.region_k fun k hk => ?_; simp -implicitDefEqProofs only [evr, id, reduceCtorEq, reduceIte, Nat.reduceMul, Nat.reduceAdd, Nat.reduceLT, Nat.reduceLeDiff, Nat.reduceEqDiff, Int.reduceLT, Int.reduceBEq, Int.reduceBNe, Nat.reduceBEq, List.append_nil, Nat.sub_self]; refine hk _ ?_; clear hk k; try show Sat _ _ _ _ _)
  (repeat refine Sat.seq ?_)
  refine Sat.region_k fun k hk => ?_
  simp -implicitDefEqProofs only [evr, id, reduceCtorEq, reduceIte, Nat.reduceMul, Nat.reduceAdd, Nat.reduceLT, Nat.reduceLeDiff, Nat.reduceEqDiff, Int.reduceLT, Int.reduceBEq, Int.reduceBNe, Nat.reduceBEq, List.append_nil, Nat.sub_self, e0]
  (refine hk _ ?_; clear hk k; try show Sat _ _ _ _ _)
  (repeat refine Sat.seq ?_)
  refine Sat.block ?_
  (repeat refine Sat.seq ?_)
  refine Sat.loop (ι := (Nat × List Int) × (SV × Nat)) (fun x => ⟨65, [(8, .i .i64 ((x.1.1 : Int) - 1)), (6, .os 0 a xs.length cap), (7, x.2.1), (0, .sl a1 xs.length c1 z1 r1), (1, .sl a2 x2.length c2 z2 r2)], [.row a 3 xs.length cap 1 (fun p _ => .i .i64 (x.1.2.getD p 0))]⟩)
    (fun x => x.1.1 ≤ xs.length ∧ SplitInv xs x.1.2 x.1.1 n x.2.2 ∧ Nats x.2.1 x.2.2 ∧ ∀ i, i < x.1.1 → x.1.2.getD i 0 = 0) (fun x => x.1.1) ((xs.length, List.replicate xs.length 0), (.sl none 0 0 0 (fun _ _ => .v undef), 0)) ⟨Nat.le_refl _, SplitInv.start xs hn, Nats.nil, fun i hi => by simp only [List.getD, List.getElem?_replicate]; split <;> rfl⟩ (by simp -implicitDefEqProofs only [evr, id, reduceCtorEq, reduceIte, Nat.reduceMul, Nat.reduceAdd, Nat.reduceLT, Nat.reduceLeDiff, Nat.reduceEqDiff, Int.reduceLT, Int.reduceBEq, Int.reduceBNe, Nat.reduceBEq, List.append_nil, Nat.sub_self, evl]; first | exact rd_zero (fun p => rfl) | exact ⟨rfl, rd_zero (fun p => rfl)⟩) ?_
  rintro ⟨⟨q, qs⟩, ⟨sr, r⟩⟩ ⟨hq, hinv, hr, hlow⟩
  simp only at hq hinv hr hlow ⊢
  obtain ⟨rs, hir, dr⟩ := hr.ints
  have hr' := hr
  obtain ⟨a3, c3, z3, r3, rfl, hz3, hr3⟩ := hir
  have hrl : rs.length ≤ 256 := (dr.len_le 256).2 (by have := hinv.lt; omega)
  (repeat refine Sat.seq ?_)
  (refine Sat.region_k fun k hk => ?_; simp -implicitDefEqProofs only [evr, id, reduceCtorEq, reduceIte, Nat.reduceMul, Nat.reduceAdd, Nat.reduceLT, Nat.reduceLeDiff, Nat.reduceEqDiff, Int.reduceLT, Int.reduceBEq, Int.reduceBNe, Nat.reduceBEq, List.append_nil, Nat.sub_self]; refine hk _ ?_; clear hk k; try show Sat _ _ _ _ _)
  (repeat refine Sat.seq ?_)
  refine Sat.cond_b rfl (fun h2 => ?_) (fun h2 => ?_)
  · simp only [decide_eq_true_eq] at h2
    obtain ⟨j, rfl⟩ : ∃ j, q = j + 1 := ⟨q - 1, by omega⟩
    have hj : j < xs.length := by omega
    have ej : (((j + 1 : Nat) : Int) - 1) = (j : Int) := by omega
    have ej2 : IntKind.i64.wrap ((j : Int) - 1) = (j : Int) - 1 := w64 (by omega)
    have hsz1 : z1 = 1 := by
      rcases hz1 with hz | hz
      · omega
      · exact hz
    subst hsz1
    have g1 := hr1 j hj
    have bx := limbs_getD d1.limbs j
    refine Sat.skip ?_
    simp only [thenK, ej]
    (repeat refine Sat.seq ?_)
    refine Sat.block ?_
    refine Sat.know_sz 7 rfl hz3 ?_
    (repeat refine Sat.seq ?_)
    refine Sat.region_k fun k hk => ?_
    simp -implicitDefEqProofs only [evr, id, reduceCtorEq, reduceIte, Nat.reduceMul, Nat.reduceAdd, Nat.reduceLT, Nat.reduceLeDiff, Nat.reduceEqDiff, Int.reduceLT, Int.reduceBEq, Int.reduceBNe, Nat.reduceBEq, List.append_nil, Nat.sub_self]
    refine ⟨by omega, ?_⟩
    rw [g1]
    simp -implicitDefEqProofs only [evr, id, reduceCtorEq, reduceIte, Nat.reduceMul, Nat.reduceAdd, Nat.reduceLT, Nat.reduceLeDiff, Nat.reduceEqDiff, Int.reduceLT, Int.reduceBEq, Int.reduceBNe, Nat.reduceBEq, List.append_nil, Nat.sub_self]
    intro blk
    refine ⟨⟨by unfold maxLen; omega, by omega⟩, fun a2_1 cap2 => ?_⟩
    have e1 : 1 + rs.length = (xs.getD j 0 :: rs).length := by rw [List.length_cons]; omega
    have hlim : Limbs (xs.getD j 0 :: rs) := limbs_cons.2 ⟨bx, dr.limbs⟩
    refine wcall_slice (refTrimC F (s := .sl a2_1 (xs.getD j 0 :: rs).length cap2 1 (rdCat 1 (rdL [.i .i64 (xs.getD j 0)] 1) r3)) ⟨_, _, 1, _, rfl, .inr rfl, rd_cons hr3⟩ hlim) (by simp -implicitDefEqProofs only [evr, id, reduceCtorEq, reduceIte, Nat.reduceMul, Nat.reduceAdd, Nat.reduceLT, Nat.reduceLeDiff, Nat.reduceEqDiff, Int.reduceLT, Int.reduceBEq, Int.reduceBNe, Nat.reduceBEq, List.append_nil, Nat.sub_self]; try rfl) (by simp -implicitDefEqProofs only [evr, id, reduceCtorEq, reduceIte, Nat.reduceMul, Nat.reduceAdd, Nat.reduceLT, Nat.reduceLeDiff, Nat.reduceEqDiff, Int.reduceLT, Int.reduceBEq, Int.reduceBNe, Nat.reduceBEq, List.append_nil, Nat.sub_self, e1]; try rfl) ?_
    intro y hy
    have hs4 := hy
    obtain ⟨a4, c4, z4, r4, x4, rfl, _⟩ := hy
    simp -implicitDefEqProofs only [evr, id, reduceCtorEq, reduceIte, Nat.reduceMul, Nat.reduceAdd, Nat.reduceLT, Nat.reduceLeDiff, Nat.reduceEqDiff, Int.reduceLT, Int.reduceBEq, Int.reduceBNe, Nat.reduceBEq, List.append_nil, Nat.sub_self]
    (refine hk _ ?_; clear hk k; try show Sat _ _ _ _ _)
    obtain ⟨tt, htt⟩ : ∃ tt : Nat, val (xs.getD j 0 :: rs) = (tt : Int) := ⟨_, (Int.toNat_of_nonneg (val_nonneg hlim)).symm⟩
    have htr : (xs.getD j 0).toNat + 1073741824 * r = tt := by
      rw [val_cons, dr.val] at htt
      omega
    rw [htt, Int.toNat_natCast] at hs4
    have hrn := hinv.lt
    have btt : (tt : Int) < pw 512 := by
      have h1 : pw 512 = pw 256 * pw 256 := pw_add 256 256
      have h2 : (1073741824 : Int) ≤ pw 256 := by
        have := pw_mono (show 1 ≤ 256 by omega)
        rw [pw_succ, pw_zero] at this
        omega
      have h3 : 1073741824 * (n : Int) ≤ pw 256 * pw 256 := Int.mul_le_mul h2 (by omega) (by omega) (by omega)
      omega
    (repeat refine Sat.seq ?_)
    (refine Sat.region_k fun k hk => ?_; simp -implicitDefEqProofs only [evr, id, reduceCtorEq, reduceIte, Nat.reduceMul, Nat.reduceAdd, Nat.reduceLT, Nat.reduceLeDiff, Nat.reduceEqDiff, Int.reduceLT, Int.reduceBEq, Int.reduceBNe, Nat.reduceBEq, List.append_nil, Nat.sub_self])
    refine wcall_plain (refCompareC F hs4 hb' btt) rfl (by rintro _ rfl; exact ok_plain rfl) ?_
    rintro y rfl
    simp -implicitDefEqProofs only [evr, id, reduceCtorEq, reduceIte, Nat.reduceMul, Nat.reduceAdd, Nat.reduceLT, Nat.reduceLeDiff, Nat.reduceEqDiff, Int.reduceLT, Int.reduceBEq, Int.reduceBNe, Nat.reduceBEq, List.append_nil, Nat.sub_self]
    (refine hk _ ?_; clear hk k; try show Sat _ _ _ _ _)
    refine Sat.cond_b rfl (fun h9 => ?_) (fun h9 => ?_)
    · have hlt : tt < n := by
        by_cases h10 : tt < n
        · exact h10
        exfalso
        by_cases h11 : n < tt
        · rw [cmpI_gt (by omega)] at h9; exact absurd h9 (by decide)
        · rw [cmpI_eq (by omega)] at h9; exact absurd h9 (by decide)
      have hst := (hinv.step d1.limbs hj (d := 0) (r' := tt) (by omega) hlt).1
      rw [show ((0 : Nat) : Int) = 0 by rfl, set_same (hlow j (by omega)) (by have := hinv.len; omega)] at hst
      refine Sat.exit ?_
      simp only [thenK, blockK, reduceIte]
      (repeat refine Sat.seq ?_)
      refine Sat.region_k fun k hk => ?_
      simp -implicitDefEqProofs only [evr, id, reduceCtorEq, reduceIte, Nat.reduceMul, Nat.reduceAdd, Nat.reduceLT, Nat.reduceLeDiff, Nat.reduceEqDiff, Int.reduceLT, Int.reduceBEq, Int.reduceBNe, Nat.reduceBEq, List.append_nil, Nat.sub_self, ej2]
      refine hk _ ?_
      simp only [thenK, blockK]
      refine ⟨((j, qs), (_, tt)), ⟨by show j ≤ xs.length; omega, hst, hs4, fun i hi => hlow i (by show i < j + 1; have : i < j := hi; omega)⟩, by show j < j + 1; omega, ?_⟩
      simp -implicitDefEqProofs only [evr, id, reduceCtorEq, reduceIte, Nat.reduceMul, Nat.reduceAdd, Nat.reduceLT, Nat.reduceLeDiff, Nat.reduceEqDiff, Int.reduceLT, Int.reduceBEq, Int.reduceBNe, Nat.reduceBEq, List.append_nil, Nat.sub_self, evl]
    have hge : n ≤ tt := by
      by_cases h10 : tt < n
      · rw [cmpI_lt (by omega)] at h9; exact absurd h9 (by decide)
      · omega
    have hstep := hinv.step d1.limbs hj (d := tt / n) (r' := tt % n) (by rw [htr, Nat.mul_comm]; exact (Nat.div_add_mod tt n).symm) (Nat.mod_lt _ hn)
    have hd1 : 1 ≤ tt / n := (Nat.one_le_div_iff hn).2 hge
    have hd2 := hstep.2
    have hst := hstep.1
    have hdm := Nat.div_add_mod tt n
    generalize hde : tt / n = d at hd1 hd2 hst hdm
    have bmul : ∀ z : Nat, z ≤ 1073741823 → (z : Int) < pw 256 ∧ (z : Int) < pw 512 ∧ ((n * z : Nat) : Int) < pw 512 := fun z hz => by
      have h1 : pw 512 = pw 256 * pw 256 := pw_add 256 256
      have h2 : (1073741824 : Int) ≤ pw 256 := by
        have := pw_mono (show 1 ≤ 256 by omega)
        rw [pw_succ, pw_zero] at this
        omega
      have h3 : (n : Int) * z ≤ (n : Int) * 1073741824 := Int.mul_le_mul_of_nonneg_left (by omega) (by omega)
      have h4 : (n : Int) * 1073741824 < pw 256 * 1073741824 := Int.mul_lt_mul_of_pos_right b2 (by decide)
      have h5 : pw 256 * 1073741824 ≤ pw 256 * pw 256 := Int.mul_le_mul_of_nonneg_left h2 (by omega)
      have h6 : (1073741824 : Int) ≤ pw 512 := by
        have := pw_mono (show 256 ≤ 512 by omega)
        omega
      refine ⟨by omega, by omega, ?_⟩
      rw [Int.natCast_mul]
      omega
    refine Sat.skip ?_
    simp only [thenK]
    (repeat refine Sat.seq ?_)
    (refine Sat.region_k fun k hk => ?_; simp -implicitDefEqProofs only [evr, id, reduceCtorEq, reduceIte, Nat.reduceMul, Nat.reduceAdd, Nat.reduceLT, Nat.reduceLeDiff, Nat.reduceEqDiff, Int.reduceLT, Int.reduceBEq, Int.reduceBNe, Nat.reduceBEq, List.append_nil, Nat.sub_self]; refine hk _ ?_; clear hk k; try show Sat _ _ _ _ _)
    (repeat refine Sat.seq ?_)
    refine Sat.block ?_
    (repeat refine Sat.seq ?_)
    refine Sat.loop (ι := Nat × Nat) (fun x => ⟨65, [(9, .i .i64 (x.1 : Int)), (10, .i .i64 (x.2 : Int)), (8, .i .i64 (j : Int)), (6, .os 0 a xs.length cap), (7, .sl a4 x4.length c4 z4 r4), (0, .sl a1 xs.length c1 1 r1), (1, .sl a2 x2.length c2 z2 r2)], [.row a 3 xs.length cap 1 (fun p _ => .i .i64 (qs.getD p 0))]⟩)
      (fun x => 1 ≤ x.1 ∧ x.1 ≤ d ∧ d ≤ x.2 ∧ x.2 ≤ 1073741823) (fun x => x.2 - x.1) (1, 1073741823) ⟨Nat.le_refl _, hd1, by omega, Nat.le_refl _⟩ (by simp -implicitDefEqProofs only [evr, id, reduceCtorEq, reduceIte, Nat.reduceMul, Nat.reduceAdd, Nat.reduceLT, Nat.reduceLeDiff, Nat.reduceEqDiff, Int.reduceLT, Int.reduceBEq, Int.reduceBNe, Nat.reduceBEq, List.append_nil, Nat.sub_self, evl]; exact ⟨rfl, rfl⟩) ?_
    rintro ⟨low, high⟩ ⟨i1, i2, i3, i4⟩
    simp only at i1 i2 i3 i4 ⊢
    (repeat refine Sat.seq ?_)
    (refine Sat.region_k fun k hk => ?_; simp -implicitDefEqProofs only [evr, id, reduceCtorEq, reduceIte, Nat.reduceMul, Nat.reduceAdd, Nat.reduceLT, Nat.reduceLeDiff, Nat.reduceEqDiff, Int.reduceLT, Int.reduceBEq, Int.reduceBNe, Nat.reduceBEq, List.append_nil, Nat.sub_self]; refine hk _ ?_; clear hk k; try show Sat _ _ _ _ _)
    (repeat refine Sat.seq ?_)
    refine Sat.cond_b rfl (fun h3 => ?_) (fun h3 => ?_)
    · simp only [decide_eq_true_eq] at h3
      have e1 : IntKind.i64.wrap ((low : Int) + (high : Int)) = (low : Int) + high := w64 (by omega)
      have e2 : IntKind.i64.wrap ((low : Int) + (high : Int) + 1) = (low : Int) + high + 1 := w64 (by omega)
      have e3 : IntKind.i64.wrap (((low : Int) + (high : Int) + 1).tdiv 2) = (((low + high + 1) / 2 : Nat) : Int) := by
        rw [Int.tdiv_eq_ediv_of_nonneg (by omega), w64 (by omega)]; omega
      have hmlo : low < (low + high + 1) / 2 := by omega
      have hmhi : (low + high + 1) / 2 ≤ high := by omega
      refine Sat.skip ?_
      simp only [thenK]
      (repeat refine Sat.seq ?_)
      refine Sat.block ?_
      (repeat refine Sat.seq ?_)
      refine Sat.region_k fun k hk => ?_
      simp -implicitDefEqProofs only [evr, id, reduceCtorEq, reduceIte, Nat.reduceMul, Nat.reduceAdd, Nat.reduceLT, Nat.reduceLeDiff, Nat.reduceEqDiff, Int.reduceLT, Int.reduceBEq, Int.reduceBNe, Nat.reduceBEq, List.append_nil, Nat.sub_self, e1, e2, e3]
      refine ⟨by decide, ?_⟩
      generalize (low + high + 1) / 2 = mid at hmlo hmhi
      (refine hk _ ?_; clear hk k; try show Sat _ _ _ _ _)
      (repeat refine Sat.seq ?_)
      obtain ⟨bm0, bm1, bm2⟩ := bmul mid (by omega)
      (refine Sat.region_k fun k hk => ?_; simp -implicitDefEqProofs only [evr, id, reduceCtorEq, reduceIte, Nat.reduceMul, Nat.reduceAdd, Nat.reduceLT, Nat.reduceLeDiff, Nat.reduceEqDiff, Int.reduceLT, Int.reduceBEq, Int.reduceBNe, Nat.reduceBEq, List.append_nil, Nat.sub_self])
      intro blk
      have hms : Nats (.sl (some ⟨blk, 0, none⟩) 1 1 1 (rdL [SV.i .i64 (mid : Int)] 1)) mid := nats_one (by omega) (by omega)
      refine wcall_slice (refTimesC F hb' hms (by have := pw_mono (show 256 ≤ 512 by omega); omega) bm1) (by simp -implicitDefEqProofs only [evr, id, reduceCtorEq, reduceIte, Nat.reduceMul, Nat.reduceAdd, Nat.reduceLT, Nat.reduceLeDiff, Nat.reduceEqDiff, Int.reduceLT, Int.reduceBEq, Int.reduceBNe, Nat.reduceBEq, List.append_nil, Nat.sub_self]; try rfl) (by simp -implicitDefEqProofs only [evr, id, reduceCtorEq, reduceIte, Nat.reduceMul, Nat.reduceAdd, Nat.reduceLT, Nat.reduceLeDiff, Nat.reduceEqDiff, Int.reduceLT, Int.reduceBEq, Int.reduceBNe, Nat.reduceBEq, List.append_nil, Nat.sub_self]; try rfl) ?_
      intro y hy
      have hs5 := hy
      obtain ⟨a5, c5, z5, r5, x5, rfl, _⟩ := hy
      simp -implicitDefEqProofs only [evr, id, reduceCtorEq, reduceIte, Nat.reduceMul, Nat.reduceAdd, Nat.reduceLT, Nat.reduceLeDiff, Nat.reduceEqDiff, Int.reduceLT, Int.reduceBEq, Int.reduceBNe, Nat.reduceBEq, List.append_nil, Nat.sub_self]
      refine wcall_plain (refCompareC F hs5 hs4 bm2) rfl (by rintro _ rfl; exact ok_plain rfl) ?_
      rintro y rfl
      simp -implicitDefEqProofs only [evr, id, reduceCtorEq, reduceIte, Nat.reduceMul, Nat.reduceAdd, Nat.reduceLT, Nat.reduceLeDiff, Nat.reduceEqDiff, Int.reduceLT, Int.reduceBEq, Int.reduceBNe, Nat.reduceBEq, List.append_nil, Nat.sub_self]
      (refine hk _ ?_; clear hk k; try show Sat _ _ _ _ _)
      refine Sat.cond_b rfl (fun h9 => ?_) (fun h9 => ?_)
      · have hle : mid ≤ d := by
          rw [← hde, Nat.le_div_iff_mul_le hn, Nat.mul_comm]
          by_cases h10 : n * mid ≤ tt
          · exact h10
          · rw [cmpI_gt (by omega)] at h9; exact absurd h9 (by decide)
        (refine Sat.region_k fun k hk => ?_; simp -implicitDefEqProofs only [evr, id, reduceCtorEq, reduceIte, Nat.reduceMul, Nat.reduceAdd, Nat.reduceLT, Nat.reduceLeDiff, Nat.reduceEqDiff, Int.reduceLT, Int.reduceBEq, Int.reduceBNe, Nat.reduceBEq, List.append_nil, Nat.sub_self])
        refine hk _ ?_
        simp only [thenK, blockK]
        refine ⟨(mid, high), ⟨by show 1 ≤ mid; omega, hle, i3, i4⟩, by show high - mid < high - low; omega, ?_⟩
        simp -implicitDefEqProofs only [evr, id, reduceCtorEq, reduceIte, Nat.reduceMul, Nat.reduceAdd, Nat.reduceLT, Nat.reduceLeDiff, Nat.reduceEqDiff, Int.reduceLT, Int.reduceBEq, Int.reduceBNe, Nat.reduceBEq, List.append_nil, Nat.sub_self, evl]
      · have hlt : d < mid := by
          rw [← hde, Nat.div_lt_iff_lt_mul hn, Nat.mul_comm]
          by_cases h10 : tt < n * mid
          · exact h10
          exfalso
          by_cases h11 : n * mid < tt
          · rw [cmpI_lt (by omega)] at h9; exact absurd h9 (by decide)
          · rw [cmpI_eq (by omega)] at h9; exact absurd h9 (by decide)
        have e5 : IntKind.i64.wrap ((mid : Int) - 1) = ((mid - 1 : Nat) : Int) := by rw [w64 (by omega)]; omega
        refine Sat.region_k fun k hk => ?_
        simp -implicitDefEqProofs only [evr, id, reduceCtorEq, reduceIte, Nat.reduceMul, Nat.reduceAdd, Nat.reduceLT, Nat.reduceLeDiff, Nat.reduceEqDiff, Int.reduceLT, Int.reduceBEq, Int.reduceBNe, Nat.reduceBEq, List.append_nil, Nat.sub_self, e5]
        refine hk _ ?_
        simp only [thenK, blockK]
        refine ⟨(low, mid - 1), ⟨i1, i2, by show d ≤ mid - 1; omega, by show mid - 1 ≤ 1073741823; omega⟩, by show mid - 1 - low < high - low; omega, ?_⟩
        simp -implicitDefEqProofs only [evr, id, reduceCtorEq, reduceIte, Nat.reduceMul, Nat.reduceAdd, Nat.reduceLT, Nat.reduceLeDiff, Nat.reduceEqDiff, Int.reduceLT, Int.reduceBEq, Int.reduceBNe, Nat.reduceBEq, List.append_nil, Nat.sub_self, evl]
    · simp only [decide_eq_false_iff_not] at h3
      obtain rfl : high = low := by omega
      obtain rfl : high = d := by omega
      clear i1 i2 i3 h3
      obtain ⟨bm0, bm1, bm2⟩ := bmul high (by omega)
      have hdle : n * high ≤ tt := by omega
      have hsub : tt - n * high = tt % n := by omega
      refine Sat.exit ?_
      simp only [thenK, blockK, reduceIte]
      (repeat refine Sat.seq ?_)
      (refine Sat.region_k fun k hk => ?_; simp -implicitDefEqProofs only [evr, id, reduceCtorEq, reduceIte, Nat.reduceMul, Nat.reduceAdd, Nat.reduceLT, Nat.reduceLeDiff, Nat.reduceEqDiff, Int.reduceLT, Int.reduceBEq, Int.reduceBNe, Nat.reduceBEq, List.append_nil, Nat.sub_self])
      refine ⟨by omega, by omega, ?_⟩
      (refine hk _ ?_; clear hk k; try show Sat _ _ _ _ _)
      (repeat refine Sat.seq ?_)
      (refine Sat.region_k fun k hk => ?_; simp -implicitDefEqProofs only [evr, id, reduceCtorEq, reduceIte, Nat.reduceMul, Nat.reduceAdd, Nat.reduceLT, Nat.reduceLeDiff, Nat.reduceEqDiff, Int.reduceLT, Int.reduceBEq, Int.reduceBNe, Nat.reduceBEq, List.append_nil, Nat.sub_self])
      intro blk
      have hms : Nats (.sl (some ⟨blk, 0, none⟩) 1 1 1 (rdL [SV.i .i64 (high : Int)] 1)) high := nats_one (by omega) (by omega)
      refine wcall_slice (refTimesC F hb' hms (by have := pw_mono (show 256 ≤ 512 by omega); omega) bm1) (by simp -implicitDefEqProofs only [evr, id, reduceCtorEq, reduceIte, Nat.reduceMul, Nat.reduceAdd, Nat.reduceLT, Nat.reduceLeDiff, Nat.reduceEqDiff, Int.reduceLT, Int.reduceBEq, Int.reduceBNe, Nat.reduceBEq, List.append_nil, Nat.sub_self]; try rfl) (by simp -implicitDefEqProofs only [evr, id, reduceCtorEq, reduceIte, Nat.reduceMul, Nat.reduceAdd, Nat.reduceLT, Nat.reduceLeDiff, Nat.reduceEqDiff, Int.reduceLT, Int.reduceBEq, Int.reduceBNe, Nat.reduceBEq, List.append_nil, Nat.sub_self]; try rfl) ?_
      intro y hy
      have hs5 := hy
      obtain ⟨a5, c5, z5, r5, x5, rfl, _⟩ := hy
      simp -implicitDefEqProofs only [evr, id, reduceCtorEq, reduceIte, Nat.reduceMul, Nat.reduceAdd, Nat.reduceLT, Nat.reduceLeDiff, Nat.reduceEqDiff, Int.reduceLT, Int.reduceBEq, Int.reduceBNe, Nat.reduceBEq, List.append_nil, Nat.sub_self]
      refine wcall_slice (refLessC F hs4 hs5 btt hdle) rfl rfl ?_
      intro y hy
      rw [hsub] at hy
      have hs6 := hy
      obtain ⟨a6, c6, z6, r6, x6, rfl, _⟩ := hy
      simp -implicitDefEqProofs only [evr, id, reduceCtorEq, reduceIte, Nat.reduceMul, Nat.reduceAdd, Nat.reduceLT, Nat.reduceLeDiff, Nat.reduceEqDiff, Int.reduceLT, Int.reduceBEq, Int.reduceBNe, Nat.reduceBEq, List.append_nil, Nat.sub_self]
      refine hk _ ?_
      clear hk k
      simp only [thenK, blockK]
      (repeat refine Sat.seq ?_)
      refine Sat.region_k fun k hk => ?_
      simp -implicitDefEqProofs only [evr, id, reduceCtorEq, reduceIte, Nat.reduceMul, Nat.reduceAdd, Nat.reduceLT, Nat.reduceLeDiff, Nat.reduceEqDiff, Int.reduceLT, Int.reduceBEq, Int.reduceBNe, Nat.reduceBEq, List.append_nil, Nat.sub_self, ej2]
      refine hk _ ?_
      simp only [thenK, blockK]
      refine ⟨((j, qs.set j (high : Int)), (_, tt % n)), ⟨by show j ≤ xs.length; omega, hst, hs6, fun i hi => by
        have hi' : i < j := hi
        show (qs.set j (high : Int)).getD i 0 = 0
        rw [getD_set _ _ _ (by have := hinv.len; omega), if_neg (by omega)]
        exact hlow i (by omega)⟩, by show j < j + 1; omega, ?_⟩
      simp -implicitDefEqProofs only [evr, id, reduceCtorEq, reduceIte, Nat.reduceMul, Nat.reduceAdd, Nat.reduceLT, Nat.reduceLeDiff, Nat.reduceEqDiff, Int.reduceLT, Int.reduceBEq, Int.reduceBNe, Nat.reduceBEq, List.append_nil, Nat.sub_self, evl]
      exact rd_set rfl (by have := hinv.len; omega)
  · simp only [decide_eq_false_iff_not] at h2
    obtain rfl : q = 0 := by omega
    obtain ⟨hd, hrm⟩ := hinv.done d1.val
    have hv : (val qs).toNat = m / n := by
      have h8 := hd.val
      rw [trim_val] at h8
      rw [h8]
      exact Int.toNat_natCast _
    have t3 := hinv.len
    refine Sat.exit ?_
    simp only [thenK, blockK, reduceIte]
    (repeat refine Sat.seq ?_)
    (refine Sat.region_k fun k hk => ?_; simp -implicitDefEqProofs only [evr, id, reduceCtorEq, reduceIte, Nat.reduceMul, Nat.reduceAdd, Nat.reduceLT, Nat.reduceLeDiff, Nat.reduceEqDiff, Int.reduceLT, Int.reduceBEq, Int.reduceBNe, Nat.reduceBEq, List.append_nil, Nat.sub_self])
    refine wcall_slice (refTrimC F (s := .sl a qs.length cap 1 (fun p _ => .i .i64 (qs.getD p 0))) ⟨a, cap, 1, _, rfl, .inr rfl, fun p _ => rfl⟩ hinv.limbs) (by simp -implicitDefEqProofs only [evr, id, reduceCtorEq, reduceIte, Nat.reduceMul, Nat.reduceAdd, Nat.reduceLT, Nat.reduceLeDiff, Nat.reduceEqDiff, Int.reduceLT, Int.reduceBEq, Int.reduceBNe, Nat.reduceBEq, List.append_nil, Nat.sub_self]; try rfl) (by simp -implicitDefEqProofs only [evr, id, reduceCtorEq, reduceIte, Nat.reduceMul, Nat.reduceAdd, Nat.reduceLT, Nat.reduceLeDiff, Nat.reduceEqDiff, Int.reduceLT, Int.reduceBEq, Int.reduceBNe, Nat.reduceBEq, List.append_nil, Nat.sub_self, t3]; try rfl) ?_
    intro y hy
    rw [hv] at hy
    have hs8 := hy
    obtain ⟨a8, c8, z8, r8, x8, rfl, _⟩ := hy
    simp -implicitDefEqProofs only [evr, id, reduceCtorEq, reduceIte, Nat.reduceMul, Nat.reduceAdd, Nat.reduceLT, Nat.reduceLeDiff, Nat.reduceEqDiff, Int.reduceLT, Int.reduceBEq, Int.reduceBNe, Nat.reduceBEq, List.append_nil, Nat.sub_self]
    (refine hk _ ?_; clear hk k; try show Sat _ _ _ _ _)
    refine Sat.ret ?_
    simp only [Try.results65, evr, id, reduceCtorEq, reduceIte, Nat.reduceMul, Nat.reduceAdd, Nat.reduceLT, Nat.reduceLeDiff, Nat.reduceEqDiff, Int.reduceLT, Int.reduceBEq, Int.reduceBNe, Nat.reduceBEq, List.append_nil, Nat.sub_self]
    exact ⟨_, _, rfl, hs8, by rw [← hrm]; exact hr'⟩
end Go.Proofs.Ytagmohpafjncfaa

/- The reference of fractions, by the evaluator: reduced. -/
set_option linter.unusedSimpArgs false
set_option linter.unusedVariables false
namespace Go.Proofs.Ytagmohpafjncfaa
open Eng Lmb Go.RowKit
theorem Nats.len0 {a : Option Addr} {len cap sz n : Nat} {rd : Nat → Nat → SV} (h : Nats (.sl a len cap sz rd) n) : ((len : Int) == 0) = decide (n = 0) := by
  have := h.len
  have e : (0 < (len : Int)) ↔ (0 < n) := by rw [this]
  by_cases hn : n = 0
  · rw [decide_eq_true hn, beq_iff_eq]; omega
  · rw [decide_eq_false hn, beq_eq_false_iff_ne]; omega
set_option maxRecDepth 100000 in
theorem refReducedC (F : Frm) (neg : Bool) {sp sq : SV} {p q : Nat} (hp : Nats sp p) (hq : Nats sq q) (h1 : (p : Int) < pw 256) (h2 : (q : Int) < pw 256) (h0 : 0 < q) : Contract F Try.prog 39 [.b neg, sp, sq] (fun r => FrS r (neg && decide (0 < p)) (p / Nat.gcd p q) (q / Nat.gcd p q)) := by
  have hp' := hp
  have hq' := hq
  have hg : 0 < Nat.gcd p q := Nat.gcd_pos_of_pos_right _ h0
  have hgq : Nat.gcd p q ≤ q := Nat.le_of_dvd h0 (Nat.gcd_dvd_right p q)
  obtain ⟨a1, c1, z1, r1, x1, rfl, _⟩ := hp
  obtain ⟨a2, c2, z2, r2, x2, rfl, _⟩ := hq
  have hl := hp'.len0
  refine contract_of Try.func39 rfl (by kernel_rfl) ?_
  simp only [Try.ntmps39, argEnv]
  (repeat refine Sat.seq ?_)
  (refine Sat.region_k fun k hk => ?_; simp -implicitDefEqProofs only [evr, id, reduceCtorEq, reduceIte, Nat.reduceMul, Nat.reduceAdd, Nat.reduceLT, Nat.reduceLeDiff, Nat.reduceEqDiff, Int.reduceLT, Int.reduceBEq, Int.reduceBNe, Nat.reduceBEq, List.append_nil, Int.toNat_zero, Nat.sub_self, frS])
  intro b6
  (refine hk _ ?_; clear hk k; try show Sat _ _ _ _ _)
  (repeat refine Sat.seq ?_)
  (refine Sat.region_k fun k hk => ?_; simp -implicitDefEqProofs only [evr, id, reduceCtorEq, reduceIte, Nat.reduceMul, Nat.reduceAdd, Nat.reduceLT, Nat.reduceLeDiff, Nat.reduceEqDiff, Int.reduceLT, Int.reduceBEq, Int.reduceBNe, Nat.reduceBEq, List.append_nil, Int.toNat_zero, Nat.sub_self, frS]; refine hk _ ?_; clear hk k; try show Sat _ _ _ _ _)
  refine Sat.cond_b rfl (fun h => ?_) (fun h => ?_)
  · have hp0 : p = 0 := by rw [hl] at h; exact of_decide_eq_true h
    subst hp0
    (repeat refine Sat.seq ?_)
    (refine Sat.region_k fun k hk => ?_; simp -implicitDefEqProofs only [evr, id, reduceCtorEq, reduceIte, Nat.reduceMul, Nat.reduceAdd, Nat.reduceLT, Nat.reduceLeDiff, Nat.reduceEqDiff, Int.reduceLT, Int.reduceBEq, Int.reduceBNe, Nat.reduceBEq, List.append_nil, Int.toNat_zero, Nat.sub_self, frS])
    intro blk
    (refine hk _ ?_; clear hk k; try show Sat _ _ _ _ _)
    refine Sat.ret ?_
    simp only [Try.results39, evr, id, reduceCtorEq, reduceIte, Nat.reduceMul, Nat.reduceAdd, Nat.reduceLT, Nat.reduceLeDiff, Nat.reduceEqDiff, Int.reduceLT, Int.reduceBEq, Int.reduceBNe, Nat.reduceBEq, List.append_nil, Int.toNat_zero, Nat.sub_self, frS]
    have e1 : q / Nat.gcd 0 q = 1 := by rw [Nat.gcd_zero_left]; exact Nat.div_self h0
    rw [e1, Nat.zero_div, decide_false, Bool.and_false]
    refine ⟨_, _, rfl, Nats.nil, nats_one (x := 1) (by omega) (by omega)⟩
  · have hp0 : 0 < p := by
      rw [hl] at h
      have := of_decide_eq_false h
      omega
    refine Sat.skip ?_
    simp only [thenK]
    (repeat refine Sat.seq ?_)
    (refine Sat.region_k fun k hk => ?_; simp -implicitDefEqProofs only [evr, id, reduceCtorEq, reduceIte, Nat.reduceMul, Nat.reduceAdd, Nat.reduceLT, Nat.reduceLeDiff, Nat.reduceEqDiff, Int.reduceLT, Int.reduceBEq, Int.reduceBNe, Nat.reduceBEq, List.append_nil, Int.toNat_zero, Nat.sub_self, frS])
    refine wcall_slice (refGcdC F hp' hq' h1 h2 hp0 h0) rfl rfl ?_
    intro r hs
    have hgs := hs
    obtain ⟨a3, c3, z3, r3, x3, rfl, _⟩ := hs
    simp -implicitDefEqProofs only [evr, id, reduceCtorEq, reduceIte, Nat.reduceMul, Nat.reduceAdd, Nat.reduceLT, Nat.reduceLeDiff, Nat.reduceEqDiff, Int.reduceLT, Int.reduceBEq, Int.reduceBNe, Nat.reduceBEq, List.append_nil, Int.toNat_zero, Nat.sub_self, frS]
    (refine hk _ ?_; clear hk k; try show Sat _ _ _ _ _)
    (repeat refine Sat.seq ?_)
    (refine Sat.region_k fun k hk => ?_; simp -implicitDefEqProofs only [evr, id, reduceCtorEq, reduceIte, Nat.reduceMul, Nat.reduceAdd, Nat.reduceLT, Nat.reduceLeDiff, Nat.reduceEqDiff, Int.reduceLT, Int.reduceBEq, Int.reduceBNe, Nat.reduceBEq, List.append_nil, Int.toNat_zero, Nat.sub_self, frS])
    refine wcall_slice (refSplitC F hp' hgs h1 (by omega) hg) rfl rfl ?_
    rintro r ⟨s, t, rfl, hs, ht⟩
    have hs4 := hs
    obtain ⟨a4, c4, z4, r4, x4, rfl, _⟩ := hs
    obtain ⟨a5, c5, z5, r5, x5, rfl, _⟩ := ht
    simp -implicitDefEqProofs only [evr, id, reduceCtorEq, reduceIte, Nat.reduceMul, Nat.reduceAdd, Nat.reduceLT, Nat.reduceLeDiff, Nat.reduceEqDiff, Int.reduceLT, Int.reduceBEq, Int.reduceBNe, Nat.reduceBEq, List.append_nil, Int.toNat_zero, Nat.sub_self, frS]
    (refine hk _ ?_; clear hk k; try show Sat _ _ _ _ _)
    (repeat refine Sat.seq ?_)
    (refine Sat.region_k fun k hk => ?_; simp -implicitDefEqProofs only [evr, id, reduceCtorEq, reduceIte, Nat.reduceMul, Nat.reduceAdd, Nat.reduceLT, Nat.reduceLeDiff, Nat.reduceEqDiff, Int.reduceLT, Int.reduceBEq, Int.reduceBNe, Nat.reduceBEq, List.append_nil, Int.toNat_zero, Nat.sub_self, frS])
    refine wcall_slice (refSplitC F hq' hgs h2 (by omega) hg) rfl rfl ?_
    rintro r ⟨s, t, rfl, hs, ht⟩
    have hs6 := hs
    obtain ⟨a6, c6, z6, r6, x6, rfl, _⟩ := hs
    obtain ⟨a7, c7, z7, r7, x7, rfl, _⟩ := ht
    simp -implicitDefEqProofs only [evr, id, reduceCtorEq, reduceIte, Nat.reduceMul, Nat.reduceAdd, Nat.reduceLT, Nat.reduceLeDiff, Nat.reduceEqDiff, Int.reduceLT, Int.reduceBEq, Int.reduceBNe, Nat.reduceBEq, List.append_nil, Int.toNat_zero, Nat.sub_self, frS]
    (refine hk _ ?_; clear hk k; try show Sat _ _ _ _ _)
    (repeat refine Sat.seq ?_)
    (refine Sat.region_k fun k hk => ?_; simp -implicitDefEqProofs only [evr, id, reduceCtorEq, reduceIte, Nat.reduceMul, Nat.reduceAdd, Nat.reduceLT, Nat.reduceLeDiff, Nat.reduceEqDiff, Int.reduceLT, Int.reduceBEq, Int.reduceBNe, Nat.reduceBEq, List.append_nil, Int.toNat_zero, Nat.sub_self, frS])
    (refine hk _ ?_; clear hk k; try show Sat _ _ _ _ _)
    refine Sat.ret ?_
    simp only [Try.results39, evr, id, reduceCtorEq, reduceIte, Nat.reduceMul, Nat.reduceAdd, Nat.reduceLT, Nat.reduceLeDiff, Nat.reduceEqDiff, Int.reduceLT, Int.reduceBEq, Int.reduceBNe, Nat.reduceBEq, List.append_nil, Int.toNat_zero, Nat.sub_self, frS]
    rw [decide_eq_true hp0, Bool.and_true]
    exact ⟨_, _, rfl, hs4, hs6⟩
set_option maxRecDepth 100000 in
theorem refReduceC (F : Frm) (neg : Bool) {sp sq : SV} {p q : Nat} (hp : Nats sp p) (hq : Nats sq q) (h1 : (p : Int) < pw 256) (h2 : (q : Int) < pw 256) (h0 : 0 < q) : Contract F Try.prog 42 [frS neg sp sq] (fun r => FrS r (neg && decide (0 < p)) (p / Nat.gcd p q) (q / Nat.gcd p q)) := by
  have hp' := hp
  have hq' := hq
  obtain ⟨a1, c1, z1, r1, x1, rfl, _⟩ := hp
  obtain ⟨a2, c2, z2, r2, x2, rfl, _⟩ := hq
  refine contract_of Try.func42 rfl (by kernel_rfl) ?_
  simp only [Try.ntmps42, argEnv, frS]
  (repeat refine Sat.seq ?_)
  (refine Sat.region_k fun k hk => ?_; simp -implicitDefEqProofs only [evr, id, reduceCtorEq, reduceIte, Nat.reduceMul, Nat.reduceAdd, Nat.reduceLT, Nat.reduceLeDiff, Nat.reduceEqDiff, Int.reduceLT, Int.reduceBEq, Int.reduceBNe, Nat.reduceBEq, List.append_nil, Int.toNat_zero, Nat.sub_self, frS])
  intro b1 b2
  (refine hk _ ?_; clear hk k; try show Sat _ _ _ _ _)
  (repeat refine Sat.seq ?_)
  (refine Sat.region_k fun k hk => ?_; simp -implicitDefEqProofs only [evr, id, reduceCtorEq, reduceIte, Nat.reduceMul, Nat.reduceAdd, Nat.reduceLT, Nat.reduceLeDiff, Nat.reduceEqDiff, Int.reduceLT, Int.reduceBEq, Int.reduceBNe, Nat.reduceBEq, List.append_nil, Int.toNat_zero, Nat.sub_self, frS])
  refine wcall_slice (refReducedC F neg hp' hq' h1 h2 h0) rfl (by simp -implicitDefEqProofs only [evr, id, reduceCtorEq, reduceIte, Nat.reduceMul, Nat.reduceAdd, Nat.reduceLT, Nat.reduceLeDiff, Nat.reduceEqDiff, Int.reduceLT, Int.reduceBEq, Int.reduceBNe, Nat.reduceBEq, List.append_nil, Int.toNat_zero, Nat.sub_self, frS]; try rfl) ?_
  rintro r ⟨sp3, sq3, rfl, h3, h4⟩
  have h3' := h3
  have h4' := h4
  obtain ⟨a3, c3, z3, r3, x3, rfl, _⟩ := h3
  obtain ⟨a4, c4, z4, r4, x4, rfl, _⟩ := h4
  simp only [frS, evr, id, reduceCtorEq, reduceIte, Nat.reduceMul, Nat.reduceAdd, Nat.reduceLT, Nat.reduceLeDiff, Nat.reduceEqDiff, Int.reduceLT, Int.reduceBEq, Int.reduceBNe, Nat.reduceBEq, List.append_nil, Int.toNat_zero, Nat.sub_self, frS]
  (refine hk _ ?_; clear hk k; try show Sat _ _ _ _ _)
  refine Sat.ret ?_
  simp only [Try.results42, evr, id, reduceCtorEq, reduceIte, Nat.reduceMul, Nat.reduceAdd, Nat.reduceLT, Nat.reduceLeDiff, Nat.reduceEqDiff, Int.reduceLT, Int.reduceBEq, Int.reduceBNe, Nat.reduceBEq, List.append_nil, Int.toNat_zero, Nat.sub_self, frS]
  exact ⟨_, _, rfl, h3', h4'⟩
end Go.Proofs.Ytagmohpafjncfaa

/- Fractions, by the evaluator: package fraction's Compare. -/
set_option linter.unusedSimpArgs false
set_option linter.unusedVariables false
namespace Go.Proofs.Ytagmohpafjncfaa
open Eng Lmb
def cmpV (na : Bool) (p q : Nat) (nb : Bool) (r s : Nat) : Int :=
  if (sumV na (p * s) (!nb) (r * q)).2 = 0 then 0 else if (sumV na (p * s) (!nb) (r * q)).1 = true then -1 else 1
theorem cmpV_pos (p q r s : Nat) : cmpV false p q false r s = cmpI (p * s : Nat) (r * q : Nat) := by
  unfold cmpV sumV
  simp only [Bool.not_false, Bool.false_eq_true, if_false]
  by_cases h : p * s < r * q
  · rw [if_pos h, cmpI_lt (by omega)]
    have : ¬ r * q - p * s = 0 := by omega
    simp [this]
  · rw [if_neg h]
    by_cases h2 : r * q < p * s
    · rw [cmpI_gt (by omega)]
      have : ¬ p * s - r * q = 0 := by omega
      simp [this]
    · rw [cmpI_eq (by omega)]
      have : p * s - r * q = 0 := by omega
      simp [this]
theorem Nats.zero {a : Option Addr} {len cap sz n : Nat} {rd : Nat → Nat → SV} (h : Nats (.sl a len cap sz rd) n) : ((len : Int) == 0) = decide (n = 0) := by
  have := h.len
  by_cases h0 : n = 0
  · rw [decide_eq_true h0]
    have : ¬ 0 < (len : Int) := by rw [this]; omega
    have : (len : Int) = 0 := by omega
    rw [this]; rfl
  · rw [decide_eq_false h0, beq_eq_false_iff_ne]
    have : 0 < (len : Int) := by rw [this]; omega
    omega
set_option maxRecDepth 100000 in
theorem fractionCompareC (F : Frm) (na nb : Bool) {sp sq sr ss : SV} {p q r s : Nat} (hp : Nats sp p) (hq : Nats sq q) (hr : Nats sr r) (hs : Nats ss s)
    (b1 : (p : Int) < pw 256) (b2 : (q : Int) < pw 256) (b3 : (r : Int) < pw 256) (b4 : (s : Int) < pw 256) (b5 : ((p * s : Nat) : Int) < pw 256) (b6 : ((r * q : Nat) : Int) < pw 256) (b7 : ((p * s + r * q : Nat) : Int) < pw 256) :
    Contract F Try.prog 14 [frS na sp sq, frS nb sr ss] (fun x => x = tupL [.i .i64 (cmpV na p q nb r s), .i .i64 0]) := by
  have hp' := hp
  have hq' := hq
  have hr' := hr
  have hs' := hs
  obtain ⟨a1, c1, z1, r1, x1, rfl, _⟩ := hp
  obtain ⟨a2, c2, z2, r2, x2, rfl, _⟩ := hq
  obtain ⟨a3, c3, z3, r3, x3, rfl, _⟩ := hr
  obtain ⟨a4, c4, z4, r4, x4, rfl, _⟩ := hs
  refine contract_of Try.func14 rfl (by kernel_rfl) ?_
  simp only [Try.ntmps14, argEnv, frS]
  (repeat refine Sat.seq ?_)
  (refine Sat.region_k fun k hk => ?_; simp -implicitDefEqProofs only [evr, id, reduceCtorEq, reduceIte, Nat.reduceMul, Nat.reduceAdd, Nat.reduceLT, Nat.reduceLeDiff, Nat.reduceEqDiff, Int.reduceLT, Int.reduceBEq, Int.reduceBNe, Nat.reduceBEq, List.append_nil, Int.toNat_zero, Nat.sub_self, frS])
  intro k1 k2
  (refine hk _ ?_; clear hk k; try show Sat _ _ _ _ _)
  (repeat refine Sat.seq ?_)
  (refine Sat.region_rows [⟨0, 10, 4, 0⟩, ⟨1, 11, 512, 1⟩, ⟨0, 12, 4, 0⟩, ⟨4, 13, 2048, 1⟩, ⟨0, 14, 8, 0⟩, ⟨16, 15, 8192, 1⟩, ⟨40, 16, 20480, 2⟩, ⟨0, 17, 8, 0⟩, ⟨128, 18, 65536, 1⟩, ⟨256, 19, 131072, 0⟩, ⟨0, 20, 8, 0⟩, ⟨1024, 21, 524288, 1⟩, ⟨0, 22, 4, 0⟩, ⟨4096, 23, 2097152, 1⟩, ⟨10304, 24, 5242880, 2⟩, ⟨16962, 25, 8684544, 2⟩, ⟨32768, 9, 16777216, 0⟩, ⟨65536, 26, 256, 0⟩, ⟨65536, 27, 256, 0⟩, ⟨262143, 7, 33554432, 0⟩, ⟨1048575, 8, 67108864, 0⟩] [0, 2, 4, 7, 10, 12, 1, 3, 5, 8, 11, 13, 9] [(6, false), (14, false), (15, false), (16, false), (17, true), (18, true), (19, false), (20, false)] [6, 14] (by kernel_rfl) (by kernel_rfl) (fun _ _ h => h) fun k hk => ?_; simp only [List.map_cons, List.map_nil, List.getD_cons_zero, List.getD_cons_succ, btseq_cons, btseq_free, btseq_nil]; simp -implicitDefEqProofs only [evr, id, reduceCtorEq, reduceIte, Nat.reduceMul, Nat.reduceAdd, Nat.reduceLT, Nat.reduceLeDiff, Nat.reduceEqDiff, Int.reduceLT, Int.reduceBEq, Int.reduceBNe, Nat.reduceBEq, List.append_nil, Int.toNat_zero, Nat.sub_self, frS])
  refine wcall_slice (fractionProductC F hp' hs' b1 b4 b5) rfl (by simp -implicitDefEqProofs only [evr, id, reduceCtorEq, reduceIte, Nat.reduceMul, Nat.reduceAdd, Nat.reduceLT, Nat.reduceLeDiff, Nat.reduceEqDiff, Int.reduceLT, Int.reduceBEq, Int.reduceBNe, Nat.reduceBEq, List.append_nil, Int.toNat_zero, Nat.sub_self, frS]; try rfl) ?_
  intro y hy
  have hy1 := hy
  obtain ⟨a5, c5, z5, r5, x5, rfl, _⟩ := hy
  simp -implicitDefEqProofs only [evr, id, reduceCtorEq, reduceIte, Nat.reduceMul, Nat.reduceAdd, Nat.reduceLT, Nat.reduceLeDiff, Nat.reduceEqDiff, Int.reduceLT, Int.reduceBEq, Int.reduceBNe, Nat.reduceBEq, List.append_nil, Int.toNat_zero, Nat.sub_self, frS]
  refine wcall_slice (fractionProductC F hr' hq' b3 b2 b6) rfl (by simp -implicitDefEqProofs only [evr, id, reduceCtorEq, reduceIte, Nat.reduceMul, Nat.reduceAdd, Nat.reduceLT, Nat.reduceLeDiff, Nat.reduceEqDiff, Int.reduceLT, Int.reduceBEq, Int.reduceBNe, Nat.reduceBEq, List.append_nil, Int.toNat_zero, Nat.sub_self, frS]; try rfl) ?_
  intro y hy
  have hy2 := hy
  obtain ⟨a6, c6, z6, r6, x6, rfl, _⟩ := hy
  simp -implicitDefEqProofs only [evr, id, reduceCtorEq, reduceIte, Nat.reduceMul, Nat.reduceAdd, Nat.reduceLT, Nat.reduceLeDiff, Nat.reduceEqDiff, Int.reduceLT, Int.reduceBEq, Int.reduceBNe, Nat.reduceBEq, List.append_nil, Int.toNat_zero, Nat.sub_self, frS]
  refine wcall_slice (fractionSumC F na (!nb) hy1 hy2 b5 b6 b7) rfl (by simp -implicitDefEqProofs only [evr, id, reduceCtorEq, reduceIte, Nat.reduceMul, Nat.reduceAdd, Nat.reduceLT, Nat.reduceLeDiff, Nat.reduceEqDiff, Int.reduceLT, Int.reduceBEq, Int.reduceBNe, Nat.reduceBEq, List.append_nil, Int.toNat_zero, Nat.sub_self, frS]; try rfl) ?_
  rintro y ⟨sv, rfl, hy⟩
  have hy3 := hy
  obtain ⟨a7, c7, z7, r7, x7, rfl, _⟩ := hy
  have hz := hy3.zero
  simp -implicitDefEqProofs only [evr, id, reduceCtorEq, reduceIte, Nat.reduceMul, Nat.reduceAdd, Nat.reduceLT, Nat.reduceLeDiff, Nat.reduceEqDiff, Int.reduceLT, Int.reduceBEq, Int.reduceBNe, Nat.reduceBEq, List.append_nil, Int.toNat_zero, Nat.sub_self, frS]
  (refine hk _ ?_; clear hk k; try show Sat _ _ _ _ _)
  (repeat refine Sat.seq ?_)
  refine Sat.block ?_
  (repeat refine Sat.seq ?_)
  (refine Sat.region_k fun k hk => ?_; simp -implicitDefEqProofs only [evr, id, reduceCtorEq, reduceIte, Nat.reduceMul, Nat.reduceAdd, Nat.reduceLT, Nat.reduceLeDiff, Nat.reduceEqDiff, Int.reduceLT, Int.reduceBEq, Int.reduceBNe, Nat.reduceBEq, List.append_nil, Int.toNat_zero, Nat.sub_self, frS]; refine hk _ ?_; clear hk k; try show Sat _ _ _ _ _)
  refine Sat.cond_b rfl (fun h => ?_) (fun h => ?_)
  · rw [hz] at h
    have h0 := of_decide_eq_true h
    (repeat refine Sat.seq ?_)
    (refine Sat.region_k fun k hk => ?_; simp -implicitDefEqProofs only [evr, id, reduceCtorEq, reduceIte, Nat.reduceMul, Nat.reduceAdd, Nat.reduceLT, Nat.reduceLeDiff, Nat.reduceEqDiff, Int.reduceLT, Int.reduceBEq, Int.reduceBNe, Nat.reduceBEq, List.append_nil, Int.toNat_zero, Nat.sub_self, frS]; refine hk _ ?_; clear hk k; try show Sat _ _ _ _ _)
    refine Sat.ret ?_
    simp only [thenK, blockK, Try.results14, evr, id, reduceCtorEq, reduceIte, Nat.reduceMul, Nat.reduceAdd, Nat.reduceLT, Nat.reduceLeDiff, Nat.reduceEqDiff, Int.reduceLT, Int.reduceBEq, Int.reduceBNe, Nat.reduceBEq, List.append_nil, Int.toNat_zero, Nat.sub_self, frS]
    unfold cmpV
    rw [if_pos h0]
  · rw [hz] at h
    have h0 := of_decide_eq_false h
    (repeat refine Sat.seq ?_)
    (refine Sat.region_k fun k hk => ?_; simp -implicitDefEqProofs only [evr, id, reduceCtorEq, reduceIte, Nat.reduceMul, Nat.reduceAdd, Nat.reduceLT, Nat.reduceLeDiff, Nat.reduceEqDiff, Int.reduceLT, Int.reduceBEq, Int.reduceBNe, Nat.reduceBEq, List.append_nil, Int.toNat_zero, Nat.sub_self, frS]; refine hk _ ?_; clear hk k; try show Sat _ _ _ _ _)
    refine Sat.cond_b rfl (fun h2 => ?_) (fun h2 => ?_)
    · (repeat refine Sat.seq ?_)
      (refine Sat.region_k fun k hk => ?_; simp -implicitDefEqProofs only [evr, id, reduceCtorEq, reduceIte, Nat.reduceMul, Nat.reduceAdd, Nat.reduceLT, Nat.reduceLeDiff, Nat.reduceEqDiff, Int.reduceLT, Int.reduceBEq, Int.reduceBNe, Nat.reduceBEq, List.append_nil, Int.toNat_zero, Nat.sub_self, frS]; refine hk _ ?_; clear hk k; try show Sat _ _ _ _ _)
      refine Sat.ret ?_
      simp only [thenK, blockK, Try.results14, evr, id, reduceCtorEq, reduceIte, Nat.reduceMul, Nat.reduceAdd, Nat.reduceLT, Nat.reduceLeDiff, Nat.reduceEqDiff, Int.reduceLT, Int.reduceBEq, Int.reduceBNe, Nat.reduceBEq, List.append_nil, Int.toNat_zero, Nat.sub_self, frS]
      unfold cmpV
      rw [if_neg h0, if_pos h2]
    · refine Sat.skip ?_
      simp only [thenK, blockK]
      (repeat refine Sat.seq ?_)
      (refine Sat.region_k fun k hk => ?_; simp -implicitDefEqProofs only [evr, id, reduceCtorEq, reduceIte, Nat.reduceMul, Nat.reduceAdd, Nat.reduceLT, Nat.reduceLeDiff, Nat.reduceEqDiff, Int.reduceLT, Int.reduceBEq, Int.reduceBNe, Nat.reduceBEq, List.append_nil, Int.toNat_zero, Nat.sub_self, frS]; refine hk _ ?_; clear hk k; try show Sat _ _ _ _ _)
      refine Sat.ret ?_
      simp only [Try.results14, evr, id, reduceCtorEq, reduceIte, Nat.reduceMul, Nat.reduceAdd, Nat.reduceLT, Nat.reduceLeDiff, Nat.reduceEqDiff, Int.reduceLT, Int.reduceBEq, Int.reduceBNe, Nat.reduceBEq, List.append_nil, Int.toNat_zero, Nat.sub_self, frS]
      unfold cmpV
      rw [if_neg h0, if_neg (by simpa using h2)]
end Go.Proofs.Ytagmohpafjncfaa

/- Package natural, for the evaluator: Choose, Pow. -/
set_option linter.unusedSimpArgs false
set_option linter.unusedVariables false
namespace Go.Proofs.Ytagmohpafjncfaa
open Eng Lmb Go.RowKit
section
variable (F : Frm) {sa sb : SV} {m n : Nat}
theorem chooseC (m n : Nat) (hm : m ≤ 1024) (hn : n ≤ 1024) : Contract F Try.prog 36 [.i .i64 m, .i .i64 n] (natRes (binom m n)) := by
  refine ofCalls Try.func36 rfl (by kernel_rfl) fun R w hargs hR => ?_
  refine (@Zn.choose_calls (zoneOf R w) m n w (Nat.le_refl _) hm hn).mono ?_
  rintro e w' ⟨v, rfl, hv, hbel⟩
  obtain ⟨s, rfl, hs, hok⟩ := nat_from hv
  exact ⟨tupL [s, .i .i64 0], rfl, ⟨s, rfl, hs⟩, tup2_ok hok trivial, hbel⟩
theorem powC {kz : Int} (k : Nat) (ha : Nats sa m) (h1 : 1 ≤ m) (hm : (m : Int) < pw 256) (hkz : kz = k) (hk : k ≤ 65536) (h : ((m ^ k : Nat) : Int) < pw 256) : Contract F Try.prog 56 [sa, .i .i64 kz] (natRes (m ^ k)) := by
  refine ofCalls Try.func56 rfl (by kernel_rfl) fun R w hargs hR => ?_
  refine (@Zn.pow_calls (zoneOf R w) _ m k kz w (nat_to (hargs sa (by simp)) ha hR) h1 hm hkz hk).mono ?_
  rintro e w' (⟨_, v, rfl, hv, hbel⟩ | ⟨hge, _⟩)
  · obtain ⟨s, rfl, hs, hok⟩ := nat_from hv
    exact ⟨tupL [s, .i .i64 0], rfl, ⟨s, rfl, hs⟩, tup2_ok hok trivial, hbel⟩
  · omega
end
end Go.Proofs.Ytagmohpafjncfaa

/- Package stopping, by the evaluator: the small functions over numbers. -/
set_option linter.unusedSimpArgs false
set_option linter.unusedVariables false
namespace Go.Proofs.Ytagmohpafjncfaa
open Eng Lmb
set_option maxRecDepth 100000 in
theorem stSmallC (F : Frm) (n : Nat) (hn : n < 9223372036854775808) : Contract F Try.prog 48 [.i .i64 n] (fun r => Nats r n) := by
  refine contract_of Try.func48 rfl (by kernel_rfl) ?_
  simp only [Try.ntmps48, argEnv]
  (repeat refine Sat.seq ?_)
  (refine Sat.region_k fun k hk => ?_; simp -implicitDefEqProofs only [evr, id, reduceCtorEq, reduceIte, Nat.reduceMul, Nat.reduceAdd, Nat.reduceLT, Nat.reduceLeDiff, Nat.reduceEqDiff, Int.reduceLT, Int.reduceBEq, Int.reduceBNe, Nat.reduceBEq, List.append_nil, Int.toNat_zero, Nat.sub_self]; refine hk _ ?_; clear hk k; try show Sat _ _ _ _ _)
  (repeat refine Sat.seq ?_)
  (refine Sat.region_k fun k hk => ?_; simp -implicitDefEqProofs only [evr, id, reduceCtorEq, reduceIte, Nat.reduceMul, Nat.reduceAdd, Nat.reduceLT, Nat.reduceLeDiff, Nat.reduceEqDiff, Int.reduceLT, Int.reduceBEq, Int.reduceBNe, Nat.reduceBEq, List.append_nil, Int.toNat_zero, Nat.sub_self])
  refine wcall_slice (fromC F n hn) rfl rfl ?_
  rintro r ⟨s, rfl, hs⟩
  have hs' := hs
  obtain ⟨a, cap, sz, rd, xs, rfl, _⟩ := hs
  simp -implicitDefEqProofs only [evr, id, reduceCtorEq, reduceIte, Nat.reduceMul, Nat.reduceAdd, Nat.reduceLT, Nat.reduceLeDiff, Nat.reduceEqDiff, Int.reduceLT, Int.reduceBEq, Int.reduceBNe, Nat.reduceBEq, List.append_nil, Int.toNat_zero, Nat.sub_self]
  (refine hk _ ?_; clear hk k; try show Sat _ _ _ _ _)
  (repeat refine Sat.seq ?_)
  (refine Sat.region_k fun k hk => ?_; simp -implicitDefEqProofs only [evr, id, reduceCtorEq, reduceIte, Nat.reduceMul, Nat.reduceAdd, Nat.reduceLT, Nat.reduceLeDiff, Nat.reduceEqDiff, Int.reduceLT, Int.reduceBEq, Int.reduceBNe, Nat.reduceBEq, List.append_nil, Int.toNat_zero, Nat.sub_self]; refine hk _ ?_; clear hk k; try show Sat _ _ _ _ _)
  refine Sat.ret ?_
  simp only [Try.results48, evr, id, reduceCtorEq, reduceIte, Nat.reduceMul, Nat.reduceAdd, Nat.reduceLT, Nat.reduceLeDiff, Nat.reduceEqDiff, Int.reduceLT, Int.reduceBEq, Int.reduceBNe, Nat.reduceBEq, List.append_nil, Int.toNat_zero, Nat.sub_self]
  exact hs'
section
variable (F : Frm) {sa sb : SV} {m n : Nat}
set_option maxRecDepth 100000 in
theorem stTimesC (ha : Nats sa m) (hb : Nats sb n) (hm : (m : Int) < pw 256) (hn : (n : Int) < pw 256) (h : ((m * n : Nat) : Int) < pw 256) : Contract F Try.prog 37 [sa, sb] (fun r => Nats r (m * n)) := by
  have ha' := ha
  have hb' := hb
  obtain ⟨a1, c1, z1, r1, x1, rfl, _⟩ := ha
  obtain ⟨a2, c2, z2, r2, x2, rfl, _⟩ := hb
  refine contract_of Try.func37 rfl (by kernel_rfl) ?_
  simp only [Try.ntmps37, argEnv]
  (repeat refine Sat.seq ?_)
  (refine Sat.region_k fun k hk => ?_; simp -implicitDefEqProofs only [evr, id, reduceCtorEq, reduceIte, Nat.reduceMul, Nat.reduceAdd, Nat.reduceLT, Nat.reduceLeDiff, Nat.reduceEqDiff, Int.reduceLT, Int.reduceBEq, Int.reduceBNe, Nat.reduceBEq, List.append_nil, Int.toNat_zero, Nat.sub_self]; refine hk _ ?_; clear hk k; try show Sat _ _ _ _ _)
  (repeat refine Sat.seq ?_)
  (refine Sat.region_k fun k hk => ?_; simp -implicitDefEqProofs only [evr, id, reduceCtorEq, reduceIte, Nat.reduceMul, Nat.reduceAdd, Nat.reduceLT, Nat.reduceLeDiff, Nat.reduceEqDiff, Int.reduceLT, Int.reduceBEq, Int.reduceBNe, Nat.reduceBEq, List.append_nil, Int.toNat_zero, Nat.sub_self])
  refine wcall_slice (mulC F ha' hb' hm hn h) rfl rfl ?_
  rintro r ⟨s, rfl, hs⟩
  have hs' := hs
  obtain ⟨a, cap, sz, rd, xs, rfl, _⟩ := hs
  simp -implicitDefEqProofs only [evr, id, reduceCtorEq, reduceIte, Nat.reduceMul, Nat.reduceAdd, Nat.reduceLT, Nat.reduceLeDiff, Nat.reduceEqDiff, Int.reduceLT, Int.reduceBEq, Int.reduceBNe, Nat.reduceBEq, List.append_nil, Int.toNat_zero, Nat.sub_self]
  (refine hk _ ?_; clear hk k; try show Sat _ _ _ _ _)
  (repeat refine Sat.seq ?_)
  (refine Sat.region_k fun k hk => ?_; simp -implicitDefEqProofs only [evr, id, reduceCtorEq, reduceIte, Nat.reduceMul, Nat.reduceAdd, Nat.reduceLT, Nat.reduceLeDiff, Nat.reduceEqDiff, Int.reduceLT, Int.reduceBEq, Int.reduceBNe, Nat.reduceBEq, List.append_nil, Int.toNat_zero, Nat.sub_self]; refine hk _ ?_; clear hk k; try show Sat _ _ _ _ _)
  refine Sat.ret ?_
  simp only [Try.results37, evr, id, reduceCtorEq, reduceIte, Nat.reduceMul, Nat.reduceAdd, Nat.reduceLT, Nat.reduceLeDiff, Nat.reduceEqDiff, Int.reduceLT, Int.reduceBEq, Int.reduceBNe, Nat.reduceBEq, List.append_nil, Int.toNat_zero, Nat.sub_self]
  exact hs'
set_option maxRecDepth 100000 in
theorem stPlusC (ha : Nats sa m) (hb : Nats sb n) (h : ((m + n : Nat) : Int) < pw 256) : Contract F Try.prog 38 [sa, sb] (fun r => Nats r (m + n)) := by
  have ha' := ha
  have hb' := hb
  obtain ⟨a1, c1, z1, r1, x1, rfl, _⟩ := ha
  obtain ⟨a2, c2, z2, r2, x2, rfl, _⟩ := hb
  refine contract_of Try.func38 rfl (by kernel_rfl) ?_
  simp only [Try.ntmps38, argEnv]
  (repeat refine Sat.seq ?_)
  (refine Sat.region_k fun k hk => ?_; simp -implicitDefEqProofs only [evr, id, reduceCtorEq, reduceIte, Nat.reduceMul, Nat.reduceAdd, Nat.reduceLT, Nat.reduceLeDiff, Nat.reduceEqDiff, Int.reduceLT, Int.reduceBEq, Int.reduceBNe, Nat.reduceBEq, List.append_nil, Int.toNat_zero, Nat.sub_self]; refine hk _ ?_; clear hk k; try show Sat _ _ _ _ _)
  (repeat refine Sat.seq ?_)
  (refine Sat.region_k fun k hk => ?_; simp -implicitDefEqProofs only [evr, id, reduceCtorEq, reduceIte, Nat.reduceMul, Nat.reduceAdd, Nat.reduceLT, Nat.reduceLeDiff, Nat.reduceEqDiff, Int.reduceLT, Int.reduceBEq, Int.reduceBNe, Nat.reduceBEq, List.append_nil, Int.toNat_zero, Nat.sub_self])
  refine wcall_slice (addC F ha' hb' h) rfl rfl ?_
  rintro r ⟨s, rfl, hs⟩
  have hs' := hs
  obtain ⟨a, cap, sz, rd, xs, rfl, _⟩ := hs
  simp -implicitDefEqProofs only [evr, id, reduceCtorEq, reduceIte, Nat.reduceMul, Nat.reduceAdd, Nat.reduceLT, Nat.reduceLeDiff, Nat.reduceEqDiff, Int.reduceLT, Int.reduceBEq, Int.reduceBNe, Nat.reduceBEq, List.append_nil, Int.toNat_zero, Nat.sub_self]
  (refine hk _ ?_; clear hk k; try show Sat _ _ _ _ _)
  (repeat refine Sat.seq ?_)
  (refine Sat.region_k fun k hk => ?_; simp -implicitDefEqProofs only [evr, id, reduceCtorEq, reduceIte, Nat.reduceMul, Nat.reduceAdd, Nat.reduceLT, Nat.reduceLeDiff, Nat.reduceEqDiff, Int.reduceLT, Int.reduceBEq, Int.reduceBNe, Nat.reduceBEq, List.append_nil, Int.toNat_zero, Nat.sub_self]; refine hk _ ?_; clear hk k; try show Sat _ _ _ _ _)
  refine Sat.ret ?_
  simp only [Try.results38, evr, id, reduceCtorEq, reduceIte, Nat.reduceMul, Nat.reduceAdd, Nat.reduceLT, Nat.reduceLeDiff, Nat.reduceEqDiff, Int.reduceLT, Int.reduceBEq, Int.reduceBNe, Nat.reduceBEq, List.append_nil, Int.toNat_zero, Nat.sub_self]
  exact hs'
end
end Go.Proofs.Ytagmohpafjncfaa

/- Fractions, by the evaluator: package stopping's below, chance, power. -/
set_option linter.unusedSimpArgs false
set_option linter.unusedVariables false
namespace Go.Proofs.Ytagmohpafjncfaa
open Eng Lmb
set_option maxRecDepth 100000 in
theorem stBelowC (F : Frm) (na nb : Bool) {sp sq sr ss : SV} {p q r s : Nat} (hp : Nats sp p) (hq : Nats sq q) (hr : Nats sr r) (hs : Nats ss s)
    (b1 : (p : Int) < pw 256) (b2 : (q : Int) < pw 256) (b3 : (r : Int) < pw 256) (b4 : (s : Int) < pw 256) (b5 : ((p * s : Nat) : Int) < pw 256) (b6 : ((r * q : Nat) : Int) < pw 256) (b7 : ((p * s + r * q : Nat) : Int) < pw 256) :
    Contract F Try.prog 30 [frS na sp sq, frS nb sr ss] (fun x => x = .b (decide (cmpV na p q nb r s < 0))) := by
  have hp' := hp
  have hq' := hq
  have hr' := hr
  have hs' := hs
  obtain ⟨a1, c1, z1, r1, x1, rfl, _⟩ := hp
  obtain ⟨a2, c2, z2, r2, x2, rfl, _⟩ := hq
  obtain ⟨a3, c3, z3, r3, x3, rfl, _⟩ := hr
  obtain ⟨a4, c4, z4, r4, x4, rfl, _⟩ := hs
  refine contract_of Try.func30 rfl (by kernel_rfl) ?_
  simp only [Try.ntmps30, argEnv, frS]
  (repeat refine Sat.seq ?_)
  (refine Sat.region_k fun k hk => ?_; simp -implicitDefEqProofs only [evr, id, reduceCtorEq, reduceIte, Nat.reduceMul, Nat.reduceAdd, Nat.reduceLT, Nat.reduceLeDiff, Nat.reduceEqDiff, Int.reduceLT, Int.reduceBEq, Int.reduceBNe, Nat.reduceBEq, List.append_nil, Int.toNat_zero, Nat.sub_self, frS])
  intro k1 k2
  (refine hk _ ?_; clear hk k; try show Sat _ _ _ _ _)
  (repeat refine Sat.seq ?_)
  (refine Sat.region_k fun k hk => ?_; simp -implicitDefEqProofs only [evr, id, reduceCtorEq, reduceIte, Nat.reduceMul, Nat.reduceAdd, Nat.reduceLT, Nat.reduceLeDiff, Nat.reduceEqDiff, Int.reduceLT, Int.reduceBEq, Int.reduceBNe, Nat.reduceBEq, List.append_nil, Int.toNat_zero, Nat.sub_self, frS])
  refine wcall_plain (fractionCompareC F na nb hp' hq' hr' hs' b1 b2 b3 b4 b5 b6 b7) (by simp -implicitDefEqProofs only [evr, id, reduceCtorEq, reduceIte, Nat.reduceMul, Nat.reduceAdd, Nat.reduceLT, Nat.reduceLeDiff, Nat.reduceEqDiff, Int.reduceLT, Int.reduceBEq, Int.reduceBNe, Nat.reduceBEq, List.append_nil, Int.toNat_zero, Nat.sub_self, frS]; try rfl) (by rintro _ rfl; exact ok_tupL rfl) ?_
  rintro y rfl
  simp -implicitDefEqProofs only [evr, id, reduceCtorEq, reduceIte, Nat.reduceMul, Nat.reduceAdd, Nat.reduceLT, Nat.reduceLeDiff, Nat.reduceEqDiff, Int.reduceLT, Int.reduceBEq, Int.reduceBNe, Nat.reduceBEq, List.append_nil, Int.toNat_zero, Nat.sub_self, frS]
  (refine hk _ ?_; clear hk k; try show Sat _ _ _ _ _)
  (repeat refine Sat.seq ?_)
  (refine Sat.region_k fun k hk => ?_; simp -implicitDefEqProofs only [evr, id, reduceCtorEq, reduceIte, Nat.reduceMul, Nat.reduceAdd, Nat.reduceLT, Nat.reduceLeDiff, Nat.reduceEqDiff, Int.reduceLT, Int.reduceBEq, Int.reduceBNe, Nat.reduceBEq, List.append_nil, Int.toNat_zero, Nat.sub_self, frS]; refine hk _ ?_; clear hk k; try show Sat _ _ _ _ _)
  refine Sat.ret ?_
  simp only [Try.results30, evr, id, reduceCtorEq, reduceIte, Nat.reduceMul, Nat.reduceAdd, Nat.reduceLT, Nat.reduceLeDiff, Nat.reduceEqDiff, Int.reduceLT, Int.reduceBEq, Int.reduceBNe, Nat.reduceBEq, List.append_nil, Int.toNat_zero, Nat.sub_self, frS]
theorem pw_one : (1 : Int) < pw 256 := by
  have := pw_mono (show 1 ≤ 256 by omega)
  rw [pw_succ, pw_zero] at this
  omega
set_option maxRecDepth 100000 in
theorem stChanceC (F : Frm) {sp sq : SV} {p q : Nat} (hp : Nats sp p) (hq : Nats sq q) (h0 : 0 < p) (h1 : p < q) (b1 : ((2 * q : Nat) : Int) < pw 256) :
    Contract F Try.prog 29 [frS false sp sq] (fun x => x = .b true) := by
  have hp' := hp
  have hq' := hq
  obtain ⟨a1, c1, z1, r1, x1, rfl, _⟩ := hp
  obtain ⟨a2, c2, z2, r2, x2, rfl, _⟩ := hq
  have e1 : 0 < (x1.length : Int) := by rw [hp'.len]; exact h0
  have e2 : 0 < (x2.length : Int) := by rw [hq'.len]; omega
  refine contract_of Try.func29 rfl (by kernel_rfl) ?_
  simp only [Try.ntmps29, argEnv, frS]
  (repeat refine Sat.seq ?_)
  (refine Sat.region_k fun k hk => ?_; simp -implicitDefEqProofs only [evr, id, reduceCtorEq, reduceIte, Nat.reduceMul, Nat.reduceAdd, Nat.reduceLT, Nat.reduceLeDiff, Nat.reduceEqDiff, Int.reduceLT, Int.reduceBEq, Int.reduceBNe, Nat.reduceBEq, List.append_nil, Int.toNat_zero, Nat.sub_self, frS])
  intro k1
  (refine hk _ ?_; clear hk k; try show Sat _ _ _ _ _)
  (repeat refine Sat.seq ?_)
  (refine Sat.region_k fun k hk => ?_; simp -implicitDefEqProofs only [evr, id, reduceCtorEq, reduceIte, Nat.reduceMul, Nat.reduceAdd, Nat.reduceLT, Nat.reduceLeDiff, Nat.reduceEqDiff, Int.reduceLT, Int.reduceBEq, Int.reduceBNe, Nat.reduceBEq, List.append_nil, Int.toNat_zero, Nat.sub_self, frS])
  refine wcall_slice (stSmallC F 1 (by decide)) rfl rfl ?_
  intro y hy
  have hy1 := hy
  obtain ⟨a3, c3, z3, r3, x3, rfl, _⟩ := hy
  simp -implicitDefEqProofs only [evr, id, reduceCtorEq, reduceIte, Nat.reduceMul, Nat.reduceAdd, Nat.reduceLT, Nat.reduceLeDiff, Nat.reduceEqDiff, Int.reduceLT, Int.reduceBEq, Int.reduceBNe, Nat.reduceBEq, List.append_nil, Int.toNat_zero, Nat.sub_self, frS]
  refine wcall_slice (stSmallC F 1 (by decide)) rfl rfl ?_
  intro y hy
  have hy2 := hy
  obtain ⟨a4, c4, z4, r4, x4, rfl, _⟩ := hy
  simp -implicitDefEqProofs only [evr, id, reduceCtorEq, reduceIte, Nat.reduceMul, Nat.reduceAdd, Nat.reduceLT, Nat.reduceLeDiff, Nat.reduceEqDiff, Int.reduceLT, Int.reduceBEq, Int.reduceBNe, Nat.reduceBEq, List.append_nil, Int.toNat_zero, Nat.sub_self, frS]
  intro k2
  (refine hk _ ?_; clear hk k; try show Sat _ _ _ _ _)
  (repeat refine Sat.seq ?_)
  (refine Sat.region_k fun k hk => ?_; simp -implicitDefEqProofs only [evr, id, reduceCtorEq, reduceIte, Nat.reduceMul, Nat.reduceAdd, Nat.reduceLT, Nat.reduceLeDiff, Nat.reduceEqDiff, Int.reduceLT, Int.reduceBEq, Int.reduceBNe, Nat.reduceBEq, List.append_nil, Int.toNat_zero, Nat.sub_self, frS])
  refine ⟨fun _ => ⟨fun _ => ?_, fun h => absurd e2 h⟩, fun h => absurd e1 h⟩
  refine wcall_plain (stBelowC F false false hp' hq' hy1 hy2 (by omega) (by omega) pw_one pw_one (by rw [Nat.mul_one]; omega) (by rw [Nat.one_mul]; omega) (by rw [Nat.mul_one, Nat.one_mul]; omega)) (by simp -implicitDefEqProofs only [evr, id, reduceCtorEq, reduceIte, Nat.reduceMul, Nat.reduceAdd, Nat.reduceLT, Nat.reduceLeDiff, Nat.reduceEqDiff, Int.reduceLT, Int.reduceBEq, Int.reduceBNe, Nat.reduceBEq, List.append_nil, Int.toNat_zero, Nat.sub_self, frS]; try rfl) (by rintro _ rfl; exact ok_plain rfl) ?_
  rintro y rfl
  have ed : decide (cmpV false p q false 1 1 < 0) = true := by
    rw [cmpV_pos, Nat.mul_one, Nat.one_mul, cmpI_lt (by omega)]
    rfl
  simp -implicitDefEqProofs only [evr, id, reduceCtorEq, reduceIte, Nat.reduceMul, Nat.reduceAdd, Nat.reduceLT, Nat.reduceLeDiff, Nat.reduceEqDiff, Int.reduceLT, Int.reduceBEq, Int.reduceBNe, Nat.reduceBEq, List.append_nil, Int.toNat_zero, Nat.sub_self, frS, ed]
  (refine hk _ ?_; clear hk k; try show Sat _ _ _ _ _)
  refine Sat.ret ?_
  simp only [Try.results29, evr, id, reduceCtorEq, reduceIte, Nat.reduceMul, Nat.reduceAdd, Nat.reduceLT, Nat.reduceLeDiff, Nat.reduceEqDiff, Int.reduceLT, Int.reduceBEq, Int.reduceBNe, Nat.reduceBEq, List.append_nil, Int.toNat_zero, Nat.sub_self, frS]
end Go.Proofs.Ytagmohpafjncfaa

/- Package stopping, by the evaluator: power, Onto, Missing. -/
set_option linter.unusedSimpArgs false
set_option linter.unusedVariables false
namespace Go.Proofs.Ytagmohpafjncfaa
open Eng Lmb
theorem zero_pow_step {o r k : Nat} (h : o * 0 ^ r = 0 ^ k) (hr : 0 < r) : 0 ^ k = 0 := by
  obtain ⟨q, rfl⟩ : ∃ q, r = q + 1 := ⟨r - 1, by omega⟩
  rw [Nat.pow_succ, Nat.mul_zero, Nat.mul_zero] at h
  exact h.symm
theorem half_e (r : Nat) : ((r : Int)).fdiv (2 ^ min (Int.toNat 1) IntKind.i64.bits) = ((r / 2 : Nat) : Int) := by
  have e1 : ((2 : Int) ^ min (Int.toNat 1) IntKind.i64.bits) = 2 := by decide
  rw [e1, Int.fdiv_eq_ediv_of_nonneg _ (by decide)]
  omega
set_option maxRecDepth 100000 in
theorem pow0C (F : Frm) {sa : SV} (k0 : Nat) (ha : Nats sa 0) (hk0 : k0 ≤ 65536) : Contract F Try.prog 56 [sa, .i .i64 k0] (natRes (0 ^ k0)) := by
  have ha' := ha
  obtain ⟨a1, c1, z1, r1, x1, rfl, _⟩ := ha
  refine contract_of Try.func56 rfl (by kernel_rfl) ?_
  simp only [Try.ntmps56, argEnv]
  (repeat refine Sat.seq ?_)
  (refine Sat.region_k fun k hk => ?_; simp -implicitDefEqProofs only [evr, id, reduceCtorEq, reduceIte, Nat.reduceMul, Nat.reduceAdd, Nat.reduceLT, Nat.reduceLeDiff, Nat.reduceEqDiff, Int.reduceLT, Int.reduceBEq, Int.reduceBNe, Nat.reduceBEq, List.append_nil, Int.toNat_zero, Nat.sub_self, frS]; refine hk _ ?_; clear hk k; try show Sat _ _ _ _ _)
  (repeat refine Sat.seq ?_)
  refine Sat.region_at ⟨46, [(14, .b false), (0, .sl a1 x1.length c1 z1 r1), (1, .i .i64 k0)], []⟩ (fun k hk => ?_) ?_
  · simp -implicitDefEqProofs only [evr, id, reduceCtorEq, reduceIte, Nat.reduceMul, Nat.reduceAdd, Nat.reduceLT, Nat.reduceLeDiff, Nat.reduceEqDiff, Int.reduceLT, Int.reduceBEq, Int.reduceBNe, Nat.reduceBEq, List.append_nil, Int.toNat_zero, Nat.sub_self, frS]
    refine ⟨fun h => ?_, fun h => ?_⟩
    · omega
    · refine hk _ ?_
      have e : decide (65536 < (k0 : Int)) = false := by simp; omega
      simp only [e]
      simp -implicitDefEqProofs only [evr, id, reduceCtorEq, reduceIte, Nat.reduceMul, Nat.reduceAdd, Nat.reduceLT, Nat.reduceLeDiff, Nat.reduceEqDiff, Int.reduceLT, Int.reduceBEq, Int.reduceBNe, Nat.reduceBEq, List.append_nil, Int.toNat_zero, Nat.sub_self, frS, evl]
  simp only [thenK]
  refine Sat.cond_b rfl (fun h => by cases h) (fun h => ?_)
  refine Sat.skip ?_
  simp only [thenK]
  (repeat refine Sat.seq ?_)
  (refine Sat.region_k fun k hk => ?_; simp -implicitDefEqProofs only [evr, id, reduceCtorEq, reduceIte, Nat.reduceMul, Nat.reduceAdd, Nat.reduceLT, Nat.reduceLeDiff, Nat.reduceEqDiff, Int.reduceLT, Int.reduceBEq, Int.reduceBNe, Nat.reduceBEq, List.append_nil, Int.toNat_zero, Nat.sub_self, frS])
  intro blk
  refine wcall_slice (cloneNatC F ha' (by have := pw_one; omega)) rfl rfl ?_
  intro y hy
  have hy1 := hy
  obtain ⟨a2, c2, z2, r2, x2, rfl, _⟩ := hy
  simp -implicitDefEqProofs only [evr, id, reduceCtorEq, reduceIte, Nat.reduceMul, Nat.reduceAdd, Nat.reduceLT, Nat.reduceLeDiff, Nat.reduceEqDiff, Int.reduceLT, Int.reduceBEq, Int.reduceBNe, Nat.reduceBEq, List.append_nil, Int.toNat_zero, Nat.sub_self, frS]
  (refine hk _ ?_; clear hk k; try show Sat _ _ _ _ _)
  have h1s : Nats (.sl (some ⟨blk, 0, none⟩) 1 1 1 (rdL [.i .i64 1] 1)) 1 := nats_of (xs := [1]) rfl (fun p hp => by have hp0 : p = 0 := by omega
                                                                                                                     subst hp0; rfl) (dig_one (x := 1) (by omega) (by omega))
  refine Sat.settle2 6 rfl rfl ?_
  simp -implicitDefEqProofs only [evr, id, reduceCtorEq, reduceIte, Nat.reduceMul, Nat.reduceAdd, Nat.reduceLT, Nat.reduceLeDiff, Nat.reduceEqDiff, Int.reduceLT, Int.reduceBEq, Int.reduceBNe, Nat.reduceBEq, List.append_nil, Int.toNat_zero, Nat.sub_self, frS]
  (repeat refine Sat.seq ?_)
  refine Sat.block ?_
  (repeat refine Sat.seq ?_)
  refine Sat.loop (ι := Nat × SV × SV) (fun x => ⟨46, [(1, .i .i64 x.1), (6, x.2.1), (7, x.2.2)], []⟩)
    (fun x => x.1 ≤ 65536 ∧ (∃ o, Nats x.2.1 o ∧ o ≤ 1 ∧ o * 0 ^ x.1 = 0 ^ k0) ∧ Nats x.2.2 0) (fun x => x.1) (k0, .sl (some ⟨blk, 0, none⟩) 1 1 1 (rdL [.i .i64 1] 1), .sl a2 x2.length c2 z2 r2) ⟨hk0, ⟨1, h1s, by omega, Nat.one_mul _⟩, hy1⟩ (by simp -implicitDefEqProofs only [evr, id, reduceCtorEq, reduceIte, Nat.reduceMul, Nat.reduceAdd, Nat.reduceLT, Nat.reduceLeDiff, Nat.reduceEqDiff, Int.reduceLT, Int.reduceBEq, Int.reduceBNe, Nat.reduceBEq, List.append_nil, Int.toNat_zero, Nat.sub_self, frS, evl]; try rfl) ?_
  rintro ⟨r, so, sq⟩ ⟨hr, ⟨o, ho, ho1, hoe⟩, hs⟩
  simp only at hr ho ho1 hoe hs ⊢
  have ho' := ho
  have hs0 := hs
  obtain ⟨a3, c3, z3, r3, x3, rfl, _⟩ := ho
  obtain ⟨a4, c4, z4, r4, x4, rfl, _⟩ := hs
  (repeat refine Sat.seq ?_)
  (refine Sat.region_k fun k hk => ?_; simp -implicitDefEqProofs only [evr, id, reduceCtorEq, reduceIte, Nat.reduceMul, Nat.reduceAdd, Nat.reduceLT, Nat.reduceLeDiff, Nat.reduceEqDiff, Int.reduceLT, Int.reduceBEq, Int.reduceBNe, Nat.reduceBEq, List.append_nil, Int.toNat_zero, Nat.sub_self, frS]; refine hk _ ?_; clear hk k; try show Sat _ _ _ _ _)
  (repeat refine Sat.seq ?_)
  refine Sat.cond_b rfl (fun h => ?_) (fun h => ?_)
  · simp only [decide_eq_true_eq] at h
    have hr0 : 0 < r := by omega
    have hz := zero_pow_step hoe hr0
    refine Sat.skip ?_
    simp only [thenK]
    (repeat refine Sat.seq ?_)
    refine Sat.block ?_
    (repeat refine Sat.seq ?_)
    (refine Sat.region_k fun k hk => ?_; simp -implicitDefEqProofs only [evr, id, reduceCtorEq, reduceIte, Nat.reduceMul, Nat.reduceAdd, Nat.reduceLT, Nat.reduceLeDiff, Nat.reduceEqDiff, Int.reduceLT, Int.reduceBEq, Int.reduceBNe, Nat.reduceBEq, List.append_nil, Int.toNat_zero, Nat.sub_self, frS]; refine hk _ ?_; clear hk k; try show Sat _ _ _ _ _)
    (repeat refine Sat.seq ?_)
    refine Sat.region_k fun k hk => ?_
    simp -implicitDefEqProofs only [evr, id, reduceCtorEq, reduceIte, Nat.reduceMul, Nat.reduceAdd, Nat.reduceLT, Nat.reduceLeDiff, Nat.reduceEqDiff, Int.reduceLT, Int.reduceBEq, Int.reduceBNe, Nat.reduceBEq, List.append_nil, Int.toNat_zero, Nat.sub_self, frS, Zn.and_one]
    (refine hk _ ?_; clear hk k; try show Sat _ _ _ _ _)
    (repeat refine Sat.seq ?_)
    refine Sat.cond_b rfl (fun h5 => ?_) (fun h5 => ?_)
    · (repeat refine Sat.seq ?_)
      (refine Sat.region_k fun k hk => ?_; simp -implicitDefEqProofs only [evr, id, reduceCtorEq, reduceIte, Nat.reduceMul, Nat.reduceAdd, Nat.reduceLT, Nat.reduceLeDiff, Nat.reduceEqDiff, Int.reduceLT, Int.reduceBEq, Int.reduceBNe, Nat.reduceBEq, List.append_nil, Int.toNat_zero, Nat.sub_self, frS])
      refine wcall_slice (mulC F ho' hs0 (by have := pw_one; omega) (by have := pw_one; omega) (by have := pw_one; omega)) rfl rfl ?_
      rintro y ⟨s, rfl, hy⟩
      have hs5 := hy
      obtain ⟨a5, c5, z5, r5, x5, rfl, _⟩ := hy
      simp -implicitDefEqProofs only [evr, id, reduceCtorEq, reduceIte, Nat.reduceMul, Nat.reduceAdd, Nat.reduceLT, Nat.reduceLeDiff, Nat.reduceEqDiff, Int.reduceLT, Int.reduceBEq, Int.reduceBNe, Nat.reduceBEq, List.append_nil, Int.toNat_zero, Nat.sub_self, frS]
      (refine hk _ ?_; clear hk k; try show Sat _ _ _ _ _)
      (repeat refine Sat.seq ?_)
      (refine Sat.region_k fun k hk => ?_; simp -implicitDefEqProofs only [evr, id, reduceCtorEq, reduceIte, Nat.reduceMul, Nat.reduceAdd, Nat.reduceLT, Nat.reduceLeDiff, Nat.reduceEqDiff, Int.reduceLT, Int.reduceBEq, Int.reduceBNe, Nat.reduceBEq, List.append_nil, Int.toNat_zero, Nat.sub_self, frS]; refine hk _ ?_; clear hk k; try show Sat _ _ _ _ _)
      refine Sat.cond_b rfl (fun h => by cases h) (fun h => ?_)
      refine Sat.skip ?_
      simp only [thenK, blockK]
      (repeat refine Sat.seq ?_)
      (refine Sat.region_k fun k hk => ?_; simp -implicitDefEqProofs only [evr, id, reduceCtorEq, reduceIte, Nat.reduceMul, Nat.reduceAdd, Nat.reduceLT, Nat.reduceLeDiff, Nat.reduceEqDiff, Int.reduceLT, Int.reduceBEq, Int.reduceBNe, Nat.reduceBEq, List.append_nil, Int.toNat_zero, Nat.sub_self, frS]; refine hk _ ?_; clear hk k; try show Sat _ _ _ _ _)
      (repeat refine Sat.seq ?_)
      refine Sat.cond_b rfl (fun h => ?_) (fun h => ?_)
      · simp only [decide_eq_true_eq] at h
        (repeat refine Sat.seq ?_)
        (refine Sat.region_k fun k hk => ?_; simp -implicitDefEqProofs only [evr, id, reduceCtorEq, reduceIte, Nat.reduceMul, Nat.reduceAdd, Nat.reduceLT, Nat.reduceLeDiff, Nat.reduceEqDiff, Int.reduceLT, Int.reduceBEq, Int.reduceBNe, Nat.reduceBEq, List.append_nil, Int.toNat_zero, Nat.sub_self, frS])
        refine wcall_slice (mulC F hs0 hs0 (by have := pw_one; omega) (by have := pw_one; omega) (by have := pw_one; omega)) rfl rfl ?_
        rintro y ⟨s, rfl, hy⟩
        have hs1 := hy
        obtain ⟨a7, c7, z7, r7, x7, rfl, _⟩ := hy
        simp -implicitDefEqProofs only [evr, id, reduceCtorEq, reduceIte, Nat.reduceMul, Nat.reduceAdd, Nat.reduceLT, Nat.reduceLeDiff, Nat.reduceEqDiff, Int.reduceLT, Int.reduceBEq, Int.reduceBNe, Nat.reduceBEq, List.append_nil, Int.toNat_zero, Nat.sub_self, frS]
        (refine hk _ ?_; clear hk k; try show Sat _ _ _ _ _)
        (repeat refine Sat.seq ?_)
        (refine Sat.region_k fun k hk => ?_; simp -implicitDefEqProofs only [evr, id, reduceCtorEq, reduceIte, Nat.reduceMul, Nat.reduceAdd, Nat.reduceLT, Nat.reduceLeDiff, Nat.reduceEqDiff, Int.reduceLT, Int.reduceBEq, Int.reduceBNe, Nat.reduceBEq, List.append_nil, Int.toNat_zero, Nat.sub_self, frS]; refine hk _ ?_; clear hk k; try show Sat _ _ _ _ _)
        refine Sat.cond_b rfl (fun h => by cases h) (fun h => ?_)
        refine Sat.skip ?_
        simp only [thenK, blockK]
        (repeat refine Sat.seq ?_)
        (refine Sat.region_k fun k hk => ?_; simp -implicitDefEqProofs only [evr, id, reduceCtorEq, reduceIte, Nat.reduceMul, Nat.reduceAdd, Nat.reduceLT, Nat.reduceLeDiff, Nat.reduceEqDiff, Int.reduceLT, Int.reduceBEq, Int.reduceBNe, Nat.reduceBEq, List.append_nil, Int.toNat_zero, Nat.sub_self, frS])
        refine ⟨by decide, ?_⟩
        refine hk _ ?_
        simp only [thenK, blockK]
        refine ⟨(r / 2, _, _), ⟨by show r / 2 ≤ 65536; omega, ⟨0, hs5, by omega, by rw [hz, Nat.zero_mul]⟩, hs1⟩, by show r / 2 < r; omega, ?_⟩
        simp -implicitDefEqProofs only [evr, id, reduceCtorEq, reduceIte, Nat.reduceMul, Nat.reduceAdd, Nat.reduceLT, Nat.reduceLeDiff, Nat.reduceEqDiff, Int.reduceLT, Int.reduceBEq, Int.reduceBNe, Nat.reduceBEq, List.append_nil, Int.toNat_zero, Nat.sub_self, frS, evl]
        try exact half_e r
      · simp only [decide_eq_false_iff_not] at h
        refine Sat.skip ?_
        simp only [thenK, blockK]
        (repeat refine Sat.seq ?_)
        (refine Sat.region_k fun k hk => ?_; simp -implicitDefEqProofs only [evr, id, reduceCtorEq, reduceIte, Nat.reduceMul, Nat.reduceAdd, Nat.reduceLT, Nat.reduceLeDiff, Nat.reduceEqDiff, Int.reduceLT, Int.reduceBEq, Int.reduceBNe, Nat.reduceBEq, List.append_nil, Int.toNat_zero, Nat.sub_self, frS])
        refine ⟨by decide, ?_⟩
        refine hk _ ?_
        simp only [thenK, blockK]
        refine ⟨(r / 2, _, _), ⟨by show r / 2 ≤ 65536; omega, ⟨0, hs5, by omega, by rw [hz, Nat.zero_mul]⟩, hs0⟩, by show r / 2 < r; omega, ?_⟩
        simp -implicitDefEqProofs only [evr, id, reduceCtorEq, reduceIte, Nat.reduceMul, Nat.reduceAdd, Nat.reduceLT, Nat.reduceLeDiff, Nat.reduceEqDiff, Int.reduceLT, Int.reduceBEq, Int.reduceBNe, Nat.reduceBEq, List.append_nil, Int.toNat_zero, Nat.sub_self, frS, evl]
        try exact half_e r
    · refine Sat.skip ?_
      simp only [thenK, blockK]
      have h6 : r % 2 = 0 := by simp only [beq_eq_false_iff_ne] at h5; omega
      have h7 : o * 0 ^ (r / 2) = 0 ^ k0 := by
        obtain ⟨q, hq⟩ : ∃ q, r / 2 = q + 1 := ⟨r / 2 - 1, by omega⟩
        rw [hq, Nat.pow_succ, Nat.mul_zero, Nat.mul_zero, hz]
      (repeat refine Sat.seq ?_)
      (refine Sat.region_k fun k hk => ?_; simp -implicitDefEqProofs only [evr, id, reduceCtorEq, reduceIte, Nat.reduceMul, Nat.reduceAdd, Nat.reduceLT, Nat.reduceLeDiff, Nat.reduceEqDiff, Int.reduceLT, Int.reduceBEq, Int.reduceBNe, Nat.reduceBEq, List.append_nil, Int.toNat_zero, Nat.sub_self, frS]; refine hk _ ?_; clear hk k; try show Sat _ _ _ _ _)
      (repeat refine Sat.seq ?_)
      refine Sat.cond_b rfl (fun h => ?_) (fun h => ?_)
      · simp only [decide_eq_true_eq] at h
        (repeat refine Sat.seq ?_)
        (refine Sat.region_k fun k hk => ?_; simp -implicitDefEqProofs only [evr, id, reduceCtorEq, reduceIte, Nat.reduceMul, Nat.reduceAdd, Nat.reduceLT, Nat.reduceLeDiff, Nat.reduceEqDiff, Int.reduceLT, Int.reduceBEq, Int.reduceBNe, Nat.reduceBEq, List.append_nil, Int.toNat_zero, Nat.sub_self, frS])
        refine wcall_slice (mulC F hs0 hs0 (by have := pw_one; omega) (by have := pw_one; omega) (by have := pw_one; omega)) rfl rfl ?_
        rintro y ⟨s, rfl, hy⟩
        have hs1 := hy
        obtain ⟨a7, c7, z7, r7, x7, rfl, _⟩ := hy
        simp -implicitDefEqProofs only [evr, id, reduceCtorEq, reduceIte, Nat.reduceMul, Nat.reduceAdd, Nat.reduceLT, Nat.reduceLeDiff, Nat.reduceEqDiff, Int.reduceLT, Int.reduceBEq, Int.reduceBNe, Nat.reduceBEq, List.append_nil, Int.toNat_zero, Nat.sub_self, frS]
        (refine hk _ ?_; clear hk k; try show Sat _ _ _ _ _)
        (repeat refine Sat.seq ?_)
        (refine Sat.region_k fun k hk => ?_; simp -implicitDefEqProofs only [evr, id, reduceCtorEq, reduceIte, Nat.reduceMul, Nat.reduceAdd, Nat.reduceLT, Nat.reduceLeDiff, Nat.reduceEqDiff, Int.reduceLT, Int.reduceBEq, Int.reduceBNe, Nat.reduceBEq, List.append_nil, Int.toNat_zero, Nat.sub_self, frS]; refine hk _ ?_; clear hk k; try show Sat _ _ _ _ _)
        refine Sat.cond_b rfl (fun h => by cases h) (fun h => ?_)
        refine Sat.skip ?_
        simp only [thenK, blockK]
        (repeat refine Sat.seq ?_)
        (refine Sat.region_k fun k hk => ?_; simp -implicitDefEqProofs only [evr, id, reduceCtorEq, reduceIte, Nat.reduceMul, Nat.reduceAdd, Nat.reduceLT, Nat.reduceLeDiff, Nat.reduceEqDiff, Int.reduceLT, Int.reduceBEq, Int.reduceBNe, Nat.reduceBEq, List.append_nil, Int.toNat_zero, Nat.sub_self, frS])
        refine ⟨by decide, ?_⟩
        refine hk _ ?_
        simp only [thenK, blockK]
        refine ⟨(r / 2, _, _), ⟨by show r / 2 ≤ 65536; omega, ⟨o, ho', ho1, h7⟩, hs1⟩, by show r / 2 < r; omega, ?_⟩
        simp -implicitDefEqProofs only [evr, id, reduceCtorEq, reduceIte, Nat.reduceMul, Nat.reduceAdd, Nat.reduceLT, Nat.reduceLeDiff, Nat.reduceEqDiff, Int.reduceLT, Int.reduceBEq, Int.reduceBNe, Nat.reduceBEq, List.append_nil, Int.toNat_zero, Nat.sub_self, frS, evl]
        try exact half_e r
      · simp only [decide_eq_false_iff_not] at h
        refine Sat.skip ?_
        simp only [thenK, blockK]
        (repeat refine Sat.seq ?_)
        (refine Sat.region_k fun k hk => ?_; simp -implicitDefEqProofs only [evr, id, reduceCtorEq, reduceIte, Nat.reduceMul, Nat.reduceAdd, Nat.reduceLT, Nat.reduceLeDiff, Nat.reduceEqDiff, Int.reduceLT, Int.reduceBEq, Int.reduceBNe, Nat.reduceBEq, List.append_nil, Int.toNat_zero, Nat.sub_self, frS])
        refine ⟨by decide, ?_⟩
        refine hk _ ?_
        simp only [thenK, blockK]
        refine ⟨(r / 2, _, _), ⟨by show r / 2 ≤ 65536; omega, ⟨o, ho', ho1, h7⟩, hs0⟩, by show r / 2 < r; omega, ?_⟩
        simp -implicitDefEqProofs only [evr, id, reduceCtorEq, reduceIte, Nat.reduceMul, Nat.reduceAdd, Nat.reduceLT, Nat.reduceLeDiff, Nat.reduceEqDiff, Int.reduceLT, Int.reduceBEq, Int.reduceBNe, Nat.reduceBEq, List.append_nil, Int.toNat_zero, Nat.sub_self, frS, evl]
        try exact half_e r
  · simp only [decide_eq_false_iff_not] at h
    obtain rfl : r = 0 := by omega
    refine Sat.exit ?_
    simp only [thenK, blockK, reduceIte]
    (repeat refine Sat.seq ?_)
    (refine Sat.region_k fun k hk => ?_; simp -implicitDefEqProofs only [evr, id, reduceCtorEq, reduceIte, Nat.reduceMul, Nat.reduceAdd, Nat.reduceLT, Nat.reduceLeDiff, Nat.reduceEqDiff, Int.reduceLT, Int.reduceBEq, Int.reduceBNe, Nat.reduceBEq, List.append_nil, Int.toNat_zero, Nat.sub_self, frS]; refine hk _ ?_; clear hk k; try show Sat _ _ _ _ _)
    refine Sat.ret ?_
    simp only [Try.results56, evr, id, reduceCtorEq, reduceIte, Nat.reduceMul, Nat.reduceAdd, Nat.reduceLT, Nat.reduceLeDiff, Nat.reduceEqDiff, Int.reduceLT, Int.reduceBEq, Int.reduceBNe, Nat.reduceBEq, List.append_nil, Int.toNat_zero, Nat.sub_self, frS]
    rw [Nat.pow_zero, Nat.mul_one] at hoe
    exact ⟨_, rfl, by rw [← hoe]; exact ho'⟩
def xb : Nat := 512
theorem xb_eq : xb = 512 := rfl
attribute [irreducible] xb
theorem pow_bits (a n : Nat) : (2 ^ a) ^ n = 2 ^ (a * n) := (Nat.pow_mul 2 a n).symm
theorem kn_le {k n : Nat} (hk : k ≤ 16) (hn : n ≤ 128) : k ^ n ≤ 2 ^ xb := by
  have h1 : k ^ n ≤ (2 ^ 4) ^ n := Nat.pow_le_pow_left (show k ≤ 2 ^ 4 from hk) n
  rw [pow_bits] at h1
  exact Nat.le_trans h1 (Nat.pow_le_pow_right (by decide) (by rw [xb_eq]; omega))
theorem lt_pw_add {x y a b : Nat} (hx : x ≤ 2 ^ a) (hy : y ≤ 2 ^ b) (h : a + b + 1 < 30 * 256) : ((x + y : Nat) : Int) < pw 256 := by
  refine lt_pw (a := a + b + 1) ?_ h
  have h1 : 2 ^ a ≤ 2 ^ (a + b) := Nat.pow_le_pow_right (by decide) (by omega)
  have h2 : 2 ^ b ≤ 2 ^ (a + b) := Nat.pow_le_pow_right (by decide) (by omega)
  rw [Nat.pow_succ]
  omega
theorem kn_pw {k n : Nat} (hk : k ≤ 16) (hn : n ≤ 128) : ((k ^ n : Nat) : Int) < pw 256 := lt_pw (kn_le hk hn) (by rw [xb_eq]; decide)
set_option maxRecDepth 100000 in
theorem stPowerC (F : Frm) (m n : Nat) (hk0 : m ≤ 16) (hn : n ≤ 128) : Contract F Try.prog 31 [.i .i64 m, .i .i64 n] (fun r => Nats r (m ^ n)) := by
  refine contract_of Try.func31 rfl (by kernel_rfl) ?_
  simp only [Try.ntmps31, argEnv]
  (repeat refine Sat.seq ?_)
  (refine Sat.region_k fun k hk => ?_; simp -implicitDefEqProofs only [evr, id, reduceCtorEq, reduceIte, Nat.reduceMul, Nat.reduceAdd, Nat.reduceLT, Nat.reduceLeDiff, Nat.reduceEqDiff, Int.reduceLT, Int.reduceBEq, Int.reduceBNe, Nat.reduceBEq, List.append_nil, Int.toNat_zero, Nat.sub_self, frS]; refine hk _ ?_; clear hk k; try show Sat _ _ _ _ _)
  (repeat refine Sat.seq ?_)
  (refine Sat.region_k fun k hk => ?_; simp -implicitDefEqProofs only [evr, id, reduceCtorEq, reduceIte, Nat.reduceMul, Nat.reduceAdd, Nat.reduceLT, Nat.reduceLeDiff, Nat.reduceEqDiff, Int.reduceLT, Int.reduceBEq, Int.reduceBNe, Nat.reduceBEq, List.append_nil, Int.toNat_zero, Nat.sub_self, frS])
  refine wcall_slice (stSmallC F m (by omega)) rfl rfl ?_
  intro y hy
  have hy1 := hy
  obtain ⟨a2, c2, z2, r2, x2, rfl, _⟩ := hy
  simp -implicitDefEqProofs only [evr, id, reduceCtorEq, reduceIte, Nat.reduceMul, Nat.reduceAdd, Nat.reduceLT, Nat.reduceLeDiff, Nat.reduceEqDiff, Int.reduceLT, Int.reduceBEq, Int.reduceBNe, Nat.reduceBEq, List.append_nil, Int.toNat_zero, Nat.sub_self, frS]
  have hc : Contract F Try.prog 56 [.sl a2 x2.length c2 z2 r2, .i .i64 n] (natRes (m ^ n)) := by
    rcases Nat.eq_zero_or_pos m with rfl | h0
    · exact pow0C F n hy1 (by omega)
    · exact powC F n hy1 h0 (lt_pw (a := 4) (by omega) (by decide)) rfl (by omega) (kn_pw hk0 hn)
  refine wcall_slice hc rfl rfl ?_
  rintro y ⟨s, rfl, hy⟩
  have hs5 := hy
  obtain ⟨a5, c5, z5, r5, x5, rfl, _⟩ := hy
  simp -implicitDefEqProofs only [evr, id, reduceCtorEq, reduceIte, Nat.reduceMul, Nat.reduceAdd, Nat.reduceLT, Nat.reduceLeDiff, Nat.reduceEqDiff, Int.reduceLT, Int.reduceBEq, Int.reduceBNe, Nat.reduceBEq, List.append_nil, Int.toNat_zero, Nat.sub_self, frS]
  (refine hk _ ?_; clear hk k; try show Sat _ _ _ _ _)
  (repeat refine Sat.seq ?_)
  (refine Sat.region_k fun k hk => ?_; simp -implicitDefEqProofs only [evr, id, reduceCtorEq, reduceIte, Nat.reduceMul, Nat.reduceAdd, Nat.reduceLT, Nat.reduceLeDiff, Nat.reduceEqDiff, Int.reduceLT, Int.reduceBEq, Int.reduceBNe, Nat.reduceBEq, List.append_nil, Int.toNat_zero, Nat.sub_self, frS]; refine hk _ ?_; clear hk k; try show Sat _ _ _ _ _)
  refine Sat.ret ?_
  simp only [Try.results31, evr, id, reduceCtorEq, reduceIte, Nat.reduceMul, Nat.reduceAdd, Nat.reduceLT, Nat.reduceLeDiff, Nat.reduceEqDiff, Int.reduceLT, Int.reduceBEq, Int.reduceBNe, Nat.reduceBEq, List.append_nil, Int.toNat_zero, Nat.sub_self, frS]
  exact hs5
def ontoT (n k i : Nat) : Nat := binom k i * (k - i) ^ n
theorem ontoT_le {n k : Nat} (hk : k ≤ 16) (hn : n ≤ 128) (i : Nat) : ontoT n k i ≤ 2 ^ (16 + xb) := by
  unfold ontoT
  have h1 := binom_le k i
  have h2 : (2 : Nat) ^ k ≤ 2 ^ 16 := Nat.pow_le_pow_right (by decide) hk
  exact mul_two (a := 16) (b := xb) (Nat.le_trans h1 h2) (kn_le (by omega) hn)
theorem sumE_le {f : Nat → Nat} {B : Nat} (h : ∀ i, f i ≤ B) : ∀ m, sumE f m ≤ m * B
  | 0 => by simp [sumE]
  | m + 1 => by
    have := sumE_le h m
    have := h m
    simp only [sumE, Nat.add_mul, Nat.one_mul]
    split <;> omega
theorem sumO_le {f : Nat → Nat} {B : Nat} (h : ∀ i, f i ≤ B) : ∀ m, sumO f m ≤ m * B
  | 0 => by simp [sumO]
  | m + 1 => by
    have := sumO_le h m
    have := h m
    simp only [sumO, Nat.add_mul, Nat.one_mul]
    split <;> omega
theorem sumE_pw {n k : Nat} (hk : k ≤ 16) (hn : n ≤ 128) {m : Nat} (hm : m ≤ 18) : ((sumE (ontoT n k) m : Nat) : Int) < pw 256 := by
  refine lt_pw (a := 12 + (16 + xb)) (Nat.le_trans (sumE_le (ontoT_le hk hn) m) ?_) (by rw [xb_eq]; decide)
  exact mul_two (a := 12) (b := 16 + xb) (Nat.le_trans hm (by decide)) (Nat.le_refl _)
theorem sumO_pw {n k : Nat} (hk : k ≤ 16) (hn : n ≤ 128) {m : Nat} (hm : m ≤ 18) : ((sumO (ontoT n k) m : Nat) : Int) < pw 256 := by
  refine lt_pw (a := 12 + (16 + xb)) (Nat.le_trans (sumO_le (ontoT_le hk hn) m) ?_) (by rw [xb_eq]; decide)
  exact mul_two (a := 12) (b := 16 + xb) (Nat.le_trans hm (by decide)) (Nat.le_refl _)
theorem onto_cnt (n k : Nat) : sumO (ontoT n k) (k + 1) ≤ sumE (ontoT n k) (k + 1) ∧ sumE (ontoT n k) (k + 1) - sumO (ontoT n k) (k + 1) = cnt k n k := onto_sum n k
set_option maxRecDepth 100000 in
theorem stOntoC (F : Frm) (n m : Nat) (hn : n ≤ 128) (hk0 : m ≤ 16) : Contract F Try.prog 16 [.i .i64 n, .i .i64 m] (natRes (cnt m n m)) := by
  refine contract_of Try.func16 rfl (by kernel_rfl) ?_
  simp only [Try.ntmps16, argEnv]
  have ek : IntKind.i64.wrap ((m : Int) + 1) = ((m + 1 : Nat) : Int) := by rw [w64 (by omega)]; omega
  (repeat refine Sat.seq ?_)
  (refine Sat.region_k fun k hk => ?_; simp -implicitDefEqProofs only [evr, id, reduceCtorEq, reduceIte, Nat.reduceMul, Nat.reduceAdd, Nat.reduceLT, Nat.reduceLeDiff, Nat.reduceEqDiff, Int.reduceLT, Int.reduceBEq, Int.reduceBNe, Nat.reduceBEq, List.append_nil, Int.toNat_zero, Nat.sub_self, frS]; refine hk _ ?_; clear hk k; try show Sat _ _ _ _ _)
  (repeat refine Sat.seq ?_)
  refine Sat.region_at ⟨63, [(27, .b false), (0, .i .i64 n), (1, .i .i64 m)], []⟩ (fun k' hk => ?_) ?_
  · simp -implicitDefEqProofs only [evr, id, reduceCtorEq, reduceIte, Nat.reduceMul, Nat.reduceAdd, Nat.reduceLT, Nat.reduceLeDiff, Nat.reduceEqDiff, Int.reduceLT, Int.reduceBEq, Int.reduceBNe, Nat.reduceBEq, List.append_nil, Int.toNat_zero, Nat.sub_self, frS]
    refine ⟨fun h => by omega, fun h => ⟨fun h => by omega, fun h => ⟨fun h => by omega, fun h => ?_⟩⟩⟩
    refine hk _ ?_
    have e : decide (16 < (m : Int)) = false := by simp; omega
    simp only [e]
    simp -implicitDefEqProofs only [evr, id, reduceCtorEq, reduceIte, Nat.reduceMul, Nat.reduceAdd, Nat.reduceLT, Nat.reduceLeDiff, Nat.reduceEqDiff, Int.reduceLT, Int.reduceBEq, Int.reduceBNe, Nat.reduceBEq, List.append_nil, Int.toNat_zero, Nat.sub_self, frS, evl]
  simp only [thenK]
  refine Sat.cond_b rfl (fun h => by cases h) (fun h => ?_)
  refine Sat.skip ?_
  simp only [thenK]
  (repeat refine Sat.seq ?_)
  (refine Sat.region_k fun k hk => ?_; simp -implicitDefEqProofs only [evr, id, reduceCtorEq, reduceIte, Nat.reduceMul, Nat.reduceAdd, Nat.reduceLT, Nat.reduceLeDiff, Nat.reduceEqDiff, Int.reduceLT, Int.reduceBEq, Int.reduceBNe, Nat.reduceBEq, List.append_nil, Int.toNat_zero, Nat.sub_self, frS]; refine hk _ ?_; clear hk k; try show Sat _ _ _ _ _)
  (repeat refine Sat.seq ?_)
  refine Sat.region_k fun k' hk => ?_
  simp -implicitDefEqProofs only [evr, id, reduceCtorEq, reduceIte, Nat.reduceMul, Nat.reduceAdd, Nat.reduceLT, Nat.reduceLeDiff, Nat.reduceEqDiff, Int.reduceLT, Int.reduceBEq, Int.reduceBNe, Nat.reduceBEq, List.append_nil, Int.toNat_zero, Nat.sub_self, frS, ek]
  refine hk _ ?_
  clear hk k'
  (repeat refine Sat.seq ?_)
  refine Sat.block ?_
  (repeat refine Sat.seq ?_)
  refine Sat.loop (ι := Nat × SV × SV) (fun x => ⟨63, [(30, .i .i64 x.1), (29, .i .i64 (m + 1 : Nat)), (0, .i .i64 n), (1, .i .i64 m), (6, x.2.1), (7, x.2.2)], []⟩)
    (fun x => x.1 ≤ m + 1 ∧ Nats x.2.1 (sumE (ontoT n m) x.1) ∧ Nats x.2.2 (sumO (ontoT n m) x.1)) (fun x => m + 1 - x.1) (0, .sl none 0 0 0 (fun _ _ => .v undef), .sl none 0 0 0 (fun _ _ => .v undef)) ⟨by omega, Nats.nil, Nats.nil⟩ (by simp -implicitDefEqProofs only [evr, id, reduceCtorEq, reduceIte, Nat.reduceMul, Nat.reduceAdd, Nat.reduceLT, Nat.reduceLeDiff, Nat.reduceEqDiff, Int.reduceLT, Int.reduceBEq, Int.reduceBNe, Nat.reduceBEq, List.append_nil, Int.toNat_zero, Nat.sub_self, frS, evl]; try rfl) ?_
  rintro ⟨i, se, so⟩ ⟨hi, he, ho⟩
  simp only at hi he ho ⊢
  have he' := he
  have ho' := ho
  obtain ⟨a3, c3, z3, r3, x3, rfl, _⟩ := he
  obtain ⟨a4, c4, z4, r4, x4, rfl, _⟩ := ho
  (repeat refine Sat.seq ?_)
  (refine Sat.region_k fun k hk => ?_; simp -implicitDefEqProofs only [evr, id, reduceCtorEq, reduceIte, Nat.reduceMul, Nat.reduceAdd, Nat.reduceLT, Nat.reduceLeDiff, Nat.reduceEqDiff, Int.reduceLT, Int.reduceBEq, Int.reduceBNe, Nat.reduceBEq, List.append_nil, Int.toNat_zero, Nat.sub_self, frS]; refine hk _ ?_; clear hk k; try show Sat _ _ _ _ _)
  (repeat refine Sat.seq ?_)
  refine Sat.cond_b rfl (fun h => ?_) (fun h => ?_)
  · simp only [decide_eq_true_eq] at h
    have hik : i ≤ m := by omega
    have ei : IntKind.i64.wrap ((m : Int) - (i : Int)) = ((m - i : Nat) : Int) := by rw [w64 (by omega)]; omega
    have ei1 : IntKind.i64.wrap ((i : Int) + 1) = ((i + 1 : Nat) : Int) := by rw [w64 (by omega)]; omega
    have em : (((i : Int).tmod 2) == 0) = decide (i % 2 = 0) := by
      rw [Int.tmod_eq_emod_of_nonneg (by omega)]
      by_cases h9 : i % 2 = 0
      · rw [decide_eq_true h9, beq_iff_eq]; omega
      · rw [decide_eq_false h9, beq_eq_false_iff_ne]; omega
    refine Sat.skip ?_
    simp only [thenK]
    (repeat refine Sat.seq ?_)
    refine Sat.block ?_
    (repeat refine Sat.seq ?_)
    (refine Sat.region_k fun k hk => ?_; simp -implicitDefEqProofs only [evr, id, reduceCtorEq, reduceIte, Nat.reduceMul, Nat.reduceAdd, Nat.reduceLT, Nat.reduceLeDiff, Nat.reduceEqDiff, Int.reduceLT, Int.reduceBEq, Int.reduceBNe, Nat.reduceBEq, List.append_nil, Int.toNat_zero, Nat.sub_self, frS]; refine hk _ ?_; clear hk k; try show Sat _ _ _ _ _)
    (repeat refine Sat.seq ?_)
    (refine Sat.region_k fun k hk => ?_; simp -implicitDefEqProofs only [evr, id, reduceCtorEq, reduceIte, Nat.reduceMul, Nat.reduceAdd, Nat.reduceLT, Nat.reduceLeDiff, Nat.reduceEqDiff, Int.reduceLT, Int.reduceBEq, Int.reduceBNe, Nat.reduceBEq, List.append_nil, Int.toNat_zero, Nat.sub_self, frS])
    refine wcall_slice (chooseC F m i (by omega) (by omega)) rfl rfl ?_
    rintro y ⟨s, rfl, hy⟩
    have hs5 := hy
    obtain ⟨a5, c5, z5, r5, x5, rfl, _⟩ := hy
    simp -implicitDefEqProofs only [evr, id, reduceCtorEq, reduceIte, Nat.reduceMul, Nat.reduceAdd, Nat.reduceLT, Nat.reduceLeDiff, Nat.reduceEqDiff, Int.reduceLT, Int.reduceBEq, Int.reduceBNe, Nat.reduceBEq, List.append_nil, Int.toNat_zero, Nat.sub_self, frS]
    (refine hk _ ?_; clear hk k; try show Sat _ _ _ _ _)
    (repeat refine Sat.seq ?_)
    refine Sat.region_k fun k' hk => ?_
    simp -implicitDefEqProofs only [evr, id, reduceCtorEq, reduceIte, Nat.reduceMul, Nat.reduceAdd, Nat.reduceLT, Nat.reduceLeDiff, Nat.reduceEqDiff, Int.reduceLT, Int.reduceBEq, Int.reduceBNe, Nat.reduceBEq, List.append_nil, Int.toNat_zero, Nat.sub_self, frS, ei]
    refine wcall_slice (stPowerC F (m - i) n (by omega) hn) rfl rfl ?_
    intro y hy
    have hs6 := hy
    obtain ⟨a6, c6, z6, r6, x6, rfl, _⟩ := hy
    simp -implicitDefEqProofs only [evr, id, reduceCtorEq, reduceIte, Nat.reduceMul, Nat.reduceAdd, Nat.reduceLT, Nat.reduceLeDiff, Nat.reduceEqDiff, Int.reduceLT, Int.reduceBEq, Int.reduceBNe, Nat.reduceBEq, List.append_nil, Int.toNat_zero, Nat.sub_self, frS]
    refine wcall_slice (stTimesC F hs5 hs6 (Zn.binom_pw (by omega) i) (kn_pw (by omega) hn) (lt_pw (ontoT_le hk0 hn i) (by rw [xb_eq]; decide))) rfl rfl ?_
    intro y hy
    have hs7 : Nats y (ontoT n m i) := hy
    obtain ⟨a7, c7, z7, r7, x7, rfl, _⟩ := hy
    simp -implicitDefEqProofs only [evr, id, reduceCtorEq, reduceIte, Nat.reduceMul, Nat.reduceAdd, Nat.reduceLT, Nat.reduceLeDiff, Nat.reduceEqDiff, Int.reduceLT, Int.reduceBEq, Int.reduceBNe, Nat.reduceBEq, List.append_nil, Int.toNat_zero, Nat.sub_self, frS]
    refine hk _ ?_
    clear hk k'
    try show Sat _ _ _ _ _
    (repeat refine Sat.seq ?_)
    refine Sat.region_k fun k' hk => ?_
    simp -implicitDefEqProofs only [evr, id, reduceCtorEq, reduceIte, Nat.reduceMul, Nat.reduceAdd, Nat.reduceLT, Nat.reduceLeDiff, Nat.reduceEqDiff, Int.reduceLT, Int.reduceBEq, Int.reduceBNe, Nat.reduceBEq, List.append_nil, Int.toNat_zero, Nat.sub_self, frS, em]
    refine ⟨by decide, ?_⟩
    refine hk _ ?_
    clear hk k'
    try show Sat _ _ _ _ _
    have s1 : sumE (ontoT n m) (i + 1) = sumE (ontoT n m) i + if i % 2 = 0 then ontoT n m i else 0 := rfl
    have s2 : sumO (ontoT n m) (i + 1) = sumO (ontoT n m) i + if i % 2 = 0 then 0 else ontoT n m i := rfl
    have p1 := sumE_pw hk0 hn (show i + 1 ≤ 18 by omega)
    have p2 := sumO_pw hk0 hn (show i + 1 ≤ 18 by omega)
    (repeat refine Sat.seq ?_)
    refine Sat.cond_b rfl (fun h5 => ?_) (fun h5 => ?_)
    · have h6 := of_decide_eq_true h5
      rw [if_pos h6] at s1 s2
      (repeat refine Sat.seq ?_)
      (refine Sat.region_k fun k hk => ?_; simp -implicitDefEqProofs only [evr, id, reduceCtorEq, reduceIte, Nat.reduceMul, Nat.reduceAdd, Nat.reduceLT, Nat.reduceLeDiff, Nat.reduceEqDiff, Int.reduceLT, Int.reduceBEq, Int.reduceBNe, Nat.reduceBEq, List.append_nil, Int.toNat_zero, Nat.sub_self, frS])
      refine wcall_slice (stPlusC F he' hs7 (by rw [← s1]; exact p1)) rfl rfl ?_
      intro y hy
      have hs8 := hy
      obtain ⟨a8, c8, z8, r8, x8, rfl, _⟩ := hy
      simp -implicitDefEqProofs only [evr, id, reduceCtorEq, reduceIte, Nat.reduceMul, Nat.reduceAdd, Nat.reduceLT, Nat.reduceLeDiff, Nat.reduceEqDiff, Int.reduceLT, Int.reduceBEq, Int.reduceBNe, Nat.reduceBEq, List.append_nil, Int.toNat_zero, Nat.sub_self, frS]
      refine hk _ ?_
      clear hk k
      simp only [thenK, blockK]
      (repeat refine Sat.seq ?_)
      refine Sat.region_k fun k' hk => ?_
      simp -implicitDefEqProofs only [evr, id, reduceCtorEq, reduceIte, Nat.reduceMul, Nat.reduceAdd, Nat.reduceLT, Nat.reduceLeDiff, Nat.reduceEqDiff, Int.reduceLT, Int.reduceBEq, Int.reduceBNe, Nat.reduceBEq, List.append_nil, Int.toNat_zero, Nat.sub_self, frS, ei1]
      refine hk _ ?_
      simp only [thenK, blockK]
      refine ⟨(i + 1, _, _), ⟨by show i + 1 ≤ m + 1; omega, by rw [s1]; exact hs8, by rw [s2, Nat.add_zero]; exact ho'⟩, by show m + 1 - (i + 1) < m + 1 - i; omega, ?_⟩
      simp -implicitDefEqProofs only [evr, id, reduceCtorEq, reduceIte, Nat.reduceMul, Nat.reduceAdd, Nat.reduceLT, Nat.reduceLeDiff, Nat.reduceEqDiff, Int.reduceLT, Int.reduceBEq, Int.reduceBNe, Nat.reduceBEq, List.append_nil, Int.toNat_zero, Nat.sub_self, frS, evl]
    · have h6 := of_decide_eq_false h5
      rw [if_neg h6] at s1 s2
      (repeat refine Sat.seq ?_)
      (refine Sat.region_k fun k hk => ?_; simp -implicitDefEqProofs only [evr, id, reduceCtorEq, reduceIte, Nat.reduceMul, Nat.reduceAdd, Nat.reduceLT, Nat.reduceLeDiff, Nat.reduceEqDiff, Int.reduceLT, Int.reduceBEq, Int.reduceBNe, Nat.reduceBEq, List.append_nil, Int.toNat_zero, Nat.sub_self, frS])
      refine wcall_slice (stPlusC F ho' hs7 (by rw [← s2]; exact p2)) rfl rfl ?_
      intro y hy
      have hs8 := hy
      obtain ⟨a8, c8, z8, r8, x8, rfl, _⟩ := hy
      simp -implicitDefEqProofs only [evr, id, reduceCtorEq, reduceIte, Nat.reduceMul, Nat.reduceAdd, Nat.reduceLT, Nat.reduceLeDiff, Nat.reduceEqDiff, Int.reduceLT, Int.reduceBEq, Int.reduceBNe, Nat.reduceBEq, List.append_nil, Int.toNat_zero, Nat.sub_self, frS]
      refine hk _ ?_
      clear hk k
      simp only [thenK, blockK]
      (repeat refine Sat.seq ?_)
      refine Sat.region_k fun k' hk => ?_
      simp -implicitDefEqProofs only [evr, id, reduceCtorEq, reduceIte, Nat.reduceMul, Nat.reduceAdd, Nat.reduceLT, Nat.reduceLeDiff, Nat.reduceEqDiff, Int.reduceLT, Int.reduceBEq, Int.reduceBNe, Nat.reduceBEq, List.append_nil, Int.toNat_zero, Nat.sub_self, frS, ei1]
      refine hk _ ?_
      simp only [thenK, blockK]
      refine ⟨(i + 1, _, _), ⟨by show i + 1 ≤ m + 1; omega, by rw [s1, Nat.add_zero]; exact he', by rw [s2]; exact hs8⟩, by show m + 1 - (i + 1) < m + 1 - i; omega, ?_⟩
      simp -implicitDefEqProofs only [evr, id, reduceCtorEq, reduceIte, Nat.reduceMul, Nat.reduceAdd, Nat.reduceLT, Nat.reduceLeDiff, Nat.reduceEqDiff, Int.reduceLT, Int.reduceBEq, Int.reduceBNe, Nat.reduceBEq, List.append_nil, Int.toNat_zero, Nat.sub_self, frS, evl]
  · simp only [decide_eq_false_iff_not] at h
    have hi2 : i = m + 1 := by omega
    subst hi2
    obtain ⟨o1, o2⟩ := onto_cnt n m
    refine Sat.exit ?_
    simp only [thenK, blockK, reduceIte]
    (repeat refine Sat.seq ?_)
    (refine Sat.region_k fun k hk => ?_; simp -implicitDefEqProofs only [evr, id, reduceCtorEq, reduceIte, Nat.reduceMul, Nat.reduceAdd, Nat.reduceLT, Nat.reduceLeDiff, Nat.reduceEqDiff, Int.reduceLT, Int.reduceBEq, Int.reduceBNe, Nat.reduceBEq, List.append_nil, Int.toNat_zero, Nat.sub_self, frS])
    refine wcall_slice (subC F he' ho' (sumE_pw hk0 hn (by omega)) o1) rfl rfl ?_
    rintro y ⟨s, rfl, hy⟩
    rw [o2] at hy
    have hs8 := hy
    obtain ⟨a8, c8, z8, r8, x8, rfl, _⟩ := hy
    simp -implicitDefEqProofs only [evr, id, reduceCtorEq, reduceIte, Nat.reduceMul, Nat.reduceAdd, Nat.reduceLT, Nat.reduceLeDiff, Nat.reduceEqDiff, Int.reduceLT, Int.reduceBEq, Int.reduceBNe, Nat.reduceBEq, List.append_nil, Int.toNat_zero, Nat.sub_self, frS]
    (refine hk _ ?_; clear hk k; try show Sat _ _ _ _ _)
    (repeat refine Sat.seq ?_)
    (refine Sat.region_k fun k hk => ?_; simp -implicitDefEqProofs only [evr, id, reduceCtorEq, reduceIte, Nat.reduceMul, Nat.reduceAdd, Nat.reduceLT, Nat.reduceLeDiff, Nat.reduceEqDiff, Int.reduceLT, Int.reduceBEq, Int.reduceBNe, Nat.reduceBEq, List.append_nil, Int.toNat_zero, Nat.sub_self, frS]; refine hk _ ?_; clear hk k; try show Sat _ _ _ _ _)
    refine Sat.ret ?_
    simp only [Try.results16, evr, id, reduceCtorEq, reduceIte, Nat.reduceMul, Nat.reduceAdd, Nat.reduceLT, Nat.reduceLeDiff, Nat.reduceEqDiff, Int.reduceLT, Int.reduceBEq, Int.reduceBNe, Nat.reduceBEq, List.append_nil, Int.toNat_zero, Nat.sub_self, frS]
    exact ⟨_, rfl, hs8⟩
end Go.Proofs.Ytagmohpafjncfaa

/- Package stopping, by the evaluator: Missing, Needed. -/
set_option linter.unusedSimpArgs false
set_option linter.unusedVariables false
namespace Go.Proofs.Ytagmohpafjncfaa
open Eng Lmb
def misG (n m : Nat) : Nat := Nat.gcd (m ^ n - cnt m n m) (m ^ n)
def misP (n m : Nat) : Nat := (m ^ n - cnt m n m) / misG n m
def misQ (n m : Nat) : Nat := m ^ n / misG n m
theorem misG_pos {n m : Nat} (hm : 1 ≤ m) : 0 < misG n m := Nat.gcd_pos_of_pos_right _ (Nat.pow_pos hm)
theorem misP_eq (n m : Nat) : misP n m * misG n m = m ^ n - cnt m n m := Nat.div_mul_cancel (Nat.gcd_dvd_left _ _)
theorem misQ_eq (n m : Nat) : misQ n m * misG n m = m ^ n := Nat.div_mul_cancel (Nat.gcd_dvd_right _ _)
theorem misP_le (n m : Nat) : misP n m ≤ m ^ n := Nat.le_trans (Nat.div_le_self _ _) (Nat.sub_le _ _)
theorem misQ_le (n m : Nat) : misQ n m ≤ m ^ n := Nat.div_le_self _ _
def missed (n m p q : Nat) : Prop := p * m ^ n < (m ^ n - cnt m n m) * q
theorem missed_iff {n m p q : Nat} (hm : 1 ≤ m) : missed n m p q ↔ p * misQ n m < misP n m * q := by
  unfold missed
  have e1 : p * m ^ n = p * misQ n m * misG n m := by rw [Nat.mul_assoc, misQ_eq]
  have e2 : (m ^ n - cnt m n m) * q = misP n m * q * misG n m := by rw [← misP_eq, Nat.mul_assoc, Nat.mul_comm (misG n m), ← Nat.mul_assoc]
  rw [e1, e2]
  exact Nat.mul_lt_mul_right (misG_pos hm)
set_option maxRecDepth 100000 in
theorem stMissingC (F : Frm) (n m : Nat) (hn : n ≤ 128) (hm : m ≤ 16) (hm1 : 1 ≤ m) : Contract F Try.prog 13 [.i .i64 n, .i .i64 m] (fun r => ∃ f, r = tupL [f, .i .i64 0] ∧ FrS f false (misP n m) (misQ n m)) := by
  refine contract_of Try.func13 rfl (by kernel_rfl) ?_
  simp only [Try.ntmps13, argEnv]
  have hpow := kn_pw hm hn
  have hcl := cnt_le m n m (Nat.le_refl _)
  have h0 : 0 < m ^ n := Nat.pow_pos hm1
  (repeat refine Sat.seq ?_)
  (refine Sat.region_k fun k hk => ?_; simp -implicitDefEqProofs only [evr, id, reduceCtorEq, reduceIte, Nat.reduceMul, Nat.reduceAdd, Nat.reduceLT, Nat.reduceLeDiff, Nat.reduceEqDiff, Int.reduceLT, Int.reduceBEq, Int.reduceBNe, Nat.reduceBEq, List.append_nil, Int.toNat_zero, Nat.sub_self, frS])
  intro b4
  (refine hk _ ?_; clear hk k; try show Sat _ _ _ _ _)
  (repeat refine Sat.seq ?_)
  refine Sat.region_at ⟨45, [(24, .b false), (4, .op 0 b4 0), (0, .i .i64 n), (1, .i .i64 m)], [.box b4 30 [.b false, .sl none 0 0 0 (fun _ _ => .v undef), .sl none 0 0 0 (fun _ _ => .v undef)]]⟩ (fun k hk => ?_) ?_
  · simp -implicitDefEqProofs only [evr, id, reduceCtorEq, reduceIte, Nat.reduceMul, Nat.reduceAdd, Nat.reduceLT, Nat.reduceLeDiff, Nat.reduceEqDiff, Int.reduceLT, Int.reduceBEq, Int.reduceBNe, Nat.reduceBEq, List.append_nil, Int.toNat_zero, Nat.sub_self, frS]
    refine ⟨fun h => by omega, fun h => ⟨fun h => by omega, fun h => ⟨fun h => by omega, fun h => ?_⟩⟩⟩
    refine hk _ ?_
    have e : decide (16 < (m : Int)) = false := by simp; omega
    simp only [e]
    simp -implicitDefEqProofs only [evr, id, reduceCtorEq, reduceIte, Nat.reduceMul, Nat.reduceAdd, Nat.reduceLT, Nat.reduceLeDiff, Nat.reduceEqDiff, Int.reduceLT, Int.reduceBEq, Int.reduceBNe, Nat.reduceBEq, List.append_nil, Int.toNat_zero, Nat.sub_self, frS, evl]
    try rfl
  simp only [thenK]
  refine Sat.cond_b rfl (fun h => by cases h) (fun h => ?_)
  refine Sat.skip ?_
  simp only [thenK]
  (repeat refine Sat.seq ?_)
  (refine Sat.region_k fun k hk => ?_; simp -implicitDefEqProofs only [evr, id, reduceCtorEq, reduceIte, Nat.reduceMul, Nat.reduceAdd, Nat.reduceLT, Nat.reduceLeDiff, Nat.reduceEqDiff, Int.reduceLT, Int.reduceBEq, Int.reduceBNe, Nat.reduceBEq, List.append_nil, Int.toNat_zero, Nat.sub_self, frS])
  refine wcall_slice (stPowerC F m n hm hn) rfl rfl ?_
  intro y hy
  have hs1 := hy
  obtain ⟨a1, c1, z1, r1, x1, rfl, _⟩ := hy
  simp -implicitDefEqProofs only [evr, id, reduceCtorEq, reduceIte, Nat.reduceMul, Nat.reduceAdd, Nat.reduceLT, Nat.reduceLeDiff, Nat.reduceEqDiff, Int.reduceLT, Int.reduceBEq, Int.reduceBNe, Nat.reduceBEq, List.append_nil, Int.toNat_zero, Nat.sub_self, frS]
  (refine hk _ ?_; clear hk k; try show Sat _ _ _ _ _)
  (repeat refine Sat.seq ?_)
  (refine Sat.region_k fun k hk => ?_; simp -implicitDefEqProofs only [evr, id, reduceCtorEq, reduceIte, Nat.reduceMul, Nat.reduceAdd, Nat.reduceLT, Nat.reduceLeDiff, Nat.reduceEqDiff, Int.reduceLT, Int.reduceBEq, Int.reduceBNe, Nat.reduceBEq, List.append_nil, Int.toNat_zero, Nat.sub_self, frS])
  refine wcall_slice (stOntoC F n m hn hm) rfl rfl ?_
  rintro y ⟨s, rfl, hy⟩
  have hs2 := hy
  obtain ⟨a2, c2, z2, r2, x2, rfl, _⟩ := hy
  simp -implicitDefEqProofs only [evr, id, reduceCtorEq, reduceIte, Nat.reduceMul, Nat.reduceAdd, Nat.reduceLT, Nat.reduceLeDiff, Nat.reduceEqDiff, Int.reduceLT, Int.reduceBEq, Int.reduceBNe, Nat.reduceBEq, List.append_nil, Int.toNat_zero, Nat.sub_self, frS]
  (refine hk _ ?_; clear hk k; try show Sat _ _ _ _ _)
  (repeat refine Sat.seq ?_)
  (refine Sat.region_k fun k hk => ?_; simp -implicitDefEqProofs only [evr, id, reduceCtorEq, reduceIte, Nat.reduceMul, Nat.reduceAdd, Nat.reduceLT, Nat.reduceLeDiff, Nat.reduceEqDiff, Int.reduceLT, Int.reduceBEq, Int.reduceBNe, Nat.reduceBEq, List.append_nil, Int.toNat_zero, Nat.sub_self, frS])
  refine wcall_slice (subC F hs1 hs2 hpow hcl) rfl rfl ?_
  rintro y ⟨s, rfl, hy⟩
  have hs3 := hy
  obtain ⟨a3, c3, z3, r3, x3, rfl, _⟩ := hy
  simp -implicitDefEqProofs only [evr, id, reduceCtorEq, reduceIte, Nat.reduceMul, Nat.reduceAdd, Nat.reduceLT, Nat.reduceLeDiff, Nat.reduceEqDiff, Int.reduceLT, Int.reduceBEq, Int.reduceBNe, Nat.reduceBEq, List.append_nil, Int.toNat_zero, Nat.sub_self, frS]
  (refine hk _ ?_; clear hk k; try show Sat _ _ _ _ _)
  (repeat refine Sat.seq ?_)
  (refine Sat.region_k fun k hk => ?_; simp -implicitDefEqProofs only [evr, id, reduceCtorEq, reduceIte, Nat.reduceMul, Nat.reduceAdd, Nat.reduceLT, Nat.reduceLeDiff, Nat.reduceEqDiff, Int.reduceLT, Int.reduceBEq, Int.reduceBNe, Nat.reduceBEq, List.append_nil, Int.toNat_zero, Nat.sub_self, frS])
  refine wcall_slice (fractionReduceC F false hs3 hs1 (by omega) hpow h0) rfl (by simp -implicitDefEqProofs only [evr, id, reduceCtorEq, reduceIte, Nat.reduceMul, Nat.reduceAdd, Nat.reduceLT, Nat.reduceLeDiff, Nat.reduceEqDiff, Int.reduceLT, Int.reduceBEq, Int.reduceBNe, Nat.reduceBEq, List.append_nil, Int.toNat_zero, Nat.sub_self, frS]; try rfl) ?_
  rintro y ⟨sp, sq, rfl, hp, hq⟩
  have hp' : Nats sp (misP n m) := hp
  have hq' : Nats sq (misQ n m) := hq
  obtain ⟨a5, c5, z5, r5, x5, rfl, _⟩ := hp
  obtain ⟨a6, c6, z6, r6, x6, rfl, _⟩ := hq
  simp -implicitDefEqProofs only [evr, id, reduceCtorEq, reduceIte, Nat.reduceMul, Nat.reduceAdd, Nat.reduceLT, Nat.reduceLeDiff, Nat.reduceEqDiff, Int.reduceLT, Int.reduceBEq, Int.reduceBNe, Nat.reduceBEq, List.append_nil, Int.toNat_zero, Nat.sub_self, frS, Bool.false_and]
  (refine hk _ ?_; clear hk k; try show Sat _ _ _ _ _)
  refine Sat.ret ?_
  simp only [Try.results13, evr, id, reduceCtorEq, reduceIte, Nat.reduceMul, Nat.reduceAdd, Nat.reduceLT, Nat.reduceLeDiff, Nat.reduceEqDiff, Int.reduceLT, Int.reduceBEq, Int.reduceBNe, Nat.reduceBEq, List.append_nil, Int.toNat_zero, Nat.sub_self, frS]
  exact ⟨_, rfl, _, _, rfl, hp', hq'⟩
def NeedPost (m p q : Nat) (r : SV) : Prop := (∃ n, n ≤ 128 ∧ r = tupL [.i .i64 (n : Nat), .i .i64 0] ∧ ¬ missed n (m + 1) p q ∧ ∀ j, j < n → missed j (m + 1) p q) ∨ (r = tupL [.i .i64 0, .i .i64 5] ∧ ∀ j, j ≤ 128 → missed j (m + 1) p q)
theorem q_pw {q : Nat} (h : q < 1073741824) : (q : Int) < pw 256 := lt_pw (a := 30) (Nat.le_of_lt h) (by decide)
set_option maxRecDepth 100000 in
theorem stNeededC (F : Frm) (m : Nat) (hm : m ≤ 15) (hm1 : 1 ≤ m) {sp sq : SV} {p q : Nat} (hp : Nats sp p) (hq : Nats sq q) (h0 : 0 < p) (h1 : p < q) (h2 : q < 1073741824) :
    Contract F Try.prog 12 [.i .i64 m, frS false sp sq] (NeedPost m p q) := by
  have hp' := hp
  have hq' := hq
  obtain ⟨a1, c1, z1, r1, x1, rfl, _⟩ := hp
  obtain ⟨a2, c2, z2, r2, x2, rfl, _⟩ := hq
  refine contract_of Try.func12 rfl (by kernel_rfl) ?_
  simp only [Try.ntmps12, argEnv, frS]
  (repeat refine Sat.seq ?_)
  (refine Sat.region_k fun k hk => ?_; simp -implicitDefEqProofs only [evr, id, reduceCtorEq, reduceIte, Nat.reduceMul, Nat.reduceAdd, Nat.reduceLT, Nat.reduceLeDiff, Nat.reduceEqDiff, Int.reduceLT, Int.reduceBEq, Int.reduceBNe, Nat.reduceBEq, List.append_nil, Int.toNat_zero, Nat.sub_self, frS])
  intro b3
  (refine hk _ ?_; clear hk k; try show Sat _ _ _ _ _)
  (repeat refine Sat.seq ?_)
  refine Sat.region_at ⟨36, [(19, .b false), (3, .op 0 b3 0), (0, .i .i64 m)], [.box b3 30 [.b false, .sl a1 x1.length c1 z1 r1, .sl a2 x2.length c2 z2 r2]]⟩ (fun k hk => ?_) ?_
  · simp -implicitDefEqProofs only [evr, id, reduceCtorEq, reduceIte, Nat.reduceMul, Nat.reduceAdd, Nat.reduceLT, Nat.reduceLeDiff, Nat.reduceEqDiff, Int.reduceLT, Int.reduceBEq, Int.reduceBNe, Nat.reduceBEq, List.append_nil, Int.toNat_zero, Nat.sub_self, frS]
    refine ⟨fun h => by omega, fun h => ⟨fun h => by omega, fun h => ?_⟩⟩
    refine wcall_plain (stChanceC F hp' hq' h0 h1 (lt_pw (a := 31) (by omega) (by decide))) (by simp -implicitDefEqProofs only [evr, id, reduceCtorEq, reduceIte, Nat.reduceMul, Nat.reduceAdd, Nat.reduceLT, Nat.reduceLeDiff, Nat.reduceEqDiff, Int.reduceLT, Int.reduceBEq, Int.reduceBNe, Nat.reduceBEq, List.append_nil, Int.toNat_zero, Nat.sub_self, frS]; try rfl) (by rintro _ rfl; exact ok_plain rfl) ?_
    rintro y rfl
    simp -implicitDefEqProofs only [evr, id, reduceCtorEq, reduceIte, Nat.reduceMul, Nat.reduceAdd, Nat.reduceLT, Nat.reduceLeDiff, Nat.reduceEqDiff, Int.reduceLT, Int.reduceBEq, Int.reduceBNe, Nat.reduceBEq, List.append_nil, Int.toNat_zero, Nat.sub_self, frS]
    refine hk _ ?_
    simp -implicitDefEqProofs only [evr, id, reduceCtorEq, reduceIte, Nat.reduceMul, Nat.reduceAdd, Nat.reduceLT, Nat.reduceLeDiff, Nat.reduceEqDiff, Int.reduceLT, Int.reduceBEq, Int.reduceBNe, Nat.reduceBEq, List.append_nil, Int.toNat_zero, Nat.sub_self, frS, evl]
    try rfl
  simp only [thenK]
  refine Sat.cond_b rfl (fun h => by cases h) (fun h => ?_)
  refine Sat.skip ?_
  simp only [thenK]
  (repeat refine Sat.seq ?_)
  (refine Sat.region_k fun k hk => ?_; simp -implicitDefEqProofs only [evr, id, reduceCtorEq, reduceIte, Nat.reduceMul, Nat.reduceAdd, Nat.reduceLT, Nat.reduceLeDiff, Nat.reduceEqDiff, Int.reduceLT, Int.reduceBEq, Int.reduceBNe, Nat.reduceBEq, List.append_nil, Int.toNat_zero, Nat.sub_self, frS]; refine hk _ ?_; clear hk k; try show Sat _ _ _ _ _)
  (repeat refine Sat.seq ?_)
  refine Sat.block ?_
  (repeat refine Sat.seq ?_)
  refine Sat.loop (ι := Nat) (fun i => ⟨36, [(20, .i .i64 i), (3, .op 0 b3 0), (0, .i .i64 m)], [.box b3 30 [.b false, .sl a1 x1.length c1 z1 r1, .sl a2 x2.length c2 z2 r2]]⟩)
    (fun i => i ≤ 129 ∧ ∀ j, j < i → missed j (m + 1) p q) (fun i => 129 - i) 0 ⟨by omega, fun j hj => absurd hj (Nat.not_lt_zero _)⟩ (by simp -implicitDefEqProofs only [evr, id, reduceCtorEq, reduceIte, Nat.reduceMul, Nat.reduceAdd, Nat.reduceLT, Nat.reduceLeDiff, Nat.reduceEqDiff, Int.reduceLT, Int.reduceBEq, Int.reduceBNe, Nat.reduceBEq, List.append_nil, Int.toNat_zero, Nat.sub_self, frS, evl]; try rfl) ?_
  rintro i ⟨hi, hmis⟩
  (repeat refine Sat.seq ?_)
  (refine Sat.region_k fun k hk => ?_; simp -implicitDefEqProofs only [evr, id, reduceCtorEq, reduceIte, Nat.reduceMul, Nat.reduceAdd, Nat.reduceLT, Nat.reduceLeDiff, Nat.reduceEqDiff, Int.reduceLT, Int.reduceBEq, Int.reduceBNe, Nat.reduceBEq, List.append_nil, Int.toNat_zero, Nat.sub_self, frS]; refine hk _ ?_; clear hk k; try show Sat _ _ _ _ _)
  (repeat refine Sat.seq ?_)
  refine Sat.cond_b rfl (fun h => ?_) (fun h => ?_)
  · simp only [decide_eq_true_eq] at h
    have hin : i ≤ 128 := by omega
    have em : IntKind.i64.wrap ((m : Int) + 1) = ((m + 1 : Nat) : Int) := by rw [w64 (by omega)]; omega
    have ei1 : IntKind.i64.wrap ((i : Int) + 1) = ((i + 1 : Nat) : Int) := by rw [w64 (by omega)]; omega
    have bP := Nat.le_trans (misP_le i (m + 1)) (kn_le (k := m + 1) (by omega) hin)
    have bQ := Nat.le_trans (misQ_le i (m + 1)) (kn_le (k := m + 1) (by omega) hin)
    refine Sat.skip ?_
    simp only [thenK]
    (repeat refine Sat.seq ?_)
    refine Sat.block ?_
    (repeat refine Sat.seq ?_)
    (refine Sat.region_k fun k hk => ?_; simp -implicitDefEqProofs only [evr, id, reduceCtorEq, reduceIte, Nat.reduceMul, Nat.reduceAdd, Nat.reduceLT, Nat.reduceLeDiff, Nat.reduceEqDiff, Int.reduceLT, Int.reduceBEq, Int.reduceBNe, Nat.reduceBEq, List.append_nil, Int.toNat_zero, Nat.sub_self, frS]; refine hk _ ?_; clear hk k; try show Sat _ _ _ _ _)
    (repeat refine Sat.seq ?_)
    refine Sat.region_k fun k hk => ?_
    simp -implicitDefEqProofs only [evr, id, reduceCtorEq, reduceIte, Nat.reduceMul, Nat.reduceAdd, Nat.reduceLT, Nat.reduceLeDiff, Nat.reduceEqDiff, Int.reduceLT, Int.reduceBEq, Int.reduceBNe, Nat.reduceBEq, List.append_nil, Int.toNat_zero, Nat.sub_self, frS, em]
    refine wcall_slice (stMissingC F i (m + 1) hin (by omega) (by omega)) rfl rfl ?_
    rintro y ⟨f, rfl, sr, ss, rfl, hr, hs⟩
    have hr' := hr
    have hs' := hs
    obtain ⟨a3, c3, z3, r3, x3, rfl, _⟩ := hr
    obtain ⟨a4, c4, z4, r4, x4, rfl, _⟩ := hs
    simp -implicitDefEqProofs only [evr, id, reduceCtorEq, reduceIte, Nat.reduceMul, Nat.reduceAdd, Nat.reduceLT, Nat.reduceLeDiff, Nat.reduceEqDiff, Int.reduceLT, Int.reduceBEq, Int.reduceBNe, Nat.reduceBEq, List.append_nil, Int.toNat_zero, Nat.sub_self, frS]
    intro b7
    refine hk _ ?_
    clear hk k
    try show Sat _ _ _ _ _
    (repeat refine Sat.seq ?_)
    (refine Sat.region_k fun k hk => ?_; simp -implicitDefEqProofs only [evr, id, reduceCtorEq, reduceIte, Nat.reduceMul, Nat.reduceAdd, Nat.reduceLT, Nat.reduceLeDiff, Nat.reduceEqDiff, Int.reduceLT, Int.reduceBEq, Int.reduceBNe, Nat.reduceBEq, List.append_nil, Int.toNat_zero, Nat.sub_self, frS])
    have bq : q ≤ 2 ^ 30 := Nat.le_of_lt h2
    have bp : p ≤ 2 ^ 30 := by omega
    have bpQ := mul_two bp bQ
    have bPq := mul_two bP bq
    refine wcall_plain (stBelowC F false false hp' hq' hr' hs' (q_pw (by omega)) (q_pw h2) (lt_pw bP (by rw [xb_eq]; decide)) (lt_pw bQ (by rw [xb_eq]; decide)) (lt_pw bpQ (by rw [xb_eq]; decide)) (lt_pw bPq (by rw [xb_eq]; decide)) (lt_pw_add bpQ bPq (by rw [xb_eq]; decide))) (by simp -implicitDefEqProofs only [evr, id, reduceCtorEq, reduceIte, Nat.reduceMul, Nat.reduceAdd, Nat.reduceLT, Nat.reduceLeDiff, Nat.reduceEqDiff, Int.reduceLT, Int.reduceBEq, Int.reduceBNe, Nat.reduceBEq, List.append_nil, Int.toNat_zero, Nat.sub_self, frS]; try rfl) (by rintro _ rfl; exact ok_plain rfl) ?_
    rintro y rfl
    rw [cmpV_pos]
    simp -implicitDefEqProofs only [evr, id, reduceCtorEq, reduceIte, Nat.reduceMul, Nat.reduceAdd, Nat.reduceLT, Nat.reduceLeDiff, Nat.reduceEqDiff, Int.reduceLT, Int.reduceBEq, Int.reduceBNe, Nat.reduceBEq, List.append_nil, Int.toNat_zero, Nat.sub_self, frS]
    (refine hk _ ?_; clear hk k; try show Sat _ _ _ _ _)
    have hmi := missed_iff (n := i) (m := m + 1) (p := p) (q := q) (by omega)
    refine Sat.cond_b rfl (fun h5 => ?_) (fun h5 => ?_)
    · have h6 : ¬ missed i (m + 1) p q := by
        intro h7
        have := hmi.1 h7
        rw [cmpI_lt (by omega)] at h5
        revert h5
        decide
      (repeat refine Sat.seq ?_)
      (refine Sat.region_k fun k hk => ?_; simp -implicitDefEqProofs only [evr, id, reduceCtorEq, reduceIte, Nat.reduceMul, Nat.reduceAdd, Nat.reduceLT, Nat.reduceLeDiff, Nat.reduceEqDiff, Int.reduceLT, Int.reduceBEq, Int.reduceBNe, Nat.reduceBEq, List.append_nil, Int.toNat_zero, Nat.sub_self, frS]; refine hk _ ?_; clear hk k; try show Sat _ _ _ _ _)
      refine Sat.ret ?_
      simp only [thenK, blockK, Try.results12, evr, id, reduceCtorEq, reduceIte, Nat.reduceMul, Nat.reduceAdd, Nat.reduceLT, Nat.reduceLeDiff, Nat.reduceEqDiff, Int.reduceLT, Int.reduceBEq, Int.reduceBNe, Nat.reduceBEq, List.append_nil, Int.toNat_zero, Nat.sub_self, frS]
      exact .inl ⟨i, hin, rfl, h6, hmis⟩
    · have h6 : missed i (m + 1) p q := by
        refine hmi.2 ?_
        by_cases h8 : p * misQ i (m + 1) < misP i (m + 1) * q
        · exact h8
        exfalso
        by_cases h9 : misP i (m + 1) * q < p * misQ i (m + 1)
        · rw [cmpI_gt (by omega)] at h5
          revert h5
          decide
        · rw [cmpI_eq (by omega)] at h5
          revert h5
          decide
      refine Sat.skip ?_
      simp only [thenK, blockK]
      (repeat refine Sat.seq ?_)
      refine Sat.region_k fun k hk => ?_
      simp -implicitDefEqProofs only [evr, id, reduceCtorEq, reduceIte, Nat.reduceMul, Nat.reduceAdd, Nat.reduceLT, Nat.reduceLeDiff, Nat.reduceEqDiff, Int.reduceLT, Int.reduceBEq, Int.reduceBNe, Nat.reduceBEq, List.append_nil, Int.toNat_zero, Nat.sub_self, frS, ei1]
      refine hk _ ?_
      simp only [thenK, blockK]
      refine ⟨i + 1, ⟨by show i + 1 ≤ 129; omega, fun j hj => ?_⟩, by show 129 - (i + 1) < 129 - i; omega, ?_⟩
      · rcases (show j < i ∨ j = i by omega) with h7 | rfl
        · exact hmis j h7
        · exact h6
      simp -implicitDefEqProofs only [evr, id, reduceCtorEq, reduceIte, Nat.reduceMul, Nat.reduceAdd, Nat.reduceLT, Nat.reduceLeDiff, Nat.reduceEqDiff, Int.reduceLT, Int.reduceBEq, Int.reduceBNe, Nat.reduceBEq, List.append_nil, Int.toNat_zero, Nat.sub_self, frS, evl]
  · simp only [decide_eq_false_iff_not] at h
    have hi2 : i = 129 := by omega
    refine Sat.exit ?_
    simp only [thenK, blockK, reduceIte]
    (repeat refine Sat.seq ?_)
    (refine Sat.region_k fun k hk => ?_; simp -implicitDefEqProofs only [evr, id, reduceCtorEq, reduceIte, Nat.reduceMul, Nat.reduceAdd, Nat.reduceLT, Nat.reduceLeDiff, Nat.reduceEqDiff, Int.reduceLT, Int.reduceBEq, Int.reduceBNe, Nat.reduceBEq, List.append_nil, Int.toNat_zero, Nat.sub_self, frS]; refine hk _ ?_; clear hk k; try show Sat _ _ _ _ _)
    refine Sat.ret ?_
    simp only [Try.results12, evr, id, reduceCtorEq, reduceIte, Nat.reduceMul, Nat.reduceAdd, Nat.reduceLT, Nat.reduceLeDiff, Nat.reduceEqDiff, Int.reduceLT, Int.reduceBEq, Int.reduceBNe, Nat.reduceBEq, List.append_nil, Int.toNat_zero, Nat.sub_self, frS]
    exact .inr ⟨rfl, fun j hj => hmis j (by omega)⟩
end Go.Proofs.Ytagmohpafjncfaa

/- Reference 02, Pow and Choose; reference 23, power, onto, Onto, Missing, between: by the evaluator. -/
set_option linter.unusedSimpArgs false
set_option linter.unusedVariables false
namespace Go.Proofs.Ytagmohpafjncfaa
open Eng Lmb Go.RowKit
theorem natLen {a : Option Addr} {len cap sz n : Nat} {rd : Nat → Nat → SV} (h : Nats (.sl a len cap sz rd) n) (hb : (n : Int) < pw 256) : len ≤ 256 := by
  obtain ⟨xs, ⟨a', c', z', r', e, _, _⟩, hd⟩ := h.ints
  simp only [SV.sl.injEq] at e
  obtain ⟨_, rfl, _⟩ := e
  exact (hd.len_le 256).2 hb
theorem cmpI_zero {x y : Int} : (cmpI x y == 0) = decide (x = y) := by
  by_cases h : x < y
  · rw [cmpI_lt h, decide_eq_false (by omega)]; rfl
  · by_cases h2 : y < x
    · rw [cmpI_gt h2, decide_eq_false (by omega)]; rfl
    · rw [cmpI_eq (by omega), decide_eq_true (by omega)]; rfl
set_option maxRecDepth 100000 in
theorem refPowC (F : Frm) {sa : SV} {a k : Nat} (ha : Nats sa a) (ha2 : (a : Int) < pw 256) (hk : k ≤ 65536) (b : ∀ i, i ≤ k → ((a ^ i : Nat) : Int) < pw 256) : Contract F Try.prog 68 [sa, .i .i64 k] (natRes (a ^ k)) := by
  have ha' := ha
  obtain ⟨a1, c1, z1, r1, x1, rfl, _⟩ := ha
  have h256 : pw 256 ≤ pw 512 := pw_mono (by omega)
  refine contract_of Try.func68 rfl (by kernel_rfl) ?_
  simp only [Try.ntmps68, argEnv]
  (repeat refine Sat.seq ?_)
  (refine Sat.region_k fun k hk => ?_; simp -implicitDefEqProofs only [evr, id, reduceCtorEq, reduceIte, Nat.reduceMul, Nat.reduceAdd, Nat.reduceLT, Nat.reduceLeDiff, Nat.reduceEqDiff, Int.reduceLT, Int.reduceBEq, Int.reduceBNe, Nat.reduceBEq, List.append_nil, Int.toNat_zero, Nat.sub_self, frS]; refine hk _ ?_; clear hk k; try show Sat _ _ _ _ _)
  (repeat refine Sat.seq ?_)
  refine Sat.region_at ⟨41, [(13, .b false), (0, .sl a1 x1.length c1 z1 r1), (1, .i .i64 k)], []⟩ (fun k' hk' => ?_) ?_
  · simp -implicitDefEqProofs only [evr, id, reduceCtorEq, reduceIte, Nat.reduceMul, Nat.reduceAdd, Nat.reduceLT, Nat.reduceLeDiff, Nat.reduceEqDiff, Int.reduceLT, Int.reduceBEq, Int.reduceBNe, Nat.reduceBEq, List.append_nil, Int.toNat_zero, Nat.sub_self, frS]
    refine ⟨fun h => by omega, fun h => hk' _ ?_⟩
    have e : decide (65536 < (k : Int)) = false := by simp; omega
    simp only [e]
    simp -implicitDefEqProofs only [evr, id, reduceCtorEq, reduceIte, Nat.reduceMul, Nat.reduceAdd, Nat.reduceLT, Nat.reduceLeDiff, Nat.reduceEqDiff, Int.reduceLT, Int.reduceBEq, Int.reduceBNe, Nat.reduceBEq, List.append_nil, Int.toNat_zero, Nat.sub_self, frS, evl]
  simp only [thenK]
  refine Sat.cond_b rfl (fun h => by cases h) (fun _ => ?_)
  refine Sat.skip ?_
  simp only [thenK]
  (repeat refine Sat.seq ?_)
  refine Sat.region_at ⟨41, [(26, .b (decide (0 < k) && (decide (a = 0) || decide (a = 1)))), (0, .sl a1 x1.length c1 z1 r1), (1, .i .i64 k)], []⟩ (fun k' hk' => ?_) ?_
  · simp -implicitDefEqProofs only [evr, id, reduceCtorEq, reduceIte, Nat.reduceMul, Nat.reduceAdd, Nat.reduceLT, Nat.reduceLeDiff, Nat.reduceEqDiff, Int.reduceLT, Int.reduceBEq, Int.reduceBNe, Nat.reduceBEq, List.append_nil, Int.toNat_zero, Nat.sub_self, frS]
    refine ⟨fun h => ?_, fun h => ?_⟩
    · have h1 : decide (0 < k) = true := by rw [decide_eq_true_eq]; omega
      refine ⟨fun h2 => ?_, fun h2 => ?_⟩
      · rw [ha'.len0] at h2
        refine hk' _ ?_
        simp only [h1, h2, Bool.true_and, Bool.true_or]
        simp -implicitDefEqProofs only [evr, id, reduceCtorEq, reduceIte, Nat.reduceMul, Nat.reduceAdd, Nat.reduceLT, Nat.reduceLeDiff, Nat.reduceEqDiff, Int.reduceLT, Int.reduceBEq, Int.reduceBNe, Nat.reduceBEq, List.append_nil, Int.toNat_zero, Nat.sub_self, frS, evl]
        try simp [ha'.len0, h2]
      · rw [ha'.len0] at h2
        intro az
        refine wcall_plain (refCompareC F ha' (nats_one (a := some ⟨az, 0, none⟩) (cap := 1) (x := 1) (by omega) (by omega)) (by omega)) (by simp -implicitDefEqProofs only [evr, id, reduceCtorEq, reduceIte, Nat.reduceMul, Nat.reduceAdd, Nat.reduceLT, Nat.reduceLeDiff, Nat.reduceEqDiff, Int.reduceLT, Int.reduceBEq, Int.reduceBNe, Nat.reduceBEq, List.append_nil, Int.toNat_zero, Nat.sub_self, frS]; try rfl) (by rintro _ rfl; exact ok_plain rfl) ?_
        rintro r rfl
        simp -implicitDefEqProofs only [evr, id, reduceCtorEq, reduceIte, Nat.reduceMul, Nat.reduceAdd, Nat.reduceLT, Nat.reduceLeDiff, Nat.reduceEqDiff, Int.reduceLT, Int.reduceBEq, Int.reduceBNe, Nat.reduceBEq, List.append_nil, Int.toNat_zero, Nat.sub_self, frS, cmpI_zero]
        refine hk' _ ?_
        have e3 : decide ((a : Int) = ((1 : Nat) : Int)) = decide (a = 1) := by
          by_cases h9 : a = 1
          · subst h9; rw [decide_eq_true rfl, decide_eq_true rfl]
          · rw [decide_eq_false h9, decide_eq_false (by omega)]
        simp only [h1, h2, e3, Bool.true_and, Bool.false_or]
        simp -implicitDefEqProofs only [evr, id, reduceCtorEq, reduceIte, Nat.reduceMul, Nat.reduceAdd, Nat.reduceLT, Nat.reduceLeDiff, Nat.reduceEqDiff, Int.reduceLT, Int.reduceBEq, Int.reduceBNe, Nat.reduceBEq, List.append_nil, Int.toNat_zero, Nat.sub_self, frS, evl]
        try simp [ha'.len0, h2]
    · have h1 : decide (0 < k) = false := by rw [decide_eq_false_iff_not]; omega
      refine hk' _ ?_
      simp only [h1, Bool.false_and]
      simp -implicitDefEqProofs only [evr, id, reduceCtorEq, reduceIte, Nat.reduceMul, Nat.reduceAdd, Nat.reduceLT, Nat.reduceLeDiff, Nat.reduceEqDiff, Int.reduceLT, Int.reduceBEq, Int.reduceBNe, Nat.reduceBEq, List.append_nil, Int.toNat_zero, Nat.sub_self, frS, evl]
      try simp [h]
  simp only [thenK]
  refine Sat.cond_b rfl (fun h => ?_) (fun h => ?_)
  · have e : a ^ k = a := by
      simp only [Bool.and_eq_true, Bool.or_eq_true, decide_eq_true_eq] at h
      obtain ⟨h1, rfl | rfl⟩ := h
      · exact Nat.zero_pow h1
      · exact Nat.one_pow k
    (repeat refine Sat.seq ?_)
    (refine Sat.region_k fun k hk => ?_; simp -implicitDefEqProofs only [evr, id, reduceCtorEq, reduceIte, Nat.reduceMul, Nat.reduceAdd, Nat.reduceLT, Nat.reduceLeDiff, Nat.reduceEqDiff, Int.reduceLT, Int.reduceBEq, Int.reduceBNe, Nat.reduceBEq, List.append_nil, Int.toNat_zero, Nat.sub_self, frS]; refine hk _ ?_; clear hk k; try show Sat _ _ _ _ _)
    refine Sat.ret ?_
    simp only [Try.results68, evr, id, reduceCtorEq, reduceIte, Nat.reduceMul, Nat.reduceAdd, Nat.reduceLT, Nat.reduceLeDiff, Nat.reduceEqDiff, Int.reduceLT, Int.reduceBEq, Int.reduceBNe, Nat.reduceBEq, List.append_nil, Int.toNat_zero, Nat.sub_self, frS]
    exact ⟨_, rfl, by rw [e]; exact ha'⟩
  refine Sat.skip ?_
  simp only [thenK]
  (repeat refine Sat.seq ?_)
  (refine Sat.region_k fun k hk => ?_; simp -implicitDefEqProofs only [evr, id, reduceCtorEq, reduceIte, Nat.reduceMul, Nat.reduceAdd, Nat.reduceLT, Nat.reduceLeDiff, Nat.reduceEqDiff, Int.reduceLT, Int.reduceBEq, Int.reduceBNe, Nat.reduceBEq, List.append_nil, Int.toNat_zero, Nat.sub_self, frS])
  intro az
  (refine hk _ ?_; clear hk k; try show Sat _ _ _ _ _)
  refine Sat.settle2 6 rfl rfl ?_
  simp -implicitDefEqProofs only [evr, id, reduceCtorEq, reduceIte, Nat.reduceMul, Nat.reduceAdd, Nat.reduceLT, Nat.reduceLeDiff, Nat.reduceEqDiff, Int.reduceLT, Int.reduceBEq, Int.reduceBNe, Nat.reduceBEq, List.append_nil, Int.toNat_zero, Nat.sub_self, frS]
  (repeat refine Sat.seq ?_)
  (refine Sat.region_k fun k hk => ?_; simp -implicitDefEqProofs only [evr, id, reduceCtorEq, reduceIte, Nat.reduceMul, Nat.reduceAdd, Nat.reduceLT, Nat.reduceLeDiff, Nat.reduceEqDiff, Int.reduceLT, Int.reduceBEq, Int.reduceBNe, Nat.reduceBEq, List.append_nil, Int.toNat_zero, Nat.sub_self, frS]; refine hk _ ?_; clear hk k; try show Sat _ _ _ _ _)
  (repeat refine Sat.seq ?_)
  refine Sat.block ?_
  refine Sat.loop (ι := Nat × SV) (fun x => ⟨41, [(7, .i .i64 x.1), (6, x.2), (0, .sl a1 x1.length c1 z1 r1), (1, .i .i64 k)], []⟩)
    (fun x => x.1 ≤ k ∧ Nats x.2 (a ^ x.1)) (fun x => k - x.1) (0, .sl (some ⟨az, 0, none⟩) 1 1 1 (rdL [SV.i .i64 1] 1)) ⟨Nat.zero_le _, nats_one (x := 1) (by omega) (by omega)⟩ (by simp -implicitDefEqProofs only [evr, id, reduceCtorEq, reduceIte, Nat.reduceMul, Nat.reduceAdd, Nat.reduceLT, Nat.reduceLeDiff, Nat.reduceEqDiff, Int.reduceLT, Int.reduceBEq, Int.reduceBNe, Nat.reduceBEq, List.append_nil, Int.toNat_zero, Nat.sub_self, frS, evl]; try rfl) ?_
  rintro ⟨i, so⟩ ⟨hi, hso⟩
  simp only at hi hso ⊢
  have hso' := hso
  obtain ⟨a3, c3, z3, r3, x3, rfl, _⟩ := hso
  (repeat refine Sat.seq ?_)
  (refine Sat.region_k fun k hk => ?_; simp -implicitDefEqProofs only [evr, id, reduceCtorEq, reduceIte, Nat.reduceMul, Nat.reduceAdd, Nat.reduceLT, Nat.reduceLeDiff, Nat.reduceEqDiff, Int.reduceLT, Int.reduceBEq, Int.reduceBNe, Nat.reduceBEq, List.append_nil, Int.toNat_zero, Nat.sub_self, frS]; refine hk _ ?_; clear hk k; try show Sat _ _ _ _ _)
  (repeat refine Sat.seq ?_)
  refine Sat.cond_b rfl (fun h => ?_) (fun h => ?_)
  · simp only [decide_eq_true_eq] at h
    have hik : i < k := by omega
    have ei1 : IntKind.i64.wrap ((i : Int) + 1) = ((i + 1 : Nat) : Int) := by rw [w64 (by omega)]; omega
    have bi := b i (by omega)
    have bj := b (i + 1) (by omega)
    refine Sat.skip ?_
    simp only [thenK]
    (repeat refine Sat.seq ?_)
    refine Sat.block ?_
    (repeat refine Sat.seq ?_)
    (refine Sat.region_k fun k hk => ?_; simp -implicitDefEqProofs only [evr, id, reduceCtorEq, reduceIte, Nat.reduceMul, Nat.reduceAdd, Nat.reduceLT, Nat.reduceLeDiff, Nat.reduceEqDiff, Int.reduceLT, Int.reduceBEq, Int.reduceBNe, Nat.reduceBEq, List.append_nil, Int.toNat_zero, Nat.sub_self, frS])
    refine wcall_slice (refTimesC F hso' ha' (by omega) (by omega)) rfl rfl ?_
    intro y hy
    rw [← Nat.pow_succ] at hy
    have hs5 := hy
    obtain ⟨a5, c5, z5, r5, x5, rfl, _⟩ := hy
    have hlen := natLen hs5 bj
    have elen : decide (256 < (x5.length : Int)) = false := by rw [decide_eq_false_iff_not]; omega
    simp -implicitDefEqProofs only [evr, id, reduceCtorEq, reduceIte, Nat.reduceMul, Nat.reduceAdd, Nat.reduceLT, Nat.reduceLeDiff, Nat.reduceEqDiff, Int.reduceLT, Int.reduceBEq, Int.reduceBNe, Nat.reduceBEq, List.append_nil, Int.toNat_zero, Nat.sub_self, frS]
    (refine hk _ ?_; clear hk k; try show Sat _ _ _ _ _)
    (repeat refine Sat.seq ?_)
    refine Sat.region_k fun k' hk' => ?_
    simp -implicitDefEqProofs only [evr, id, reduceCtorEq, reduceIte, Nat.reduceMul, Nat.reduceAdd, Nat.reduceLT, Nat.reduceLeDiff, Nat.reduceEqDiff, Int.reduceLT, Int.reduceBEq, Int.reduceBNe, Nat.reduceBEq, List.append_nil, Int.toNat_zero, Nat.sub_self, frS, elen]
    refine hk' _ ?_
    clear hk' k'
    try show Sat _ _ _ _ _
    refine Sat.cond_b rfl (fun h => by cases h) (fun _ => ?_)
    refine Sat.skip ?_
    simp only [thenK, blockK]
    (repeat refine Sat.seq ?_)
    refine Sat.region_k fun k' hk' => ?_
    simp -implicitDefEqProofs only [evr, id, reduceCtorEq, reduceIte, Nat.reduceMul, Nat.reduceAdd, Nat.reduceLT, Nat.reduceLeDiff, Nat.reduceEqDiff, Int.reduceLT, Int.reduceBEq, Int.reduceBNe, Nat.reduceBEq, List.append_nil, Int.toNat_zero, Nat.sub_self, frS, ei1]
    refine hk' _ ?_
    simp only [thenK, blockK]
    refine ⟨(i + 1, _), ⟨by show i + 1 ≤ k; omega, hs5⟩, by show k - (i + 1) < k - i; omega, ?_⟩
    simp -implicitDefEqProofs only [evr, id, reduceCtorEq, reduceIte, Nat.reduceMul, Nat.reduceAdd, Nat.reduceLT, Nat.reduceLeDiff, Nat.reduceEqDiff, Int.reduceLT, Int.reduceBEq, Int.reduceBNe, Nat.reduceBEq, List.append_nil, Int.toNat_zero, Nat.sub_self, frS, evl]
  · simp only [decide_eq_false_iff_not] at h
    obtain rfl : i = k := by omega
    refine Sat.exit ?_
    simp only [thenK, blockK, reduceIte]
    (repeat refine Sat.seq ?_)
    (refine Sat.region_k fun k hk => ?_; simp -implicitDefEqProofs only [evr, id, reduceCtorEq, reduceIte, Nat.reduceMul, Nat.reduceAdd, Nat.reduceLT, Nat.reduceLeDiff, Nat.reduceEqDiff, Int.reduceLT, Int.reduceBEq, Int.reduceBNe, Nat.reduceBEq, List.append_nil, Int.toNat_zero, Nat.sub_self, frS]; refine hk _ ?_; clear hk k; try show Sat _ _ _ _ _)
    refine Sat.ret ?_
    simp only [Try.results68, evr, id, reduceCtorEq, reduceIte, Nat.reduceMul, Nat.reduceAdd, Nat.reduceLT, Nat.reduceLeDiff, Nat.reduceEqDiff, Int.reduceLT, Int.reduceBEq, Int.reduceBNe, Nat.reduceBEq, List.append_nil, Int.toNat_zero, Nat.sub_self, frS]
    exact ⟨_, rfl, hso'⟩
theorem nats_lit {a : Option Addr} {cap : Nat} {z : Int} {x : Nat} (e : z = x) (h1 : x < 1073741824) (h0 : 0 < x) : Nats (.sl a 1 cap 1 (rdL [SV.i .i64 z] 1)) x := by subst e; exact nats_one h0 h1
set_option maxRecDepth 100000 in
theorem refChooseC (F : Frm) (n k : Nat) (hn : n ≤ 100) (hk : k ≤ 100) : Contract F Try.prog 67 [.i .i64 n, .i .i64 k] (natRes (binom n k)) := by
  have h256 : pw 256 ≤ pw 512 := pw_mono (by omega)
  refine contract_of Try.func67 rfl (by kernel_rfl) ?_
  simp only [Try.ntmps67, argEnv]
  (repeat refine Sat.seq ?_)
  (refine Sat.region_k fun k hk => ?_; simp -implicitDefEqProofs only [evr, id, reduceCtorEq, reduceIte, Nat.reduceMul, Nat.reduceAdd, Nat.reduceLT, Nat.reduceLeDiff, Nat.reduceEqDiff, Int.reduceLT, Int.reduceBEq, Int.reduceBNe, Nat.reduceBEq, List.append_nil, Int.toNat_zero, Nat.sub_self, frS]; refine hk _ ?_; clear hk k; try show Sat _ _ _ _ _)
  (repeat refine Sat.seq ?_)
  refine Sat.region_at ⟨45, [(21, .b false), (0, .i .i64 n), (1, .i .i64 k)], []⟩ (fun k' hk' => ?_) ?_
  · simp -implicitDefEqProofs only [evr, id, reduceCtorEq, reduceIte, Nat.reduceMul, Nat.reduceAdd, Nat.reduceLT, Nat.reduceLeDiff, Nat.reduceEqDiff, Int.reduceLT, Int.reduceBEq, Int.reduceBNe, Nat.reduceBEq, List.append_nil, Int.toNat_zero, Nat.sub_self, frS]
    refine ⟨fun h => by omega, fun h => ⟨fun h => by omega, fun h => ⟨fun h => by omega, fun h => hk' _ ?_⟩⟩⟩
    have e : decide (1024 < (k : Int)) = false := by simp; omega
    simp only [e]
    simp -implicitDefEqProofs only [evr, id, reduceCtorEq, reduceIte, Nat.reduceMul, Nat.reduceAdd, Nat.reduceLT, Nat.reduceLeDiff, Nat.reduceEqDiff, Int.reduceLT, Int.reduceBEq, Int.reduceBNe, Nat.reduceBEq, List.append_nil, Int.toNat_zero, Nat.sub_self, frS, evl]
  simp only [thenK]
  refine Sat.cond_b rfl (fun h => by cases h) (fun _ => ?_)
  refine Sat.skip ?_
  simp only [thenK]
  (repeat refine Sat.seq ?_)
  (refine Sat.region_k fun k hk => ?_; simp -implicitDefEqProofs only [evr, id, reduceCtorEq, reduceIte, Nat.reduceMul, Nat.reduceAdd, Nat.reduceLT, Nat.reduceLeDiff, Nat.reduceEqDiff, Int.reduceLT, Int.reduceBEq, Int.reduceBNe, Nat.reduceBEq, List.append_nil, Int.toNat_zero, Nat.sub_self, frS]; refine hk _ ?_; clear hk k; try show Sat _ _ _ _ _)
  (repeat refine Sat.seq ?_)
  refine Sat.cond_b rfl (fun h => ?_) (fun h => ?_)
  · have e : binom n k = 0 := binom_gt n k (by simp only [decide_eq_true_eq] at h; omega)
    (repeat refine Sat.seq ?_)
    (refine Sat.region_k fun k hk => ?_; simp -implicitDefEqProofs only [evr, id, reduceCtorEq, reduceIte, Nat.reduceMul, Nat.reduceAdd, Nat.reduceLT, Nat.reduceLeDiff, Nat.reduceEqDiff, Int.reduceLT, Int.reduceBEq, Int.reduceBNe, Nat.reduceBEq, List.append_nil, Int.toNat_zero, Nat.sub_self, frS]; refine hk _ ?_; clear hk k; try show Sat _ _ _ _ _)
    refine Sat.ret ?_
    simp only [Try.results67, evr, id, reduceCtorEq, reduceIte, Nat.reduceMul, Nat.reduceAdd, Nat.reduceLT, Nat.reduceLeDiff, Nat.reduceEqDiff, Int.reduceLT, Int.reduceBEq, Int.reduceBNe, Nat.reduceBEq, List.append_nil, Int.toNat_zero, Nat.sub_self, frS]
    exact ⟨_, rfl, by rw [e]; exact Nats.nil⟩
  have hkn : k ≤ n := by simp only [decide_eq_false_iff_not] at h; omega
  refine Sat.skip ?_
  simp only [thenK]
  (repeat refine Sat.seq ?_)
  (refine Sat.region_k fun k hk => ?_; simp -implicitDefEqProofs only [evr, id, reduceCtorEq, reduceIte, Nat.reduceMul, Nat.reduceAdd, Nat.reduceLT, Nat.reduceLeDiff, Nat.reduceEqDiff, Int.reduceLT, Int.reduceBEq, Int.reduceBNe, Nat.reduceBEq, List.append_nil, Int.toNat_zero, Nat.sub_self, frS])
  intro az
  (refine hk _ ?_; clear hk k; try show Sat _ _ _ _ _)
  refine Sat.settle2 6 rfl rfl ?_
  simp -implicitDefEqProofs only [evr, id, reduceCtorEq, reduceIte, Nat.reduceMul, Nat.reduceAdd, Nat.reduceLT, Nat.reduceLeDiff, Nat.reduceEqDiff, Int.reduceLT, Int.reduceBEq, Int.reduceBNe, Nat.reduceBEq, List.append_nil, Int.toNat_zero, Nat.sub_self, frS]
  (repeat refine Sat.seq ?_)
  (refine Sat.region_k fun k hk => ?_; simp -implicitDefEqProofs only [evr, id, reduceCtorEq, reduceIte, Nat.reduceMul, Nat.reduceAdd, Nat.reduceLT, Nat.reduceLeDiff, Nat.reduceEqDiff, Int.reduceLT, Int.reduceBEq, Int.reduceBNe, Nat.reduceBEq, List.append_nil, Int.toNat_zero, Nat.sub_self, frS]; refine hk _ ?_; clear hk k; try show Sat _ _ _ _ _)
  (repeat refine Sat.seq ?_)
  refine Sat.block ?_
  refine Sat.loop (ι := Nat × SV) (fun x => ⟨45, [(7, .i .i64 x.1), (6, x.2), (0, .i .i64 n), (1, .i .i64 k)], []⟩)
    (fun x => x.1 ≤ k ∧ Nats x.2 (binom n x.1)) (fun x => k - x.1) (0, .sl (some ⟨az, 0, none⟩) 1 1 1 (rdL [SV.i .i64 1] 1)) ⟨Nat.zero_le _, by rw [show binom n 0 = 1 by cases n <;> rfl]; exact nats_one (x := 1) (by omega) (by omega)⟩ (by simp -implicitDefEqProofs only [evr, id, reduceCtorEq, reduceIte, Nat.reduceMul, Nat.reduceAdd, Nat.reduceLT, Nat.reduceLeDiff, Nat.reduceEqDiff, Int.reduceLT, Int.reduceBEq, Int.reduceBNe, Nat.reduceBEq, List.append_nil, Int.toNat_zero, Nat.sub_self, frS, evl]; try rfl) ?_
  rintro ⟨i, so⟩ ⟨hi, hso⟩
  simp only at hi hso ⊢
  have hso' := hso
  obtain ⟨a3, c3, z3, r3, x3, rfl, _⟩ := hso
  (repeat refine Sat.seq ?_)
  (refine Sat.region_k fun k hk => ?_; simp -implicitDefEqProofs only [evr, id, reduceCtorEq, reduceIte, Nat.reduceMul, Nat.reduceAdd, Nat.reduceLT, Nat.reduceLeDiff, Nat.reduceEqDiff, Int.reduceLT, Int.reduceBEq, Int.reduceBNe, Nat.reduceBEq, List.append_nil, Int.toNat_zero, Nat.sub_self, frS]; refine hk _ ?_; clear hk k; try show Sat _ _ _ _ _)
  (repeat refine Sat.seq ?_)
  refine Sat.cond_b rfl (fun h => ?_) (fun h => ?_)
  · simp only [decide_eq_true_eq] at h
    have hik : i < k := by omega
    have ei1 : IntKind.i64.wrap ((i : Int) + 1) = ((i + 1 : Nat) : Int) := by rw [w64 (by omega)]; omega
    have ei : IntKind.i64.wrap ((n : Int) - (i : Int)) = ((n - i : Nat) : Int) := by rw [w64 (by omega)]; omega
    have b1 := Zn.binom_pw (n := n) (by omega) i
    have b2 := Zn.binom_mul_pw (n := n) (by omega) i (n - i) (by omega)
    refine Sat.skip ?_
    simp only [thenK]
    (repeat refine Sat.seq ?_)
    refine Sat.block ?_
    refine Sat.region_k fun k' hk' => ?_
    simp -implicitDefEqProofs only [evr, id, reduceCtorEq, reduceIte, Nat.reduceMul, Nat.reduceAdd, Nat.reduceLT, Nat.reduceLeDiff, Nat.reduceEqDiff, Int.reduceLT, Int.reduceBEq, Int.reduceBNe, Nat.reduceBEq, List.append_nil, Int.toNat_zero, Nat.sub_self, frS, ei, ei1]
    intro bz
    refine wcall_slice (refTimesC F hso' (nats_lit (a := some ⟨bz, 0, none⟩) (cap := 1) rfl (show n - i < 1073741824 by omega) (by omega)) (by omega) (lt_pw (a := 10) (by omega) (by decide))) rfl (by simp -implicitDefEqProofs only [evr, id, reduceCtorEq, reduceIte, Nat.reduceMul, Nat.reduceAdd, Nat.reduceLT, Nat.reduceLeDiff, Nat.reduceEqDiff, Int.reduceLT, Int.reduceBEq, Int.reduceBNe, Nat.reduceBEq, List.append_nil, Int.toNat_zero, Nat.sub_self, frS]; try rfl) ?_
    intro y hy
    have hs5 := hy
    obtain ⟨a5, c5, z5, r5, x5, rfl, _⟩ := hy
    simp -implicitDefEqProofs only [evr, id, reduceCtorEq, reduceIte, Nat.reduceMul, Nat.reduceAdd, Nat.reduceLT, Nat.reduceLeDiff, Nat.reduceEqDiff, Int.reduceLT, Int.reduceBEq, Int.reduceBNe, Nat.reduceBEq, List.append_nil, Int.toNat_zero, Nat.sub_self, frS]
    intro dz
    refine wcall_slice (refSplitC F hs5 (nats_lit (a := some ⟨dz, 0, none⟩) (cap := 1) rfl (show i + 1 < 1073741824 by omega) (by omega)) b2 (lt_pw (a := 10) (by omega) (by decide)) (by omega)) rfl (by simp -implicitDefEqProofs only [evr, id, reduceCtorEq, reduceIte, Nat.reduceMul, Nat.reduceAdd, Nat.reduceLT, Nat.reduceLeDiff, Nat.reduceEqDiff, Int.reduceLT, Int.reduceBEq, Int.reduceBNe, Nat.reduceBEq, List.append_nil, Int.toNat_zero, Nat.sub_self, frS, ei1]) ?_
    rintro r ⟨s, t, rfl, hs, ht⟩
    rw [Zn.binom_div] at hs
    have hs6 := hs
    obtain ⟨a6, c6, z6, r6, x6, rfl, _⟩ := hs
    obtain ⟨a7, c7, z7, r7, x7, rfl, _⟩ := ht
    simp -implicitDefEqProofs only [evr, id, reduceCtorEq, reduceIte, Nat.reduceMul, Nat.reduceAdd, Nat.reduceLT, Nat.reduceLeDiff, Nat.reduceEqDiff, Int.reduceLT, Int.reduceBEq, Int.reduceBNe, Nat.reduceBEq, List.append_nil, Int.toNat_zero, Nat.sub_self, frS]
    refine hk' _ ?_
    clear hk' k'
    simp only [thenK, blockK]
    (repeat refine Sat.seq ?_)
    refine Sat.region_k fun k' hk' => ?_
    simp -implicitDefEqProofs only [evr, id, reduceCtorEq, reduceIte, Nat.reduceMul, Nat.reduceAdd, Nat.reduceLT, Nat.reduceLeDiff, Nat.reduceEqDiff, Int.reduceLT, Int.reduceBEq, Int.reduceBNe, Nat.reduceBEq, List.append_nil, Int.toNat_zero, Nat.sub_self, frS, ei1]
    refine hk' _ ?_
    simp only [thenK, blockK]
    refine ⟨(i + 1, _), ⟨by show i + 1 ≤ k; omega, hs6⟩, by show k - (i + 1) < k - i; omega, ?_⟩
    simp -implicitDefEqProofs only [evr, id, reduceCtorEq, reduceIte, Nat.reduceMul, Nat.reduceAdd, Nat.reduceLT, Nat.reduceLeDiff, Nat.reduceEqDiff, Int.reduceLT, Int.reduceBEq, Int.reduceBNe, Nat.reduceBEq, List.append_nil, Int.toNat_zero, Nat.sub_self, frS, evl]
  · simp only [decide_eq_false_iff_not] at h
    obtain rfl : i = k := by omega
    refine Sat.exit ?_
    simp only [thenK, blockK, reduceIte]
    (repeat refine Sat.seq ?_)
    (refine Sat.region_k fun k hk => ?_; simp -implicitDefEqProofs only [evr, id, reduceCtorEq, reduceIte, Nat.reduceMul, Nat.reduceAdd, Nat.reduceLT, Nat.reduceLeDiff, Nat.reduceEqDiff, Int.reduceLT, Int.reduceBEq, Int.reduceBNe, Nat.reduceBEq, List.append_nil, Int.toNat_zero, Nat.sub_self, frS]; refine hk _ ?_; clear hk k; try show Sat _ _ _ _ _)
    refine Sat.ret ?_
    simp only [Try.results67, evr, id, reduceCtorEq, reduceIte, Nat.reduceMul, Nat.reduceAdd, Nat.reduceLT, Nat.reduceLeDiff, Nat.reduceEqDiff, Int.reduceLT, Int.reduceBEq, Int.reduceBNe, Nat.reduceBEq, List.append_nil, Int.toNat_zero, Nat.sub_self, frS]
    exact ⟨_, rfl, hso'⟩
end Go.Proofs.Ytagmohpafjncfaa

/- The reference of package natural, by the evaluator: Word. -/
set_option linter.unusedSimpArgs false
set_option linter.unusedVariables false
namespace Go.Proofs.Ytagmohpafjncfaa
open Eng Lmb Go.RowKit
set_option maxRecDepth 100000 in
theorem refWordC (F : Frm) (n : Nat) (hn : n < 18446744073709551616) : Contract F Try.prog 52 [.i .u64 n] (fun r => Nats r n) := by
  refine contract_of Try.func52 rfl (by kernel_rfl) ?_
  simp only [Try.ntmps52, argEnv]
  (repeat refine Sat.seq ?_)
  (refine Sat.region_k fun k hk => ?_; simp -implicitDefEqProofs only [evr, id, reduceCtorEq, reduceIte, Nat.reduceMul, Nat.reduceAdd, Nat.reduceLT, Nat.reduceLeDiff, Nat.reduceEqDiff, Int.reduceLT, Int.reduceBEq, Int.reduceBNe, Nat.reduceBEq, List.append_nil, Int.toNat_zero, Nat.sub_self]; refine hk _ ?_; clear hk k; try show Sat _ _ _ _ _)
  (repeat refine Sat.seq ?_)
  (refine Sat.region_k fun k hk => ?_; simp -implicitDefEqProofs only [evr, id, reduceCtorEq, reduceIte, Nat.reduceMul, Nat.reduceAdd, Nat.reduceLT, Nat.reduceLeDiff, Nat.reduceEqDiff, Int.reduceLT, Int.reduceBEq, Int.reduceBNe, Nat.reduceBEq, List.append_nil, Int.toNat_zero, Nat.sub_self]; refine hk _ ?_; clear hk k; try show Sat _ _ _ _ _)
  (repeat refine Sat.seq ?_)
  refine Sat.block ?_
  refine Sat.adopt 3 3 1 (fun p _ => .i .i64 (limbN n p)) rfl ?_
  refine Sat.loop (ι := Nat × Option Addr × Nat) (fun x => ⟨15, [(0, .i .u64 (n / 1073741824 ^ x.1 : Nat)), (3, .os 0 x.2.1 x.1 x.2.2)], [.row x.2.1 3 x.1 x.2.2 1 (fun p _ => .i .i64 (limbN n p))]⟩)
    (fun x => x.1 ≤ 3 ∧ (x.1 = 0 ∨ 0 < n / 1073741824 ^ (x.1 - 1))) (fun x => 3 - x.1) (0, none, 0) ⟨by omega, .inl rfl⟩ (by simp only [Nat.pow_zero, Nat.div_one]; simp -implicitDefEqProofs only [evr, id, reduceCtorEq, reduceIte, Nat.reduceMul, Nat.reduceAdd, Nat.reduceLT, Nat.reduceLeDiff, Nat.reduceEqDiff, Int.reduceLT, Int.reduceBEq, Int.reduceBNe, Nat.reduceBEq, List.append_nil, Int.toNat_zero, Nat.sub_self, evl]) ?_
  rintro ⟨i, a, c⟩ ⟨hi, hpos⟩
  simp only at hi hpos ⊢
  (repeat refine Sat.seq ?_)
  (refine Sat.region_k fun k hk => ?_; simp -implicitDefEqProofs only [evr, id, reduceCtorEq, reduceIte, Nat.reduceMul, Nat.reduceAdd, Nat.reduceLT, Nat.reduceLeDiff, Nat.reduceEqDiff, Int.reduceLT, Int.reduceBEq, Int.reduceBNe, Nat.reduceBEq, List.append_nil, Int.toNat_zero, Nat.sub_self]; refine hk _ ?_; clear hk k; try show Sat _ _ _ _ _)
  (repeat refine Sat.seq ?_)
  refine Sat.cond_b rfl (fun h => ?_) (fun h => ?_)
  · simp only [decide_eq_true_eq] at h
    have hi3 : i < 3 := by
      rcases (show i < 3 ∨ i = 3 by omega) with h3 | h3
      · exact h3
      · subst h3
        have : n / 1073741824 ^ 3 = 0 := Nat.div_eq_of_lt (Nat.lt_trans hn (by decide))
        omega
    have ew : (n / 1073741824 ^ i : Nat) < 18446744073709551616 := Nat.lt_of_le_of_lt (Nat.div_le_self _ _) hn
    have hp : 0 < n / 1073741824 ^ i := by generalize n / 1073741824 ^ i = q at h; omega
    have e1 : IntKind.i64.wrap (((n / 1073741824 ^ i : Nat) : Int).tmod 1073741824) = limbN n i := by
      unfold limbN
      generalize n / 1073741824 ^ i = q
      rw [Int.tmod_eq_emod_of_nonneg (by omega), w64 (by omega)]
      omega
    have e2 : IntKind.u64.wrap (((n / 1073741824 ^ i : Nat) : Int).tdiv 1073741824) = ((n / 1073741824 ^ (i + 1) : Nat) : Int) := by
      rw [Nat.pow_succ, ← Nat.div_div_eq_div_mul]
      generalize n / 1073741824 ^ i = q at *
      rw [Int.tdiv_eq_ediv_of_nonneg (by omega)]
      have hw : ∀ z : Int, IntKind.u64.wrap z = z % 18446744073709551616 := fun z => by unfold IntKind.wrap; simp [IntKind.bits, IntKind.signed]
      rw [hw]
      omega
    refine Sat.skip ?_
    simp only [thenK]
    (repeat refine Sat.seq ?_)
    refine Sat.block ?_
    (repeat refine Sat.seq ?_)
    refine Sat.region_k fun k hk => ?_
    simp -implicitDefEqProofs only [evr, id, reduceCtorEq, reduceIte, Nat.reduceMul, Nat.reduceAdd, Nat.reduceLT, Nat.reduceLeDiff, Nat.reduceEqDiff, Int.reduceLT, Int.reduceBEq, Int.reduceBNe, Nat.reduceBEq, List.append_nil, Int.toNat_zero, Nat.sub_self, e1]
    refine ⟨by decide, fun blk => ?_⟩
    refine ⟨⟨by unfold maxLen; omega, by omega⟩, fun a2 cap2 => ?_⟩
    (refine hk _ ?_; clear hk k; try show Sat _ _ _ _ _)
    (repeat refine Sat.seq ?_)
    refine Sat.region_k fun k hk => ?_
    simp -implicitDefEqProofs only [evr, id, reduceCtorEq, reduceIte, Nat.reduceMul, Nat.reduceAdd, Nat.reduceLT, Nat.reduceLeDiff, Nat.reduceEqDiff, Int.reduceLT, Int.reduceBEq, Int.reduceBNe, Nat.reduceBEq, List.append_nil, Int.toNat_zero, Nat.sub_self, e2]
    refine ⟨by decide, ?_⟩
    refine hk _ ?_
    simp only [thenK, blockK]
    refine ⟨(i + 1, a2, cap2), ⟨by show i + 1 ≤ 3; omega, .inr (by show 0 < n / 1073741824 ^ (i + 1 - 1); rw [Nat.add_sub_cancel]; exact hp)⟩, by show 3 - (i + 1) < 3 - i; omega, ?_⟩
    simp -implicitDefEqProofs only [evr, id, reduceCtorEq, reduceIte, Nat.reduceMul, Nat.reduceAdd, Nat.reduceLT, Nat.reduceLeDiff, Nat.reduceEqDiff, Int.reduceLT, Int.reduceBEq, Int.reduceBNe, Nat.reduceBEq, List.append_nil, Int.toNat_zero, Nat.sub_self, evl]
    exact rdEq_one (rdEq_refl _ _ _) rfl
  · simp only [decide_eq_false_iff_not] at h
    refine Sat.exit ?_
    simp only [thenK, blockK, reduceIte]
    (repeat refine Sat.seq ?_)
    (refine Sat.region_k fun k hk => ?_; simp -implicitDefEqProofs only [evr, id, reduceCtorEq, reduceIte, Nat.reduceMul, Nat.reduceAdd, Nat.reduceLT, Nat.reduceLeDiff, Nat.reduceEqDiff, Int.reduceLT, Int.reduceBEq, Int.reduceBNe, Nat.reduceBEq, List.append_nil, Int.toNat_zero, Nat.sub_self]; refine hk _ ?_; clear hk k; try show Sat _ _ _ _ _)
    refine Sat.ret ?_
    simp only [Try.results52, evr, id, reduceCtorEq, reduceIte, Nat.reduceMul, Nat.reduceAdd, Nat.reduceLT, Nat.reduceLeDiff, Nat.reduceEqDiff, Int.reduceLT, Int.reduceBEq, Int.reduceBNe, Nat.reduceBEq, List.append_nil, Int.toNat_zero, Nat.sub_self]
    exact nats_limbN (fun p _ => rfl) (by generalize n / 1073741824 ^ i = q at h; omega) hpos
end Go.Proofs.Ytagmohpafjncfaa

/- natural.Int; the reference's Same: what each gives. -/
set_option linter.unusedSimpArgs false
set_option linter.unusedVariables false
namespace Go.Proofs.Ytagmohpafjncfaa
open Eng Lmb Go.RowKit
theorem val_drop_le {xs : List Int} (h : Limbs xs) : ∀ q, val (xs.drop q) ≤ val xs
  | 0 => by simp
  | q + 1 => by
    refine Int.le_trans ?_ (val_drop_le h q)
    by_cases hq : q < xs.length
    · rw [val_drop xs q hq]
      have := limbs_getD h q
      have h2 : 0 ≤ val (xs.drop (q + 1)) := val_nonneg fun x hx => h x (List.mem_of_mem_drop hx)
      omega
    · rw [List.drop_eq_nil_of_le (by omega), List.drop_eq_nil_of_le (by omega)]
      exact Int.le_refl _
def intV (n : Nat) : Int := if n ≤ 4611686018427387904 then n else 0
def intE (n : Nat) : Int := if n ≤ 4611686018427387904 then 0 else 1
set_option maxRecDepth 100000 in
theorem natIntC (F : Frm) {s : SV} {n : Nat} (hs : Nats s n) (hb : (n : Int) < pw 512) : Contract F Try.prog 17 [s] (fun r => r = tupL [.i .i64 (intV n), .i .i64 (intE n)]) := by
  obtain ⟨xs, hi1, d1⟩ := hs.ints
  have l1 := (d1.len_le 512).2 hb
  obtain ⟨a1, c1, z1, r1, rfl, hz1, hr1⟩ := hi1
  refine contract_of Try.func17 rfl (by kernel_rfl) ?_
  simp only [Try.ntmps17, argEnv]
  have e0 : IntKind.i64.wrap ((xs.length : Int) - 1) = (xs.length : Int) - 1 := w64 (by omega)
  (repeat refine Sat.seq ?_)
  (refine Sat.region_k fun k hk => ?_; simp -implicitDefEqProofs only [evr, id, reduceCtorEq, reduceIte, Nat.reduceMul, Nat.reduceAdd, Nat.reduceLT, Nat.reduceLeDiff, Nat.reduceEqDiff, Int.reduceLT, Int.reduceBEq, Int.reduceBNe, Nat.reduceBEq, List.append_nil, Int.toNat_zero, Nat.sub_self, frS]; refine hk _ ?_; clear hk k; try show Sat _ _ _ _ _)
  (repeat refine Sat.seq ?_)
  (refine Sat.region_k fun k hk => ?_; simp -implicitDefEqProofs only [evr, id, reduceCtorEq, reduceIte, Nat.reduceMul, Nat.reduceAdd, Nat.reduceLT, Nat.reduceLeDiff, Nat.reduceEqDiff, Int.reduceLT, Int.reduceBEq, Int.reduceBNe, Nat.reduceBEq, List.append_nil, Int.toNat_zero, Nat.sub_self, frS]; refine hk _ ?_; clear hk k; try show Sat _ _ _ _ _)
  (repeat refine Sat.seq ?_)
  refine Sat.region_k fun k hk => ?_
  simp -implicitDefEqProofs only [evr, id, reduceCtorEq, reduceIte, Nat.reduceMul, Nat.reduceAdd, Nat.reduceLT, Nat.reduceLeDiff, Nat.reduceEqDiff, Int.reduceLT, Int.reduceBEq, Int.reduceBNe, Nat.reduceBEq, List.append_nil, Int.toNat_zero, Nat.sub_self, frS, e0]
  (refine hk _ ?_; clear hk k; try show Sat _ _ _ _ _)
  (repeat refine Sat.seq ?_)
  refine Sat.block ?_
  (repeat refine Sat.seq ?_)
  refine Sat.loop (ι := Nat) (fun q => ⟨29, [(5, .i .i64 ((q : Int) - 1)), (4, .i .i64 (val (xs.drop q))), (0, .sl a1 xs.length c1 z1 r1)], []⟩)
    (fun q => q ≤ xs.length ∧ val (xs.drop q) ≤ 4611686018427387904) (fun q => q) xs.length ⟨Nat.le_refl _, by rw [List.drop_length]; decide⟩ (by rw [List.drop_length]; simp -implicitDefEqProofs only [evr, id, reduceCtorEq, reduceIte, Nat.reduceMul, Nat.reduceAdd, Nat.reduceLT, Nat.reduceLeDiff, Nat.reduceEqDiff, Int.reduceLT, Int.reduceBEq, Int.reduceBNe, Nat.reduceBEq, List.append_nil, Int.toNat_zero, Nat.sub_self, frS, evl]; try rfl) ?_
  rintro q ⟨hq, hv⟩
  have hv0 : 0 ≤ val (xs.drop q) := val_nonneg fun x hx => d1.limbs x (List.mem_of_mem_drop hx)
  (repeat refine Sat.seq ?_)
  (refine Sat.region_k fun k hk => ?_; simp -implicitDefEqProofs only [evr, id, reduceCtorEq, reduceIte, Nat.reduceMul, Nat.reduceAdd, Nat.reduceLT, Nat.reduceLeDiff, Nat.reduceEqDiff, Int.reduceLT, Int.reduceBEq, Int.reduceBNe, Nat.reduceBEq, List.append_nil, Int.toNat_zero, Nat.sub_self, frS]; refine hk _ ?_; clear hk k; try show Sat _ _ _ _ _)
  (repeat refine Sat.seq ?_)
  refine Sat.cond_b rfl (fun h => ?_) (fun h => ?_)
  · simp only [decide_eq_true_eq] at h
    obtain ⟨j, rfl⟩ : ∃ j, q = j + 1 := ⟨q - 1, by omega⟩
    have hj : j < xs.length := by omega
    have ej : (((j + 1 : Nat) : Int) - 1) = (j : Int) := by omega
    have ej2 : IntKind.i64.wrap ((j : Int) - 1) = (j : Int) - 1 := w64 (by omega)
    have hsz1 : z1 = 1 := by
      rcases hz1 with hz | hz
      · omega
      · exact hz
    subst hsz1
    have g1 := hr1 j hj
    have bx := limbs_getD d1.limbs j
    have hd := val_drop xs j hj
    have hle := val_drop_le d1.limbs j
    rw [d1.val] at hle
    generalize val (xs.drop (j + 1)) = v at hv hv0 hd
    generalize hx : xs.getD j 0 = x at g1 bx hd
    have w1 : IntKind.i64.wrap (4611686018427387904 - x) = 4611686018427387904 - x := w64 (by omega)
    have p30 : ((2 : Int) ^ min (Int.toNat 30) IntKind.i64.bits) = 1073741824 := by decide
    have w2 : (4611686018427387904 - x).fdiv 1073741824 = (4611686018427387904 - x) / 1073741824 := Int.fdiv_eq_ediv_of_nonneg _ (by decide)
    refine Sat.skip ?_
    simp only [thenK, ej]
    (repeat refine Sat.seq ?_)
    refine Sat.block ?_
    (repeat refine Sat.seq ?_)
    refine Sat.region_k fun k hk => ?_
    simp -implicitDefEqProofs only [evr, id, reduceCtorEq, reduceIte, Nat.reduceMul, Nat.reduceAdd, Nat.reduceLT, Nat.reduceLeDiff, Nat.reduceEqDiff, Int.reduceLT, Int.reduceBEq, Int.reduceBNe, Nat.reduceBEq, List.append_nil, Int.toNat_zero, Nat.sub_self, frS]
    refine ⟨by omega, ?_⟩
    rw [g1]
    simp -implicitDefEqProofs only [evr, id, reduceCtorEq, reduceIte, Nat.reduceMul, Nat.reduceAdd, Nat.reduceLT, Nat.reduceLeDiff, Nat.reduceEqDiff, Int.reduceLT, Int.reduceBEq, Int.reduceBNe, Nat.reduceBEq, List.append_nil, Int.toNat_zero, Nat.sub_self, frS, w1, p30, w2]
    refine ⟨by decide, ?_⟩
    (refine hk _ ?_; clear hk k; try show Sat _ _ _ _ _)
    refine Sat.cond_b rfl (fun h9 => ?_) (fun h9 => ?_)
    · have h10 := of_decide_eq_true h9
      have hbig : ¬ n ≤ 4611686018427387904 := by omega
      (repeat refine Sat.seq ?_)
      (refine Sat.region_k fun k hk => ?_; simp -implicitDefEqProofs only [evr, id, reduceCtorEq, reduceIte, Nat.reduceMul, Nat.reduceAdd, Nat.reduceLT, Nat.reduceLeDiff, Nat.reduceEqDiff, Int.reduceLT, Int.reduceBEq, Int.reduceBNe, Nat.reduceBEq, List.append_nil, Int.toNat_zero, Nat.sub_self, frS]; refine hk _ ?_; clear hk k; try show Sat _ _ _ _ _)
      refine Sat.ret ?_
      simp only [thenK, blockK, Try.results17, evr, id, reduceCtorEq, reduceIte, Nat.reduceMul, Nat.reduceAdd, Nat.reduceLT, Nat.reduceLeDiff, Nat.reduceEqDiff, Int.reduceLT, Int.reduceBEq, Int.reduceBNe, Nat.reduceBEq, List.append_nil, Int.toNat_zero, Nat.sub_self, frS]
      unfold intV intE
      rw [if_neg hbig, if_neg hbig]
    · have h10 := of_decide_eq_false h9
      have w3 : IntKind.i64.wrap (v * 1073741824) = v * 1073741824 := w64 (by omega)
      have w4 : bits .or .i64 (v * 1073741824) x = v * 1073741824 + x := Zn.or_limb v x hv0 (by omega) bx.1 bx.2
      refine Sat.skip ?_
      simp only [thenK]
      (repeat refine Sat.seq ?_)
      refine Sat.region_k fun k hk => ?_
      simp -implicitDefEqProofs only [evr, id, reduceCtorEq, reduceIte, Nat.reduceMul, Nat.reduceAdd, Nat.reduceLT, Nat.reduceLeDiff, Nat.reduceEqDiff, Int.reduceLT, Int.reduceBEq, Int.reduceBNe, Nat.reduceBEq, List.append_nil, Int.toNat_zero, Nat.sub_self, frS, p30, w3]
      refine ⟨by decide, by omega, ?_⟩
      rw [g1]
      simp -implicitDefEqProofs only [evr, id, reduceCtorEq, reduceIte, Nat.reduceMul, Nat.reduceAdd, Nat.reduceLT, Nat.reduceLeDiff, Nat.reduceEqDiff, Int.reduceLT, Int.reduceBEq, Int.reduceBNe, Nat.reduceBEq, List.append_nil, Int.toNat_zero, Nat.sub_self, frS, w4]
      refine hk _ ?_
      clear hk k
      simp only [thenK, blockK]
      (repeat refine Sat.seq ?_)
      refine Sat.region_k fun k hk => ?_
      simp -implicitDefEqProofs only [evr, id, reduceCtorEq, reduceIte, Nat.reduceMul, Nat.reduceAdd, Nat.reduceLT, Nat.reduceLeDiff, Nat.reduceEqDiff, Int.reduceLT, Int.reduceBEq, Int.reduceBNe, Nat.reduceBEq, List.append_nil, Int.toNat_zero, Nat.sub_self, frS, ej2]
      refine hk _ ?_
      simp only [thenK, blockK]
      refine ⟨j, ⟨by omega, by rw [hd]; omega⟩, by omega, ?_⟩
      simp -implicitDefEqProofs only [evr, id, reduceCtorEq, reduceIte, Nat.reduceMul, Nat.reduceAdd, Nat.reduceLT, Nat.reduceLeDiff, Nat.reduceEqDiff, Int.reduceLT, Int.reduceBEq, Int.reduceBNe, Nat.reduceBEq, List.append_nil, Int.toNat_zero, Nat.sub_self, frS, evl]
      omega
  · simp only [decide_eq_false_iff_not] at h
    obtain rfl : q = 0 := by omega
    rw [List.drop_zero, d1.val] at hv
    have hsm : n ≤ 4611686018427387904 := by omega
    refine Sat.exit ?_
    simp only [thenK, blockK, reduceIte]
    (repeat refine Sat.seq ?_)
    (refine Sat.region_k fun k hk => ?_; simp -implicitDefEqProofs only [evr, id, reduceCtorEq, reduceIte, Nat.reduceMul, Nat.reduceAdd, Nat.reduceLT, Nat.reduceLeDiff, Nat.reduceEqDiff, Int.reduceLT, Int.reduceBEq, Int.reduceBNe, Nat.reduceBEq, List.append_nil, Int.toNat_zero, Nat.sub_self, frS]; refine hk _ ?_; clear hk k; try show Sat _ _ _ _ _)
    refine Sat.ret ?_
    simp only [Try.results17, evr, id, reduceCtorEq, reduceIte, Nat.reduceMul, Nat.reduceAdd, Nat.reduceLT, Nat.reduceLeDiff, Nat.reduceEqDiff, Int.reduceLT, Int.reduceBEq, Int.reduceBNe, Nat.reduceBEq, List.append_nil, Int.toNat_zero, Nat.sub_self, frS]
    unfold intV intE
    rw [if_pos hsm, if_pos hsm, d1.val]
set_option maxRecDepth 100000 in
theorem refSameC (F : Frm) {sa sb : SV} {m n : Nat} (ha : Nats sa m) (hb : Nats sb n) (b1 : (m : Int) < pw 512) (b2 : (n : Int) < pw 512) : Contract F Try.prog 24 [sa, sb] (fun r => r = .b (decide (m = n))) := by
  obtain ⟨xs, hi1, d1⟩ := ha.ints
  obtain ⟨ys, hi2, d2⟩ := hb.ints
  have l1 := (d1.len_le 512).2 b1
  have l2 := (d2.len_le 512).2 b2
  obtain ⟨a1, c1, z1, r1, rfl, hz1, hr1⟩ := hi1
  obtain ⟨a2, c2, z2, r2, rfl, hz2, hr2⟩ := hi2
  have hxy : xs = ys ↔ m = n := d1.inj d2
  refine contract_of Try.func24 rfl (by kernel_rfl) ?_
  simp only [Try.ntmps24, argEnv]
  (repeat refine Sat.seq ?_)
  (refine Sat.region_k fun k hk => ?_; simp -implicitDefEqProofs only [evr, id, reduceCtorEq, reduceIte, Nat.reduceMul, Nat.reduceAdd, Nat.reduceLT, Nat.reduceLeDiff, Nat.reduceEqDiff, Int.reduceLT, Int.reduceBEq, Int.reduceBNe, Nat.reduceBEq, List.append_nil, Int.toNat_zero, Nat.sub_self, frS]; refine hk _ ?_; clear hk k; try show Sat _ _ _ _ _)
  (repeat refine Sat.seq ?_)
  (refine Sat.region_k fun k hk => ?_; simp -implicitDefEqProofs only [evr, id, reduceCtorEq, reduceIte, Nat.reduceMul, Nat.reduceAdd, Nat.reduceLT, Nat.reduceLeDiff, Nat.reduceEqDiff, Int.reduceLT, Int.reduceBEq, Int.reduceBNe, Nat.reduceBEq, List.append_nil, Int.toNat_zero, Nat.sub_self, frS]; refine hk _ ?_; clear hk k; try show Sat _ _ _ _ _)
  refine Sat.cond_b rfl (fun h => ?_) (fun h => ?_)
  · have hne : xs.length ≠ ys.length := by
      simp only [bne_iff_ne] at h
      omega
    (repeat refine Sat.seq ?_)
    (refine Sat.region_k fun k hk => ?_; simp -implicitDefEqProofs only [evr, id, reduceCtorEq, reduceIte, Nat.reduceMul, Nat.reduceAdd, Nat.reduceLT, Nat.reduceLeDiff, Nat.reduceEqDiff, Int.reduceLT, Int.reduceBEq, Int.reduceBNe, Nat.reduceBEq, List.append_nil, Int.toNat_zero, Nat.sub_self, frS]; refine hk _ ?_; clear hk k; try show Sat _ _ _ _ _)
    refine Sat.ret ?_
    simp only [Try.results24, evr, id, reduceCtorEq, reduceIte, Nat.reduceMul, Nat.reduceAdd, Nat.reduceLT, Nat.reduceLeDiff, Nat.reduceEqDiff, Int.reduceLT, Int.reduceBEq, Int.reduceBNe, Nat.reduceBEq, List.append_nil, Int.toNat_zero, Nat.sub_self, frS]
    rw [decide_eq_false fun h9 => hne (by rw [hxy.2 h9])]
  have hlen : ys.length = xs.length := by
    have h9 : ¬ ((xs.length : Int) ≠ ys.length) := by
      intro h9
      rw [bne_iff_ne.2 h9] at h
      cases h
    omega
  refine Sat.skip ?_
  simp only [thenK]
  (repeat refine Sat.seq ?_)
  (refine Sat.region_k fun k hk => ?_; simp -implicitDefEqProofs only [evr, id, reduceCtorEq, reduceIte, Nat.reduceMul, Nat.reduceAdd, Nat.reduceLT, Nat.reduceLeDiff, Nat.reduceEqDiff, Int.reduceLT, Int.reduceBEq, Int.reduceBNe, Nat.reduceBEq, List.append_nil, Int.toNat_zero, Nat.sub_self, frS]; refine hk _ ?_; clear hk k; try show Sat _ _ _ _ _)
  (repeat refine Sat.seq ?_)
  refine Sat.block ?_
  (repeat refine Sat.seq ?_)
  refine Sat.loop (ι := Nat) (fun q => ⟨26, [(5, .i .i64 (q : Int)), (0, .sl a1 xs.length c1 z1 r1), (1, .sl a2 ys.length c2 z2 r2)], []⟩)
    (fun q => q ≤ xs.length ∧ ∀ i, i < q → xs.getD i 0 = ys.getD i 0) (fun q => xs.length - q) 0 ⟨Nat.zero_le _, fun i hi => by omega⟩ (by simp -implicitDefEqProofs only [evr, id, reduceCtorEq, reduceIte, Nat.reduceMul, Nat.reduceAdd, Nat.reduceLT, Nat.reduceLeDiff, Nat.reduceEqDiff, Int.reduceLT, Int.reduceBEq, Int.reduceBNe, Nat.reduceBEq, List.append_nil, Int.toNat_zero, Nat.sub_self, frS, evl]; try rfl) ?_
  rintro q ⟨hq, heq⟩
  (repeat refine Sat.seq ?_)
  (refine Sat.region_k fun k hk => ?_; simp -implicitDefEqProofs only [evr, id, reduceCtorEq, reduceIte, Nat.reduceMul, Nat.reduceAdd, Nat.reduceLT, Nat.reduceLeDiff, Nat.reduceEqDiff, Int.reduceLT, Int.reduceBEq, Int.reduceBNe, Nat.reduceBEq, List.append_nil, Int.toNat_zero, Nat.sub_self, frS]; refine hk _ ?_; clear hk k; try show Sat _ _ _ _ _)
  (repeat refine Sat.seq ?_)
  refine Sat.cond_b rfl (fun h => ?_) (fun h => ?_)
  · simp only [decide_eq_true_eq] at h
    have hj : q < xs.length := by omega
    have hsz1 : z1 = 1 := hz1.resolve_left (by omega)
    have hsz2 : z2 = 1 := hz2.resolve_left (by omega)
    subst hsz1 hsz2
    have g1 := hr1 q hj
    have g2 := hr2 q (by omega)
    have ej1 : IntKind.i64.wrap ((q : Int) + 1) = ((q + 1 : Nat) : Int) := by rw [w64 (by omega)]; omega
    refine Sat.skip ?_
    simp only [thenK]
    (repeat refine Sat.seq ?_)
    refine Sat.block ?_
    (repeat refine Sat.seq ?_)
    refine Sat.region_qk (by kernel_rfl) (by kernel_rfl) fun k hk => ?_
    simp -implicitDefEqProofs only [evr, id, reduceCtorEq, reduceIte, Nat.reduceMul, Nat.reduceAdd, Nat.reduceLT, Nat.reduceLeDiff, Nat.reduceEqDiff, Int.reduceLT, Int.reduceBEq, Int.reduceBNe, Nat.reduceBEq, List.append_nil, Int.toNat_zero, Nat.sub_self, frS]
    refine ⟨by omega, by omega, ?_⟩
    rw [g1, g2]
    simp -implicitDefEqProofs only [evr, id, reduceCtorEq, reduceIte, Nat.reduceMul, Nat.reduceAdd, Nat.reduceLT, Nat.reduceLeDiff, Nat.reduceEqDiff, Int.reduceLT, Int.reduceBEq, Int.reduceBNe, Nat.reduceBEq, List.append_nil, Int.toNat_zero, Nat.sub_self, frS]
    (refine hk _ ?_; clear hk k; try show Sat _ _ _ _ _)
    refine Sat.cond_b rfl (fun h9 => ?_) (fun h9 => ?_)
    · have hne : xs ≠ ys := fun h10 => by
        subst h10
        rw [bne_self_eq_false] at h9
        cases h9
      (repeat refine Sat.seq ?_)
      (refine Sat.region_k fun k hk => ?_; simp -implicitDefEqProofs only [evr, id, reduceCtorEq, reduceIte, Nat.reduceMul, Nat.reduceAdd, Nat.reduceLT, Nat.reduceLeDiff, Nat.reduceEqDiff, Int.reduceLT, Int.reduceBEq, Int.reduceBNe, Nat.reduceBEq, List.append_nil, Int.toNat_zero, Nat.sub_self, frS]; refine hk _ ?_; clear hk k; try show Sat _ _ _ _ _)
      refine Sat.ret ?_
      simp only [thenK, blockK, Try.results24, evr, id, reduceCtorEq, reduceIte, Nat.reduceMul, Nat.reduceAdd, Nat.reduceLT, Nat.reduceLeDiff, Nat.reduceEqDiff, Int.reduceLT, Int.reduceBEq, Int.reduceBNe, Nat.reduceBEq, List.append_nil, Int.toNat_zero, Nat.sub_self, frS]
      rw [decide_eq_false fun h10 => hne (hxy.2 h10)]
    · have hee : xs.getD q 0 = ys.getD q 0 := by
        by_cases h10 : xs.getD q 0 = ys.getD q 0
        · exact h10
        · rw [bne_iff_ne.2 h10] at h9; cases h9
      refine Sat.skip ?_
      simp only [thenK, blockK]
      (repeat refine Sat.seq ?_)
      refine Sat.region_k fun k hk => ?_
      simp -implicitDefEqProofs only [evr, id, reduceCtorEq, reduceIte, Nat.reduceMul, Nat.reduceAdd, Nat.reduceLT, Nat.reduceLeDiff, Nat.reduceEqDiff, Int.reduceLT, Int.reduceBEq, Int.reduceBNe, Nat.reduceBEq, List.append_nil, Int.toNat_zero, Nat.sub_self, frS, ej1]
      refine hk _ ?_
      simp only [thenK, blockK]
      refine ⟨q + 1, ⟨by omega, fun i hi => ?_⟩, by omega, ?_⟩
      · rcases (show i < q ∨ i = q by omega) with h10 | rfl
        · exact heq i h10
        · exact hee
      simp -implicitDefEqProofs only [evr, id, reduceCtorEq, reduceIte, Nat.reduceMul, Nat.reduceAdd, Nat.reduceLT, Nat.reduceLeDiff, Nat.reduceEqDiff, Int.reduceLT, Int.reduceBEq, Int.reduceBNe, Nat.reduceBEq, List.append_nil, Int.toNat_zero, Nat.sub_self, frS, evl]
  · simp only [decide_eq_false_iff_not] at h
    have hq2 : q = xs.length := by omega
    have hxs : xs = ys := by
      apply List.ext_getElem hlen.symm
      intro i h1 h2
      have := heq i (by omega)
      simpa [List.getD, h1, h2] using this
    refine Sat.exit ?_
    simp only [thenK, blockK, reduceIte]
    (repeat refine Sat.seq ?_)
    (refine Sat.region_k fun k hk => ?_; simp -implicitDefEqProofs only [evr, id, reduceCtorEq, reduceIte, Nat.reduceMul, Nat.reduceAdd, Nat.reduceLT, Nat.reduceLeDiff, Nat.reduceEqDiff, Int.reduceLT, Int.reduceBEq, Int.reduceBNe, Nat.reduceBEq, List.append_nil, Int.toNat_zero, Nat.sub_self, frS]; refine hk _ ?_; clear hk k; try show Sat _ _ _ _ _)
    refine Sat.ret ?_
    simp only [Try.results24, evr, id, reduceCtorEq, reduceIte, Nat.reduceMul, Nat.reduceAdd, Nat.reduceLT, Nat.reduceLeDiff, Nat.reduceEqDiff, Int.reduceLT, Int.reduceBEq, Int.reduceBNe, Nat.reduceBEq, List.append_nil, Int.toNat_zero, Nat.sub_self, frS]
    rw [decide_eq_true (hxy.1 hxs)]
set_option maxRecDepth 100000 in
theorem refSame3C (F : Frm) (na nb : Bool) {sp sq sr ss : SV} {p q r s : Nat} (hp : Nats sp p) (hq : Nats sq q) (hr : Nats sr r) (hs : Nats ss s) (b1 : (p : Int) < pw 512) (b2 : (q : Int) < pw 512) (b3 : (r : Int) < pw 512) (b4 : (s : Int) < pw 512) :
    Contract F Try.prog 19 [frS na sp sq, frS nb sr ss] (fun x => x = .b (decide (na = nb ∧ p = r ∧ q = s))) := by
  have hp' := hp
  have hq' := hq
  have hr' := hr
  have hs' := hs
  obtain ⟨a1, c1, z1, r1, x1, rfl, _⟩ := hp
  obtain ⟨a2, c2, z2, r2, x2, rfl, _⟩ := hq
  obtain ⟨a3, c3, z3, r3, x3, rfl, _⟩ := hr
  obtain ⟨a4, c4, z4, r4, x4, rfl, _⟩ := hs
  refine contract_of Try.func19 rfl (by kernel_rfl) ?_
  simp only [Try.ntmps19, argEnv, frS]
  (repeat refine Sat.seq ?_)
  (refine Sat.region_k fun k hk => ?_; simp -implicitDefEqProofs only [evr, id, reduceCtorEq, reduceIte, Nat.reduceMul, Nat.reduceAdd, Nat.reduceLT, Nat.reduceLeDiff, Nat.reduceEqDiff, Int.reduceLT, Int.reduceBEq, Int.reduceBNe, Nat.reduceBEq, List.append_nil, Int.toNat_zero, Nat.sub_self, frS])
  intro blk1 blk2
  (refine hk _ ?_; clear hk k; try show Sat _ _ _ _ _)
  (repeat refine Sat.seq ?_)
  refine Sat.region_at ⟨24, [(4, .b (decide (na = nb ∧ p = r ∧ q = s)))], []⟩ (fun k hk => ?_) ?_
  · simp -implicitDefEqProofs only [evr, id, reduceCtorEq, reduceIte, Nat.reduceMul, Nat.reduceAdd, Nat.reduceLT, Nat.reduceLeDiff, Nat.reduceEqDiff, Int.reduceLT, Int.reduceBEq, Int.reduceBNe, Nat.reduceBEq, List.append_nil, Int.toNat_zero, Nat.sub_self, frS]
    refine ⟨fun h => ?_, fun h => ?_⟩
    · have hn : na = nb := by simpa using h
      refine wcall_plain (refSameC F hp' hr' b1 b3) rfl (by rintro _ rfl; exact ok_plain rfl) ?_
      rintro y rfl
      simp -implicitDefEqProofs only [evr, id, reduceCtorEq, reduceIte, Nat.reduceMul, Nat.reduceAdd, Nat.reduceLT, Nat.reduceLeDiff, Nat.reduceEqDiff, Int.reduceLT, Int.reduceBEq, Int.reduceBNe, Nat.reduceBEq, List.append_nil, Int.toNat_zero, Nat.sub_self, frS]
      refine ⟨fun h2 => ?_, fun h2 => ?_⟩
      · refine wcall_plain (refSameC F hq' hs' b2 b4) rfl (by rintro _ rfl; exact ok_plain rfl) ?_
        rintro y rfl
        simp -implicitDefEqProofs only [evr, id, reduceCtorEq, reduceIte, Nat.reduceMul, Nat.reduceAdd, Nat.reduceLT, Nat.reduceLeDiff, Nat.reduceEqDiff, Int.reduceLT, Int.reduceBEq, Int.reduceBNe, Nat.reduceBEq, List.append_nil, Int.toNat_zero, Nat.sub_self, frS]
        refine hk _ ?_
        have e : decide (na = nb ∧ p = r ∧ q = s) = decide (q = s) := by simp [hn, h2]
        rw [e]
        simp -implicitDefEqProofs only [evr, id, reduceCtorEq, reduceIte, Nat.reduceMul, Nat.reduceAdd, Nat.reduceLT, Nat.reduceLeDiff, Nat.reduceEqDiff, Int.reduceLT, Int.reduceBEq, Int.reduceBNe, Nat.reduceBEq, List.append_nil, Int.toNat_zero, Nat.sub_self, frS, evl]
      · refine hk _ ?_
        have e : decide (na = nb ∧ p = r ∧ q = s) = false := by simp [h2]
        rw [e]
        simp -implicitDefEqProofs only [evr, id, reduceCtorEq, reduceIte, Nat.reduceMul, Nat.reduceAdd, Nat.reduceLT, Nat.reduceLeDiff, Nat.reduceEqDiff, Int.reduceLT, Int.reduceBEq, Int.reduceBNe, Nat.reduceBEq, List.append_nil, Int.toNat_zero, Nat.sub_self, frS, evl]
        try exact h2
    · have hn : ¬ na = nb := by simpa using h
      refine hk _ ?_
      have e : decide (na = nb ∧ p = r ∧ q = s) = false := by simp [hn]
      rw [e]
      simp -implicitDefEqProofs only [evr, id, reduceCtorEq, reduceIte, Nat.reduceMul, Nat.reduceAdd, Nat.reduceLT, Nat.reduceLeDiff, Nat.reduceEqDiff, Int.reduceLT, Int.reduceBEq, Int.reduceBNe, Nat.reduceBEq, List.append_nil, Int.toNat_zero, Nat.sub_self, frS, evl]
      try exact h
  simp only [thenK]
  refine Sat.ret ?_
  simp only [Try.results19, evr, id, reduceCtorEq, reduceIte, Nat.reduceMul, Nat.reduceAdd, Nat.reduceLT, Nat.reduceLeDiff, Nat.reduceEqDiff, Int.reduceLT, Int.reduceBEq, Int.reduceBNe, Nat.reduceBEq, List.append_nil, Int.toNat_zero, Nat.sub_self, frS]
end Go.Proofs.Ytagmohpafjncfaa

/- Package fraction: Valid, checked, Add: what each gives. -/
set_option linter.unusedSimpArgs false
set_option linter.unusedVariables false
namespace Go.Proofs.Ytagmohpafjncfaa
open Eng Lmb Go.RowKit
theorem norm_last {xs : List Int} (h : Norm xs) (h0 : 0 < xs.length) : xs.getD (xs.length - 1) 0 ≠ 0 := by
  induction xs with
  | nil => simp at h0
  | cons x t ih =>
    cases t with
    | nil => rw [norm_one] at h; simpa using h
    | cons y t =>
      have h2 : Norm (y :: t) := by rwa [norm_cons] at h
      have := ih h2 (by simp)
      simpa using this
set_option maxRecDepth 100000 in
theorem natValidC (F : Frm) {s : SV} {n : Nat} (hs : Nats s n) (hb : (n : Int) < pw 512) : Contract F Try.prog 87 [s] (fun r => r = .b (decide ((n : Int) < pw 256))) := by
  obtain ⟨xs, hi1, d1⟩ := hs.ints
  have l1 := (d1.len_le 512).2 hb
  have l2 := d1.len_le 256
  obtain ⟨a1, c1, z1, r1, rfl, hz1, hr1⟩ := hi1
  refine contract_of Try.func87 rfl (by kernel_rfl) ?_
  simp only [Try.ntmps87, argEnv]
  (repeat refine Sat.seq ?_)
  (refine Sat.region_k fun k hk => ?_; simp -implicitDefEqProofs only [evr, id, reduceCtorEq, reduceIte, Nat.reduceMul, Nat.reduceAdd, Nat.reduceLT, Nat.reduceLeDiff, Nat.reduceEqDiff, Int.reduceLT, Int.reduceBEq, Int.reduceBNe, Nat.reduceBEq, List.append_nil, Int.toNat_zero, Nat.sub_self, frS]; refine hk _ ?_; clear hk k; try show Sat _ _ _ _ _)
  (repeat refine Sat.seq ?_)
  (refine Sat.region_k fun k hk => ?_; simp -implicitDefEqProofs only [evr, id, reduceCtorEq, reduceIte, Nat.reduceMul, Nat.reduceAdd, Nat.reduceLT, Nat.reduceLeDiff, Nat.reduceEqDiff, Int.reduceLT, Int.reduceBEq, Int.reduceBNe, Nat.reduceBEq, List.append_nil, Int.toNat_zero, Nat.sub_self, frS]; refine hk _ ?_; clear hk k; try show Sat _ _ _ _ _)
  (repeat refine Sat.seq ?_)
  refine Sat.block ?_
  (repeat refine Sat.seq ?_)
  refine Sat.loop (ι := Nat) (fun q => ⟨35, [(7, .i .i64 (q : Int)), (6, .i .i64 (xs.length : Nat)), (5, .sl a1 xs.length c1 z1 r1), (0, .sl a1 xs.length c1 z1 r1)], []⟩)
    (fun q => q ≤ xs.length) (fun q => xs.length - q) 0 (Nat.zero_le _) (by simp -implicitDefEqProofs only [evr, id, reduceCtorEq, reduceIte, Nat.reduceMul, Nat.reduceAdd, Nat.reduceLT, Nat.reduceLeDiff, Nat.reduceEqDiff, Int.reduceLT, Int.reduceBEq, Int.reduceBNe, Nat.reduceBEq, List.append_nil, Int.toNat_zero, Nat.sub_self, frS, evl]; try rfl) ?_
  rintro q hq
  (repeat refine Sat.seq ?_)
  (refine Sat.region_k fun k hk => ?_; simp -implicitDefEqProofs only [evr, id, reduceCtorEq, reduceIte, Nat.reduceMul, Nat.reduceAdd, Nat.reduceLT, Nat.reduceLeDiff, Nat.reduceEqDiff, Int.reduceLT, Int.reduceBEq, Int.reduceBNe, Nat.reduceBEq, List.append_nil, Int.toNat_zero, Nat.sub_self, frS]; refine hk _ ?_; clear hk k; try show Sat _ _ _ _ _)
  (repeat refine Sat.seq ?_)
  refine Sat.cond_b rfl (fun h => ?_) (fun h => ?_)
  · simp only [decide_eq_true_eq] at h
    have hj : q < xs.length := by omega
    have hsz1 : z1 = 1 := hz1.resolve_left (by omega)
    subst hsz1
    have g1 := hr1 q hj
    have bx := limbs_getD d1.limbs q
    have ej1 : IntKind.i64.wrap ((q : Int) + 1) = ((q + 1 : Nat) : Int) := by rw [w64 (by omega)]; omega
    refine Sat.skip ?_
    simp only [thenK]
    (repeat refine Sat.seq ?_)
    refine Sat.block ?_
    (repeat refine Sat.seq ?_)
    (refine Sat.region_k fun k hk => ?_; simp -implicitDefEqProofs only [evr, id, reduceCtorEq, reduceIte, Nat.reduceMul, Nat.reduceAdd, Nat.reduceLT, Nat.reduceLeDiff, Nat.reduceEqDiff, Int.reduceLT, Int.reduceBEq, Int.reduceBNe, Nat.reduceBEq, List.append_nil, Int.toNat_zero, Nat.sub_self, frS])
    refine ⟨by omega, ?_⟩
    rw [g1]
    (refine hk _ ?_; clear hk k; try show Sat _ _ _ _ _)
    (repeat refine Sat.seq ?_)
    refine Sat.region_at ⟨35, [(16, .b false), (7, .i .i64 (q : Int)), (6, .i .i64 (xs.length : Nat)), (5, .sl a1 xs.length c1 1 r1), (0, .sl a1 xs.length c1 1 r1)], []⟩ (fun k hk => ?_) ?_
    · simp -implicitDefEqProofs only [evr, id, reduceCtorEq, reduceIte, Nat.reduceMul, Nat.reduceAdd, Nat.reduceLT, Nat.reduceLeDiff, Nat.reduceEqDiff, Int.reduceLT, Int.reduceBEq, Int.reduceBNe, Nat.reduceBEq, List.append_nil, Int.toNat_zero, Nat.sub_self, frS]
      refine ⟨fun h9 => by omega, fun h9 => ?_⟩
      refine hk _ ?_
      rw [decide_eq_false (by omega)]
      simp -implicitDefEqProofs only [evr, id, reduceCtorEq, reduceIte, Nat.reduceMul, Nat.reduceAdd, Nat.reduceLT, Nat.reduceLeDiff, Nat.reduceEqDiff, Int.reduceLT, Int.reduceBEq, Int.reduceBNe, Nat.reduceBEq, List.append_nil, Int.toNat_zero, Nat.sub_self, frS, evl]
    simp only [thenK]
    refine Sat.cond_b rfl (fun h => by cases h) (fun h => ?_)
    refine Sat.skip ?_
    simp only [thenK, blockK]
    (repeat refine Sat.seq ?_)
    refine Sat.region_k fun k hk => ?_
    simp -implicitDefEqProofs only [evr, id, reduceCtorEq, reduceIte, Nat.reduceMul, Nat.reduceAdd, Nat.reduceLT, Nat.reduceLeDiff, Nat.reduceEqDiff, Int.reduceLT, Int.reduceBEq, Int.reduceBNe, Nat.reduceBEq, List.append_nil, Int.toNat_zero, Nat.sub_self, frS, ej1]
    refine hk _ ?_
    simp only [thenK, blockK]
    refine ⟨q + 1, by show q + 1 ≤ xs.length; omega, by omega, ?_⟩
    simp -implicitDefEqProofs only [evr, id, reduceCtorEq, reduceIte, Nat.reduceMul, Nat.reduceAdd, Nat.reduceLT, Nat.reduceLeDiff, Nat.reduceEqDiff, Int.reduceLT, Int.reduceBEq, Int.reduceBNe, Nat.reduceBEq, List.append_nil, Int.toNat_zero, Nat.sub_self, frS, evl]
  · refine Sat.exit ?_
    simp only [thenK, blockK, reduceIte]
    (repeat refine Sat.seq ?_)
    refine Sat.region_at ⟨35, [(2, .b (decide ((n : Int) < pw 256)))], []⟩ (fun k hk => ?_) ?_
    · simp -implicitDefEqProofs only [evr, id, reduceCtorEq, reduceIte, Nat.reduceMul, Nat.reduceAdd, Nat.reduceLT, Nat.reduceLeDiff, Nat.reduceEqDiff, Int.reduceLT, Int.reduceBEq, Int.reduceBNe, Nat.reduceBEq, List.append_nil, Int.toNat_zero, Nat.sub_self, frS]
      refine ⟨fun h9 => ⟨fun h8 => ?_, fun h8 => ?_⟩, fun h9 => ?_⟩
      · refine hk _ ?_
        have e : decide ((n : Int) < pw 256) = true := decide_eq_true (l2.1 (by omega))
        rw [e]
        simp -implicitDefEqProofs only [evr, id, reduceCtorEq, reduceIte, Nat.reduceMul, Nat.reduceAdd, Nat.reduceLT, Nat.reduceLeDiff, Nat.reduceEqDiff, Int.reduceLT, Int.reduceBEq, Int.reduceBNe, Nat.reduceBEq, List.append_nil, Int.toNat_zero, Nat.sub_self, frS, evl]
        try exact h8
      · have h7 : ¬ (xs.length : Int) = 0 := by
          intro h6
          rw [h6] at h8
          cases h8
        have hsz1 : z1 = 1 := hz1.resolve_left (by omega)
        subst hsz1
        have e1 : IntKind.i64.wrap ((xs.length : Int) - 1) = ((xs.length - 1 : Nat) : Int) := by rw [w64 (by omega)]; omega
        rw [e1]
        refine ⟨by omega, ?_⟩
        rw [Int.toNat_natCast, hr1 _ (by omega)]
        simp -implicitDefEqProofs only [evr, id, reduceCtorEq, reduceIte, Nat.reduceMul, Nat.reduceAdd, Nat.reduceLT, Nat.reduceLeDiff, Nat.reduceEqDiff, Int.reduceLT, Int.reduceBEq, Int.reduceBNe, Nat.reduceBEq, List.append_nil, Int.toNat_zero, Nat.sub_self, frS]
        refine hk _ ?_
        have e : decide ((n : Int) < pw 256) = true := decide_eq_true (l2.1 (by omega))
        rw [e, bne_iff_ne.2 (norm_last d1.norm (by omega))]
        simp -implicitDefEqProofs only [evr, id, reduceCtorEq, reduceIte, Nat.reduceMul, Nat.reduceAdd, Nat.reduceLT, Nat.reduceLeDiff, Nat.reduceEqDiff, Int.reduceLT, Int.reduceBEq, Int.reduceBNe, Nat.reduceBEq, List.append_nil, Int.toNat_zero, Nat.sub_self, frS, evl]
      · refine hk _ ?_
        have e : decide ((n : Int) < pw 256) = false := decide_eq_false (fun h6 => h9 (by have := l2.2 h6; omega))
        rw [e]
        simp -implicitDefEqProofs only [evr, id, reduceCtorEq, reduceIte, Nat.reduceMul, Nat.reduceAdd, Nat.reduceLT, Nat.reduceLeDiff, Nat.reduceEqDiff, Int.reduceLT, Int.reduceBEq, Int.reduceBNe, Nat.reduceBEq, List.append_nil, Int.toNat_zero, Nat.sub_self, frS, evl]
        try exact h9
    simp only [thenK]
    refine Sat.ret ?_
    simp only [Try.results87, evr, id, reduceCtorEq, reduceIte, Nat.reduceMul, Nat.reduceAdd, Nat.reduceLT, Nat.reduceLeDiff, Nat.reduceEqDiff, Int.reduceLT, Int.reduceBEq, Int.reduceBNe, Nat.reduceBEq, List.append_nil, Int.toNat_zero, Nat.sub_self, frS]
set_option maxRecDepth 100000 in
theorem fracTermC (F : Frm) {s : SV} {n : Nat} (hs : Nats s n) (hb : (n : Int) < pw 512) : Contract F Try.prog 86 [s] (fun r => r = .b (decide ((n : Int) < pw 64))) := by
  have hs' := hs
  obtain ⟨xs, hi1, d1⟩ := hs.ints
  have l2 := d1.len_le 64
  obtain ⟨a1, c1, z1, r1, rfl, hz1, hr1⟩ := hi1
  refine contract_of Try.func86 rfl (by kernel_rfl) ?_
  simp only [Try.ntmps86, argEnv]
  (repeat refine Sat.seq ?_)
  (refine Sat.region_k fun k hk => ?_; simp -implicitDefEqProofs only [evr, id, reduceCtorEq, reduceIte, Nat.reduceMul, Nat.reduceAdd, Nat.reduceLT, Nat.reduceLeDiff, Nat.reduceEqDiff, Int.reduceLT, Int.reduceBEq, Int.reduceBNe, Nat.reduceBEq, List.append_nil, Int.toNat_zero, Nat.sub_self, frS]; refine hk _ ?_; clear hk k; try show Sat _ _ _ _ _)
  (repeat refine Sat.seq ?_)
  refine Sat.region_at ⟨10, [(2, .b (decide ((n : Int) < pw 64)))], []⟩ (fun k hk => ?_) ?_
  · simp -implicitDefEqProofs only [evr, id, reduceCtorEq, reduceIte, Nat.reduceMul, Nat.reduceAdd, Nat.reduceLT, Nat.reduceLeDiff, Nat.reduceEqDiff, Int.reduceLT, Int.reduceBEq, Int.reduceBNe, Nat.reduceBEq, List.append_nil, Int.toNat_zero, Nat.sub_self, frS]
    refine wcall_plain (natValidC F hs' hb) rfl (by rintro _ rfl; exact ok_plain rfl) ?_
    rintro y rfl
    simp -implicitDefEqProofs only [evr, id, reduceCtorEq, reduceIte, Nat.reduceMul, Nat.reduceAdd, Nat.reduceLT, Nat.reduceLeDiff, Nat.reduceEqDiff, Int.reduceLT, Int.reduceBEq, Int.reduceBNe, Nat.reduceBEq, List.append_nil, Int.toNat_zero, Nat.sub_self, frS]
    refine ⟨fun h9 => ?_, fun h9 => ?_⟩
    · refine hk _ ?_
      have e : decide ((n : Int) < pw 64) = decide ((xs.length : Int) ≤ 64) := by
        congr 1
        apply propext
        rw [← l2]
        omega
      rw [e]
      simp -implicitDefEqProofs only [evr, id, reduceCtorEq, reduceIte, Nat.reduceMul, Nat.reduceAdd, Nat.reduceLT, Nat.reduceLeDiff, Nat.reduceEqDiff, Int.reduceLT, Int.reduceBEq, Int.reduceBNe, Nat.reduceBEq, List.append_nil, Int.toNat_zero, Nat.sub_self, frS, evl]
    · refine hk _ ?_
      have e : decide ((n : Int) < pw 64) = false := decide_eq_false fun h8 => h9 (by have := pw_mono (show 64 ≤ 256 by omega); omega)
      rw [e]
      simp -implicitDefEqProofs only [evr, id, reduceCtorEq, reduceIte, Nat.reduceMul, Nat.reduceAdd, Nat.reduceLT, Nat.reduceLeDiff, Nat.reduceEqDiff, Int.reduceLT, Int.reduceBEq, Int.reduceBNe, Nat.reduceBEq, List.append_nil, Int.toNat_zero, Nat.sub_self, frS, evl]
      try exact decide_eq_false h9
  simp only [thenK]
  refine Sat.ret ?_
  simp only [Try.results86, evr, id, reduceCtorEq, reduceIte, Nat.reduceMul, Nat.reduceAdd, Nat.reduceLT, Nat.reduceLeDiff, Nat.reduceEqDiff, Int.reduceLT, Int.reduceBEq, Int.reduceBNe, Nat.reduceBEq, List.append_nil, Int.toNat_zero, Nat.sub_self, frS]
def frOk (neg : Bool) (p q : Nat) : Bool := decide ((p : Int) < pw 64) && (decide ((q : Int) < pw 64) && (decide (0 < q) && !(neg && decide (p = 0))))
set_option maxRecDepth 100000 in
theorem fractionValidC (F : Frm) (neg : Bool) {sp sq : SV} {p q : Nat} (hp : Nats sp p) (hq : Nats sq q) (b1 : (p : Int) < pw 512) (b2 : (q : Int) < pw 512) : Contract F Try.prog 81 [frS neg sp sq] (fun r => r = .b (frOk neg p q)) := by
  have hp' := hp
  have hq' := hq
  obtain ⟨a1, c1, z1, r1, x1, rfl, _⟩ := hp
  obtain ⟨a2, c2, z2, r2, x2, rfl, _⟩ := hq
  have hl1 := hp'.len0
  have hl2 := hq'.len
  refine contract_of Try.func81 rfl (by kernel_rfl) ?_
  simp only [Try.ntmps81, argEnv, frS]
  (repeat refine Sat.seq ?_)
  (refine Sat.region_k fun k hk => ?_; simp -implicitDefEqProofs only [evr, id, reduceCtorEq, reduceIte, Nat.reduceMul, Nat.reduceAdd, Nat.reduceLT, Nat.reduceLeDiff, Nat.reduceEqDiff, Int.reduceLT, Int.reduceBEq, Int.reduceBNe, Nat.reduceBEq, List.append_nil, Int.toNat_zero, Nat.sub_self, frS])
  intro blk1
  (refine hk _ ?_; clear hk k; try show Sat _ _ _ _ _)
  (repeat refine Sat.seq ?_)
  (refine Sat.region_k fun k hk => ?_; simp -implicitDefEqProofs only [evr, id, reduceCtorEq, reduceIte, Nat.reduceMul, Nat.reduceAdd, Nat.reduceLT, Nat.reduceLeDiff, Nat.reduceEqDiff, Int.reduceLT, Int.reduceBEq, Int.reduceBNe, Nat.reduceBEq, List.append_nil, Int.toNat_zero, Nat.sub_self, frS]; refine hk _ ?_; clear hk k; try show Sat _ _ _ _ _)
  (repeat refine Sat.seq ?_)
  refine Sat.region_at ⟨31, [(2, .b (frOk neg p q))], []⟩ (fun k hk => ?_) ?_
  · simp -implicitDefEqProofs only [evr, id, reduceCtorEq, reduceIte, Nat.reduceMul, Nat.reduceAdd, Nat.reduceLT, Nat.reduceLeDiff, Nat.reduceEqDiff, Int.reduceLT, Int.reduceBEq, Int.reduceBNe, Nat.reduceBEq, List.append_nil, Int.toNat_zero, Nat.sub_self, frS]
    refine wcall_plain (fracTermC F hp' b1) rfl (by rintro _ rfl; exact ok_plain rfl) ?_
    rintro y rfl
    simp -implicitDefEqProofs only [evr, id, reduceCtorEq, reduceIte, Nat.reduceMul, Nat.reduceAdd, Nat.reduceLT, Nat.reduceLeDiff, Nat.reduceEqDiff, Int.reduceLT, Int.reduceBEq, Int.reduceBNe, Nat.reduceBEq, List.append_nil, Int.toNat_zero, Nat.sub_self, frS]
    unfold frOk at hk
    refine ⟨fun h9 => ?_, fun h9 => ?_⟩
    · rw [decide_eq_true h9, Bool.true_and] at hk
      refine wcall_plain (fracTermC F hq' b2) rfl (by rintro _ rfl; exact ok_plain rfl) ?_
      rintro y rfl
      simp -implicitDefEqProofs only [evr, id, reduceCtorEq, reduceIte, Nat.reduceMul, Nat.reduceAdd, Nat.reduceLT, Nat.reduceLeDiff, Nat.reduceEqDiff, Int.reduceLT, Int.reduceBEq, Int.reduceBNe, Nat.reduceBEq, List.append_nil, Int.toNat_zero, Nat.sub_self, frS, hl1, hl2]
      refine ⟨fun h8 => ?_, fun h8 => ?_⟩
      · rw [decide_eq_true h8, Bool.true_and] at hk
        refine ⟨fun h7 => ?_, fun h7 => ?_⟩
        · rw [decide_eq_true h7, Bool.true_and] at hk
          refine ⟨fun h6 => ?_, fun h6 => ?_⟩
          · refine hk _ ?_
            subst h6
            simp -implicitDefEqProofs only [evr, id, reduceCtorEq, reduceIte, Nat.reduceMul, Nat.reduceAdd, Nat.reduceLT, Nat.reduceLeDiff, Nat.reduceEqDiff, Int.reduceLT, Int.reduceBEq, Int.reduceBNe, Nat.reduceBEq, List.append_nil, Int.toNat_zero, Nat.sub_self, frS, evl]
          · refine hk _ ?_
            subst h6
            simp -implicitDefEqProofs only [evr, id, reduceCtorEq, reduceIte, Nat.reduceMul, Nat.reduceAdd, Nat.reduceLT, Nat.reduceLeDiff, Nat.reduceEqDiff, Int.reduceLT, Int.reduceBEq, Int.reduceBNe, Nat.reduceBEq, List.append_nil, Int.toNat_zero, Nat.sub_self, frS, evl]
            rfl
        · rw [decide_eq_false h7, Bool.false_and] at hk
          refine hk _ ?_
          simp -implicitDefEqProofs only [evr, id, reduceCtorEq, reduceIte, Nat.reduceMul, Nat.reduceAdd, Nat.reduceLT, Nat.reduceLeDiff, Nat.reduceEqDiff, Int.reduceLT, Int.reduceBEq, Int.reduceBNe, Nat.reduceBEq, List.append_nil, Int.toNat_zero, Nat.sub_self, frS, evl]
          try exact decide_eq_false h7
      · rw [decide_eq_false h8, Bool.false_and] at hk
        refine hk _ ?_
        simp -implicitDefEqProofs only [evr, id, reduceCtorEq, reduceIte, Nat.reduceMul, Nat.reduceAdd, Nat.reduceLT, Nat.reduceLeDiff, Nat.reduceEqDiff, Int.reduceLT, Int.reduceBEq, Int.reduceBNe, Nat.reduceBEq, List.append_nil, Int.toNat_zero, Nat.sub_self, frS, evl]
        try exact decide_eq_false h8
    · rw [decide_eq_false h9, Bool.false_and] at hk
      refine hk _ ?_
      simp -implicitDefEqProofs only [evr, id, reduceCtorEq, reduceIte, Nat.reduceMul, Nat.reduceAdd, Nat.reduceLT, Nat.reduceLeDiff, Nat.reduceEqDiff, Int.reduceLT, Int.reduceBEq, Int.reduceBNe, Nat.reduceBEq, List.append_nil, Int.toNat_zero, Nat.sub_self, frS, evl]
      try exact decide_eq_false h9
  simp only [thenK]
  refine Sat.ret ?_
  simp only [Try.results81, evr, id, reduceCtorEq, reduceIte, Nat.reduceMul, Nat.reduceAdd, Nat.reduceLT, Nat.reduceLeDiff, Nat.reduceEqDiff, Int.reduceLT, Int.reduceBEq, Int.reduceBNe, Nat.reduceBEq, List.append_nil, Int.toNat_zero, Nat.sub_self, frS]
set_option maxRecDepth 100000 in
theorem checkedC (F : Frm) (neg : Bool) {sp sq : SV} {p q : Nat} (hp : Nats sp p) (hq : Nats sq q) (b1 : (p : Int) < pw 512) (b2 : (q : Int) < pw 512) : Contract F Try.prog 72 [frS neg sp sq]
    (fun r => (frOk neg p q = true ∧ ∃ f, r = tupL [f, .i .i64 0] ∧ FrS f neg p q) ∨ (frOk neg p q = false ∧ ∃ f, r = tupL [f, .i .i64 5] ∧ FrS f false 0 0)) := by
  have hp' := hp
  have hq' := hq
  obtain ⟨a1, c1, z1, r1, x1, rfl, _⟩ := hp
  obtain ⟨a2, c2, z2, r2, x2, rfl, _⟩ := hq
  refine contract_of Try.func72 rfl (by kernel_rfl) ?_
  simp only [Try.ntmps72, argEnv, frS]
  (repeat refine Sat.seq ?_)
  (refine Sat.region_k fun k hk => ?_; simp -implicitDefEqProofs only [evr, id, reduceCtorEq, reduceIte, Nat.reduceMul, Nat.reduceAdd, Nat.reduceLT, Nat.reduceLeDiff, Nat.reduceEqDiff, Int.reduceLT, Int.reduceBEq, Int.reduceBNe, Nat.reduceBEq, List.append_nil, Int.toNat_zero, Nat.sub_self, frS])
  intro blk1 blk2
  (refine hk _ ?_; clear hk k; try show Sat _ _ _ _ _)
  (repeat refine Sat.seq ?_)
  (refine Sat.region_k fun k hk => ?_; simp -implicitDefEqProofs only [evr, id, reduceCtorEq, reduceIte, Nat.reduceMul, Nat.reduceAdd, Nat.reduceLT, Nat.reduceLeDiff, Nat.reduceEqDiff, Int.reduceLT, Int.reduceBEq, Int.reduceBNe, Nat.reduceBEq, List.append_nil, Int.toNat_zero, Nat.sub_self, frS])
  refine wcall_plain (fractionValidC F neg hp' hq' b1 b2) (by simp -implicitDefEqProofs only [evr, id, reduceCtorEq, reduceIte, Nat.reduceMul, Nat.reduceAdd, Nat.reduceLT, Nat.reduceLeDiff, Nat.reduceEqDiff, Int.reduceLT, Int.reduceBEq, Int.reduceBNe, Nat.reduceBEq, List.append_nil, Int.toNat_zero, Nat.sub_self, frS]; try rfl) (by rintro _ rfl; exact ok_plain rfl) ?_
  rintro y rfl
  simp -implicitDefEqProofs only [evr, id, reduceCtorEq, reduceIte, Nat.reduceMul, Nat.reduceAdd, Nat.reduceLT, Nat.reduceLeDiff, Nat.reduceEqDiff, Int.reduceLT, Int.reduceBEq, Int.reduceBNe, Nat.reduceBEq, List.append_nil, Int.toNat_zero, Nat.sub_self, frS]
  (refine hk _ ?_; clear hk k; try show Sat _ _ _ _ _)
  refine Sat.cond_b rfl (fun h => ?_) (fun h => ?_)
  · have h0 : frOk neg p q = false := by simpa using h
    (repeat refine Sat.seq ?_)
    (refine Sat.region_k fun k hk => ?_; simp -implicitDefEqProofs only [evr, id, reduceCtorEq, reduceIte, Nat.reduceMul, Nat.reduceAdd, Nat.reduceLT, Nat.reduceLeDiff, Nat.reduceEqDiff, Int.reduceLT, Int.reduceBEq, Int.reduceBNe, Nat.reduceBEq, List.append_nil, Int.toNat_zero, Nat.sub_self, frS]; refine hk _ ?_; clear hk k; try show Sat _ _ _ _ _)
    refine Sat.ret ?_
    simp only [Try.results72, evr, id, reduceCtorEq, reduceIte, Nat.reduceMul, Nat.reduceAdd, Nat.reduceLT, Nat.reduceLeDiff, Nat.reduceEqDiff, Int.reduceLT, Int.reduceBEq, Int.reduceBNe, Nat.reduceBEq, List.append_nil, Int.toNat_zero, Nat.sub_self, frS]
    exact .inr ⟨h0, _, rfl, _, _, rfl, Nats.nil, Nats.nil⟩
  · have h0 : frOk neg p q = true := by simpa using h
    refine Sat.skip ?_
    simp only [thenK]
    (repeat refine Sat.seq ?_)
    (refine Sat.region_k fun k hk => ?_; simp -implicitDefEqProofs only [evr, id, reduceCtorEq, reduceIte, Nat.reduceMul, Nat.reduceAdd, Nat.reduceLT, Nat.reduceLeDiff, Nat.reduceEqDiff, Int.reduceLT, Int.reduceBEq, Int.reduceBNe, Nat.reduceBEq, List.append_nil, Int.toNat_zero, Nat.sub_self, frS]; refine hk _ ?_; clear hk k; try show Sat _ _ _ _ _)
    refine Sat.ret ?_
    simp only [Try.results72, evr, id, reduceCtorEq, reduceIte, Nat.reduceMul, Nat.reduceAdd, Nat.reduceLT, Nat.reduceLeDiff, Nat.reduceEqDiff, Int.reduceLT, Int.reduceBEq, Int.reduceBNe, Nat.reduceBEq, List.append_nil, Int.toNat_zero, Nat.sub_self, frS]
    exact .inl ⟨h0, _, rfl, _, _, rfl, hp', hq'⟩
def addG (na : Bool) (p q : Nat) (nb : Bool) (r s : Nat) : Nat := Nat.gcd (sumV na (p * s) nb (r * q)).2 (q * s)
def addP (na : Bool) (p q : Nat) (nb : Bool) (r s : Nat) : Nat := (sumV na (p * s) nb (r * q)).2 / addG na p q nb r s
def addQ (na : Bool) (p q : Nat) (nb : Bool) (r s : Nat) : Nat := q * s / addG na p q nb r s
def addN (na : Bool) (p q : Nat) (nb : Bool) (r s : Nat) : Bool := (sumV na (p * s) nb (r * q)).1 && decide (0 < addP na p q nb r s)
theorem sumV_le (na : Bool) (a : Nat) (nb : Bool) (b : Nat) : (sumV na a nb b).2 ≤ a + b := by
  unfold sumV
  split
  · exact Nat.le_refl _
  · split <;> simp <;> omega
set_option maxRecDepth 100000 in
theorem fractionAddC (F : Frm) (na nb : Bool) {sp sq sr ss : SV} {p q r s : Nat} (hp : Nats sp p) (hq : Nats sq q) (hr : Nats sr r) (hs : Nats ss s)
    (b1 : (p : Int) < pw 256) (b2 : (q : Int) < pw 256) (b3 : (r : Int) < pw 256) (b4 : (s : Int) < pw 256) (b5 : ((p * s : Nat) : Int) < pw 256) (b6 : ((r * q : Nat) : Int) < pw 256) (b7 : ((p * s + r * q : Nat) : Int) < pw 256) (b8 : ((q * s : Nat) : Int) < pw 256) (hq0 : 0 < q) (hs0 : 0 < s) :
    Contract F Try.prog 49 [frS na sp sq, frS nb sr ss]
      (fun x => (frOk (addN na p q nb r s) (addP na p q nb r s) (addQ na p q nb r s) = true ∧ ∃ f, x = tupL [f, .i .i64 0] ∧ FrS f (addN na p q nb r s) (addP na p q nb r s) (addQ na p q nb r s)) ∨ (frOk (addN na p q nb r s) (addP na p q nb r s) (addQ na p q nb r s) = false ∧ ∃ f, x = tupL [f, .i .i64 5] ∧ FrS f false 0 0)) := by
  have hp' := hp
  have hq' := hq
  have hr' := hr
  have hs' := hs
  have up : ∀ x : Nat, (x : Int) < pw 256 → (x : Int) < pw 512 := fun x hx => by have := pw_mono (show 256 ≤ 512 by omega); omega
  obtain ⟨a1, c1, z1, r1, x1, rfl, _⟩ := hp
  obtain ⟨a2, c2, z2, r2, x2, rfl, _⟩ := hq
  obtain ⟨a3, c3, z3, r3, x3, rfl, _⟩ := hr
  obtain ⟨a4, c4, z4, r4, x4, rfl, _⟩ := hs
  refine contract_of Try.func49 rfl (by kernel_rfl) ?_
  simp only [Try.ntmps49, argEnv, frS]
  (repeat refine Sat.seq ?_)
  (refine Sat.region_k fun k hk => ?_; simp -implicitDefEqProofs only [evr, id, reduceCtorEq, reduceIte, Nat.reduceMul, Nat.reduceAdd, Nat.reduceLT, Nat.reduceLeDiff, Nat.reduceEqDiff, Int.reduceLT, Int.reduceBEq, Int.reduceBNe, Nat.reduceBEq, List.append_nil, Int.toNat_zero, Nat.sub_self, frS])
  intro k1 k2 k3
  (refine hk _ ?_; clear hk k; try show Sat _ _ _ _ _)
  (repeat refine Sat.seq ?_)
  (refine Sat.region_rows [⟨0, 10, 4, 0⟩, ⟨1, 11, 512, 1⟩, ⟨0, 12, 4, 0⟩, ⟨4, 13, 2048, 1⟩, ⟨0, 14, 8, 0⟩, ⟨16, 15, 8192, 1⟩, ⟨40, 16, 20480, 2⟩, ⟨0, 17, 8, 0⟩, ⟨128, 18, 65536, 1⟩, ⟨0, 19, 8, 0⟩, ⟨512, 20, 262144, 1⟩, ⟨0, 21, 4, 0⟩, ⟨2048, 22, 1048576, 1⟩, ⟨5184, 23, 2621440, 2⟩, ⟨8514, 24, 4359168, 2⟩, ⟨16384, 9, 8388608, 0⟩, ⟨32768, 25, 256, 0⟩, ⟨32768, 26, 256, 0⟩, ⟨131071, 7, 16777216, 0⟩, ⟨524287, 8, 33554432, 0⟩] [0, 2, 4, 7, 9, 11, 1, 3, 5, 8, 10, 12] [(6, false), (13, false), (14, false), (15, false), (16, true), (17, true), (18, false), (19, false)] [6, 13] (by kernel_rfl) (by kernel_rfl) (fun _ _ h => h) fun k hk => ?_; simp only [List.map_cons, List.map_nil, List.getD_cons_zero, List.getD_cons_succ, btseq_cons, btseq_free, btseq_nil]; simp -implicitDefEqProofs only [evr, id, reduceCtorEq, reduceIte, Nat.reduceMul, Nat.reduceAdd, Nat.reduceLT, Nat.reduceLeDiff, Nat.reduceEqDiff, Int.reduceLT, Int.reduceBEq, Int.reduceBNe, Nat.reduceBEq, List.append_nil, Int.toNat_zero, Nat.sub_self, frS])
  refine wcall_slice (fractionProductC F hp' hs' b1 b4 b5) rfl (by simp -implicitDefEqProofs only [evr, id, reduceCtorEq, reduceIte, Nat.reduceMul, Nat.reduceAdd, Nat.reduceLT, Nat.reduceLeDiff, Nat.reduceEqDiff, Int.reduceLT, Int.reduceBEq, Int.reduceBNe, Nat.reduceBEq, List.append_nil, Int.toNat_zero, Nat.sub_self, frS]; try rfl) ?_
  intro y hy
  have hy1 := hy
  obtain ⟨a5, c5, z5, r5, x5, rfl, _⟩ := hy
  simp -implicitDefEqProofs only [evr, id, reduceCtorEq, reduceIte, Nat.reduceMul, Nat.reduceAdd, Nat.reduceLT, Nat.reduceLeDiff, Nat.reduceEqDiff, Int.reduceLT, Int.reduceBEq, Int.reduceBNe, Nat.reduceBEq, List.append_nil, Int.toNat_zero, Nat.sub_self, frS]
  refine wcall_slice (fractionProductC F hr' hq' b3 b2 b6) rfl (by simp -implicitDefEqProofs only [evr, id, reduceCtorEq, reduceIte, Nat.reduceMul, Nat.reduceAdd, Nat.reduceLT, Nat.reduceLeDiff, Nat.reduceEqDiff, Int.reduceLT, Int.reduceBEq, Int.reduceBNe, Nat.reduceBEq, List.append_nil, Int.toNat_zero, Nat.sub_self, frS]; try rfl) ?_
  intro y hy
  have hy2 := hy
  obtain ⟨a6, c6, z6, r6, x6, rfl, _⟩ := hy
  simp -implicitDefEqProofs only [evr, id, reduceCtorEq, reduceIte, Nat.reduceMul, Nat.reduceAdd, Nat.reduceLT, Nat.reduceLeDiff, Nat.reduceEqDiff, Int.reduceLT, Int.reduceBEq, Int.reduceBNe, Nat.reduceBEq, List.append_nil, Int.toNat_zero, Nat.sub_self, frS]
  refine wcall_slice (fractionSumC F na nb hy1 hy2 b5 b6 b7) rfl (by simp -implicitDefEqProofs only [evr, id, reduceCtorEq, reduceIte, Nat.reduceMul, Nat.reduceAdd, Nat.reduceLT, Nat.reduceLeDiff, Nat.reduceEqDiff, Int.reduceLT, Int.reduceBEq, Int.reduceBNe, Nat.reduceBEq, List.append_nil, Int.toNat_zero, Nat.sub_self, frS]; try rfl) ?_
  rintro y ⟨sv, rfl, hy⟩
  have hy3 := hy
  obtain ⟨a7, c7, z7, r7, x7, rfl, _⟩ := hy
  simp -implicitDefEqProofs only [evr, id, reduceCtorEq, reduceIte, Nat.reduceMul, Nat.reduceAdd, Nat.reduceLT, Nat.reduceLeDiff, Nat.reduceEqDiff, Int.reduceLT, Int.reduceBEq, Int.reduceBNe, Nat.reduceBEq, List.append_nil, Int.toNat_zero, Nat.sub_self, frS]
  (refine hk _ ?_; clear hk k; try show Sat _ _ _ _ _)
  have bs : (((sumV na (p * s) nb (r * q)).2 : Nat) : Int) < pw 256 := by have := sumV_le na (p * s) nb (r * q); omega
  have bP : ((addP na p q nb r s : Nat) : Int) < pw 512 := up _ (by have : addP na p q nb r s ≤ (sumV na (p * s) nb (r * q)).2 := Nat.div_le_self _ _; omega)
  have bQ : ((addQ na p q nb r s : Nat) : Int) < pw 512 := up _ (by have : addQ na p q nb r s ≤ q * s := Nat.div_le_self _ _; omega)
  (repeat refine Sat.seq ?_)
  (refine Sat.region_k fun k hk => ?_; simp -implicitDefEqProofs only [evr, id, reduceCtorEq, reduceIte, Nat.reduceMul, Nat.reduceAdd, Nat.reduceLT, Nat.reduceLeDiff, Nat.reduceEqDiff, Int.reduceLT, Int.reduceBEq, Int.reduceBNe, Nat.reduceBEq, List.append_nil, Int.toNat_zero, Nat.sub_self, frS])
  refine wcall_slice (fractionProductC F hq' hs' b2 b4 b8) rfl (by simp -implicitDefEqProofs only [evr, id, reduceCtorEq, reduceIte, Nat.reduceMul, Nat.reduceAdd, Nat.reduceLT, Nat.reduceLeDiff, Nat.reduceEqDiff, Int.reduceLT, Int.reduceBEq, Int.reduceBNe, Nat.reduceBEq, List.append_nil, Int.toNat_zero, Nat.sub_self, frS]; try rfl) ?_
  intro y hy
  have hy4 := hy
  obtain ⟨a8, c8, z8, r8, x8, rfl, _⟩ := hy
  simp -implicitDefEqProofs only [evr, id, reduceCtorEq, reduceIte, Nat.reduceMul, Nat.reduceAdd, Nat.reduceLT, Nat.reduceLeDiff, Nat.reduceEqDiff, Int.reduceLT, Int.reduceBEq, Int.reduceBNe, Nat.reduceBEq, List.append_nil, Int.toNat_zero, Nat.sub_self, frS]
  refine wcall_slice (fractionReducedC F _ hy3 hy4 bs b8 (Nat.mul_pos hq0 hs0)) rfl (by simp -implicitDefEqProofs only [evr, id, reduceCtorEq, reduceIte, Nat.reduceMul, Nat.reduceAdd, Nat.reduceLT, Nat.reduceLeDiff, Nat.reduceEqDiff, Int.reduceLT, Int.reduceBEq, Int.reduceBNe, Nat.reduceBEq, List.append_nil, Int.toNat_zero, Nat.sub_self, frS]; try rfl) ?_
  rintro y ⟨sp3, sq3, rfl, h3, h4⟩
  have h3' : Nats sp3 (addP na p q nb r s) := h3
  have h4' : Nats sq3 (addQ na p q nb r s) := h4
  have h3b := h3'
  have h4b := h4'
  clear h3 h4
  obtain ⟨a9, c9, z9, r9, x9, rfl, _⟩ := h3b
  obtain ⟨a10, c10, z10, r10, x10, rfl, _⟩ := h4b
  simp only [frS, evr, id, reduceCtorEq, reduceIte, Nat.reduceMul, Nat.reduceAdd, Nat.reduceLT, Nat.reduceLeDiff, Nat.reduceEqDiff, Int.reduceLT, Int.reduceBEq, Int.reduceBNe, Nat.reduceBEq, List.append_nil, Int.toNat_zero, Nat.sub_self, frS]
  refine wcall_slice (checkedC F (addN na p q nb r s) h3' h4' bP bQ) rfl (by simp -implicitDefEqProofs only [evr, id, reduceCtorEq, reduceIte, Nat.reduceMul, Nat.reduceAdd, Nat.reduceLT, Nat.reduceLeDiff, Nat.reduceEqDiff, Int.reduceLT, Int.reduceBEq, Int.reduceBNe, Nat.reduceBEq, List.append_nil, Int.toNat_zero, Nat.sub_self, frS]; try rfl) ?_
  rintro y (⟨hok, f, rfl, sp5, sq5, rfl, h5, h6⟩ | ⟨hok, f, rfl, sp5, sq5, rfl, h5, h6⟩)
  · have h5' := h5
    have h6' := h6
    obtain ⟨a11, c11, z11, r11, x11, rfl, _⟩ := h5
    obtain ⟨a12, c12, z12, r12, x12, rfl, _⟩ := h6
    simp only [frS, evr, id, reduceCtorEq, reduceIte, Nat.reduceMul, Nat.reduceAdd, Nat.reduceLT, Nat.reduceLeDiff, Nat.reduceEqDiff, Int.reduceLT, Int.reduceBEq, Int.reduceBNe, Nat.reduceBEq, List.append_nil, Int.toNat_zero, Nat.sub_self, frS]
    (refine hk _ ?_; clear hk k; try show Sat _ _ _ _ _)
    refine Sat.ret ?_
    simp only [Try.results49, evr, id, reduceCtorEq, reduceIte, Nat.reduceMul, Nat.reduceAdd, Nat.reduceLT, Nat.reduceLeDiff, Nat.reduceEqDiff, Int.reduceLT, Int.reduceBEq, Int.reduceBNe, Nat.reduceBEq, List.append_nil, Int.toNat_zero, Nat.sub_self, frS]
    exact .inl ⟨hok, _, rfl, _, _, rfl, h5', h6'⟩
  · have h5' := h5
    have h6' := h6
    obtain ⟨a11, c11, z11, r11, x11, rfl, _⟩ := h5
    obtain ⟨a12, c12, z12, r12, x12, rfl, _⟩ := h6
    simp only [frS, evr, id, reduceCtorEq, reduceIte, Nat.reduceMul, Nat.reduceAdd, Nat.reduceLT, Nat.reduceLeDiff, Nat.reduceEqDiff, Int.reduceLT, Int.reduceBEq, Int.reduceBNe, Nat.reduceBEq, List.append_nil, Int.toNat_zero, Nat.sub_self, frS]
    (refine hk _ ?_; clear hk k; try show Sat _ _ _ _ _)
    refine Sat.ret ?_
    simp only [Try.results49, evr, id, reduceCtorEq, reduceIte, Nat.reduceMul, Nat.reduceAdd, Nat.reduceLT, Nat.reduceLeDiff, Nat.reduceEqDiff, Int.reduceLT, Int.reduceBEq, Int.reduceBNe, Nat.reduceBEq, List.append_nil, Int.toNat_zero, Nat.sub_self, frS]
    exact .inr ⟨hok, _, rfl, _, _, rfl, h5', h6'⟩
end Go.Proofs.Ytagmohpafjncfaa

/- Choices, for the evaluator: Next as a contract, New as what makes them. -/
set_option linter.unusedSimpArgs false
set_option linter.unusedVariables false
namespace Go.Proofs.Ytagmohpafjncfaa
open Go.RowKit Eng
def Frm.codes (cb : Nat) : Frm := ⟨fun b => b = cb, fun b => b = cb, Codes cb, fun _ h => h, fun w b h e => by subst e; exact h.lt, fun w w' B h hB hw => h.kept fun k hk => hw k (Nat.lt_of_le_of_lt hk (hB cb rfl))⟩
def ptr (cb : Nat) : SV := .v (.pointer (some ⟨cb, 0, none⟩))
theorem enters_of {P : Program} {f : FuncId} {fn : Func} {c : Code} (hf : P.funcs[f]? = some fn) (hb : fn.body = some c) (hname : (fn.name == "runtime.NumGoroutine") = false) : ∀ vs w, (callFunc f vs).run P w = .ok (.enter f vs) w := by
  intro vs w
  have hn : ¬ fn.name = "runtime.NumGoroutine" := by simpa using hname
  simp [callFunc, hf, hn, hb]
theorem nextC (cb : Nat) (n : Int) (h1 : -9223372036854775808 ≤ n) (h2 : n ≤ 9223372036854775807) : Contract (Frm.codes cb) Try.prog 10 [ptr cb, .i .i64 n] (fun r => ∃ x : Int, r = .i .i64 x ∧ 0 ≤ x ∧ (x < n ∨ x = 0)) := by
  refine ⟨enters_of Try.func10 rfl (by kernel_rfl), fun R w hinv _ hR => ?_⟩
  refine (next_calls cb n w hinv h1 h2).mono ?_
  rintro e w' ⟨r, rfl, hr0, hr1, hc, hg⟩
  exact ⟨.i .i64 r, rfl, ⟨r, rfl, hr0, hr1⟩, trivial, ⟨hg.os, hg.tape, hg.output, hg.size, fun b hb hm => hg.block b hb (fun e => hm (show b = cb by simpa using e))⟩, hc⟩
def isBytes (s : SV) : Prop := ∃ a len cap rd, s = .sl a len cap 1 rd ∧ ∀ i, i < len → ∃ x : Int, 0 ≤ x ∧ x < 256 ∧ rd i 0 = .i .u8 x
theorem new_made (a : Option Addr) (len cap : Nat) (w : World) (most : Nat) (h1 : len ≤ cap) (h2 : cap ≤ maxLen) (hm : most ≤ 65536) :
    Calls Try.prog 9 #[.slice a len cap, .int .i64 (most : Int)] w fun e w' => e = .returned (.pointer (some ⟨w.heap.size, 0, none⟩)) ∧ ∃ n, n ≤ len ∧ w' = w.alloc (.cells #[.slice a n cap, .int .i64 0] 54) := by
  unfold maxLen at h2
  by_cases hl : (most : Nat) < len
  · go_enter Try.func9, Try.ntmps9
    go_wp2
    go_ret
    exact ⟨rfl, most, by omega, rfl⟩
  · go_enter Try.func9, Try.ntmps9
    go_wp2
    go_ret
    exact ⟨rfl, len, by omega, rfl⟩
theorem newRC (s : SV) (hs : isBytes s) (most : Nat) (hm : most ≤ 65536) : Makes Try.prog 9 [s, .i .i64 most] (fun cb w => Codes cb w) := by
  obtain ⟨a, len, cap, rd, rfl, hb⟩ := hs
  refine ⟨enters_of Try.func9 rfl (by kernel_rfl), fun R w hargs hR => ?_⟩
  obtain ⟨h1, h2, h3⟩ := hargs _ (List.mem_cons_self ..)
  refine (new_made a len cap w most h1 h2 hm).mono ?_
  rintro e w' ⟨rfl, n, hn, rfl⟩
  refine ⟨rfl, by simp, ⟨rfl, rfl, rfl, by simp, fun b hb _ => heap_alloc_old w _ hb⟩, fun w'' hw'' => ?_⟩
  refine ⟨a, n, cap, 0, (hw'' _ (.inr rfl)).trans (heap_alloc_new w _), by omega, Nat.zero_le _, ?_⟩
  rcases h3 with h3 | ⟨blk, off, rfl, hr, hc⟩
  · exact .inl (by omega)
  · have hlt := hR blk hr
    refine .inr ⟨blk, off, rfl, hlt, fun i hi => ?_⟩
    obtain ⟨x, hx0, hx1, hx⟩ := hb i (by omega)
    have h := (hc i 0 (by omega) (by omega)).1
    rw [hx, Nat.mul_one] at h
    exact ⟨x, hx0, hx1, by rw [World.cell?_of_block (w := w) (a := ⟨blk, off + i, none⟩) ((hw'' blk (.inl hr)).trans (heap_alloc_old w _ hlt))]; exact h⟩
end Go.Proofs.Ytagmohpafjncfaa

/- Choices as a variable of the call's own: New makes it, Next and Left turn it; what they give is known exactly. -/
set_option linter.unusedSimpArgs false
set_option linter.unusedVariables false
namespace Go.Proofs.Ytagmohpafjncfaa
open Go.RowKit Eng
namespace Eng
section
variable {P : Program} {F : Frm} {ds : List (Option Tmp)} {rest : List Oper} {dst : Option Tmp} {n : Nat} {env : List (Nat × SV)} {own : List Own} {k : St → Prop}
structure MakesB (P : Program) (f : FuncId) (args : List SV) (ty : TypeId) (post : List SV → Prop) : Prop where
  enters : ∀ vs w, (callFunc f vs).run P w = .ok (.enter f vs) w
  calls : ∀ (R : Nat → Prop) (w : World), (∀ s ∈ args, s.ok R w) → (∀ b, R b → b < w.heap.size) →
    Calls P f (args.map SV.den).toArray w fun e w' => e = .returned (.pointer (some ⟨w.heap.size, 0, none⟩)) ∧ ∃ cs, post cs ∧ Evo (fun _ => False) w w' ∧ w'.heap[w.heap.size]? = some (.cells (cs.map SV.den).toArray ty (0, 0)) ∧ ∀ c ∈ cs, c.den.oneCell' = true ∧ c.ok R w'
theorem wcall_box {f : FuncId} {args : List SV} {ty : TypeId} {post : List SV → Prop} (h : MakesB P f args ty post) (hk : ∀ (cb : Nat) (cs : List SV), post cs → WO P F ds rest (St.put ⟨n, env, own ++ [.box cb ty cs]⟩ dst (.op own.length cb 0)) k) : WCall P F ds rest dst ⟨n, env, own⟩ f (some args) k := by
  unfold WCall
  intro R0 w0 ob R a w hr hargs
  refine ⟨h.enters, ?_⟩
  refine (h.calls R w hargs (fun b hb => (hr.rr b hb).1)).mono ?_
  rintro e w' ⟨rfl, cs, hp, hevo, hcell, hok⟩
  have hg : w.grownBy w' none := ⟨hevo.os, hevo.tape, hevo.output, hevo.size, fun b hb _ => hevo.block b hb (fun h => h)⟩
  have hnew := hr.newRow (o := .box w.heap.size ty cs) hg (fun b hb => by simpa [Own.blk] using hb.symm) ⟨hr.obw, fun hc => by have := (hr.rr _ hc).1; omega, hcell, hok⟩
  exact ⟨.op own.length w.heap.size 0, _, R, rfl, hk w.heap.size cs hp, trivial, hnew, rfl⟩
theorem Sat.simBox {c : Code} {K : Exit → St → Prop} (id : Nat) {blk ty : Nat} {cs : List SV} (cs' : List SV) (hl : own[id]? = some (.box blk ty cs)) (hs : simA cs cs')
    (h : Sat P F c ⟨n, env, own.set id (.box blk ty cs')⟩ K) : Sat P F c ⟨n, env, own⟩ K := by
  rintro R0 w0 a w ⟨ob, R, hr⟩
  refine h R0 w0 a w ⟨ob, R, ?_⟩
  obtain ⟨h1, h2, h3, h4⟩ := hr.own id _ hl
  have key : ∀ (l l' : List SV), simA l l' → l'.map SV.den = l.map SV.den ∧ ∀ c' ∈ l', ∃ c ∈ l, sim c c' := by
    intro l
    induction l with
    | nil => intro l' h; cases l' with
      | nil => exact ⟨rfl, fun _ h => by cases h⟩
      | cons _ _ => exact h.elim
    | cons s t ih => intro l' h; cases l' with
      | nil => exact h.elim
      | cons s' t' =>
        obtain ⟨g1, g2⟩ := ih t' h.2
        refine ⟨by rw [List.map_cons, List.map_cons, g1, h.1.1], fun c' hc' => ?_⟩
        rcases List.mem_cons.1 hc' with rfl | hc'
        · exact ⟨s, by simp, h.1⟩
        · obtain ⟨c, hc, hcc⟩ := g2 c' hc'
          exact ⟨c, List.mem_cons_of_mem _ hc, hcc⟩
  obtain ⟨k1, k2⟩ := key cs cs' hs
  refine hr.setOwn (g := blk) hl rfl (fun b hb => by simpa [Own.blk] using hb.symm) rfl rfl rfl (Nat.le_refl _) (fun _ _ _ => rfl) ⟨h1, h2, by rw [k1]; exact h3, fun c' hc' => ?_⟩
  obtain ⟨c, hc, hcc⟩ := k2 c' hc'
  exact ⟨by rw [← hcc.1]; exact (h4 c hc).1, hcc.2 R w (h4 c hc).2⟩
theorem Sat.join {st : St} {K : Exit → St → Prop} {c y : Code} {ι : Type} (sh : ι → St) (J : ι → Prop) (h : Sat P F c st (thenK (fun st' => ∃ z, J z ∧ Le st' (sh z)) K)) (h2 : ∀ z, J z → Sat P F y (sh z) K) :
    Sat P F c st (thenK (fun st' => Sat P F y st' K) K) :=
  h.mono fun e st' hk => by
    cases e with
    | normal => obtain ⟨z, hz, hl⟩ := hk; exact (h2 z hz).le hl
    | _ => exact hk
theorem Sat.join2 {st : St} {K : Exit → St → Prop} {c y : Code} {ι : Type} (sh : ι → St) (J : ι → Prop) (h : (∀ z, J z → Sat P F y (sh z) K) → Sat P F c st (thenK (fun st' => Sat P F y st' K) K)) (h2 : ∀ z, J z → Sat P F y (sh z) K) :
    Sat P F c st (thenK (fun st' => Sat P F y st' K) K) := h h2
end
end Eng
def dbox (cb : Nat) (a : Option Addr) (l cap : Nat) (rd : Nat → Nat → SV) (p : Nat) : Eng.Own := .box cb 54 [.sl a l cap 1 rd, .i .i64 p]
theorem new_made2 (a : Option Addr) (len cap : Nat) (w : World) (most : Nat) (h1 : len ≤ cap) (h2 : cap ≤ maxLen) (hm : most ≤ 65536) :
    Calls Try.prog 9 #[.slice a len cap, .int .i64 (most : Int)] w fun e w' => e = .returned (.pointer (some ⟨w.heap.size, 0, none⟩)) ∧ ∃ n, n ≤ len ∧ n ≤ most ∧ w' = w.alloc (.cells #[.slice a n cap, .int .i64 0] 54) := by
  unfold maxLen at h2
  by_cases hl : (most : Nat) < len
  · go_enter Try.func9, Try.ntmps9
    go_wp2
    go_ret
    exact ⟨rfl, most, by omega, by omega, rfl⟩
  · go_enter Try.func9, Try.ntmps9
    go_wp2
    go_ret
    exact ⟨rfl, len, by omega, by omega, rfl⟩
theorem newB (s : SV) (hs : isBytes s) (most : Nat) (hm : most ≤ 65536) : MakesB Try.prog 9 [s, .i .i64 most] 54
    (fun cs => ∃ a l cap rd, l ≤ most ∧ l ≤ cap ∧ cap ≤ maxLen ∧ (∀ i, i < l → ∃ x : Int, 0 ≤ x ∧ x < 256 ∧ rd i 0 = .i .u8 x) ∧ cs = [.sl a l cap 1 rd, .i .i64 0]) := by
  obtain ⟨a, len, cap, rd, rfl, hb⟩ := hs
  refine ⟨enters_of Try.func9 rfl (by kernel_rfl), fun R w hargs hR => ?_⟩
  obtain ⟨h1, h2, h3⟩ := hargs _ (List.mem_cons_self ..)
  refine (new_made2 a len cap w most h1 h2 hm).mono ?_
  rintro e w' ⟨rfl, n, hn, hnm, rfl⟩
  have hold : ∀ b, R b → (w.alloc (.cells #[.slice a n cap, .int .i64 0] 54)).heap[b]? = w.heap[b]? := fun b hb => heap_alloc_old w _ (hR b hb)
  refine ⟨rfl, [.sl a n cap 1 rd, .i .i64 0], ⟨a, n, cap, rd, hnm, by omega, h2, fun i hi => hb i (by omega), rfl⟩, ⟨rfl, rfl, rfl, by simp, fun b hb _ => heap_alloc_old w _ hb⟩, heap_alloc_new w _, ?_⟩
  intro c hc
  simp only [List.mem_cons, List.not_mem_nil, or_false] at hc
  rcases hc with rfl | rfl
  · refine ⟨rfl, by omega, h2, ?_⟩
    rcases h3 with h3 | ⟨blk, off, rfl, hr, hc⟩
    · exact .inl (by omega)
    · refine .inr ⟨blk, off, rfl, hr, fun i j hi hj => ?_⟩
      obtain ⟨g1, g2, g3⟩ := hc i j (by omega) hj
      exact ⟨by rw [World.cell?_of_block (w := w) (a := ⟨blk, off + i * 1 + j, none⟩) (hold blk hr)]; exact g1, g2, SV.ok_mono (fun _ h => h) hold _ g3⟩
  · exact ⟨rfl, trivial⟩
set_option maxRecDepth 100000 in
theorem nextB (F : Frm) (cb : Nat) (a : Option Addr) (l cap : Nat) (rd : Nat → Nat → SV) (p : Nat) (hl : l ≤ 65536) (hb : ∀ i, i < l → ∃ x : Int, 0 ≤ x ∧ x < 256 ∧ rd i 0 = .i .u8 x) (n : Int) (h0 : 1 ≤ n) (h1 : n ≤ 256) :
    ContractM F Try.prog 10 [.op 0 cb 0, .i .i64 n] (dbox cb a l cap rd p) (fun r o1 => ∃ x : Int, r = .i .i64 x ∧ 0 ≤ x ∧ x < n ∧ o1 = dbox cb a l cap rd (if p < l then p + 1 else p)) := by
  refine contractM_of Try.func10 rfl (by kernel_rfl) (by rintro r o1 ⟨x, _, _, _, rfl⟩; rfl) ?_
  simp only [Try.ntmps10, argEnv, dbox]
  (repeat refine Sat.seq ?_)
  (refine Sat.region_k fun k hk => ?_; simp -implicitDefEqProofs only [evr, id, reduceCtorEq, reduceIte, Nat.reduceMul, Nat.reduceAdd, Nat.reduceLT, Nat.reduceLeDiff, Nat.reduceEqDiff, Int.reduceLT, Int.reduceBEq, Int.reduceBNe, Nat.reduceBEq, retM, retMK, dbox, List.cons_append, List.nil_append]; refine hk _ ?_; clear hk k; try show Sat _ _ _ _ _)
  by_cases hp : p < l
  · obtain ⟨x, hx0, hx1, hx⟩ := hb p hp
    have e1 : IntKind.i64.wrap ((p : Int) + 1) = ((p + 1 : Nat) : Int) := by rw [w64 (by omega)]; omega
    have e2 : IntKind.i64.wrap x = x := w64 (by omega)
    (repeat refine Sat.seq ?_)
    (refine Sat.region_qk (by kernel_rfl) (by kernel_rfl) fun k hk => ?_; simp -implicitDefEqProofs only [evr, id, reduceCtorEq, reduceIte, Nat.reduceMul, Nat.reduceAdd, Nat.reduceLT, Nat.reduceLeDiff, Nat.reduceEqDiff, Int.reduceLT, Int.reduceBEq, Int.reduceBNe, Nat.reduceBEq, retM, retMK, dbox, List.cons_append, List.nil_append])
    refine ⟨fun h => absurd h (by omega), fun _ => ?_⟩
    (refine hk _ ?_; clear hk k; try show Sat _ _ _ _ _)
    refine Sat.cond_b rfl (fun h => absurd h (by simp only [decide_eq_true_eq]; omega)) (fun _ => ?_)
    refine Sat.skip ?_
    simp only [thenK]
    (repeat refine Sat.seq ?_)
    refine Sat.region_qk (by kernel_rfl) (by kernel_rfl) fun k hk => ?_
    simp -implicitDefEqProofs only [evr, id, reduceCtorEq, reduceIte, Nat.reduceMul, Nat.reduceAdd, Nat.reduceLT, Nat.reduceLeDiff, Nat.reduceEqDiff, Int.reduceLT, Int.reduceBEq, Int.reduceBNe, Nat.reduceBEq, retM, retMK, dbox, List.cons_append, List.nil_append, Int.toNat_natCast, hx, e2]
    refine ⟨by omega, ?_⟩
    (refine hk _ ?_; clear hk k; try show Sat _ _ _ _ _)
    (repeat refine Sat.seq ?_)
    refine Sat.region_k fun k hk => ?_
    simp -implicitDefEqProofs only [evr, id, reduceCtorEq, reduceIte, Nat.reduceMul, Nat.reduceAdd, Nat.reduceLT, Nat.reduceLeDiff, Nat.reduceEqDiff, Int.reduceLT, Int.reduceBEq, Int.reduceBNe, Nat.reduceBEq, retM, retMK, dbox, List.cons_append, List.nil_append, e1]
    (refine hk _ ?_; clear hk k; try show Sat _ _ _ _ _)
    (repeat refine Sat.seq ?_)
    (refine Sat.region_k fun k hk => ?_; simp -implicitDefEqProofs only [evr, id, reduceCtorEq, reduceIte, Nat.reduceMul, Nat.reduceAdd, Nat.reduceLT, Nat.reduceLeDiff, Nat.reduceEqDiff, Int.reduceLT, Int.reduceBEq, Int.reduceBNe, Nat.reduceBEq, retM, retMK, dbox, List.cons_append, List.nil_append]; refine hk _ ?_; clear hk k; try show Sat _ _ _ _ _)
    (repeat refine Sat.seq ?_)
    refine Sat.cond_b rfl (fun h => absurd h (by simp only [decide_eq_true_eq]; omega)) (fun _ => ?_)
    refine Sat.skip ?_
    simp only [thenK]
    (repeat refine Sat.seq ?_)
    (refine Sat.region_k fun k hk => ?_; simp -implicitDefEqProofs only [evr, id, reduceCtorEq, reduceIte, Nat.reduceMul, Nat.reduceAdd, Nat.reduceLT, Nat.reduceLeDiff, Nat.reduceEqDiff, Int.reduceLT, Int.reduceBEq, Int.reduceBNe, Nat.reduceBEq, retM, retMK, dbox, List.cons_append, List.nil_append])
    refine ⟨by omega, ?_⟩
    (refine hk _ ?_; clear hk k; try show Sat _ _ _ _ _)
    refine Sat.ret ?_
    simp only [Try.results10, evr, id, reduceCtorEq, reduceIte, Nat.reduceMul, Nat.reduceAdd, Nat.reduceLT, Nat.reduceLeDiff, Nat.reduceEqDiff, Int.reduceLT, Int.reduceBEq, Int.reduceBNe, Nat.reduceBEq, retM, retMK, dbox, List.cons_append, List.nil_append]
    rw [if_pos hp]
    exact ⟨rfl, _, _, rfl, _, rfl, Int.tmod_nonneg _ hx0, Int.tmod_lt_of_pos _ (by omega), rfl⟩
  · (repeat refine Sat.seq ?_)
    (refine Sat.region_qk (by kernel_rfl) (by kernel_rfl) fun k hk => ?_; simp -implicitDefEqProofs only [evr, id, reduceCtorEq, reduceIte, Nat.reduceMul, Nat.reduceAdd, Nat.reduceLT, Nat.reduceLeDiff, Nat.reduceEqDiff, Int.reduceLT, Int.reduceBEq, Int.reduceBNe, Nat.reduceBEq, retM, retMK, dbox, List.cons_append, List.nil_append])
    refine ⟨fun _ => ?_, fun h => absurd (by omega) h⟩
    (refine hk _ ?_; clear hk k; try show Sat _ _ _ _ _)
    refine Sat.cond_tt rfl ?_
    (repeat refine Sat.seq ?_)
    (refine Sat.region_k fun k hk => ?_; simp -implicitDefEqProofs only [evr, id, reduceCtorEq, reduceIte, Nat.reduceMul, Nat.reduceAdd, Nat.reduceLT, Nat.reduceLeDiff, Nat.reduceEqDiff, Int.reduceLT, Int.reduceBEq, Int.reduceBNe, Nat.reduceBEq, retM, retMK, dbox, List.cons_append, List.nil_append]; refine hk _ ?_; clear hk k; try show Sat _ _ _ _ _)
    refine Sat.ret ?_
    simp only [Try.results10, evr, id, reduceCtorEq, reduceIte, Nat.reduceMul, Nat.reduceAdd, Nat.reduceLT, Nat.reduceLeDiff, Nat.reduceEqDiff, Int.reduceLT, Int.reduceBEq, Int.reduceBNe, Nat.reduceBEq, retM, retMK, dbox, List.cons_append, List.nil_append]
    rw [if_neg hp]
    exact ⟨rfl, _, _, rfl, 0, rfl, Int.le_refl _, by omega, rfl⟩
theorem nextB2 (F : Frm) (cb : Nat) (a : Option Addr) (l cap : Nat) (rd : Nat → Nat → SV) (p : Nat) (hl : l ≤ 65536) (hb : ∀ i, i < l → ∃ x : Int, 0 ≤ x ∧ x < 256 ∧ rd i 0 = .i .u8 x) (hp : p ≤ l) (n : Int) (h0 : 1 ≤ n) (h1 : n ≤ 256) :
    ContractM F Try.prog 10 [.op 0 cb 0, .i .i64 n] (dbox cb a l cap rd p) (fun r o1 => ∃ (x : Int) (p' : Nat), r = .i .i64 x ∧ 0 ≤ x ∧ x < n ∧ p ≤ p' ∧ p' ≤ l ∧ (p < l → p < p') ∧ o1 = dbox cb a l cap rd p') :=
  (nextB F cb a l cap rd p hl hb n h0 h1).mono fun r o1 ⟨x, h2, h3, h4, h5⟩ => ⟨x, _, h2, h3, h4, by split <;> omega, by split <;> omega, fun h => by rw [if_pos h]; omega, h5⟩
end Go.Proofs.Ytagmohpafjncfaa

/- The reference of fractions: Opposite, sum, Order: what each gives. -/
set_option linter.unusedSimpArgs false
set_option linter.unusedVariables false
namespace Go.Proofs.Ytagmohpafjncfaa
open Eng Lmb Go.RowKit
set_option maxRecDepth 100000 in
theorem refOppositeC (F : Frm) (neg : Bool) {sp sq : SV} {p q : Nat} (hp : Nats sp p) (hq : Nats sq q) : Contract F Try.prog 54 [frS neg sp sq] (fun r => FrS r (!neg && decide (0 < p)) p q) := by
  have hp' := hp
  have hq' := hq
  obtain ⟨a1, c1, z1, r1, x1, rfl, _⟩ := hp
  obtain ⟨a2, c2, z2, r2, x2, rfl, _⟩ := hq
  have hl := hp'.len
  refine contract_of Try.func54 rfl (by kernel_rfl) ?_
  simp only [Try.ntmps54, argEnv, frS]
  (repeat refine Sat.seq ?_)
  (refine Sat.region_k fun k hk => ?_; simp -implicitDefEqProofs only [evr, id, reduceCtorEq, reduceIte, Nat.reduceMul, Nat.reduceAdd, Nat.reduceLT, Nat.reduceLeDiff, Nat.reduceEqDiff, Int.reduceLT, Int.reduceBEq, Int.reduceBNe, Nat.reduceBEq, List.append_nil, Int.toNat_zero, Nat.sub_self, frS])
  intro b1 b2
  (refine hk _ ?_; clear hk k; try show Sat _ _ _ _ _)
  (repeat refine Sat.seq ?_)
  (refine Sat.region_k fun k hk => ?_; simp -implicitDefEqProofs only [evr, id, reduceCtorEq, reduceIte, Nat.reduceMul, Nat.reduceAdd, Nat.reduceLT, Nat.reduceLeDiff, Nat.reduceEqDiff, Int.reduceLT, Int.reduceBEq, Int.reduceBNe, Nat.reduceBEq, List.append_nil, Int.toNat_zero, Nat.sub_self, frS])
  simp only [hl]
  refine ⟨fun h => ?_, fun h => ?_⟩
  · (refine hk _ ?_; clear hk k; try show Sat _ _ _ _ _)
    (repeat refine Sat.seq ?_)
    (refine Sat.region_k fun k hk => ?_; simp -implicitDefEqProofs only [evr, id, reduceCtorEq, reduceIte, Nat.reduceMul, Nat.reduceAdd, Nat.reduceLT, Nat.reduceLeDiff, Nat.reduceEqDiff, Int.reduceLT, Int.reduceBEq, Int.reduceBNe, Nat.reduceBEq, List.append_nil, Int.toNat_zero, Nat.sub_self, frS]; refine hk _ ?_; clear hk k; try show Sat _ _ _ _ _)
    refine Sat.ret ?_
    simp only [Try.results54, evr, id, reduceCtorEq, reduceIte, Nat.reduceMul, Nat.reduceAdd, Nat.reduceLT, Nat.reduceLeDiff, Nat.reduceEqDiff, Int.reduceLT, Int.reduceBEq, Int.reduceBNe, Nat.reduceBEq, List.append_nil, Int.toNat_zero, Nat.sub_self, frS]
    rw [h, Bool.true_and]
    exact ⟨_, _, rfl, hp', hq'⟩
  · (refine hk _ ?_; clear hk k; try show Sat _ _ _ _ _)
    refine Sat.boxBools 0 rfl ?_
    simp only [roB, List.map_cons, List.map_nil, List.set_cons_zero]
    (repeat refine Sat.seq ?_)
    (refine Sat.region_k fun k hk => ?_; simp -implicitDefEqProofs only [evr, id, reduceCtorEq, reduceIte, Nat.reduceMul, Nat.reduceAdd, Nat.reduceLT, Nat.reduceLeDiff, Nat.reduceEqDiff, Int.reduceLT, Int.reduceBEq, Int.reduceBNe, Nat.reduceBEq, List.append_nil, Int.toNat_zero, Nat.sub_self, frS]; refine hk _ ?_; clear hk k; try show Sat _ _ _ _ _)
    refine Sat.ret ?_
    simp only [Try.results54, evr, id, reduceCtorEq, reduceIte, Nat.reduceMul, Nat.reduceAdd, Nat.reduceLT, Nat.reduceLeDiff, Nat.reduceEqDiff, Int.reduceLT, Int.reduceBEq, Int.reduceBNe, Nat.reduceBEq, List.append_nil, Int.toNat_zero, Nat.sub_self, frS]
    rw [h, Bool.false_and]
    exact ⟨_, _, rfl, hp', hq'⟩
def sumN (na : Bool) (p q : Nat) (nb : Bool) (r s : Nat) : Bool := (sumV na (p * s) nb (r * q)).1 && decide (0 < (sumV na (p * s) nb (r * q)).2)
set_option maxRecDepth 100000 in
theorem refSumC (F : Frm) (na nb : Bool) {sp sq sr ss : SV} {p q r s : Nat} (hp : Nats sp p) (hq : Nats sq q) (hr : Nats sr r) (hs : Nats ss s)
    (b1 : (p : Int) < pw 256) (b2 : (q : Int) < pw 256) (b3 : (r : Int) < pw 256) (b4 : (s : Int) < pw 256) (b7 : ((p * s + r * q : Nat) : Int) < pw 256) (b8 : ((q * s : Nat) : Int) < pw 256) (hq0 : 0 < q) (hs0 : 0 < s) :
    Contract F Try.prog 53 [frS na sp sq, frS nb sr ss] (fun x => FrS x (sumN na p q nb r s) (addP na p q nb r s) (addQ na p q nb r s)) := by
  have hp' := hp
  have hq' := hq
  have hr' := hr
  have hs' := hs
  have up : ∀ x : Nat, (x : Int) < pw 256 → (x : Int) < pw 512 := fun x hx => by have := pw_mono (show 256 ≤ 512 by omega); omega
  have hd0 : 0 < q * s := Nat.mul_pos hq0 hs0
  obtain ⟨a1, c1, z1, r1, x1, rfl, _⟩ := hp
  obtain ⟨a2, c2, z2, r2, x2, rfl, _⟩ := hq
  obtain ⟨a3, c3, z3, r3, x3, rfl, _⟩ := hr
  obtain ⟨a4, c4, z4, r4, x4, rfl, _⟩ := hs
  refine contract_of Try.func53 rfl (by kernel_rfl) ?_
  simp only [Try.ntmps53, argEnv, frS]
  (repeat refine Sat.seq ?_)
  (refine Sat.region_k fun k hk => ?_; simp -implicitDefEqProofs only [evr, id, reduceCtorEq, reduceIte, Nat.reduceMul, Nat.reduceAdd, Nat.reduceLT, Nat.reduceLeDiff, Nat.reduceEqDiff, Int.reduceLT, Int.reduceBEq, Int.reduceBNe, Nat.reduceBEq, List.append_nil, Int.toNat_zero, Nat.sub_self, frS])
  intro k1 k2 k3
  (refine hk _ ?_; clear hk k; try show Sat _ _ _ _ _)
  (repeat refine Sat.seq ?_)
  (refine Sat.region_rows [⟨0, 9, 4, 0⟩, ⟨1, 10, 256, 1⟩, ⟨0, 11, 8, 0⟩, ⟨4, 12, 1024, 1⟩, ⟨10, 13, 2560, 2⟩, ⟨0, 14, 8, 0⟩, ⟨32, 15, 8192, 1⟩, ⟨0, 16, 4, 0⟩, ⟨128, 17, 32768, 1⟩, ⟨336, 18, 81920, 2⟩, ⟨0, 19, 4, 0⟩, ⟨1024, 20, 262144, 1⟩, ⟨0, 21, 8, 0⟩, ⟨4096, 22, 1048576, 1⟩, ⟨10752, 23, 2621440, 2⟩, ⟨16415, 6, 4096, 0⟩, ⟨33791, 7, 131072, 0⟩, ⟨131071, 8, 4194304, 0⟩] [0, 2, 5, 7, 10, 12, 1, 3, 6, 8, 11, 13] [(4, false), (9, false), (14, false), (15, false), (16, false), (17, false)] [4, 9] (by kernel_rfl) (by kernel_rfl) (fun _ _ h => h) fun k hk => ?_; simp only [List.map_cons, List.map_nil, List.getD_cons_zero, List.getD_cons_succ, btseq_cons, btseq_free, btseq_nil]; simp -implicitDefEqProofs only [evr, id, reduceCtorEq, reduceIte, Nat.reduceMul, Nat.reduceAdd, Nat.reduceLT, Nat.reduceLeDiff, Nat.reduceEqDiff, Int.reduceLT, Int.reduceBEq, Int.reduceBNe, Nat.reduceBEq, List.append_nil, Int.toNat_zero, Nat.sub_self, frS])
  refine wcall_slice (refTimesC F hp' hs' (up _ b1) (up _ b4)) rfl (by simp -implicitDefEqProofs only [evr, id, reduceCtorEq, reduceIte, Nat.reduceMul, Nat.reduceAdd, Nat.reduceLT, Nat.reduceLeDiff, Nat.reduceEqDiff, Int.reduceLT, Int.reduceBEq, Int.reduceBNe, Nat.reduceBEq, List.append_nil, Int.toNat_zero, Nat.sub_self, frS]; try rfl) ?_
  intro y hy
  have hy1 := hy
  obtain ⟨a5, c5, z5, r5, x5, rfl, _⟩ := hy
  simp -implicitDefEqProofs only [evr, id, reduceCtorEq, reduceIte, Nat.reduceMul, Nat.reduceAdd, Nat.reduceLT, Nat.reduceLeDiff, Nat.reduceEqDiff, Int.reduceLT, Int.reduceBEq, Int.reduceBNe, Nat.reduceBEq, List.append_nil, Int.toNat_zero, Nat.sub_self, frS]
  refine wcall_slice (refTimesC F hr' hq' (up _ b3) (up _ b2)) rfl (by simp -implicitDefEqProofs only [evr, id, reduceCtorEq, reduceIte, Nat.reduceMul, Nat.reduceAdd, Nat.reduceLT, Nat.reduceLeDiff, Nat.reduceEqDiff, Int.reduceLT, Int.reduceBEq, Int.reduceBNe, Nat.reduceBEq, List.append_nil, Int.toNat_zero, Nat.sub_self, frS]; try rfl) ?_
  intro y hy
  have hy2 := hy
  obtain ⟨a6, c6, z6, r6, x6, rfl, _⟩ := hy
  simp -implicitDefEqProofs only [evr, id, reduceCtorEq, reduceIte, Nat.reduceMul, Nat.reduceAdd, Nat.reduceLT, Nat.reduceLeDiff, Nat.reduceEqDiff, Int.reduceLT, Int.reduceBEq, Int.reduceBNe, Nat.reduceBEq, List.append_nil, Int.toNat_zero, Nat.sub_self, frS]
  refine wcall_slice (refTimesC F hq' hs' (up _ b2) (up _ b4)) rfl (by simp -implicitDefEqProofs only [evr, id, reduceCtorEq, reduceIte, Nat.reduceMul, Nat.reduceAdd, Nat.reduceLT, Nat.reduceLeDiff, Nat.reduceEqDiff, Int.reduceLT, Int.reduceBEq, Int.reduceBNe, Nat.reduceBEq, List.append_nil, Int.toNat_zero, Nat.sub_self, frS]; try rfl) ?_
  intro y hy
  have hy3 := hy
  obtain ⟨a7, c7, z7, r7, x7, rfl, _⟩ := hy
  simp -implicitDefEqProofs only [evr, id, reduceCtorEq, reduceIte, Nat.reduceMul, Nat.reduceAdd, Nat.reduceLT, Nat.reduceLeDiff, Nat.reduceEqDiff, Int.reduceLT, Int.reduceBEq, Int.reduceBNe, Nat.reduceBEq, List.append_nil, Int.toNat_zero, Nat.sub_self, frS]
  (refine hk _ ?_; clear hk k; try show Sat _ _ _ _ _)
  (repeat refine Sat.seq ?_)
  (refine Sat.region_k fun k hk => ?_; simp -implicitDefEqProofs only [evr, id, reduceCtorEq, reduceIte, Nat.reduceMul, Nat.reduceAdd, Nat.reduceLT, Nat.reduceLeDiff, Nat.reduceEqDiff, Int.reduceLT, Int.reduceBEq, Int.reduceBNe, Nat.reduceBEq, List.append_nil, Int.toNat_zero, Nat.sub_self, frS])
  (refine hk _ ?_; clear hk k; try show Sat _ _ _ _ _)
  have c1b : ((p * s : Nat) : Int) < pw 512 := up _ (by omega)
  have c2b : ((r * q : Nat) : Int) < pw 512 := up _ (by omega)
  refine Sat.cond_b rfl (fun h => ?_) (fun h => ?_)
  · have hn : na = nb := by simpa using h
    (repeat refine Sat.seq ?_)
    (refine Sat.region_rows [⟨0, 29, 4, 0⟩, ⟨1, 30, 268435456, 1⟩, ⟨0, 31, 32, 0⟩, ⟨0, 32, 64, 0⟩, ⟨12, 33, 3221225472, 2⟩, ⟨0, 34, 128, 0⟩, ⟨50, 35, 13421772800, 2⟩, ⟨127, 0, 17179869200, 2⟩] [0, 2, 3, 5, 1] [(4, false), (6, false), (7, false)] [4] (by kernel_rfl) (by kernel_rfl) (fun _ _ h => h) fun k hk => ?_; simp only [List.map_cons, List.map_nil, List.getD_cons_zero, List.getD_cons_succ, btseq_cons, btseq_free, btseq_nil]; simp -implicitDefEqProofs only [evr, id, reduceCtorEq, reduceIte, Nat.reduceMul, Nat.reduceAdd, Nat.reduceLT, Nat.reduceLeDiff, Nat.reduceEqDiff, Int.reduceLT, Int.reduceBEq, Int.reduceBNe, Nat.reduceBEq, List.append_nil, Int.toNat_zero, Nat.sub_self, frS])
    refine wcall_slice (refPlusC F hy1 hy2 c1b c2b) rfl rfl ?_
    intro y hy
    have hy4 := hy
    obtain ⟨a8, c8, z8, r8, x8, rfl, _⟩ := hy
    simp -implicitDefEqProofs only [evr, id, reduceCtorEq, reduceIte, Nat.reduceMul, Nat.reduceAdd, Nat.reduceLT, Nat.reduceLeDiff, Nat.reduceEqDiff, Int.reduceLT, Int.reduceBEq, Int.reduceBNe, Nat.reduceBEq, List.append_nil, Int.toNat_zero, Nat.sub_self, frS]
    refine wcall_slice (refReducedC F na hy4 hy3 b7 b8 hd0) rfl (by simp -implicitDefEqProofs only [evr, id, reduceCtorEq, reduceIte, Nat.reduceMul, Nat.reduceAdd, Nat.reduceLT, Nat.reduceLeDiff, Nat.reduceEqDiff, Int.reduceLT, Int.reduceBEq, Int.reduceBNe, Nat.reduceBEq, List.append_nil, Int.toNat_zero, Nat.sub_self, frS]; try rfl) ?_
    rintro y ⟨sp3, sq3, rfl, h3, h4⟩
    have h3' := h3
    have h4' := h4
    obtain ⟨a9, c9, z9, r9, x9, rfl, _⟩ := h3
    obtain ⟨a10, c10, z10, r10, x10, rfl, _⟩ := h4
    simp only [frS, evr, id, reduceCtorEq, reduceIte, Nat.reduceMul, Nat.reduceAdd, Nat.reduceLT, Nat.reduceLeDiff, Nat.reduceEqDiff, Int.reduceLT, Int.reduceBEq, Int.reduceBNe, Nat.reduceBEq, List.append_nil, Int.toNat_zero, Nat.sub_self, frS]
    (refine hk _ ?_; clear hk k; try show Sat _ _ _ _ _)
    refine Sat.ret ?_
    simp only [Try.results53, evr, id, reduceCtorEq, reduceIte, Nat.reduceMul, Nat.reduceAdd, Nat.reduceLT, Nat.reduceLeDiff, Nat.reduceEqDiff, Int.reduceLT, Int.reduceBEq, Int.reduceBNe, Nat.reduceBEq, List.append_nil, Int.toNat_zero, Nat.sub_self, frS]
    have e : sumV na (p * s) nb (r * q) = (na, p * s + r * q) := by unfold sumV; rw [if_pos hn]
    unfold sumN addP addQ addG
    rw [e]
    exact ⟨_, _, rfl, h3', h4'⟩
  have hn : ¬ na = nb := by simpa using h
  refine Sat.skip ?_
  simp only [thenK]
  (repeat refine Sat.seq ?_)
  (refine Sat.region_k fun k hk => ?_; simp -implicitDefEqProofs only [evr, id, reduceCtorEq, reduceIte, Nat.reduceMul, Nat.reduceAdd, Nat.reduceLT, Nat.reduceLeDiff, Nat.reduceEqDiff, Int.reduceLT, Int.reduceBEq, Int.reduceBNe, Nat.reduceBEq, List.append_nil, Int.toNat_zero, Nat.sub_self, frS])
  refine wcall_plain (refCompareC F hy1 hy2 c1b) rfl (by rintro _ rfl; exact ok_plain rfl) ?_
  rintro y rfl
  simp -implicitDefEqProofs only [evr, id, reduceCtorEq, reduceIte, Nat.reduceMul, Nat.reduceAdd, Nat.reduceLT, Nat.reduceLeDiff, Nat.reduceEqDiff, Int.reduceLT, Int.reduceBEq, Int.reduceBNe, Nat.reduceBEq, List.append_nil, Int.toNat_zero, Nat.sub_self, frS]
  (refine hk _ ?_; clear hk k; try show Sat _ _ _ _ _)
  refine Sat.cond_b rfl (fun h => ?_) (fun h => ?_)
  · have hle : r * q ≤ p * s := by
      have h9 := of_decide_eq_true h
      by_cases h8 : p * s < r * q
      · rw [cmpI_lt (by omega)] at h9; omega
      · omega
    have e : sumV na (p * s) nb (r * q) = (na, p * s - r * q) := by unfold sumV; rw [if_neg hn, if_neg (by omega)]
    (repeat refine Sat.seq ?_)
    (refine Sat.region_rows [⟨0, 40, 4, 0⟩, ⟨1, 41, 549755813888, 1⟩, ⟨0, 42, 32, 0⟩, ⟨0, 43, 64, 0⟩, ⟨12, 44, 6597069766656, 2⟩, ⟨0, 45, 128, 0⟩, ⟨50, 46, 27487790694400, 2⟩, ⟨127, 0, 35184372088848, 2⟩] [0, 2, 3, 5, 1] [(4, false), (6, false), (7, false)] [4] (by kernel_rfl) (by kernel_rfl) (fun _ _ h => h) fun k hk => ?_; simp only [List.map_cons, List.map_nil, List.getD_cons_zero, List.getD_cons_succ, btseq_cons, btseq_free, btseq_nil]; simp -implicitDefEqProofs only [evr, id, reduceCtorEq, reduceIte, Nat.reduceMul, Nat.reduceAdd, Nat.reduceLT, Nat.reduceLeDiff, Nat.reduceEqDiff, Int.reduceLT, Int.reduceBEq, Int.reduceBNe, Nat.reduceBEq, List.append_nil, Int.toNat_zero, Nat.sub_self, frS])
    refine wcall_slice (refLessC F hy1 hy2 c1b hle) rfl rfl ?_
    intro y hy
    have hy4 := hy
    obtain ⟨a8, c8, z8, r8, x8, rfl, _⟩ := hy
    simp -implicitDefEqProofs only [evr, id, reduceCtorEq, reduceIte, Nat.reduceMul, Nat.reduceAdd, Nat.reduceLT, Nat.reduceLeDiff, Nat.reduceEqDiff, Int.reduceLT, Int.reduceBEq, Int.reduceBNe, Nat.reduceBEq, List.append_nil, Int.toNat_zero, Nat.sub_self, frS]
    refine wcall_slice (refReducedC F na hy4 hy3 (by omega) b8 hd0) rfl (by simp -implicitDefEqProofs only [evr, id, reduceCtorEq, reduceIte, Nat.reduceMul, Nat.reduceAdd, Nat.reduceLT, Nat.reduceLeDiff, Nat.reduceEqDiff, Int.reduceLT, Int.reduceBEq, Int.reduceBNe, Nat.reduceBEq, List.append_nil, Int.toNat_zero, Nat.sub_self, frS]; try rfl) ?_
    rintro y ⟨sp3, sq3, rfl, h3, h4⟩
    have h3' := h3
    have h4' := h4
    obtain ⟨a9, c9, z9, r9, x9, rfl, _⟩ := h3
    obtain ⟨a10, c10, z10, r10, x10, rfl, _⟩ := h4
    simp only [frS, evr, id, reduceCtorEq, reduceIte, Nat.reduceMul, Nat.reduceAdd, Nat.reduceLT, Nat.reduceLeDiff, Nat.reduceEqDiff, Int.reduceLT, Int.reduceBEq, Int.reduceBNe, Nat.reduceBEq, List.append_nil, Int.toNat_zero, Nat.sub_self, frS]
    (refine hk _ ?_; clear hk k; try show Sat _ _ _ _ _)
    refine Sat.ret ?_
    simp only [Try.results53, evr, id, reduceCtorEq, reduceIte, Nat.reduceMul, Nat.reduceAdd, Nat.reduceLT, Nat.reduceLeDiff, Nat.reduceEqDiff, Int.reduceLT, Int.reduceBEq, Int.reduceBNe, Nat.reduceBEq, List.append_nil, Int.toNat_zero, Nat.sub_self, frS]
    unfold sumN addP addQ addG
    rw [e]
    exact ⟨_, _, rfl, h3', h4'⟩
  · have hle : p * s < r * q := by
      have h9 := of_decide_eq_false h
      by_cases h8 : p * s < r * q
      · exact h8
      exfalso
      by_cases h7 : r * q < p * s
      · rw [cmpI_gt (by omega)] at h9; omega
      · rw [cmpI_eq (by omega)] at h9; omega
    have e : sumV na (p * s) nb (r * q) = (nb, r * q - p * s) := by unfold sumV; rw [if_neg hn, if_pos hle]
    refine Sat.skip ?_
    simp only [thenK]
    (repeat refine Sat.seq ?_)
    (refine Sat.region_rows [⟨0, 47, 8, 0⟩, ⟨1, 48, 70368744177664, 1⟩, ⟨0, 49, 64, 0⟩, ⟨0, 50, 32, 0⟩, ⟨12, 51, 844424930131968, 2⟩, ⟨0, 52, 128, 0⟩, ⟨50, 53, 3518437208883200, 2⟩, ⟨127, 0, 4503599627370512, 2⟩] [0, 2, 3, 5, 1] [(4, false), (6, false), (7, false)] [4] (by kernel_rfl) (by kernel_rfl) (fun _ _ h => h) fun k hk => ?_; simp only [List.map_cons, List.map_nil, List.getD_cons_zero, List.getD_cons_succ, btseq_cons, btseq_free, btseq_nil]; simp -implicitDefEqProofs only [evr, id, reduceCtorEq, reduceIte, Nat.reduceMul, Nat.reduceAdd, Nat.reduceLT, Nat.reduceLeDiff, Nat.reduceEqDiff, Int.reduceLT, Int.reduceBEq, Int.reduceBNe, Nat.reduceBEq, List.append_nil, Int.toNat_zero, Nat.sub_self, frS])
    refine wcall_slice (refLessC F hy2 hy1 c2b (Nat.le_of_lt hle)) rfl rfl ?_
    intro y hy
    have hy4 := hy
    obtain ⟨a8, c8, z8, r8, x8, rfl, _⟩ := hy
    simp -implicitDefEqProofs only [evr, id, reduceCtorEq, reduceIte, Nat.reduceMul, Nat.reduceAdd, Nat.reduceLT, Nat.reduceLeDiff, Nat.reduceEqDiff, Int.reduceLT, Int.reduceBEq, Int.reduceBNe, Nat.reduceBEq, List.append_nil, Int.toNat_zero, Nat.sub_self, frS]
    refine wcall_slice (refReducedC F nb hy4 hy3 (by omega) b8 hd0) rfl (by simp -implicitDefEqProofs only [evr, id, reduceCtorEq, reduceIte, Nat.reduceMul, Nat.reduceAdd, Nat.reduceLT, Nat.reduceLeDiff, Nat.reduceEqDiff, Int.reduceLT, Int.reduceBEq, Int.reduceBNe, Nat.reduceBEq, List.append_nil, Int.toNat_zero, Nat.sub_self, frS]; try rfl) ?_
    rintro y ⟨sp3, sq3, rfl, h3, h4⟩
    have h3' := h3
    have h4' := h4
    obtain ⟨a9, c9, z9, r9, x9, rfl, _⟩ := h3
    obtain ⟨a10, c10, z10, r10, x10, rfl, _⟩ := h4
    simp only [frS, evr, id, reduceCtorEq, reduceIte, Nat.reduceMul, Nat.reduceAdd, Nat.reduceLT, Nat.reduceLeDiff, Nat.reduceEqDiff, Int.reduceLT, Int.reduceBEq, Int.reduceBNe, Nat.reduceBEq, List.append_nil, Int.toNat_zero, Nat.sub_self, frS]
    (refine hk _ ?_; clear hk k; try show Sat _ _ _ _ _)
    refine Sat.ret ?_
    simp only [Try.results53, evr, id, reduceCtorEq, reduceIte, Nat.reduceMul, Nat.reduceAdd, Nat.reduceLT, Nat.reduceLeDiff, Nat.reduceEqDiff, Int.reduceLT, Int.reduceBEq, Int.reduceBNe, Nat.reduceBEq, List.append_nil, Int.toNat_zero, Nat.sub_self, frS]
    unfold sumN addP addQ addG
    rw [e]
    exact ⟨_, _, rfl, h3', h4'⟩
def ordV (na : Bool) (p q : Nat) (nb : Bool) (r s : Nat) : Int := if sumN na p q (!nb && decide (0 < r)) r s = true then -1 else if addP na p q (!nb && decide (0 < r)) r s = 0 then 0 else 1
set_option maxRecDepth 100000 in
theorem refOrder3C (F : Frm) (na nb : Bool) {sp sq sr ss : SV} {p q r s : Nat} (hp : Nats sp p) (hq : Nats sq q) (hr : Nats sr r) (hs : Nats ss s)
    (b1 : (p : Int) < pw 256) (b2 : (q : Int) < pw 256) (b3 : (r : Int) < pw 256) (b4 : (s : Int) < pw 256) (b7 : ((p * s + r * q : Nat) : Int) < pw 256) (b8 : ((q * s : Nat) : Int) < pw 256) (hq0 : 0 < q) (hs0 : 0 < s) :
    Contract F Try.prog 27 [frS na sp sq, frS nb sr ss] (fun x => x = .i .i64 (ordV na p q nb r s)) := by
  have hp' := hp
  have hq' := hq
  have hr' := hr
  have hs' := hs
  obtain ⟨a1, c1, z1, r1, x1, rfl, _⟩ := hp
  obtain ⟨a2, c2, z2, r2, x2, rfl, _⟩ := hq
  obtain ⟨a3, c3, z3, r3, x3, rfl, _⟩ := hr
  obtain ⟨a4, c4, z4, r4, x4, rfl, _⟩ := hs
  refine contract_of Try.func27 rfl (by kernel_rfl) ?_
  simp only [Try.ntmps27, argEnv, frS]
  (repeat refine Sat.seq ?_)
  (refine Sat.region_k fun k hk => ?_; simp -implicitDefEqProofs only [evr, id, reduceCtorEq, reduceIte, Nat.reduceMul, Nat.reduceAdd, Nat.reduceLT, Nat.reduceLeDiff, Nat.reduceEqDiff, Int.reduceLT, Int.reduceBEq, Int.reduceBNe, Nat.reduceBEq, List.append_nil, Int.toNat_zero, Nat.sub_self, frS])
  intro k1 k2
  (refine hk _ ?_; clear hk k; try show Sat _ _ _ _ _)
  (repeat refine Sat.seq ?_)
  refine Sat.join2 (ι := Nat × SV × SV) (fun z => ⟨16, [(5, .op 2 z.1 0)], [.box k1 30 [.b na, .sl a1 x1.length c1 z1 r1, .sl a2 x2.length c2 z2 r2], .box k2 30 [.b nb, .sl a3 x3.length c3 z3 r3, .sl a4 x4.length c4 z4 r4], .box z.1 30 [.b (sumN na p q (!nb && decide (0 < r)) r s), z.2.1, z.2.2]]⟩) (fun z => Nats z.2.1 (addP na p q (!nb && decide (0 < r)) r s) ∧ Nats z.2.2 (addQ na p q (!nb && decide (0 < r)) r s)) (fun hrest => ?_) ?_
  · (refine Sat.region_tree (.keep [0, 1] [2, 4] (.alt 2 (.alt 3 (.one 4 (.one 5 .done)) (.alt 4 (.one 3 (.one 5 .done)) .none)) (.alt 4 (.one 2 (.one 3 (.one 5 .done))) .none))) (by kernel_rfl) (by kernel_rfl) (fun _ _ h => h) fun k hk => ?_; simp only [WOT, List.map_cons, List.map_nil, List.getD_cons_zero, List.getD_cons_succ]; simp -implicitDefEqProofs only [evr, id, reduceCtorEq, reduceIte, Nat.reduceMul, Nat.reduceAdd, Nat.reduceLT, Nat.reduceLeDiff, Nat.reduceEqDiff, Int.reduceLT, Int.reduceBEq, Int.reduceBNe, Nat.reduceBEq, List.append_nil, Int.toNat_zero, Nat.sub_self, frS, WOT])
    repeat' (first
      | (refine And.intro ?_ ?_)
      | (refine wcall_slice (refOppositeC F nb hr' hs') rfl (by simp -implicitDefEqProofs only [evr, id, reduceCtorEq, reduceIte, Nat.reduceMul, Nat.reduceAdd, Nat.reduceLT, Nat.reduceLeDiff, Nat.reduceEqDiff, Int.reduceLT, Int.reduceBEq, Int.reduceBNe, Nat.reduceBEq, List.append_nil, Int.toNat_zero, Nat.sub_self, frS]; try rfl) ?_; rintro y ⟨sp3, sq3, rfl, h3, h4⟩; have h3' := h3; have h4' := h4; obtain ⟨a5, c5, z5, r5, x5, rfl, _⟩ := h3; obtain ⟨a6, c6, z6, r6, x6, rfl, _⟩ := h4; simp only [frS, evr, id, reduceCtorEq, reduceIte, Nat.reduceMul, Nat.reduceAdd, Nat.reduceLT, Nat.reduceLeDiff, Nat.reduceEqDiff, Int.reduceLT, Int.reduceBEq, Int.reduceBNe, Nat.reduceBEq, List.append_nil, Int.toNat_zero, Nat.sub_self, frS])
      | (refine wcall_slice (refSumC F na (!nb && decide (0 < r)) hp' hq' h3' h4' b1 b2 b3 b4 b7 b8 hq0 hs0) rfl (by simp -implicitDefEqProofs only [evr, id, reduceCtorEq, reduceIte, Nat.reduceMul, Nat.reduceAdd, Nat.reduceLT, Nat.reduceLeDiff, Nat.reduceEqDiff, Int.reduceLT, Int.reduceBEq, Int.reduceBNe, Nat.reduceBEq, List.append_nil, Int.toNat_zero, Nat.sub_self, frS]; try rfl) ?_; rintro y ⟨sp4, sq4, rfl, h5, h6⟩; have h5' := h5; have h6' := h6; obtain ⟨a7, c7, z7, r7, x7, rfl, _⟩ := h5; obtain ⟨a8, c8, z8, r8, x8, rfl, _⟩ := h6; simp only [frS, evr, id, reduceCtorEq, reduceIte, Nat.reduceMul, Nat.reduceAdd, Nat.reduceLT, Nat.reduceLeDiff, Nat.reduceEqDiff, Int.reduceLT, Int.reduceBEq, Int.reduceBNe, Nat.reduceBEq, List.append_nil, Int.toNat_zero, Nat.sub_self, frS])
      | (intro k5))
    all_goals
      refine hk _ ?_
      clear hk
      simp only [thenK]
      refine Sat.le (hrest (k5, _, _) ⟨h5', h6'⟩) ?_
      simp -implicitDefEqProofs only [evr, id, reduceCtorEq, reduceIte, Nat.reduceMul, Nat.reduceAdd, Nat.reduceLT, Nat.reduceLeDiff, Nat.reduceEqDiff, Int.reduceLT, Int.reduceBEq, Int.reduceBNe, Nat.reduceBEq, List.append_nil, Int.toNat_zero, Nat.sub_self, frS, evl]
  rintro ⟨k5, sp4, sq4⟩ ⟨h5, h6⟩
  simp only at h5 h6 ⊢
  have h5' := h5
  have h6' := h6
  obtain ⟨a7, c7, z7, r7, x7, rfl, _⟩ := h5
  obtain ⟨a8, c8, z8, r8, x8, rfl, _⟩ := h6
  (repeat refine Sat.seq ?_)
  (refine Sat.region_k fun k hk => ?_; simp -implicitDefEqProofs only [evr, id, reduceCtorEq, reduceIte, Nat.reduceMul, Nat.reduceAdd, Nat.reduceLT, Nat.reduceLeDiff, Nat.reduceEqDiff, Int.reduceLT, Int.reduceBEq, Int.reduceBNe, Nat.reduceBEq, List.append_nil, Int.toNat_zero, Nat.sub_self, frS])
  (refine hk _ ?_; clear hk k; try show Sat _ _ _ _ _)
  refine Sat.cond_b rfl (fun h => ?_) (fun h => ?_)
  · (repeat refine Sat.seq ?_)
    (refine Sat.region_k fun k hk => ?_; simp -implicitDefEqProofs only [evr, id, reduceCtorEq, reduceIte, Nat.reduceMul, Nat.reduceAdd, Nat.reduceLT, Nat.reduceLeDiff, Nat.reduceEqDiff, Int.reduceLT, Int.reduceBEq, Int.reduceBNe, Nat.reduceBEq, List.append_nil, Int.toNat_zero, Nat.sub_self, frS]; refine hk _ ?_; clear hk k; try show Sat _ _ _ _ _)
    refine Sat.ret ?_
    simp only [Try.results27, evr, id, reduceCtorEq, reduceIte, Nat.reduceMul, Nat.reduceAdd, Nat.reduceLT, Nat.reduceLeDiff, Nat.reduceEqDiff, Int.reduceLT, Int.reduceBEq, Int.reduceBNe, Nat.reduceBEq, List.append_nil, Int.toNat_zero, Nat.sub_self, frS]
    unfold ordV
    rw [if_pos h]
  · refine Sat.skip ?_
    simp only [thenK]
    (repeat refine Sat.seq ?_)
    (refine Sat.region_k fun k hk => ?_; simp -implicitDefEqProofs only [evr, id, reduceCtorEq, reduceIte, Nat.reduceMul, Nat.reduceAdd, Nat.reduceLT, Nat.reduceLeDiff, Nat.reduceEqDiff, Int.reduceLT, Int.reduceBEq, Int.reduceBNe, Nat.reduceBEq, List.append_nil, Int.toNat_zero, Nat.sub_self, frS])
    (refine hk _ ?_; clear hk k; try show Sat _ _ _ _ _)
    refine Sat.ret ?_
    simp only [Try.results27, evr, id, reduceCtorEq, reduceIte, Nat.reduceMul, Nat.reduceAdd, Nat.reduceLT, Nat.reduceLeDiff, Nat.reduceEqDiff, Int.reduceLT, Int.reduceBEq, Int.reduceBNe, Nat.reduceBEq, List.append_nil, Int.toNat_zero, Nat.sub_self, frS]
    have hl := h5'.len
    unfold ordV
    rw [if_neg (by rw [h]; decide)]
    by_cases h0 : addP na p q (!nb && decide (0 < r)) r s = 0
    · rw [if_pos h0]
      have h9 : ¬ (0 < (x7.length : Int)) := by rw [hl]; omega
      have h8 : x7.length = 0 := by omega
      rw [h8]
      rfl
    · rw [if_neg h0]
      have h9 : 0 < (x7.length : Int) := by rw [hl]; omega
      congr 1
      omega
theorem div_gcd_zero (x d : Nat) (hd : 0 < d) : x / Nat.gcd x d = 0 ↔ x = 0 := by
  have h1 := Nat.div_mul_cancel (Nat.gcd_dvd_left x d)
  constructor
  · intro h; rw [h] at h1; omega
  · rintro rfl; simp
theorem ordV_pos {p q r s : Nat} (hq : 0 < q) (hs : 0 < s) : ordV false p q false r s = cmpI (p * s : Nat) (r * q : Nat) := by
  have hd : 0 < q * s := Nat.mul_pos hq hs
  have hv : ∃ b z, sumV false (p * s) (!false && decide (0 < r)) (r * q) = (b, z) ∧ ((b = true ∧ p * s < r * q ∧ 0 < z) ∨ (b = false ∧ z = p * s - r * q ∧ r * q ≤ p * s)) := by
    rcases Nat.eq_zero_or_pos r with hr | hr
    · subst hr
      exact ⟨false, p * s + 0 * q, rfl, .inr ⟨rfl, by omega, by omega⟩⟩
    · have e : (!false && decide (0 < r)) = true := by simp [hr]
      rw [e]
      unfold sumV
      rw [if_neg (by decide)]
      by_cases h : p * s < r * q
      · rw [if_pos h]; exact ⟨_, _, rfl, .inl ⟨rfl, h, by omega⟩⟩
      · rw [if_neg h]; exact ⟨_, _, rfl, .inr ⟨rfl, rfl, by omega⟩⟩
  obtain ⟨b, z, e, hb⟩ := hv
  have hz := div_gcd_zero z (q * s) hd
  unfold ordV sumN addP addG
  simp only [e]
  rcases hb with ⟨rfl, h1, h2⟩ | ⟨rfl, h1, h2⟩
  · rw [cmpI_lt (by omega), decide_eq_true h2]
    rfl
  · simp only [Bool.false_and, Bool.false_eq_true, if_false]
    by_cases h0 : z / Nat.gcd z (q * s) = 0
    · rw [if_pos h0, cmpI_eq (by have := hz.1 h0; omega)]
    · rw [if_neg h0, cmpI_gt (by have : ¬ z = 0 := fun h => h0 (hz.2 h); omega)]
end Go.Proofs.Ytagmohpafjncfaa
