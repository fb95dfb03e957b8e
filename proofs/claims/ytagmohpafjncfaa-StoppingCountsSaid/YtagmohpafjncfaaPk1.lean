/- The reference of package natural, by the evaluator: half, Times. -/
import Derived.Test.YtagmohpafjncfaaRefF
import Derived.Test.YtagmohpafjncfaaEngR
import Derived.Test.YtagmohpafjncfaaStpE
import Derived.Test.YtagmohpafjncfaaNat
import Derived.WalkKit
import Derived.Carry
import Derived.Deep.Draws
import Derived.Test.YtagmohpafjncfaaProg
import Derived.Lib.Hide
import Derived.Deep.LoopGhost
import Derived.Deep.QuietTactic
import Derived.BigQuiet
import Derived.Outline
import Derived.OpenShut
import Derived.Test.YtagmohpafjncfaaEv
import Derived.Test.YtagmohpafjncfaaEngL
import Derived.Test.YtagmohpafjncfaaRows
import Derived.ProofKit
import Derived.ShutString
import Derived.ChangeOld
import Derived.Below
set_option linter.unusedSimpArgs false
set_option linter.unusedVariables false
namespace Go.Proofs.Ytagmohpafjncfaa
open Eng Lmb Go.RowKit

theorem rd_zero {n N : Nat} {rd : Nat → Nat → SV} (h : ∀ p, rd p 0 = .i .i64 0) : rdEq n 1 rd (fun p _ => .i .i64 ((List.replicate N 0).getD p 0)) := by
  intro p j hp hj
  obtain rfl : j = 0 := by omega
  rw [h p]
  show SV.i .i64 0 = SV.i .i64 _
  congr 1
  simp only [List.getD, List.getElem?_replicate]
  split <;> rfl
theorem rd_set {qs : List Int} {n ix : Nat} {x y : Int} (hx : y = x) (h : ix < qs.length) : rdEq n 1 (rdSet (fun p _ => .i .i64 (qs.getD p 0)) ix 0 [.i .i64 y]) (fun p _ => .i .i64 ((qs.set ix x).getD p 0)) := by
  subst hx
  intro p j hp hj
  obtain rfl : j = 0 := by omega
  unfold rdSet
  show (if _ then _ else _) = SV.i .i64 _
  rw [getD_set _ _ _ h]
  by_cases hpx : p = ix
  · subst hpx
    simp
  · rw [if_neg (by intro h; exact hpx h.1), if_neg (fun h => hpx h.symm)]

set_option maxRecDepth 100000 in
theorem refHalfC (F : Frm) {sa : SV} {m : Nat} (ha : Nats sa m) (b1 : (m : Int) < pw 512) : Contract F Try.prog 79 [sa] (fun r => Nats r (m / 2)) := by
  obtain ⟨xs, hi1, d1⟩ := ha.ints
  have l1 := (d1.len_le 512).2 b1
  obtain ⟨a1, c1, z1, r1, rfl, hz1, hr1⟩ := hi1
  refine contract_of Try.func79 rfl (by kernel_rfl) ?_
  simp only [Try.ntmps79, argEnv]
  have e0 : IntKind.i64.wrap ((xs.length : Int) - 1) = (xs.length : Int) - 1 := w64 (by omega)
  (repeat refine Sat.seq ?_)
  (refine Sat.region_k fun k hk => ?_; simp -implicitDefEqProofs only [evr, id, reduceCtorEq, reduceIte, Nat.reduceMul, Nat.reduceAdd, Nat.reduceLT, Nat.reduceLeDiff, Nat.reduceEqDiff, Int.reduceLT, Int.reduceBEq, Int.reduceBNe, Nat.reduceBEq, List.append_nil, Nat.sub_self]; refine hk _ ?_; clear hk k; try show Sat _ _ _ _ _)
  (repeat refine Sat.seq ?_)
  (refine Sat.region_k fun k hk => ?_; simp -implicitDefEqProofs only [evr, id, reduceCtorEq, reduceIte, Nat.reduceMul, Nat.reduceAdd, Nat.reduceLT, Nat.reduceLeDiff, Nat.reduceEqDiff, Int.reduceLT, Int.reduceBEq, Int.reduceBNe, Nat.reduceBEq, List.append_nil, Nat.sub_self])
  refine ⟨by omega, fun a cap => ?_⟩
  (refine hk _ ?_; clear hk k; try show Sat _ _ _ _ _)
  (repeat refine Sat.seq ?_)
  (refine Sat.region_k fun k hk => ?_; simp -implicitDefEqProofs only [evr, id, reduceCtorEq, reduceIte, Nat.reduceMul, Nat.reduceAdd, Nat.reduceLT, Nat.reduceLeDiff, Nat.reduceEqDiff, Int.reduceLT, Int.reduceBEq, Int.reduceBNe, Nat.reduceBEq, List.append_nil, Nat.sub_self]; refine hk _ ?_; clear hk k; try show Sat _ _ _ _ _)
  (repeat refine Sat.seq ?_)
  refine Sat.region_k fun k hk => ?_
  simp -implicitDefEqProofs only [evr, id, reduceCtorEq, reduceIte, Nat.reduceMul, Nat.reduceAdd, Nat.reduceLT, Nat.reduceLeDiff, Nat.reduceEqDiff, Int.reduceLT, Int.reduceBEq, Int.reduceBNe, Nat.reduceBEq, List.append_nil, Nat.sub_self, e0]
  (refine hk _ ?_; clear hk k; try show Sat _ _ _ _ _)
  (repeat refine Sat.seq ?_)
  refine Sat.block ?_
  (repeat refine Sat.seq ?_)
  refine Sat.loop (ι := Nat × Int × List Int) (fun x => ⟨33, [(5, .i .i64 ((x.1 : Int) - 1)), (4, .i .i64 x.2.1), (3, .os 0 a xs.length cap), (0, .sl a1 xs.length c1 z1 r1)], [.row a 3 xs.length cap 1 (fun p _ => .i .i64 (x.2.2.getD p 0))]⟩)
    (fun x => x.1 ≤ xs.length ∧ SmallInv xs 2 x.1 x.2.2 x.2.1) (fun x => x.1) (xs.length, 0, List.replicate xs.length 0) ⟨Nat.le_refl _, SmallInv.start xs 2 (by decide)⟩ (by simp -implicitDefEqProofs only [evr, id, reduceCtorEq, reduceIte, Nat.reduceMul, Nat.reduceAdd, Nat.reduceLT, Nat.reduceLeDiff, Nat.reduceEqDiff, Int.reduceLT, Int.reduceBEq, Int.reduceBNe, Nat.reduceBEq, List.append_nil, Nat.sub_self, evl]; exact rd_zero (fun p => rfl)) ?_
  rintro ⟨q, rest, qs⟩ ⟨hq, hinv⟩
  simp only at hq hinv ⊢
  have t1 := hinv.r0
  have t2 := hinv.r1
  have t3 := hinv.len
  (repeat refine Sat.seq ?_)
  (refine Sat.region_k fun k hk => ?_; simp -implicitDefEqProofs only [evr, id, reduceCtorEq, reduceIte, Nat.reduceMul, Nat.reduceAdd, Nat.reduceLT, Nat.reduceLeDiff, Nat.reduceEqDiff, Int.reduceLT, Int.reduceBEq, Int.reduceBNe, Nat.reduceBEq, List.append_nil, Nat.sub_self]; refine hk _ ?_; clear hk k; try show Sat _ _ _ _ _)
  (repeat refine Sat.seq ?_)
  refine Sat.cond_b rfl (fun h2 => ?_) (fun h2 => ?_)
  · simp only [decide_eq_true_eq] at h2
    obtain ⟨j, rfl⟩ : ∃ j, q = j + 1 := ⟨q - 1, by omega⟩
    have hj : j < xs.length := by omega
    have ej : (((j + 1 : Nat) : Int) - 1) = (j : Int) := by omega
    have ej2 : IntKind.i64.wrap ((j : Int) - 1) = (j : Int) - 1 := w64 (by omega)
    have hsz1 : z1 = 1 := by
      rcases hz1 with hz | hz
      · omega
      · exact hz
    subst hsz1
    have g1 := hr1 j hj
    have bx := limbs_getD d1.limbs j
    have hnext := hinv.step d1.limbs hj
    have w1 : IntKind.i64.wrap (rest * 1073741824) = rest * 1073741824 := w64 (by omega)
    have w2 : IntKind.i64.wrap (xs.getD j 0 + rest * 1073741824) = rest * 1073741824 + xs.getD j 0 := by rw [w64 (by omega)]; omega
    have tq : IntKind.i64.wrap ((rest * 1073741824 + xs.getD j 0).tdiv 2) = (rest * 1073741824 + xs.getD j 0) / 2 := by
      rw [Int.tdiv_eq_ediv_of_nonneg (by omega), w64 (by omega)]
    have tm : (rest * 1073741824 + xs.getD j 0).tmod 2 = (rest * 1073741824 + xs.getD j 0) % 2 := Int.tmod_eq_emod_of_nonneg (by omega)
    refine Sat.skip ?_
    simp only [thenK, ej]
    (repeat refine Sat.seq ?_)
    refine Sat.block ?_
    (repeat refine Sat.seq ?_)
    refine Sat.region_k fun k hk => ?_
    simp -implicitDefEqProofs only [evr, id, reduceCtorEq, reduceIte, Nat.reduceMul, Nat.reduceAdd, Nat.reduceLT, Nat.reduceLeDiff, Nat.reduceEqDiff, Int.reduceLT, Int.reduceBEq, Int.reduceBNe, Nat.reduceBEq, List.append_nil, Nat.sub_self]
    refine ⟨by omega, ?_⟩
    rw [g1]
    simp -implicitDefEqProofs only [evr, id, reduceCtorEq, reduceIte, Nat.reduceMul, Nat.reduceAdd, Nat.reduceLT, Nat.reduceLeDiff, Nat.reduceEqDiff, Int.reduceLT, Int.reduceBEq, Int.reduceBNe, Nat.reduceBEq, List.append_nil, Nat.sub_self, w1, w2]
    (refine hk _ ?_; clear hk k; try show Sat _ _ _ _ _)
    (repeat refine Sat.seq ?_)
    refine Sat.region_k fun k hk => ?_
    simp -implicitDefEqProofs only [evr, id, reduceCtorEq, reduceIte, Nat.reduceMul, Nat.reduceAdd, Nat.reduceLT, Nat.reduceLeDiff, Nat.reduceEqDiff, Int.reduceLT, Int.reduceBEq, Int.reduceBNe, Nat.reduceBEq, List.append_nil, Nat.sub_self, tq]
    refine ⟨by decide, by omega, by omega, ?_⟩
    (refine hk _ ?_; clear hk k; try show Sat _ _ _ _ _)
    refine Sat.region_k fun k hk => ?_
    simp -implicitDefEqProofs only [evr, id, reduceCtorEq, reduceIte, Nat.reduceMul, Nat.reduceAdd, Nat.reduceLT, Nat.reduceLeDiff, Nat.reduceEqDiff, Int.reduceLT, Int.reduceBEq, Int.reduceBNe, Nat.reduceBEq, List.append_nil, Nat.sub_self, tm]
    refine ⟨by decide, ?_⟩
    refine hk _ ?_
    clear hk k
    simp only [thenK, blockK]
    (repeat refine Sat.seq ?_)
    refine Sat.region_k fun k hk => ?_
    simp -implicitDefEqProofs only [evr, id, reduceCtorEq, reduceIte, Nat.reduceMul, Nat.reduceAdd, Nat.reduceLT, Nat.reduceLeDiff, Nat.reduceEqDiff, Int.reduceLT, Int.reduceBEq, Int.reduceBNe, Nat.reduceBEq, List.append_nil, Nat.sub_self, ej2]
    refine hk _ ?_
    simp only [thenK, blockK]
    refine ⟨(j, (rest * 1073741824 + xs.getD j 0) % 2, qs.set j ((rest * 1073741824 + xs.getD j 0) / 2)), ⟨by show j ≤ xs.length; omega, hnext⟩, by show j < j + 1; omega, ?_⟩
    simp -implicitDefEqProofs only [evr, id, reduceCtorEq, reduceIte, Nat.reduceMul, Nat.reduceAdd, Nat.reduceLT, Nat.reduceLeDiff, Nat.reduceEqDiff, Int.reduceLT, Int.reduceBEq, Int.reduceBNe, Nat.reduceBEq, List.append_nil, Nat.sub_self, evl]
    exact rd_set rfl (by omega)
  · simp only [decide_eq_false_iff_not] at h2
    obtain rfl : q = 0 := by omega
    have hd := (hinv.done (n := m) (c := 2) d1.val rfl).1
    have hv : (val qs).toNat = m / 2 := by
      have h8 := hd.val
      rw [trim_val] at h8
      omega
    refine Sat.exit ?_
    simp only [thenK, blockK, reduceIte]
    (repeat refine Sat.seq ?_)
    (refine Sat.region_k fun k hk => ?_; simp -implicitDefEqProofs only [evr, id, reduceCtorEq, reduceIte, Nat.reduceMul, Nat.reduceAdd, Nat.reduceLT, Nat.reduceLeDiff, Nat.reduceEqDiff, Int.reduceLT, Int.reduceBEq, Int.reduceBNe, Nat.reduceBEq, List.append_nil, Nat.sub_self])
    refine wcall_slice (refTrimC F (s := .sl a qs.length cap 1 (fun p _ => .i .i64 (qs.getD p 0))) ⟨a, cap, 1, _, rfl, .inr rfl, fun p _ => rfl⟩ hinv.limbs) (by simp -implicitDefEqProofs only [evr, id, reduceCtorEq, reduceIte, Nat.reduceMul, Nat.reduceAdd, Nat.reduceLT, Nat.reduceLeDiff, Nat.reduceEqDiff, Int.reduceLT, Int.reduceBEq, Int.reduceBNe, Nat.reduceBEq, List.append_nil, Nat.sub_self]; try rfl) (by simp -implicitDefEqProofs only [evr, id, reduceCtorEq, reduceIte, Nat.reduceMul, Nat.reduceAdd, Nat.reduceLT, Nat.reduceLeDiff, Nat.reduceEqDiff, Int.reduceLT, Int.reduceBEq, Int.reduceBNe, Nat.reduceBEq, List.append_nil, Nat.sub_self, t3]; try rfl) ?_
    intro y hy
    rw [hv] at hy
    have hs8 := hy
    obtain ⟨a8, c8, z8, r8, x8, rfl, _⟩ := hy
    simp -implicitDefEqProofs only [evr, id, reduceCtorEq, reduceIte, Nat.reduceMul, Nat.reduceAdd, Nat.reduceLT, Nat.reduceLeDiff, Nat.reduceEqDiff, Int.reduceLT, Int.reduceBEq, Int.reduceBNe, Nat.reduceBEq, List.append_nil, Nat.sub_self]
    (refine hk _ ?_; clear hk k; try show Sat _ _ _ _ _)
    refine Sat.ret ?_
    simp only [Try.results79, evr, id, reduceCtorEq, reduceIte, Nat.reduceMul, Nat.reduceAdd, Nat.reduceLT, Nat.reduceLeDiff, Nat.reduceEqDiff, Int.reduceLT, Int.reduceBEq, Int.reduceBNe, Nat.reduceBEq, List.append_nil, Nat.sub_self]
    exact hs8

/-- what is known within a row of the product -/
def TimIn (xs ys os : List Int) (j q : Nat) (c : Int) (qs : List Int) : Prop := (q ≤ ys.length ∧ MulIn xs ys os qs j q c) ∨ (q = ys.length + 1 ∧ c = 0 ∧ MulOut xs ys qs (j + 1))
theorem TimIn.step {xs ys os qs : List Int} {j q : Nat} {c : Int} (h : TimIn xs ys os j q c qs) (dx : Limbs xs) (dy : Limbs ys) (ho : MulOut xs ys os j) (hj : j < xs.length) (hg : q < ys.length ∨ 0 < c) :
    TimIn xs ys os j (q + 1) ((qs.getD (j + q) 0 + xs.getD j 0 * ys.getD q 0 + c) / 1073741824) (qs.set (j + q) ((qs.getD (j + q) 0 + xs.getD j 0 * ys.getD q 0 + c) % 1073741824)) := by
  rcases h with ⟨hq, h⟩ | ⟨hq, hc, _⟩
  · rcases (show q < ys.length ∨ q = ys.length by omega) with hlt | rfl
    · exact .inl ⟨hlt, h.step dx dy hj hlt⟩
    · right
      have z1 : ys.getD ys.length 0 = 0 := by simp [List.getD]
      have z2 := h.zero (j + ys.length) (Nat.le_refl _)
      have c0 := h.c0
      have c1 := h.c1
      have e : qs.getD (j + ys.length) 0 + xs.getD j 0 * ys.getD ys.length 0 + c = c := by rw [z1, z2]; omega
      rw [e]
      have e1 : c % 1073741824 = c := by omega
      have e2 : c / 1073741824 = 0 := by omega
      rw [e1, e2]
      exact ⟨rfl, rfl, h.done ho hj⟩
  · omega
theorem set_same {l : List Int} {i : Nat} (h : l.getD i 0 = 0) (hi : i < l.length) : l.set i 0 = l := by
  have e : l[i] = 0 := by simpa [List.getD, hi] using h
  rw [← e, List.set_getElem_self]
theorem TimIn.exit {xs ys os qs : List Int} {j q : Nat} {c : Int} (h : TimIn xs ys os j q c qs) (ho : MulOut xs ys os j) (hj : j < xs.length) (hg : ¬ (q < ys.length ∨ 0 < c)) : MulOut xs ys qs (j + 1) := by
  rcases h with ⟨hq, h⟩ | ⟨hq, hc, h⟩
  · have c0 := h.c0
    have hc : c = 0 := by omega
    have hq2 : q = ys.length := by omega
    subst hc hq2
    have hd := h.done ho hj
    rwa [set_same (h.zero _ (Nat.le_refl _)) (by have := h.len; omega)] at hd
  · exact h
theorem TimIn.facts {xs ys os qs : List Int} {j q : Nat} {c : Int} (h : TimIn xs ys os j q c qs) : qs.length = xs.length + ys.length ∧ Limbs qs ∧ 0 ≤ c ∧ c < 1073741824 ∧ q ≤ ys.length + 1 := by
  rcases h with ⟨hq, h⟩ | ⟨hq, hc, h⟩
  · exact ⟨h.len, h.limbs, h.c0, h.c1, by omega⟩
  · exact ⟨h.len, h.limbs, by omega, by omega, by omega⟩

set_option maxRecDepth 100000 in
theorem refTimesC (F : Frm) {sa sb : SV} {m n : Nat} (ha : Nats sa m) (hb : Nats sb n) (b1 : (m : Int) < pw 512) (b2 : (n : Int) < pw 512) : Contract F Try.prog 51 [sa, sb] (fun r => Nats r (m * n)) := by
  obtain ⟨xs, hi1, d1⟩ := ha.ints
  obtain ⟨ys, hi2, d2⟩ := hb.ints
  have l1 := (d1.len_le 512).2 b1
  have l2 := (d2.len_le 512).2 b2
  have hj2 := hi2
  obtain ⟨a1, c1, z1, r1, rfl, hz1, hr1⟩ := hi1
  obtain ⟨a2, c2, z2, r2, rfl, hz2, hr2⟩ := hi2
  refine contract_of Try.func51 rfl (by kernel_rfl) ?_
  simp only [Try.ntmps51, argEnv]
  have e0 : IntKind.i64.wrap ((xs.length : Int) + (ys.length : Int)) = ((xs.length + ys.length : Nat) : Int) := by rw [w64 (by omega)]; omega
  generalize hN : xs.length + ys.length = N at e0
  (repeat refine Sat.seq ?_)
  (refine Sat.region_k fun k hk => ?_; simp -implicitDefEqProofs only [evr, id, reduceCtorEq, reduceIte, Nat.reduceMul, Nat.reduceAdd, Nat.reduceLT, Nat.reduceLeDiff, Nat.reduceEqDiff, Int.reduceLT, Int.reduceBEq, Int.reduceBNe, Nat.reduceBEq, List.append_nil, Nat.sub_self]; refine hk _ ?_; clear hk k; try show Sat _ _ _ _ _)
  (repeat refine Sat.seq ?_)
  refine Sat.region_k fun k hk => ?_
  simp -implicitDefEqProofs only [evr, id, reduceCtorEq, reduceIte, Nat.reduceMul, Nat.reduceAdd, Nat.reduceLT, Nat.reduceLeDiff, Nat.reduceEqDiff, Int.reduceLT, Int.reduceBEq, Int.reduceBNe, Nat.reduceBEq, List.append_nil, Nat.sub_self, e0]
  refine ⟨by omega, fun a cap => ?_⟩
  (refine hk _ ?_; clear hk k; try show Sat _ _ _ _ _)
  (repeat refine Sat.seq ?_)
  (refine Sat.region_k fun k hk => ?_; simp -implicitDefEqProofs only [evr, id, reduceCtorEq, reduceIte, Nat.reduceMul, Nat.reduceAdd, Nat.reduceLT, Nat.reduceLeDiff, Nat.reduceEqDiff, Int.reduceLT, Int.reduceBEq, Int.reduceBNe, Nat.reduceBEq, List.append_nil, Nat.sub_self]; refine hk _ ?_; clear hk k; try show Sat _ _ _ _ _)
  (repeat refine Sat.seq ?_)
  refine Sat.block ?_
  (repeat refine Sat.seq ?_)
  refine Sat.loop (ι := Nat × List Int) (fun x => ⟨60, [(6, .i .i64 x.1), (5, .os 0 a N cap), (0, .sl a1 xs.length c1 z1 r1), (1, .sl a2 ys.length c2 z2 r2)], [.row a 3 N cap 1 (fun p _ => .i .i64 (x.2.getD p 0))]⟩)
    (fun x => x.1 ≤ xs.length ∧ MulOut xs ys x.2 x.1) (fun x => xs.length - x.1) (0, List.replicate (xs.length + ys.length) 0) ⟨Nat.zero_le _, MulOut.start xs ys⟩ (by simp -implicitDefEqProofs only [evr, id, reduceCtorEq, reduceIte, Nat.reduceMul, Nat.reduceAdd, Nat.reduceLT, Nat.reduceLeDiff, Nat.reduceEqDiff, Int.reduceLT, Int.reduceBEq, Int.reduceBNe, Nat.reduceBEq, List.append_nil, Nat.sub_self, evl]; exact ⟨rfl, rd_zero (fun p => rfl)⟩) ?_
  rintro ⟨j, os⟩ ⟨hj, hout⟩
  simp only at hj hout ⊢
  (repeat refine Sat.seq ?_)
  (refine Sat.region_k fun k hk => ?_; simp -implicitDefEqProofs only [evr, id, reduceCtorEq, reduceIte, Nat.reduceMul, Nat.reduceAdd, Nat.reduceLT, Nat.reduceLeDiff, Nat.reduceEqDiff, Int.reduceLT, Int.reduceBEq, Int.reduceBNe, Nat.reduceBEq, List.append_nil, Nat.sub_self]; refine hk _ ?_; clear hk k; try show Sat _ _ _ _ _)
  (repeat refine Sat.seq ?_)
  refine Sat.cond_b rfl (fun h => ?_) (fun h => ?_)
  · simp only [decide_eq_true_eq] at h
    have hjl : j < xs.length := by omega
    have hsz1 : z1 = 1 := by
      rcases hz1 with hz | hz
      · omega
      · exact hz
    subst hsz1
    have g1 := hr1 j hjl
    have bx := limbs_getD d1.limbs j
    have ej1 : IntKind.i64.wrap ((j : Int) + 1) = ((j + 1 : Nat) : Int) := by rw [w64 (by omega)]; omega
    refine Sat.skip ?_
    simp only [thenK]
    (repeat refine Sat.seq ?_)
    refine Sat.block ?_
    (repeat refine Sat.seq ?_)
    (refine Sat.region_k fun k hk => ?_; simp -implicitDefEqProofs only [evr, id, reduceCtorEq, reduceIte, Nat.reduceMul, Nat.reduceAdd, Nat.reduceLT, Nat.reduceLeDiff, Nat.reduceEqDiff, Int.reduceLT, Int.reduceBEq, Int.reduceBNe, Nat.reduceBEq, List.append_nil, Nat.sub_self]; refine hk _ ?_; clear hk k; try show Sat _ _ _ _ _)
    (repeat refine Sat.seq ?_)
    (refine Sat.region_k fun k hk => ?_; simp -implicitDefEqProofs only [evr, id, reduceCtorEq, reduceIte, Nat.reduceMul, Nat.reduceAdd, Nat.reduceLT, Nat.reduceLeDiff, Nat.reduceEqDiff, Int.reduceLT, Int.reduceBEq, Int.reduceBNe, Nat.reduceBEq, List.append_nil, Nat.sub_self]; refine hk _ ?_; clear hk k; try show Sat _ _ _ _ _)
    (repeat refine Sat.seq ?_)
    refine Sat.block ?_
    (repeat refine Sat.seq ?_)
    refine Sat.loop (ι := Nat × Int × List Int) (fun x => ⟨60, [(8, .i .i64 x.1), (7, .i .i64 x.2.1), (6, .i .i64 j), (5, .os 0 a N cap), (0, .sl a1 xs.length c1 1 r1), (1, .sl a2 ys.length c2 z2 r2)], [.row a 3 N cap 1 (fun p _ => .i .i64 (x.2.2.getD p 0))]⟩)
      (fun x => TimIn xs ys os j x.1 x.2.1 x.2.2) (fun x => ys.length + 1 - x.1) (0, 0, os) (.inl ⟨Nat.zero_le _, MulIn.start hout⟩) (by simp -implicitDefEqProofs only [evr, id, reduceCtorEq, reduceIte, Nat.reduceMul, Nat.reduceAdd, Nat.reduceLT, Nat.reduceLeDiff, Nat.reduceEqDiff, Int.reduceLT, Int.reduceBEq, Int.reduceBNe, Nat.reduceBEq, List.append_nil, Nat.sub_self, evl]; try rfl) ?_
    rintro ⟨q, c, qs⟩ hin
    simp only at hin ⊢
    obtain ⟨f1, f2, f3, f4, f5⟩ := hin.facts
    have bo := limbs_getD f2 (j + q)
    have bY := limbs_getD d2.limbs q
    have bp := limb_prod bx bY
    (repeat refine Sat.seq ?_)
    refine Sat.region_at ⟨60, [(29, .b (decide (q < ys.length ∨ 0 < c))), (8, .i .i64 q), (7, .i .i64 c), (6, .i .i64 j), (5, .os 0 a N cap), (0, .sl a1 xs.length c1 1 r1), (1, .sl a2 ys.length c2 z2 r2)], [.row a 3 N cap 1 (fun p _ => .i .i64 (qs.getD p 0))]⟩ (fun k hk => ?_) ?_
    · simp -implicitDefEqProofs only [evr, id, reduceCtorEq, reduceIte, Nat.reduceMul, Nat.reduceAdd, Nat.reduceLT, Nat.reduceLeDiff, Nat.reduceEqDiff, Int.reduceLT, Int.reduceBEq, Int.reduceBNe, Nat.reduceBEq, List.append_nil, Nat.sub_self]
      refine ⟨fun h => ?_, fun h2 => ?_⟩
      · refine hk _ ?_
        have e : decide (q < ys.length ∨ 0 < c) = true := decide_eq_true (.inl (by omega))
        rw [e]
        simp -implicitDefEqProofs only [evr, id, reduceCtorEq, reduceIte, Nat.reduceMul, Nat.reduceAdd, Nat.reduceLT, Nat.reduceLeDiff, Nat.reduceEqDiff, Int.reduceLT, Int.reduceBEq, Int.reduceBNe, Nat.reduceBEq, List.append_nil, Nat.sub_self, evl]
      · refine hk _ ?_
        have e : decide (q < ys.length ∨ 0 < c) = decide (0 < c) := by
          congr 1
          apply propext
          constructor
          · rintro (h3 | h3)
            · omega
            · exact h3
          · exact fun h3 => .inr h3
        rw [e]
        simp -implicitDefEqProofs only [evr, id, reduceCtorEq, reduceIte, Nat.reduceMul, Nat.reduceAdd, Nat.reduceLT, Nat.reduceLeDiff, Nat.reduceEqDiff, Int.reduceLT, Int.reduceBEq, Int.reduceBNe, Nat.reduceBEq, List.append_nil, Nat.sub_self, evl]
    simp only [thenK]
    refine Sat.cond_b rfl (fun h3 => ?_) (fun h3 => ?_)
    · have hg : q < ys.length ∨ 0 < c := of_decide_eq_true h3
      have hnext := hin.step d1.limbs d2.limbs hout hjl hg
      have hql : q ≤ ys.length := by
        rcases hin with h9 | ⟨h9, h10, _⟩
        · exact h9.1
        · omega
      have w0 : IntKind.i64.wrap ((j : Int) + (q : Int)) = ((j + q : Nat) : Int) := by rw [w64 (by omega)]; omega
      have w1 : IntKind.i64.wrap (xs.getD j 0 * ys.getD q 0) = xs.getD j 0 * ys.getD q 0 := w64 (by omega)
      have w2 : IntKind.i64.wrap (qs.getD (j + q) 0 + xs.getD j 0 * ys.getD q 0) = qs.getD (j + q) 0 + xs.getD j 0 * ys.getD q 0 := w64 (by omega)
      have w3 : IntKind.i64.wrap (qs.getD (j + q) 0 + xs.getD j 0 * ys.getD q 0 + c) = qs.getD (j + q) 0 + xs.getD j 0 * ys.getD q 0 + c := w64 (by omega)
      refine Sat.skip ?_
      simp only [thenK]
      (repeat refine Sat.seq ?_)
      refine Sat.block ?_
      (repeat refine Sat.seq ?_)
      refine Sat.region_qk (by kernel_rfl) (by kernel_rfl) fun k hk => ?_
      simp -implicitDefEqProofs only [evr, id, reduceCtorEq, reduceIte, Nat.reduceMul, Nat.reduceAdd, Nat.reduceLT, Nat.reduceLeDiff, Nat.reduceEqDiff, Int.reduceLT, Int.reduceBEq, Int.reduceBNe, Nat.reduceBEq, List.append_nil, Nat.sub_self, w0]
      refine ⟨by omega, by omega, by omega, ?_⟩
      refine qcall (refLimbC Frm.nil hj2 q) (by simp -implicitDefEqProofs only [evr, id, reduceCtorEq, reduceIte, Nat.reduceMul, Nat.reduceAdd, Nat.reduceLT, Nat.reduceLeDiff, Nat.reduceEqDiff, Int.reduceLT, Int.reduceBEq, Int.reduceBNe, Nat.reduceBEq, List.append_nil, Nat.sub_self]; try rfl) (ok_plain rfl) ?_
      rw [g1]
      simp -implicitDefEqProofs only [evr, id, reduceCtorEq, reduceIte, Nat.reduceMul, Nat.reduceAdd, Nat.reduceLT, Nat.reduceLeDiff, Nat.reduceEqDiff, Int.reduceLT, Int.reduceBEq, Int.reduceBNe, Nat.reduceBEq, List.append_nil, Nat.sub_self, w1, w2, w3]
      refine hk _ ?_
      clear hk k
      try show Sat _ _ _ _ _
      generalize hxx : qs.getD (j + q) 0 + xs.getD j 0 * ys.getD q 0 + c = x at *
      have bxx : 0 ≤ x ∧ x < 2305843009213693952 := by omega
      have tm : x.tmod 1073741824 = x % 1073741824 := Int.tmod_eq_emod_of_nonneg (by omega)
      have td : IntKind.i64.wrap (x.tdiv 1073741824) = x / 1073741824 := by
        rw [Int.tdiv_eq_ediv_of_nonneg (by omega), w64 (by omega)]
      have tq : IntKind.i64.wrap ((q : Int) + 1) = ((q + 1 : Nat) : Int) := by rw [w64 (by omega)]; omega
      (repeat refine Sat.seq ?_)
      refine Sat.region_k fun k hk => ?_
      simp -implicitDefEqProofs only [evr, id, reduceCtorEq, reduceIte, Nat.reduceMul, Nat.reduceAdd, Nat.reduceLT, Nat.reduceLeDiff, Nat.reduceEqDiff, Int.reduceLT, Int.reduceBEq, Int.reduceBNe, Nat.reduceBEq, List.append_nil, Nat.sub_self, w0, tm]
      refine ⟨by decide, by omega, by omega, ?_⟩
      (refine hk _ ?_; clear hk k; try show Sat _ _ _ _ _)
      refine Sat.region_k fun k hk => ?_
      simp -implicitDefEqProofs only [evr, id, reduceCtorEq, reduceIte, Nat.reduceMul, Nat.reduceAdd, Nat.reduceLT, Nat.reduceLeDiff, Nat.reduceEqDiff, Int.reduceLT, Int.reduceBEq, Int.reduceBNe, Nat.reduceBEq, List.append_nil, Nat.sub_self, td]
      refine ⟨by decide, ?_⟩
      refine hk _ ?_
      clear hk k
      simp only [thenK, blockK]
      (repeat refine Sat.seq ?_)
      refine Sat.region_k fun k hk => ?_
      simp -implicitDefEqProofs only [evr, id, reduceCtorEq, reduceIte, Nat.reduceMul, Nat.reduceAdd, Nat.reduceLT, Nat.reduceLeDiff, Nat.reduceEqDiff, Int.reduceLT, Int.reduceBEq, Int.reduceBNe, Nat.reduceBEq, List.append_nil, Nat.sub_self, tq]
      refine hk _ ?_
      simp only [thenK, blockK]
      refine ⟨(q + 1, x / 1073741824, qs.set (j + q) (x % 1073741824)), hnext, by show ys.length + 1 - (q + 1) < ys.length + 1 - q; omega, ?_⟩
      simp -implicitDefEqProofs only [evr, id, reduceCtorEq, reduceIte, Nat.reduceMul, Nat.reduceAdd, Nat.reduceLT, Nat.reduceLeDiff, Nat.reduceEqDiff, Int.reduceLT, Int.reduceBEq, Int.reduceBNe, Nat.reduceBEq, List.append_nil, Nat.sub_self, evl]
      exact rd_set rfl (by omega)
    · have hg : ¬ (q < ys.length ∨ 0 < c) := of_decide_eq_false h3
      have hnext := hin.exit hout hjl hg
      refine Sat.exit ?_
      simp only [thenK, blockK, reduceIte]
      (repeat refine Sat.seq ?_)
      refine Sat.region_k fun k hk => ?_
      simp -implicitDefEqProofs only [evr, id, reduceCtorEq, reduceIte, Nat.reduceMul, Nat.reduceAdd, Nat.reduceLT, Nat.reduceLeDiff, Nat.reduceEqDiff, Int.reduceLT, Int.reduceBEq, Int.reduceBNe, Nat.reduceBEq, List.append_nil, Nat.sub_self, ej1]
      refine hk _ ?_
      simp only [thenK, blockK]
      refine ⟨(j + 1, qs), ⟨by show j + 1 ≤ xs.length; omega, hnext⟩, by show xs.length - (j + 1) < xs.length - j; omega, ?_⟩
      simp -implicitDefEqProofs only [evr, id, reduceCtorEq, reduceIte, Nat.reduceMul, Nat.reduceAdd, Nat.reduceLT, Nat.reduceLeDiff, Nat.reduceEqDiff, Int.reduceLT, Int.reduceBEq, Int.reduceBNe, Nat.reduceBEq, List.append_nil, Nat.sub_self, evl]
  · simp only [decide_eq_false_iff_not] at h
    have hj9 : j = xs.length := by omega
    subst hj9
    have hd := hout.done d1.val d2.val
    have hv : (val os).toNat = m * n := by
      have h8 := hd.val
      rw [trim_val] at h8
      omega
    have t3 := hout.len
    refine Sat.exit ?_
    simp only [thenK, blockK, reduceIte]
    (repeat refine Sat.seq ?_)
    (refine Sat.region_k fun k hk => ?_; simp -implicitDefEqProofs only [evr, id, reduceCtorEq, reduceIte, Nat.reduceMul, Nat.reduceAdd, Nat.reduceLT, Nat.reduceLeDiff, Nat.reduceEqDiff, Int.reduceLT, Int.reduceBEq, Int.reduceBNe, Nat.reduceBEq, List.append_nil, Nat.sub_self])
    refine wcall_slice (refTrimC F (s := .sl a os.length cap 1 (fun p _ => .i .i64 (os.getD p 0))) ⟨a, cap, 1, _, rfl, .inr rfl, fun p _ => rfl⟩ hout.limbs) (by simp -implicitDefEqProofs only [evr, id, reduceCtorEq, reduceIte, Nat.reduceMul, Nat.reduceAdd, Nat.reduceLT, Nat.reduceLeDiff, Nat.reduceEqDiff, Int.reduceLT, Int.reduceBEq, Int.reduceBNe, Nat.reduceBEq, List.append_nil, Nat.sub_self]; try rfl) (by simp -implicitDefEqProofs only [evr, id, reduceCtorEq, reduceIte, Nat.reduceMul, Nat.reduceAdd, Nat.reduceLT, Nat.reduceLeDiff, Nat.reduceEqDiff, Int.reduceLT, Int.reduceBEq, Int.reduceBNe, Nat.reduceBEq, List.append_nil, Nat.sub_self, t3, hN]; try rfl) ?_
    intro y hy
    rw [hv] at hy
    have hs8 := hy
    obtain ⟨a8, c8, z8, r8, x8, rfl, _⟩ := hy
    simp -implicitDefEqProofs only [evr, id, reduceCtorEq, reduceIte, Nat.reduceMul, Nat.reduceAdd, Nat.reduceLT, Nat.reduceLeDiff, Nat.reduceEqDiff, Int.reduceLT, Int.reduceBEq, Int.reduceBNe, Nat.reduceBEq, List.append_nil, Nat.sub_self]
    (refine hk _ ?_; clear hk k; try show Sat _ _ _ _ _)
    refine Sat.ret ?_
    simp only [Try.results51, evr, id, reduceCtorEq, reduceIte, Nat.reduceMul, Nat.reduceAdd, Nat.reduceLT, Nat.reduceLeDiff, Nat.reduceEqDiff, Int.reduceLT, Int.reduceBEq, Int.reduceBNe, Nat.reduceBEq, List.append_nil, Nat.sub_self]
    exact hs8
end Go.Proofs.Ytagmohpafjncfaa

/- The reference of package natural, by the evaluator: Word. -/
set_option linter.unusedSimpArgs false
set_option linter.unusedVariables false
namespace Go.Proofs.Ytagmohpafjncfaa
open Eng Lmb Go.RowKit

set_option maxRecDepth 100000 in
theorem refWordC (F : Frm) (n : Nat) (hn : n < 18446744073709551616) : Contract F Try.prog 52 [.i .u64 n] (fun r => Nats r n) := by
  refine contract_of Try.func52 rfl (by kernel_rfl) ?_
  simp only [Try.ntmps52, argEnv]
  (repeat refine Sat.seq ?_)
  (refine Sat.region_k fun k hk => ?_; simp -implicitDefEqProofs only [evr, id, reduceCtorEq, reduceIte, Nat.reduceMul, Nat.reduceAdd, Nat.reduceLT, Nat.reduceLeDiff, Nat.reduceEqDiff, Int.reduceLT, Int.reduceBEq, Int.reduceBNe, Nat.reduceBEq, List.append_nil, Int.toNat_zero, Nat.sub_self]; refine hk _ ?_; clear hk k; try show Sat _ _ _ _ _)
  (repeat refine Sat.seq ?_)
  (refine Sat.region_k fun k hk => ?_; simp -implicitDefEqProofs only [evr, id, reduceCtorEq, reduceIte, Nat.reduceMul, Nat.reduceAdd, Nat.reduceLT, Nat.reduceLeDiff, Nat.reduceEqDiff, Int.reduceLT, Int.reduceBEq, Int.reduceBNe, Nat.reduceBEq, List.append_nil, Int.toNat_zero, Nat.sub_self]; refine hk _ ?_; clear hk k; try show Sat _ _ _ _ _)
  (repeat refine Sat.seq ?_)
  refine Sat.block ?_
  refine Sat.adopt 3 3 1 (fun p _ => .i .i64 (limbN n p)) rfl ?_
  refine Sat.loop (ι := Nat × Option Addr × Nat) (fun x => ⟨15, [(0, .i .u64 (n / 1073741824 ^ x.1 : Nat)), (3, .os 0 x.2.1 x.1 x.2.2)], [.row x.2.1 3 x.1 x.2.2 1 (fun p _ => .i .i64 (limbN n p))]⟩)
    (fun x => x.1 ≤ 3 ∧ (x.1 = 0 ∨ 0 < n / 1073741824 ^ (x.1 - 1))) (fun x => 3 - x.1) (0, none, 0) ⟨by omega, .inl rfl⟩ (by simp only [Nat.pow_zero, Nat.div_one]; simp -implicitDefEqProofs only [evr, id, reduceCtorEq, reduceIte, Nat.reduceMul, Nat.reduceAdd, Nat.reduceLT, Nat.reduceLeDiff, Nat.reduceEqDiff, Int.reduceLT, Int.reduceBEq, Int.reduceBNe, Nat.reduceBEq, List.append_nil, Int.toNat_zero, Nat.sub_self, evl]) ?_
  rintro ⟨i, a, c⟩ ⟨hi, hpos⟩
  simp only at hi hpos ⊢
  (repeat refine Sat.seq ?_)
  (refine Sat.region_k fun k hk => ?_; simp -implicitDefEqProofs only [evr, id, reduceCtorEq, reduceIte, Nat.reduceMul, Nat.reduceAdd, Nat.reduceLT, Nat.reduceLeDiff, Nat.reduceEqDiff, Int.reduceLT, Int.reduceBEq, Int.reduceBNe, Nat.reduceBEq, List.append_nil, Int.toNat_zero, Nat.sub_self]; refine hk _ ?_; clear hk k; try show Sat _ _ _ _ _)
  (repeat refine Sat.seq ?_)
  refine Sat.cond_b rfl (fun h => ?_) (fun h => ?_)
  · simp only [decide_eq_true_eq] at h
    have hi3 : i < 3 := by
      rcases (show i < 3 ∨ i = 3 by omega) with h3 | h3
      · exact h3
      · subst h3
        have : n / 1073741824 ^ 3 = 0 := Nat.div_eq_of_lt (Nat.lt_trans hn (by decide))
        omega
    have ew : (n / 1073741824 ^ i : Nat) < 18446744073709551616 := Nat.lt_of_le_of_lt (Nat.div_le_self _ _) hn
    have hp : 0 < n / 1073741824 ^ i := by generalize n / 1073741824 ^ i = q at h; omega
    have e1 : IntKind.i64.wrap (((n / 1073741824 ^ i : Nat) : Int).tmod 1073741824) = limbN n i := by
      unfold limbN
      generalize n / 1073741824 ^ i = q
      rw [Int.tmod_eq_emod_of_nonneg (by omega), w64 (by omega)]
      omega
    have e2 : IntKind.u64.wrap (((n / 1073741824 ^ i : Nat) : Int).tdiv 1073741824) = ((n / 1073741824 ^ (i + 1) : Nat) : Int) := by
      rw [Nat.pow_succ, ← Nat.div_div_eq_div_mul]
      generalize n / 1073741824 ^ i = q at *
      rw [Int.tdiv_eq_ediv_of_nonneg (by omega)]
      have hw : ∀ z : Int, IntKind.u64.wrap z = z % 18446744073709551616 := fun z => by unfold IntKind.wrap; simp [IntKind.bits, IntKind.signed]
      rw [hw]
      omega
    refine Sat.skip ?_
    simp only [thenK]
    (repeat refine Sat.seq ?_)
    refine Sat.block ?_
    (repeat refine Sat.seq ?_)
    refine Sat.region_k fun k hk => ?_
    simp -implicitDefEqProofs only [evr, id, reduceCtorEq, reduceIte, Nat.reduceMul, Nat.reduceAdd, Nat.reduceLT, Nat.reduceLeDiff, Nat.reduceEqDiff, Int.reduceLT, Int.reduceBEq, Int.reduceBNe, Nat.reduceBEq, List.append_nil, Int.toNat_zero, Nat.sub_self, e1]
    refine ⟨by decide, fun blk => ?_⟩
    refine ⟨⟨by unfold maxLen; omega, by omega⟩, fun a2 cap2 => ?_⟩
    (refine hk _ ?_; clear hk k; try show Sat _ _ _ _ _)
    (repeat refine Sat.seq ?_)
    refine Sat.region_k fun k hk => ?_
    simp -implicitDefEqProofs only [evr, id, reduceCtorEq, reduceIte, Nat.reduceMul, Nat.reduceAdd, Nat.reduceLT, Nat.reduceLeDiff, Nat.reduceEqDiff, Int.reduceLT, Int.reduceBEq, Int.reduceBNe, Nat.reduceBEq, List.append_nil, Int.toNat_zero, Nat.sub_self, e2]
    refine ⟨by decide, ?_⟩
    refine hk _ ?_
    simp only [thenK, blockK]
    refine ⟨(i + 1, a2, cap2), ⟨by show i + 1 ≤ 3; omega, .inr (by show 0 < n / 1073741824 ^ (i + 1 - 1); rw [Nat.add_sub_cancel]; exact hp)⟩, by show 3 - (i + 1) < 3 - i; omega, ?_⟩
    simp -implicitDefEqProofs only [evr, id, reduceCtorEq, reduceIte, Nat.reduceMul, Nat.reduceAdd, Nat.reduceLT, Nat.reduceLeDiff, Nat.reduceEqDiff, Int.reduceLT, Int.reduceBEq, Int.reduceBNe, Nat.reduceBEq, List.append_nil, Int.toNat_zero, Nat.sub_self, evl]
    exact rdEq_one (rdEq_refl _ _ _) rfl
  · simp only [decide_eq_false_iff_not] at h
    refine Sat.exit ?_
    simp only [thenK, blockK, reduceIte]
    (repeat refine Sat.seq ?_)
    (refine Sat.region_k fun k hk => ?_; simp -implicitDefEqProofs only [evr, id, reduceCtorEq, reduceIte, Nat.reduceMul, Nat.reduceAdd, Nat.reduceLT, Nat.reduceLeDiff, Nat.reduceEqDiff, Int.reduceLT, Int.reduceBEq, Int.reduceBNe, Nat.reduceBEq, List.append_nil, Int.toNat_zero, Nat.sub_self]; refine hk _ ?_; clear hk k; try show Sat _ _ _ _ _)
    refine Sat.ret ?_
    simp only [Try.results52, evr, id, reduceCtorEq, reduceIte, Nat.reduceMul, Nat.reduceAdd, Nat.reduceLT, Nat.reduceLeDiff, Nat.reduceEqDiff, Int.reduceLT, Int.reduceBEq, Int.reduceBNe, Nat.reduceBEq, List.append_nil, Int.toNat_zero, Nat.sub_self]
    exact nats_limbN (fun p _ => rfl) (by generalize n / 1073741824 ^ i = q at h; omega) hpos
end Go.Proofs.Ytagmohpafjncfaa

/- The evaluator, part S: Bools of a variable that are written out, as Bools. -/
set_option linter.unusedSimpArgs false
set_option linter.unusedVariables false
namespace Go.Proofs.Ytagmohpafjncfaa
namespace Eng
variable {P : Program} {F : Frm}
theorem Sat.boxBools {c : Code} {K : Exit → St → Prop} {n : Nat} {env : List (Nat × SV)} {own : List Own} (id : Nat) {blk ty : Nat} {cs : List SV} (hl : own[id]? = some (.box blk ty cs))
    (h : Sat P F c ⟨n, env, own.set id (.box blk ty (cs.map roB))⟩ K) : Sat P F c ⟨n, env, own⟩ K := by
  rintro R0 w0 a w ⟨ob, R, hr⟩
  refine h R0 w0 a w ⟨ob, R, ?_⟩
  have hbox := hr.own id _ hl
  have hidl : id < own.length := (List.getElem?_eq_some_iff.1 hl).1
  have hden : (cs.map roB).map SV.den = cs.map SV.den := by
    rw [List.map_map]
    exact List.map_congr_left fun s _ => roB_den s
  have hok : (Own.box blk ty (cs.map roB)).ok R ob w := by
    refine ⟨hbox.1, hbox.2.1, by rw [hden]; exact hbox.2.2.1, fun x hx => ?_⟩
    obtain ⟨s, hs, rfl⟩ := List.mem_map.1 hx
    obtain ⟨h1, h2⟩ := hbox.2.2.2 s hs
    refine ⟨by rw [roB_den]; exact h1, ?_⟩
    cases s <;> first | exact h2 | trivial
  refine ⟨hr.defers, hr.env, hr.size, ?_, ?_, hr.evo, hr.inv, hr.obM, ?_, hr.obw, hr.rr, hr.r0⟩
  · intro i x hx
    rw [List.getElem?_set] at hx
    split at hx
    · simp only [hidl, if_true, Option.some.injEq] at hx
      subst hx
      exact hok
    · exact hr.own i x hx
  · intro i k x y hik hx hy b hb1 hb2
    rw [List.getElem?_set] at hx hy
    split at hx <;> split at hy
    · omega
    · rename_i e1 _
      subst e1
      simp only [hidl, if_true, Option.some.injEq] at hx
      subst hx
      exact hr.dist id k _ y hik hl hy b hb1 hb2
    · rename_i _ e1
      subst e1
      simp only [hidl, if_true, Option.some.injEq] at hy
      subst hy
      exact hr.dist i id x _ hik hx hl b hb1 hb2
    · exact hr.dist i k x y hik hx hy b hb1 hb2
  · exact gb_set (m := w0.w.heap.size) (Nat.le_refl _) hr.gb hl fun b hb => .inl hb
end Eng
end Go.Proofs.Ytagmohpafjncfaa

/- Fractions, by the evaluator: package fraction's Reduce and Compare. -/
set_option linter.unusedSimpArgs false
set_option linter.unusedVariables false
namespace Go.Proofs.Ytagmohpafjncfaa
open Eng Lmb

/-- a fraction -/
def frS (neg : Bool) (sp sq : SV) : SV := .agg 3 fun j => [SV.b neg, sp, sq].getD j default
def FrS (r : SV) (neg : Bool) (p q : Nat) : Prop := ∃ sp sq, r = frS neg sp sq ∧ Nats sp p ∧ Nats sq q

theorem Nats.len {a : Option Addr} {len cap sz n : Nat} {rd : Nat → Nat → SV} (h : Nats (.sl a len cap sz rd) n) : (0 < (len : Int)) = (0 < n) := by
  obtain ⟨a', cap', sz', rd', xs, he, _, _, hd⟩ := h
  simp only [SV.sl.injEq] at he
  have := hd.len_zero
  apply propext
  rw [he.2.1]
  omega

set_option maxRecDepth 100000 in
theorem fractionReducedC (F : Frm) (neg : Bool) {sp sq : SV} {p q : Nat} (hp : Nats sp p) (hq : Nats sq q) (h1 : (p : Int) < pw 256) (h2 : (q : Int) < pw 256) (h0 : 0 < q) : Contract F Try.prog 60 [.b neg, sp, sq] (fun r => FrS r (neg && decide (0 < p / Nat.gcd p q)) (p / Nat.gcd p q) (q / Nat.gcd p q)) := by
  have hp' := hp
  have hq' := hq
  have hg : 0 < Nat.gcd p q := Nat.gcd_pos_of_pos_right _ h0
  obtain ⟨a1, c1, z1, r1, x1, rfl, _⟩ := hp
  obtain ⟨a2, c2, z2, r2, x2, rfl, _⟩ := hq
  refine contract_of Try.func60 rfl (by kernel_rfl) ?_
  simp only [Try.ntmps60, argEnv]
  (repeat refine Sat.seq ?_)
  (refine Sat.region_k fun k hk => ?_; simp -implicitDefEqProofs only [evr, id, reduceCtorEq, reduceIte, Nat.reduceMul, Nat.reduceAdd, Nat.reduceLT, Nat.reduceLeDiff, Nat.reduceEqDiff, Int.reduceLT, Int.reduceBEq, Int.reduceBNe, Nat.reduceBEq, List.append_nil, Int.toNat_zero, Nat.sub_self])
  intro b6
  (refine hk _ ?_; clear hk k; try show Sat _ _ _ _ _)
  (repeat refine Sat.seq ?_)
  (refine Sat.region_k fun k hk => ?_; simp -implicitDefEqProofs only [evr, id, reduceCtorEq, reduceIte, Nat.reduceMul, Nat.reduceAdd, Nat.reduceLT, Nat.reduceLeDiff, Nat.reduceEqDiff, Int.reduceLT, Int.reduceBEq, Int.reduceBNe, Nat.reduceBEq, List.append_nil, Int.toNat_zero, Nat.sub_self])
  refine wcall_slice (gcdC F hp' hq' h1 h2) rfl rfl ?_
  intro r hs
  have hgs := hs
  obtain ⟨a3, c3, z3, r3, x3, rfl, _⟩ := hs
  simp -implicitDefEqProofs only [evr, id, reduceCtorEq, reduceIte, Nat.reduceMul, Nat.reduceAdd, Nat.reduceLT, Nat.reduceLeDiff, Nat.reduceEqDiff, Int.reduceLT, Int.reduceBEq, Int.reduceBNe, Nat.reduceBEq, List.append_nil, Int.toNat_zero, Nat.sub_self]
  (refine hk _ ?_; clear hk k; try show Sat _ _ _ _ _)
  (repeat refine Sat.seq ?_)
  (refine Sat.region_k fun k hk => ?_; simp -implicitDefEqProofs only [evr, id, reduceCtorEq, reduceIte, Nat.reduceMul, Nat.reduceAdd, Nat.reduceLT, Nat.reduceLeDiff, Nat.reduceEqDiff, Int.reduceLT, Int.reduceBEq, Int.reduceBNe, Nat.reduceBEq, List.append_nil, Int.toNat_zero, Nat.sub_self])
  refine wcall_slice (divModC F hp' hgs h1 hg) rfl rfl ?_
  rintro r ⟨s, t, rfl, hs, ht⟩
  have hs4 := hs
  obtain ⟨a4, c4, z4, r4, x4, rfl, _⟩ := hs
  obtain ⟨a5, c5, z5, r5, x5, rfl, _⟩ := ht
  simp -implicitDefEqProofs only [evr, id, reduceCtorEq, reduceIte, Nat.reduceMul, Nat.reduceAdd, Nat.reduceLT, Nat.reduceLeDiff, Nat.reduceEqDiff, Int.reduceLT, Int.reduceBEq, Int.reduceBNe, Nat.reduceBEq, List.append_nil, Int.toNat_zero, Nat.sub_self]
  (refine hk _ ?_; clear hk k; try show Sat _ _ _ _ _)
  (repeat refine Sat.seq ?_)
  (refine Sat.region_k fun k hk => ?_; simp -implicitDefEqProofs only [evr, id, reduceCtorEq, reduceIte, Nat.reduceMul, Nat.reduceAdd, Nat.reduceLT, Nat.reduceLeDiff, Nat.reduceEqDiff, Int.reduceLT, Int.reduceBEq, Int.reduceBNe, Nat.reduceBEq, List.append_nil, Int.toNat_zero, Nat.sub_self])
  refine wcall_slice (divModC F hq' hgs h2 hg) rfl rfl ?_
  rintro r ⟨s, t, rfl, hs, ht⟩
  have hs6 := hs
  obtain ⟨a6, c6, z6, r6, x6, rfl, _⟩ := hs
  obtain ⟨a7, c7, z7, r7, x7, rfl, _⟩ := ht
  simp -implicitDefEqProofs only [evr, id, reduceCtorEq, reduceIte, Nat.reduceMul, Nat.reduceAdd, Nat.reduceLT, Nat.reduceLeDiff, Nat.reduceEqDiff, Int.reduceLT, Int.reduceBEq, Int.reduceBNe, Nat.reduceBEq, List.append_nil, Int.toNat_zero, Nat.sub_self]
  (refine hk _ ?_; clear hk k; try show Sat _ _ _ _ _)
  (repeat refine Sat.seq ?_)
  (refine Sat.region_k fun k hk => ?_; simp -implicitDefEqProofs only [evr, id, reduceCtorEq, reduceIte, Nat.reduceMul, Nat.reduceAdd, Nat.reduceLT, Nat.reduceLeDiff, Nat.reduceEqDiff, Int.reduceLT, Int.reduceBEq, Int.reduceBNe, Nat.reduceBEq, List.append_nil, Int.toNat_zero, Nat.sub_self])
  have e := hs4.len
  refine ⟨fun h => ?_, fun h => ?_⟩
  · (refine hk _ ?_; clear hk k; try show Sat _ _ _ _ _)
    refine Sat.ret ?_
    simp only [Try.results60, evr, id, reduceCtorEq, reduceIte, Nat.reduceMul, Nat.reduceAdd, Nat.reduceLT, Nat.reduceLeDiff, Nat.reduceEqDiff, Int.reduceLT, Int.reduceBEq, Int.reduceBNe, Nat.reduceBEq, List.append_nil, Int.toNat_zero, Nat.sub_self]
    simp only [e, h, Bool.true_and]
    exact ⟨_, _, rfl, hs4, hs6⟩
  · (refine hk _ ?_; clear hk k; try show Sat _ _ _ _ _)
    refine Sat.boxBools 0 rfl ?_
    simp only [roB, List.map_cons, List.map_nil, List.set_cons_zero]
    refine Sat.ret ?_
    simp only [Try.results60, evr, id, reduceCtorEq, reduceIte, Nat.reduceMul, Nat.reduceAdd, Nat.reduceLT, Nat.reduceLeDiff, Nat.reduceEqDiff, Int.reduceLT, Int.reduceBEq, Int.reduceBNe, Nat.reduceBEq, List.append_nil, Int.toNat_zero, Nat.sub_self]
    simp only [h, Bool.false_and]
    exact ⟨_, _, rfl, hs4, hs6⟩

set_option maxRecDepth 100000 in
theorem fractionReduceC (F : Frm) (neg : Bool) {sp sq : SV} {p q : Nat} (hp : Nats sp p) (hq : Nats sq q) (h1 : (p : Int) < pw 256) (h2 : (q : Int) < pw 256) (h0 : 0 < q) : Contract F Try.prog 33 [frS neg sp sq] (fun r => FrS r (neg && decide (0 < p / Nat.gcd p q)) (p / Nat.gcd p q) (q / Nat.gcd p q)) := by
  have hp' := hp
  have hq' := hq
  obtain ⟨a1, c1, z1, r1, x1, rfl, _⟩ := hp
  obtain ⟨a2, c2, z2, r2, x2, rfl, _⟩ := hq
  refine contract_of Try.func33 rfl (by kernel_rfl) ?_
  simp only [Try.ntmps33, argEnv, frS]
  (repeat refine Sat.seq ?_)
  (refine Sat.region_k fun k hk => ?_; simp -implicitDefEqProofs only [evr, id, reduceCtorEq, reduceIte, Nat.reduceMul, Nat.reduceAdd, Nat.reduceLT, Nat.reduceLeDiff, Nat.reduceEqDiff, Int.reduceLT, Int.reduceBEq, Int.reduceBNe, Nat.reduceBEq, List.append_nil, Int.toNat_zero, Nat.sub_self])
  intro b1 b2
  (refine hk _ ?_; clear hk k; try show Sat _ _ _ _ _)
  (repeat refine Sat.seq ?_)
  (refine Sat.region_k fun k hk => ?_; simp -implicitDefEqProofs only [evr, id, reduceCtorEq, reduceIte, Nat.reduceMul, Nat.reduceAdd, Nat.reduceLT, Nat.reduceLeDiff, Nat.reduceEqDiff, Int.reduceLT, Int.reduceBEq, Int.reduceBNe, Nat.reduceBEq, List.append_nil, Int.toNat_zero, Nat.sub_self])
  refine wcall_slice (fractionReducedC F neg hp' hq' h1 h2 h0) rfl (by simp -implicitDefEqProofs only [evr, id, reduceCtorEq, reduceIte, Nat.reduceMul, Nat.reduceAdd, Nat.reduceLT, Nat.reduceLeDiff, Nat.reduceEqDiff, Int.reduceLT, Int.reduceBEq, Int.reduceBNe, Nat.reduceBEq, List.append_nil, Int.toNat_zero, Nat.sub_self]; try rfl) ?_
  rintro r ⟨sp3, sq3, rfl, h3, h4⟩
  have h3' := h3
  have h4' := h4
  obtain ⟨a3, c3, z3, r3, x3, rfl, _⟩ := h3
  obtain ⟨a4, c4, z4, r4, x4, rfl, _⟩ := h4
  simp only [frS, evr, id, reduceCtorEq, reduceIte, Nat.reduceMul, Nat.reduceAdd, Nat.reduceLT, Nat.reduceLeDiff, Nat.reduceEqDiff, Int.reduceLT, Int.reduceBEq, Int.reduceBNe, Nat.reduceBEq, List.append_nil, Int.toNat_zero, Nat.sub_self]
  (refine hk _ ?_; clear hk k; try show Sat _ _ _ _ _)
  refine Sat.ret ?_
  simp only [Try.results33, evr, id, reduceCtorEq, reduceIte, Nat.reduceMul, Nat.reduceAdd, Nat.reduceLT, Nat.reduceLeDiff, Nat.reduceEqDiff, Int.reduceLT, Int.reduceBEq, Int.reduceBNe, Nat.reduceBEq, List.append_nil, Int.toNat_zero, Nat.sub_self]
  exact ⟨_, _, rfl, h3', h4'⟩

/-- a sum of numbers with signs -/
def sumV (na : Bool) (a : Nat) (nb : Bool) (b : Nat) : Bool × Nat := if na = nb then (na, a + b) else if a < b then (nb, b - a) else (na, a - b)

set_option maxRecDepth 100000 in
theorem fractionSumC (F : Frm) (na nb : Bool) {sa sb : SV} {a b : Nat} (ha : Nats sa a) (hb : Nats sb b) (h1 : (a : Int) < pw 256) (h2 : (b : Int) < pw 256) (h3 : ((a + b : Nat) : Int) < pw 256) : Contract F Try.prog 34 [.b na, sa, .b nb, sb] (fun r => ∃ s, r = tupL [.b (sumV na a nb b).1, s] ∧ Nats s (sumV na a nb b).2) := by
  have ha' := ha
  have hb' := hb
  obtain ⟨a1, c1, z1, r1, x1, rfl, _⟩ := ha
  obtain ⟨a2, c2, z2, r2, x2, rfl, _⟩ := hb
  refine contract_of Try.func34 rfl (by kernel_rfl) ?_
  simp only [Try.ntmps34, argEnv]
  (repeat refine Sat.seq ?_)
  (refine Sat.region_k fun k hk => ?_; simp -implicitDefEqProofs only [evr, id, reduceCtorEq, reduceIte, Nat.reduceMul, Nat.reduceAdd, Nat.reduceLT, Nat.reduceLeDiff, Nat.reduceEqDiff, Int.reduceLT, Int.reduceBEq, Int.reduceBNe, Nat.reduceBEq, List.append_nil, Int.toNat_zero, Nat.sub_self]; refine hk _ ?_; clear hk k; try show Sat _ _ _ _ _)
  (repeat refine Sat.seq ?_)
  (refine Sat.region_k fun k hk => ?_; simp -implicitDefEqProofs only [evr, id, reduceCtorEq, reduceIte, Nat.reduceMul, Nat.reduceAdd, Nat.reduceLT, Nat.reduceLeDiff, Nat.reduceEqDiff, Int.reduceLT, Int.reduceBEq, Int.reduceBNe, Nat.reduceBEq, List.append_nil, Int.toNat_zero, Nat.sub_self]; refine hk _ ?_; clear hk k; try show Sat _ _ _ _ _)
  refine Sat.cond_b rfl (fun h => ?_) (fun h => ?_)
  · have hn : na = nb := by simpa using h
    (repeat refine Sat.seq ?_)
    (refine Sat.region_k fun k hk => ?_; simp -implicitDefEqProofs only [evr, id, reduceCtorEq, reduceIte, Nat.reduceMul, Nat.reduceAdd, Nat.reduceLT, Nat.reduceLeDiff, Nat.reduceEqDiff, Int.reduceLT, Int.reduceBEq, Int.reduceBNe, Nat.reduceBEq, List.append_nil, Int.toNat_zero, Nat.sub_self])
    refine wcall_slice (addC F ha' hb' h3) rfl rfl ?_
    rintro r ⟨s, rfl, hs⟩
    have hs' := hs
    obtain ⟨a3, c3, z3, r3, x3, rfl, _⟩ := hs
    simp -implicitDefEqProofs only [evr, id, reduceCtorEq, reduceIte, Nat.reduceMul, Nat.reduceAdd, Nat.reduceLT, Nat.reduceLeDiff, Nat.reduceEqDiff, Int.reduceLT, Int.reduceBEq, Int.reduceBNe, Nat.reduceBEq, List.append_nil, Int.toNat_zero, Nat.sub_self]
    (refine hk _ ?_; clear hk k; try show Sat _ _ _ _ _)
    (repeat refine Sat.seq ?_)
    (refine Sat.region_k fun k hk => ?_; simp -implicitDefEqProofs only [evr, id, reduceCtorEq, reduceIte, Nat.reduceMul, Nat.reduceAdd, Nat.reduceLT, Nat.reduceLeDiff, Nat.reduceEqDiff, Int.reduceLT, Int.reduceBEq, Int.reduceBNe, Nat.reduceBEq, List.append_nil, Int.toNat_zero, Nat.sub_self]; refine hk _ ?_; clear hk k; try show Sat _ _ _ _ _)
    refine Sat.ret ?_
    simp only [Try.results34, evr, id, reduceCtorEq, reduceIte, Nat.reduceMul, Nat.reduceAdd, Nat.reduceLT, Nat.reduceLeDiff, Nat.reduceEqDiff, Int.reduceLT, Int.reduceBEq, Int.reduceBNe, Nat.reduceBEq, List.append_nil, Int.toNat_zero, Nat.sub_self]
    unfold sumV
    rw [if_pos hn]
    exact ⟨_, rfl, hs'⟩
  have hn : ¬ na = nb := by simpa using h
  refine Sat.skip ?_
  simp only [thenK]
  (repeat refine Sat.seq ?_)
  (refine Sat.region_k fun k hk => ?_; simp -implicitDefEqProofs only [evr, id, reduceCtorEq, reduceIte, Nat.reduceMul, Nat.reduceAdd, Nat.reduceLT, Nat.reduceLeDiff, Nat.reduceEqDiff, Int.reduceLT, Int.reduceBEq, Int.reduceBNe, Nat.reduceBEq, List.append_nil, Int.toNat_zero, Nat.sub_self])
  refine wcall_plain (natCmpC F ha' hb') rfl (by rintro _ rfl; exact ok_plain rfl) ?_
  rintro r rfl
  simp -implicitDefEqProofs only [evr, id, reduceCtorEq, reduceIte, Nat.reduceMul, Nat.reduceAdd, Nat.reduceLT, Nat.reduceLeDiff, Nat.reduceEqDiff, Int.reduceLT, Int.reduceBEq, Int.reduceBNe, Nat.reduceBEq, List.append_nil, Int.toNat_zero, Nat.sub_self]
  (refine hk _ ?_; clear hk k; try show Sat _ _ _ _ _)
  (repeat refine Sat.seq ?_)
  refine Sat.cond_b rfl (fun h => ?_) (fun h => ?_)
  · have hlt : a < b := by
      by_cases h9 : a < b
      · exact h9
      exfalso
      simp only [decide_eq_true_eq] at h
      by_cases h8 : b < a
      · rw [cmpI_gt (by omega)] at h; omega
      · rw [cmpI_eq (by omega)] at h; omega
    (repeat refine Sat.seq ?_)
    (refine Sat.region_k fun k hk => ?_; simp -implicitDefEqProofs only [evr, id, reduceCtorEq, reduceIte, Nat.reduceMul, Nat.reduceAdd, Nat.reduceLT, Nat.reduceLeDiff, Nat.reduceEqDiff, Int.reduceLT, Int.reduceBEq, Int.reduceBNe, Nat.reduceBEq, List.append_nil, Int.toNat_zero, Nat.sub_self]; refine hk _ ?_; clear hk k; try show Sat _ _ _ _ _)
    (repeat refine Sat.seq ?_)
    (refine Sat.region_k fun k hk => ?_; simp -implicitDefEqProofs only [evr, id, reduceCtorEq, reduceIte, Nat.reduceMul, Nat.reduceAdd, Nat.reduceLT, Nat.reduceLeDiff, Nat.reduceEqDiff, Int.reduceLT, Int.reduceBEq, Int.reduceBNe, Nat.reduceBEq, List.append_nil, Int.toNat_zero, Nat.sub_self])
    refine wcall_slice (subC F hb' ha' h2 (Nat.le_of_lt hlt)) rfl rfl ?_
    rintro r ⟨s, rfl, hs⟩
    have hs' := hs
    obtain ⟨a3, c3, z3, r3, x3, rfl, _⟩ := hs
    simp -implicitDefEqProofs only [evr, id, reduceCtorEq, reduceIte, Nat.reduceMul, Nat.reduceAdd, Nat.reduceLT, Nat.reduceLeDiff, Nat.reduceEqDiff, Int.reduceLT, Int.reduceBEq, Int.reduceBNe, Nat.reduceBEq, List.append_nil, Int.toNat_zero, Nat.sub_self]
    (refine hk _ ?_; clear hk k; try show Sat _ _ _ _ _)
    (repeat refine Sat.seq ?_)
    (refine Sat.region_k fun k hk => ?_; simp -implicitDefEqProofs only [evr, id, reduceCtorEq, reduceIte, Nat.reduceMul, Nat.reduceAdd, Nat.reduceLT, Nat.reduceLeDiff, Nat.reduceEqDiff, Int.reduceLT, Int.reduceBEq, Int.reduceBNe, Nat.reduceBEq, List.append_nil, Int.toNat_zero, Nat.sub_self]; refine hk _ ?_; clear hk k; try show Sat _ _ _ _ _)
    refine Sat.ret ?_
    simp only [Try.results34, evr, id, reduceCtorEq, reduceIte, Nat.reduceMul, Nat.reduceAdd, Nat.reduceLT, Nat.reduceLeDiff, Nat.reduceEqDiff, Int.reduceLT, Int.reduceBEq, Int.reduceBNe, Nat.reduceBEq, List.append_nil, Int.toNat_zero, Nat.sub_self]
    unfold sumV
    rw [if_neg hn, if_pos hlt]
    exact ⟨_, rfl, hs'⟩
  · have hlt : ¬ a < b := by
      intro h9
      rw [cmpI_lt (by omega)] at h
      revert h
      decide
    refine Sat.skip ?_
    simp only [thenK]
    (repeat refine Sat.seq ?_)
    (refine Sat.region_k fun k hk => ?_; simp -implicitDefEqProofs only [evr, id, reduceCtorEq, reduceIte, Nat.reduceMul, Nat.reduceAdd, Nat.reduceLT, Nat.reduceLeDiff, Nat.reduceEqDiff, Int.reduceLT, Int.reduceBEq, Int.reduceBNe, Nat.reduceBEq, List.append_nil, Int.toNat_zero, Nat.sub_self])
    refine wcall_slice (subC F ha' hb' h1 (by omega)) rfl rfl ?_
    rintro r ⟨s, rfl, hs⟩
    have hs' := hs
    obtain ⟨a3, c3, z3, r3, x3, rfl, _⟩ := hs
    simp -implicitDefEqProofs only [evr, id, reduceCtorEq, reduceIte, Nat.reduceMul, Nat.reduceAdd, Nat.reduceLT, Nat.reduceLeDiff, Nat.reduceEqDiff, Int.reduceLT, Int.reduceBEq, Int.reduceBNe, Nat.reduceBEq, List.append_nil, Int.toNat_zero, Nat.sub_self]
    (refine hk _ ?_; clear hk k; try show Sat _ _ _ _ _)
    (repeat refine Sat.seq ?_)
    (refine Sat.region_k fun k hk => ?_; simp -implicitDefEqProofs only [evr, id, reduceCtorEq, reduceIte, Nat.reduceMul, Nat.reduceAdd, Nat.reduceLT, Nat.reduceLeDiff, Nat.reduceEqDiff, Int.reduceLT, Int.reduceBEq, Int.reduceBNe, Nat.reduceBEq, List.append_nil, Int.toNat_zero, Nat.sub_self]; refine hk _ ?_; clear hk k; try show Sat _ _ _ _ _)
    refine Sat.ret ?_
    simp only [Try.results34, evr, id, reduceCtorEq, reduceIte, Nat.reduceMul, Nat.reduceAdd, Nat.reduceLT, Nat.reduceLeDiff, Nat.reduceEqDiff, Int.reduceLT, Int.reduceBEq, Int.reduceBNe, Nat.reduceBEq, List.append_nil, Int.toNat_zero, Nat.sub_self]
    unfold sumV
    rw [if_neg hn, if_neg hlt]
    exact ⟨_, rfl, hs'⟩
end Go.Proofs.Ytagmohpafjncfaa

/- The reference of package natural, by the evaluator: Gcd. -/
set_option linter.unusedSimpArgs false
set_option linter.unusedVariables false
namespace Go.Proofs.Ytagmohpafjncfaa
open Eng Lmb Go.RowKit

theorem Nats.head {s : SV} {p : Nat} (h : Nats s p) (hp : 0 < p) : ∃ (a : Option Addr) (len cap : Nat) (rd : Nat → Nat → SV) (x : Int), s = .sl a len cap 1 rd ∧ 0 < len ∧ rd 0 0 = .i .i64 x ∧ (x.tmod 2 == 0) = decide (p % 2 = 0) := by
  obtain ⟨a, cap, sz, rd, xs, rfl, hz, hr, hd⟩ := h
  have hl : 0 < xs.length := by
    have := hd.len_zero
    omega
  have hsz : sz = 1 := by
    rcases hz with hz | hz
    · omega
    · exact hz
  subst hsz
  have he := even_limb hd
  have hb := limbs_getD hd.limbs 0
  refine ⟨a, xs.length, cap, rd, xs.getD 0 0, rfl, hl, hr 0 hl, ?_⟩
  rw [Int.tmod_eq_emod_of_nonneg hb.1]
  by_cases h9 : p % 2 = 0
  · rw [decide_eq_true h9, beq_iff_eq]; omega
  · rw [decide_eq_false h9, beq_eq_false_iff_ne]; omega

set_option maxRecDepth 100000 in
theorem refGcdC (F : Frm) {sa sb : SV} {m n : Nat} (ha : Nats sa m) (hb : Nats sb n) (b1 : (m : Int) < pw 256) (b2 : (n : Int) < pw 256) (hm : 0 < m) (hn : 0 < n) : Contract F Try.prog 64 [sa, sb] (fun r => Nats r (Nat.gcd m n)) := by
  have up : ∀ x : Nat, (x ≤ m ∨ x ≤ n) → (x : Int) < pw 512 := fun x hx => by
    have := pw_mono (show 256 ≤ 512 by omega)
    rcases hx with hx | hx <;> omega
  have hg0 : 0 < Nat.gcd m n := Nat.gcd_pos_of_pos_left _ hm
  have hgm : Nat.gcd m n ≤ m := Nat.le_of_dvd hm (Nat.gcd_dvd_left m n)
  have ha' := ha
  have hb' := hb
  obtain ⟨a1, l1, c1, r1, x1, rfl, hl1, _, _⟩ := ha.head hm
  obtain ⟨a2, l2, c2, r2, x2, rfl, hl2, _, _⟩ := hb.head hn
  refine contract_of Try.func64 rfl (by kernel_rfl) ?_
  simp only [Try.ntmps64, argEnv]
  (repeat refine Sat.seq ?_)
  (refine Sat.region_k fun k hk => ?_; simp -implicitDefEqProofs only [evr, id, reduceCtorEq, reduceIte, Nat.reduceMul, Nat.reduceAdd, Nat.reduceLT, Nat.reduceLeDiff, Nat.reduceEqDiff, Int.reduceLT, Int.reduceBEq, Int.reduceBNe, Nat.reduceBEq, List.append_nil, Int.toNat_zero, Nat.sub_self]; refine hk _ ?_; clear hk k; try show Sat _ _ _ _ _)
  (repeat refine Sat.seq ?_)
  refine Sat.region_at ⟨77, [(13, .b false), (0, .sl a1 l1 c1 1 r1), (1, .sl a2 l2 c2 1 r2)], []⟩ (fun k hk => ?_) ?_
  · simp -implicitDefEqProofs only [evr, id, reduceCtorEq, reduceIte, Nat.reduceMul, Nat.reduceAdd, Nat.reduceLT, Nat.reduceLeDiff, Nat.reduceEqDiff, Int.reduceLT, Int.reduceBEq, Int.reduceBNe, Nat.reduceBEq, List.append_nil, Int.toNat_zero, Nat.sub_self]
    have e1 : ((l1 : Int) == 0) = false := by rw [beq_eq_false_iff_ne]; omega
    have e2 : ((l2 : Int) == 0) = false := by rw [beq_eq_false_iff_ne]; omega
    refine ⟨fun h => ?_, fun h => ?_⟩
    · rw [e1] at h; cases h
    · refine hk _ ?_
      rw [e2]
      simp -implicitDefEqProofs only [evr, id, reduceCtorEq, reduceIte, Nat.reduceMul, Nat.reduceAdd, Nat.reduceLT, Nat.reduceLeDiff, Nat.reduceEqDiff, Int.reduceLT, Int.reduceBEq, Int.reduceBNe, Nat.reduceBEq, List.append_nil, Int.toNat_zero, Nat.sub_self, evl]
  simp only [thenK]
  refine Sat.cond_b rfl (fun h => by cases h) (fun h => ?_)
  refine Sat.skip ?_
  simp only [thenK]
  (repeat refine Sat.seq ?_)
  (refine Sat.region_k fun k hk => ?_; simp -implicitDefEqProofs only [evr, id, reduceCtorEq, reduceIte, Nat.reduceMul, Nat.reduceAdd, Nat.reduceLT, Nat.reduceLeDiff, Nat.reduceEqDiff, Int.reduceLT, Int.reduceBEq, Int.reduceBNe, Nat.reduceBEq, List.append_nil, Int.toNat_zero, Nat.sub_self])
  intro blk
  (refine hk _ ?_; clear hk k; try show Sat _ _ _ _ _)
  have h1s : Nats (.sl (some ⟨blk, 0, none⟩) 1 1 1 (rdL [SV.i .i64 1] 1)) 1 := nats_of (xs := [1]) rfl (fun p hp => by have hp0 : p = 0 := by omega
                                                                                                                       subst hp0; rfl) (dig_one (x := 1) (by omega) (by omega))
  refine Sat.settle2 5 rfl rfl ?_
  simp -implicitDefEqProofs only [evr, id, reduceCtorEq, reduceIte, Nat.reduceMul, Nat.reduceAdd, Nat.reduceLT, Nat.reduceLeDiff, Nat.reduceEqDiff, Int.reduceLT, Int.reduceBEq, Int.reduceBNe, Nat.reduceBEq, List.append_nil, Int.toNat_zero, Nat.sub_self]
  (repeat refine Sat.seq ?_)
  refine Sat.block ?_
  (repeat refine Sat.seq ?_)
  refine Sat.loop (ι := (SV × SV × SV) × (Nat × Nat × Nat)) (fun x => ⟨77, [(0, x.1.1), (1, x.1.2.1), (5, x.1.2.2)], []⟩)
    (fun x => (Nats x.1.1 x.2.1 ∧ Nats x.1.2.1 x.2.2.1 ∧ Nats x.1.2.2 x.2.2.2) ∧ (0 < x.2.1 ∧ x.2.1 ≤ m) ∧ (0 < x.2.2.1 ∧ x.2.2.1 ≤ n) ∧ x.2.2.2 * Nat.gcd x.2.1 x.2.2.1 = Nat.gcd m n) (fun x => x.2.1) ((.sl a1 l1 c1 1 r1, .sl a2 l2 c2 1 r2, .sl (some ⟨blk, 0, none⟩) 1 1 1 (rdL [SV.i .i64 1] 1)), (m, n, 1)) ⟨⟨ha', hb', h1s⟩, ⟨hm, Nat.le_refl _⟩, ⟨hn, Nat.le_refl _⟩, Nat.one_mul _⟩ (by simp -implicitDefEqProofs only [evr, id, reduceCtorEq, reduceIte, Nat.reduceMul, Nat.reduceAdd, Nat.reduceLT, Nat.reduceLeDiff, Nat.reduceEqDiff, Int.reduceLT, Int.reduceBEq, Int.reduceBNe, Nat.reduceBEq, List.append_nil, Int.toNat_zero, Nat.sub_self, evl]; try rfl) ?_
  rintro ⟨⟨sp, sq, st⟩, ⟨p, q, t⟩⟩ ⟨⟨hp, hq, ht⟩, ⟨p0, p1⟩, ⟨q0, q1⟩, hg⟩
  simp only at hp hq ht p0 p1 q0 q1 hg ⊢
  have hp' := hp
  have hq' := hq
  have ht' := ht
  obtain ⟨a3, l3, c3, r3, x3, rfl, hl3, hx3, he3⟩ := hp.head p0
  obtain ⟨a4, l4, c4, r4, x4, rfl, hl4, hx4, he4⟩ := hq.head q0
  obtain ⟨a5, c5, z5, r5, xs5, rfl, _⟩ := ht
  have htm : t ≤ m := by
    have g0 : 0 < Nat.gcd p q := Nat.gcd_pos_of_pos_left _ p0
    have := Nat.le_mul_of_pos_right t g0
    omega
  have hl3' : (0 : Int) < (l3 : Int) := by omega
  have hl4' : (0 : Int) < (l4 : Int) := by omega
  (repeat refine Sat.seq ?_)
  refine Sat.region_at ⟨77, [(29, .b (decide (p % 2 = 0 ∧ q % 2 = 0))), (0, .sl a3 l3 c3 1 r3), (1, .sl a4 l4 c4 1 r4), (5, .sl a5 xs5.length c5 z5 r5)], []⟩ (fun k hk => ?_) ?_
  · simp -implicitDefEqProofs only [evr, id, reduceCtorEq, reduceIte, Nat.reduceMul, Nat.reduceAdd, Nat.reduceLT, Nat.reduceLeDiff, Nat.reduceEqDiff, Int.reduceLT, Int.reduceBEq, Int.reduceBNe, Nat.reduceBEq, List.append_nil, Int.toNat_zero, Nat.sub_self]
    refine ⟨by omega, ?_⟩
    rw [hx3]
    simp -implicitDefEqProofs only [evr, id, reduceCtorEq, reduceIte, Nat.reduceMul, Nat.reduceAdd, Nat.reduceLT, Nat.reduceLeDiff, Nat.reduceEqDiff, Int.reduceLT, Int.reduceBEq, Int.reduceBNe, Nat.reduceBEq, List.append_nil, Int.toNat_zero, Nat.sub_self, he3]
    refine ⟨by decide, fun h => ?_, fun h => ?_⟩
    · refine ⟨by omega, ?_⟩
      rw [hx4]
      simp -implicitDefEqProofs only [evr, id, reduceCtorEq, reduceIte, Nat.reduceMul, Nat.reduceAdd, Nat.reduceLT, Nat.reduceLeDiff, Nat.reduceEqDiff, Int.reduceLT, Int.reduceBEq, Int.reduceBNe, Nat.reduceBEq, List.append_nil, Int.toNat_zero, Nat.sub_self, he4]
      refine ⟨by decide, ?_⟩
      refine hk _ ?_
      have e : decide (p % 2 = 0 ∧ q % 2 = 0) = decide (q % 2 = 0) := by simp [h]
      rw [e]
      simp -implicitDefEqProofs only [evr, id, reduceCtorEq, reduceIte, Nat.reduceMul, Nat.reduceAdd, Nat.reduceLT, Nat.reduceLeDiff, Nat.reduceEqDiff, Int.reduceLT, Int.reduceBEq, Int.reduceBNe, Nat.reduceBEq, List.append_nil, Int.toNat_zero, Nat.sub_self, evl]
    · refine hk _ ?_
      have e : decide (p % 2 = 0 ∧ q % 2 = 0) = false := by simp [h]
      rw [e]
      simp -implicitDefEqProofs only [evr, id, reduceCtorEq, reduceIte, Nat.reduceMul, Nat.reduceAdd, Nat.reduceLT, Nat.reduceLeDiff, Nat.reduceEqDiff, Int.reduceLT, Int.reduceBEq, Int.reduceBNe, Nat.reduceBEq, List.append_nil, Int.toNat_zero, Nat.sub_self, evl]
  simp only [thenK]
  refine Sat.cond_b rfl (fun h => ?_) (fun h => ?_)
  · obtain ⟨hp2, hq2⟩ := of_decide_eq_true h
    have hgt := gcd_twos hp2 hq2
    refine Sat.skip ?_
    simp only [thenK]
    (repeat refine Sat.seq ?_)
    refine Sat.block ?_
    (refine Sat.region_k fun k hk => ?_; simp -implicitDefEqProofs only [evr, id, reduceCtorEq, reduceIte, Nat.reduceMul, Nat.reduceAdd, Nat.reduceLT, Nat.reduceLeDiff, Nat.reduceEqDiff, Int.reduceLT, Int.reduceBEq, Int.reduceBNe, Nat.reduceBEq, List.append_nil, Int.toNat_zero, Nat.sub_self])
    refine wcall_slice (refHalfC F hp' (up p (.inl p1))) rfl rfl ?_
    intro y hy
    have hs6 := hy
    obtain ⟨a6, c6, z6, r6, x6, rfl, _⟩ := hy
    simp -implicitDefEqProofs only [evr, id, reduceCtorEq, reduceIte, Nat.reduceMul, Nat.reduceAdd, Nat.reduceLT, Nat.reduceLeDiff, Nat.reduceEqDiff, Int.reduceLT, Int.reduceBEq, Int.reduceBNe, Nat.reduceBEq, List.append_nil, Int.toNat_zero, Nat.sub_self]
    refine wcall_slice (refHalfC F hq' (up q (.inr q1))) rfl rfl ?_
    intro y hy
    have hs7 := hy
    obtain ⟨a7, c7, z7, r7, x7, rfl, _⟩ := hy
    simp -implicitDefEqProofs only [evr, id, reduceCtorEq, reduceIte, Nat.reduceMul, Nat.reduceAdd, Nat.reduceLT, Nat.reduceLeDiff, Nat.reduceEqDiff, Int.reduceLT, Int.reduceBEq, Int.reduceBNe, Nat.reduceBEq, List.append_nil, Int.toNat_zero, Nat.sub_self]
    refine wcall_slice (refPlusC F ht' ht' (up t (.inl htm)) (up t (.inl htm))) rfl rfl ?_
    intro y hy
    have hs8 := hy
    obtain ⟨a8, c8, z8, r8, x8, rfl, _⟩ := hy
    simp -implicitDefEqProofs only [evr, id, reduceCtorEq, reduceIte, Nat.reduceMul, Nat.reduceAdd, Nat.reduceLT, Nat.reduceLeDiff, Nat.reduceEqDiff, Int.reduceLT, Int.reduceBEq, Int.reduceBNe, Nat.reduceBEq, List.append_nil, Int.toNat_zero, Nat.sub_self]
    refine hk _ ?_
    simp only [thenK, blockK]
    refine ⟨((_, _, _), (p / 2, q / 2, t + t)), ⟨⟨hs6, hs7, hs8⟩, ⟨by show 0 < p / 2; omega, by show p / 2 ≤ m; omega⟩, ⟨by show 0 < q / 2; omega, by show q / 2 ≤ n; omega⟩, by show (t + t) * Nat.gcd (p / 2) (q / 2) = Nat.gcd m n; rw [← hg, ← hgt, ← Nat.mul_assoc, Nat.mul_two]⟩, by show p / 2 < p; omega, ?_⟩
    simp -implicitDefEqProofs only [evr, id, reduceCtorEq, reduceIte, Nat.reduceMul, Nat.reduceAdd, Nat.reduceLT, Nat.reduceLeDiff, Nat.reduceEqDiff, Int.reduceLT, Int.reduceBEq, Int.reduceBNe, Nat.reduceBEq, List.append_nil, Int.toNat_zero, Nat.sub_self, evl]
  have hod := gcd_odd (of_decide_eq_false h)
  refine Sat.exit ?_
  simp only [thenK, blockK, reduceIte]
  generalize hG : Nat.gcd p q = G at hg hod
  (repeat refine Sat.seq ?_)
  refine Sat.block ?_
  (repeat refine Sat.seq ?_)
  refine Sat.loop (ι := (SV × SV) × (Nat × Nat)) (fun x => ⟨77, [(0, x.1.1), (1, x.1.2), (5, .sl a5 xs5.length c5 z5 r5)], []⟩)
    (fun x => (Nats x.1.1 x.2.1 ∧ Nats x.1.2 x.2.2) ∧ x.2.1 ≤ m ∧ x.2.2 ≤ n ∧ Nat.gcd x.2.1 x.2.2 = G) (fun x => x.2.1 + x.2.2) ((.sl a3 l3 c3 1 r3, .sl a4 l4 c4 1 r4), (p, q)) ⟨⟨hp', hq'⟩, p1, q1, hG⟩ (by simp -implicitDefEqProofs only [evr, id, reduceCtorEq, reduceIte, Nat.reduceMul, Nat.reduceAdd, Nat.reduceLT, Nat.reduceLeDiff, Nat.reduceEqDiff, Int.reduceLT, Int.reduceBEq, Int.reduceBNe, Nat.reduceBEq, List.append_nil, Int.toNat_zero, Nat.sub_self, evl]; try rfl) ?_
  clear hp hq hp' hq' hx3 hx4 he3 he4 hl3 hl4 hl3' hl4' p0 p1 q0 q1 hG
  rintro ⟨⟨sp, sq⟩, ⟨p2, q2⟩⟩ ⟨⟨hp, hq⟩, p1, q1, hG⟩
  simp only at hp hq p1 q1 hG ⊢
  have hp' := hp
  have hq' := hq
  obtain ⟨a6, c6, z6, r6, x6, rfl, _⟩ := hp
  obtain ⟨a7, c7, z7, r7, x7, rfl, _⟩ := hq
  have hlp := hp'.len
  have hlq := hq'.len
  (repeat refine Sat.seq ?_)
  refine Sat.region_at ⟨77, [(44, .b (decide (0 < p2 ∧ 0 < q2))), (0, .sl a6 x6.length c6 z6 r6), (1, .sl a7 x7.length c7 z7 r7), (5, .sl a5 xs5.length c5 z5 r5)], []⟩ (fun k hk => ?_) ?_
  · simp -implicitDefEqProofs only [evr, id, reduceCtorEq, reduceIte, Nat.reduceMul, Nat.reduceAdd, Nat.reduceLT, Nat.reduceLeDiff, Nat.reduceEqDiff, Int.reduceLT, Int.reduceBEq, Int.reduceBNe, Nat.reduceBEq, List.append_nil, Int.toNat_zero, Nat.sub_self]
    refine ⟨fun h => ?_, fun h => ?_⟩
    · refine hk _ ?_
      rw [hlp] at h
      have e : decide (0 < p2 ∧ 0 < q2) = decide (0 < (x7.length : Int)) := by
        congr 1
        rw [hlq]
        simp [h]
      rw [e]
      simp -implicitDefEqProofs only [evr, id, reduceCtorEq, reduceIte, Nat.reduceMul, Nat.reduceAdd, Nat.reduceLT, Nat.reduceLeDiff, Nat.reduceEqDiff, Int.reduceLT, Int.reduceBEq, Int.reduceBNe, Nat.reduceBEq, List.append_nil, Int.toNat_zero, Nat.sub_self, evl]
    · refine hk _ ?_
      rw [hlp] at h
      have e : decide (0 < p2 ∧ 0 < q2) = false := by simp [h]
      rw [e]
      simp -implicitDefEqProofs only [evr, id, reduceCtorEq, reduceIte, Nat.reduceMul, Nat.reduceAdd, Nat.reduceLT, Nat.reduceLeDiff, Nat.reduceEqDiff, Int.reduceLT, Int.reduceBEq, Int.reduceBNe, Nat.reduceBEq, List.append_nil, Int.toNat_zero, Nat.sub_self, evl]
  simp only [thenK]
  refine Sat.cond_b rfl (fun h => ?_) (fun h => ?_)
  · obtain ⟨p0, q0⟩ := of_decide_eq_true h
    obtain ⟨b1', b2', b3', b4', x8, e8, hl8, hx8, he8⟩ := hp'.head p0
    simp only [SV.sl.injEq] at e8
    obtain ⟨rfl, rfl, rfl, rfl, rfl⟩ := e8
    obtain ⟨b5', b6', b7', b8', x9, e9, hl9, hx9, he9⟩ := hq'.head q0
    simp only [SV.sl.injEq] at e9
    obtain ⟨rfl, rfl, rfl, rfl, rfl⟩ := e9
    have hl8' : (0 : Int) < (x6.length : Int) := by omega
    have hl9' : (0 : Int) < (x7.length : Int) := by omega
    refine Sat.skip ?_
    simp only [thenK]
    (repeat refine Sat.seq ?_)
    refine Sat.block ?_
    refine Sat.block ?_
    (repeat refine Sat.seq ?_)
    refine Sat.region_k fun k hk => ?_
    simp -implicitDefEqProofs only [evr, id, reduceCtorEq, reduceIte, Nat.reduceMul, Nat.reduceAdd, Nat.reduceLT, Nat.reduceLeDiff, Nat.reduceEqDiff, Int.reduceLT, Int.reduceBEq, Int.reduceBNe, Nat.reduceBEq, List.append_nil, Int.toNat_zero, Nat.sub_self]
    refine ⟨by omega, ?_⟩
    rw [hx8]
    simp -implicitDefEqProofs only [evr, id, reduceCtorEq, reduceIte, Nat.reduceMul, Nat.reduceAdd, Nat.reduceLT, Nat.reduceLeDiff, Nat.reduceEqDiff, Int.reduceLT, Int.reduceBEq, Int.reduceBNe, Nat.reduceBEq, List.append_nil, Int.toNat_zero, Nat.sub_self, he8]
    refine ⟨by decide, ?_⟩
    (refine hk _ ?_; clear hk k; try show Sat _ _ _ _ _)
    refine Sat.cond_b rfl (fun h5 => ?_) (fun h5 => ?_)
    · have h6 := of_decide_eq_true h5
      (repeat refine Sat.seq ?_)
      (refine Sat.region_k fun k hk => ?_; simp -implicitDefEqProofs only [evr, id, reduceCtorEq, reduceIte, Nat.reduceMul, Nat.reduceAdd, Nat.reduceLT, Nat.reduceLeDiff, Nat.reduceEqDiff, Int.reduceLT, Int.reduceBEq, Int.reduceBNe, Nat.reduceBEq, List.append_nil, Int.toNat_zero, Nat.sub_self])
      refine wcall_slice (refHalfC F hp' (up p2 (.inl p1))) rfl rfl ?_
      intro y hy
      have hs9 := hy
      obtain ⟨a9, c9, z9, r9, x9, rfl, _⟩ := hy
      simp -implicitDefEqProofs only [evr, id, reduceCtorEq, reduceIte, Nat.reduceMul, Nat.reduceAdd, Nat.reduceLT, Nat.reduceLeDiff, Nat.reduceEqDiff, Int.reduceLT, Int.reduceBEq, Int.reduceBNe, Nat.reduceBEq, List.append_nil, Int.toNat_zero, Nat.sub_self]
      refine hk _ ?_
      simp only [thenK, blockK]
      refine ⟨((_, _), ((p2 / 2), q2)), ⟨⟨hs9, hq'⟩, by show (p2 / 2) ≤ m; omega, by show q2 ≤ n; omega, by show Nat.gcd (p2 / 2) q2 = G; rw [gcd_half (by rw [hG]; exact hod) h6, hG]⟩, by show (p2 / 2) + q2 < p2 + q2; omega, ?_⟩
      simp -implicitDefEqProofs only [evr, id, reduceCtorEq, reduceIte, Nat.reduceMul, Nat.reduceAdd, Nat.reduceLT, Nat.reduceLeDiff, Nat.reduceEqDiff, Int.reduceLT, Int.reduceBEq, Int.reduceBNe, Nat.reduceBEq, List.append_nil, Int.toNat_zero, Nat.sub_self, evl]
    (repeat refine Sat.seq ?_)
    refine Sat.region_k fun k hk => ?_
    simp -implicitDefEqProofs only [evr, id, reduceCtorEq, reduceIte, Nat.reduceMul, Nat.reduceAdd, Nat.reduceLT, Nat.reduceLeDiff, Nat.reduceEqDiff, Int.reduceLT, Int.reduceBEq, Int.reduceBNe, Nat.reduceBEq, List.append_nil, Int.toNat_zero, Nat.sub_self]
    refine ⟨by omega, ?_⟩
    rw [hx9]
    simp -implicitDefEqProofs only [evr, id, reduceCtorEq, reduceIte, Nat.reduceMul, Nat.reduceAdd, Nat.reduceLT, Nat.reduceLeDiff, Nat.reduceEqDiff, Int.reduceLT, Int.reduceBEq, Int.reduceBNe, Nat.reduceBEq, List.append_nil, Int.toNat_zero, Nat.sub_self, he9]
    refine ⟨by decide, ?_⟩
    (refine hk _ ?_; clear hk k; try show Sat _ _ _ _ _)
    refine Sat.cond_b rfl (fun h7 => ?_) (fun h7 => ?_)
    · have h8 := of_decide_eq_true h7
      (repeat refine Sat.seq ?_)
      (refine Sat.region_k fun k hk => ?_; simp -implicitDefEqProofs only [evr, id, reduceCtorEq, reduceIte, Nat.reduceMul, Nat.reduceAdd, Nat.reduceLT, Nat.reduceLeDiff, Nat.reduceEqDiff, Int.reduceLT, Int.reduceBEq, Int.reduceBNe, Nat.reduceBEq, List.append_nil, Int.toNat_zero, Nat.sub_self])
      refine wcall_slice (refHalfC F hq' (up q2 (.inr q1))) rfl rfl ?_
      intro y hy
      have hs9 := hy
      obtain ⟨a9, c9, z9, r9, x9, rfl, _⟩ := hy
      simp -implicitDefEqProofs only [evr, id, reduceCtorEq, reduceIte, Nat.reduceMul, Nat.reduceAdd, Nat.reduceLT, Nat.reduceLeDiff, Nat.reduceEqDiff, Int.reduceLT, Int.reduceBEq, Int.reduceBNe, Nat.reduceBEq, List.append_nil, Int.toNat_zero, Nat.sub_self]
      refine hk _ ?_
      simp only [thenK, blockK]
      refine ⟨((_, _), (p2, (q2 / 2))), ⟨⟨hp', hs9⟩, by show p2 ≤ m; omega, by show (q2 / 2) ≤ n; omega, by show Nat.gcd p2 (q2 / 2) = G; rw [gcd_half' (by rw [hG]; exact hod) h8, hG]⟩, by show p2 + (q2 / 2) < p2 + q2; omega, ?_⟩
      simp -implicitDefEqProofs only [evr, id, reduceCtorEq, reduceIte, Nat.reduceMul, Nat.reduceAdd, Nat.reduceLT, Nat.reduceLeDiff, Nat.reduceEqDiff, Int.reduceLT, Int.reduceBEq, Int.reduceBNe, Nat.reduceBEq, List.append_nil, Int.toNat_zero, Nat.sub_self, evl]
    (repeat refine Sat.seq ?_)
    (refine Sat.region_k fun k hk => ?_; simp -implicitDefEqProofs only [evr, id, reduceCtorEq, reduceIte, Nat.reduceMul, Nat.reduceAdd, Nat.reduceLT, Nat.reduceLeDiff, Nat.reduceEqDiff, Int.reduceLT, Int.reduceBEq, Int.reduceBNe, Nat.reduceBEq, List.append_nil, Int.toNat_zero, Nat.sub_self])
    refine wcall_plain (refCompareC F hp' hq' (up p2 (.inl p1))) rfl (by rintro _ rfl; exact ok_plain rfl) ?_
    rintro y rfl
    simp -implicitDefEqProofs only [evr, id, reduceCtorEq, reduceIte, Nat.reduceMul, Nat.reduceAdd, Nat.reduceLT, Nat.reduceLeDiff, Nat.reduceEqDiff, Int.reduceLT, Int.reduceBEq, Int.reduceBNe, Nat.reduceBEq, List.append_nil, Int.toNat_zero, Nat.sub_self]
    (refine hk _ ?_; clear hk k; try show Sat _ _ _ _ _)
    refine Sat.cond_b rfl (fun h9 => ?_) (fun h9 => ?_)
    · have hle : q2 ≤ p2 := by
        by_cases h10 : p2 < q2
        · rw [cmpI_lt (by omega)] at h9; exact absurd h9 (by decide)
        · omega
      (repeat refine Sat.seq ?_)
      (refine Sat.region_k fun k hk => ?_; simp -implicitDefEqProofs only [evr, id, reduceCtorEq, reduceIte, Nat.reduceMul, Nat.reduceAdd, Nat.reduceLT, Nat.reduceLeDiff, Nat.reduceEqDiff, Int.reduceLT, Int.reduceBEq, Int.reduceBNe, Nat.reduceBEq, List.append_nil, Int.toNat_zero, Nat.sub_self])
      refine wcall_slice (refLessC F hp' hq' (up p2 (.inl p1)) hle) rfl rfl ?_
      intro y hy
      have hs9 := hy
      obtain ⟨a9, c9, z9, r9, x9, rfl, _⟩ := hy
      simp -implicitDefEqProofs only [evr, id, reduceCtorEq, reduceIte, Nat.reduceMul, Nat.reduceAdd, Nat.reduceLT, Nat.reduceLeDiff, Nat.reduceEqDiff, Int.reduceLT, Int.reduceBEq, Int.reduceBNe, Nat.reduceBEq, List.append_nil, Int.toNat_zero, Nat.sub_self]
      refine hk _ ?_
      simp only [thenK, blockK]
      refine ⟨((_, _), ((p2 - q2), q2)), ⟨⟨hs9, hq'⟩, by show (p2 - q2) ≤ m; omega, by show q2 ≤ n; omega, by show Nat.gcd (p2 - q2) q2 = G; rw [gcd_sub hle, hG]⟩, by show (p2 - q2) + q2 < p2 + q2; omega, ?_⟩
      simp -implicitDefEqProofs only [evr, id, reduceCtorEq, reduceIte, Nat.reduceMul, Nat.reduceAdd, Nat.reduceLT, Nat.reduceLeDiff, Nat.reduceEqDiff, Int.reduceLT, Int.reduceBEq, Int.reduceBNe, Nat.reduceBEq, List.append_nil, Int.toNat_zero, Nat.sub_self, evl]
    · have hle : p2 ≤ q2 := by
        by_cases h10 : q2 < p2
        · rw [cmpI_gt (by omega)] at h9; exact absurd h9 (by decide)
        · omega
      (repeat refine Sat.seq ?_)
      (refine Sat.region_k fun k hk => ?_; simp -implicitDefEqProofs only [evr, id, reduceCtorEq, reduceIte, Nat.reduceMul, Nat.reduceAdd, Nat.reduceLT, Nat.reduceLeDiff, Nat.reduceEqDiff, Int.reduceLT, Int.reduceBEq, Int.reduceBNe, Nat.reduceBEq, List.append_nil, Int.toNat_zero, Nat.sub_self])
      refine wcall_slice (refLessC F hq' hp' (up q2 (.inr q1)) hle) rfl rfl ?_
      intro y hy
      have hs9 := hy
      obtain ⟨a9, c9, z9, r9, x9, rfl, _⟩ := hy
      simp -implicitDefEqProofs only [evr, id, reduceCtorEq, reduceIte, Nat.reduceMul, Nat.reduceAdd, Nat.reduceLT, Nat.reduceLeDiff, Nat.reduceEqDiff, Int.reduceLT, Int.reduceBEq, Int.reduceBNe, Nat.reduceBEq, List.append_nil, Int.toNat_zero, Nat.sub_self]
      refine hk _ ?_
      simp only [thenK, blockK]
      refine ⟨((_, _), (p2, (q2 - p2))), ⟨⟨hp', hs9⟩, by show p2 ≤ m; omega, by show (q2 - p2) ≤ n; omega, by show Nat.gcd p2 (q2 - p2) = G; rw [Nat.gcd_comm, gcd_sub hle, Nat.gcd_comm, hG]⟩, by show p2 + (q2 - p2) < p2 + q2; omega, ?_⟩
      simp -implicitDefEqProofs only [evr, id, reduceCtorEq, reduceIte, Nat.reduceMul, Nat.reduceAdd, Nat.reduceLT, Nat.reduceLeDiff, Nat.reduceEqDiff, Int.reduceLT, Int.reduceBEq, Int.reduceBNe, Nat.reduceBEq, List.append_nil, Int.toNat_zero, Nat.sub_self, evl]
  have hz := of_decide_eq_false h
  have hsum : p2 + q2 = G := by
    rcases (show p2 = 0 ∨ q2 = 0 by omega) with rfl | rfl
    · rw [← hG]; simp
    · rw [← hG]; simp
  refine Sat.exit ?_
  simp only [thenK, blockK, reduceIte]
  (repeat refine Sat.seq ?_)
  (refine Sat.region_k fun k hk => ?_; simp -implicitDefEqProofs only [evr, id, reduceCtorEq, reduceIte, Nat.reduceMul, Nat.reduceAdd, Nat.reduceLT, Nat.reduceLeDiff, Nat.reduceEqDiff, Int.reduceLT, Int.reduceBEq, Int.reduceBNe, Nat.reduceBEq, List.append_nil, Int.toNat_zero, Nat.sub_self])
  refine wcall_slice (refPlusC F hp' hq' (up p2 (.inl p1)) (up q2 (.inr q1))) rfl rfl ?_
  intro y hy
  rw [hsum] at hy
  have hs9 := hy
  obtain ⟨a9, c9, z9, r9, x9, rfl, _⟩ := hy
  simp -implicitDefEqProofs only [evr, id, reduceCtorEq, reduceIte, Nat.reduceMul, Nat.reduceAdd, Nat.reduceLT, Nat.reduceLeDiff, Nat.reduceEqDiff, Int.reduceLT, Int.reduceBEq, Int.reduceBNe, Nat.reduceBEq, List.append_nil, Int.toNat_zero, Nat.sub_self]
  have ht0 : 0 < t := by
    rcases Nat.eq_zero_or_pos t with h9 | h9
    · rw [h9, Nat.zero_mul] at hg; omega
    · exact h9
  have hGm : G ≤ m := by
    have := Nat.le_mul_of_pos_left G ht0
    omega
  refine wcall_slice (refTimesC F ht' hs9 (up t (.inl htm)) (up G (.inl hGm))) rfl rfl ?_
  intro y hy
  rw [hg] at hy
  have hs8 := hy
  obtain ⟨a8, c8, z8, r8, x8, rfl, _⟩ := hy
  simp -implicitDefEqProofs only [evr, id, reduceCtorEq, reduceIte, Nat.reduceMul, Nat.reduceAdd, Nat.reduceLT, Nat.reduceLeDiff, Nat.reduceEqDiff, Int.reduceLT, Int.reduceBEq, Int.reduceBNe, Nat.reduceBEq, List.append_nil, Int.toNat_zero, Nat.sub_self]
  (refine hk _ ?_; clear hk k; try show Sat _ _ _ _ _)
  refine Sat.ret ?_
  simp only [Try.results64, evr, id, reduceCtorEq, reduceIte, Nat.reduceMul, Nat.reduceAdd, Nat.reduceLT, Nat.reduceLeDiff, Nat.reduceEqDiff, Int.reduceLT, Int.reduceBEq, Int.reduceBNe, Nat.reduceBEq, List.append_nil, Int.toNat_zero, Nat.sub_self]
  exact hs8
end Go.Proofs.Ytagmohpafjncfaa

/- The reference of package natural, by the evaluator: Split (begun: a slice of length 0 may have any cell size). -/
set_option linter.unusedSimpArgs false
set_option linter.unusedVariables false
namespace Go.Proofs.Ytagmohpafjncfaa
open Eng Lmb Go.RowKit

/-- a slice that is empty may be read at any size -/
theorem Eng.Sat.know_sz {P : Program} {F : Frm} {c : Code} {K : Exit → St → Prop} {n : Nat} {env : List (Nat × SV)} {own : List Eng.Own} (t : Nat) {a : Option Addr} {len cap sz : Nat} {rd : Nat → Nat → SV} (hl : look env t = some (.sl a len cap sz rd)) (hz : len = 0 ∨ sz = 1)
    (h : Sat P F c ⟨n, (t, .sl a len cap 1 rd) :: env, own⟩ K) : Sat P F c ⟨n, env, own⟩ K := by
  rintro R0 w0 ac w ⟨ob, R, hr⟩
  refine h R0 w0 ac w ⟨ob, R, ?_⟩
  have hok := (hr.env t _ hl).2
  have hden := (hr.env t _ hl).1
  obtain ⟨h1, h2, h3⟩ := hok
  refine ⟨hr.defers, ?_, hr.size, hr.own, hr.dist, hr.evo, hr.inv, hr.obM, hr.gb, hr.obw, hr.rr, hr.r0⟩
  intro u s2 hu
  simp only [look] at hu
  by_cases e : t = u
  · rw [if_pos e, Option.some.injEq] at hu
    subst e hu
    refine ⟨hden, h1, h2, ?_⟩
    rcases hz with hz | rfl
    · exact .inl hz
    · exact h3
  · rw [if_neg e] at hu
    exact hr.env u s2 hu
theorem Nats.sz {a : Option Addr} {len cap sz n : Nat} {rd : Nat → Nat → SV} (h : Nats (.sl a len cap sz rd) n) : (len = 0 ∨ sz = 1) ∧ Nats (.sl a len cap 1 rd) n := by
  obtain ⟨a', cap', sz', rd', xs, e, hz, hr, hd⟩ := h
  simp only [SV.sl.injEq] at e
  obtain ⟨rfl, rfl, rfl, rfl, rfl⟩ := e
  exact ⟨hz, a, cap, 1, rd, xs, rfl, .inr rfl, hr, hd⟩

theorem rd_cons {x : Int} {rs : List Int} {rr : Nat → Nat → SV} (hr : ∀ i, i < rs.length → rr i 0 = .i .i64 (rs.getD i 0)) : ∀ i, i < (x :: rs).length → rdCat 1 (rdL [.i .i64 x] 1) rr i 0 = .i .i64 ((x :: rs).getD i 0) := by
  intro i hi
  unfold rdCat
  by_cases h : i < 1
  · obtain rfl : i = 0 := by omega
    rfl
  · obtain ⟨j, rfl⟩ : ∃ j, i = j + 1 := ⟨i - 1, by omega⟩
    rw [if_neg h, Nat.add_sub_cancel, hr j (by simpa using hi)]
    simp

theorem nats_one {a : Option Addr} {cap x : Nat} (h0 : 0 < x) (h1 : x < 1073741824) : Nats (.sl a 1 cap 1 (rdL [SV.i .i64 (x : Int)] 1)) x :=
  nats_of (xs := [(x : Int)]) rfl (fun p hp => by obtain rfl : p = 0 := by omega
                                                  rfl) (dig_one h0 h1)

set_option maxRecDepth 100000 in
theorem refSplitC (F : Frm) {sa sb : SV} {m n : Nat} (ha : Nats sa m) (hb : Nats sb n) (b1 : (m : Int) < pw 256) (b2 : (n : Int) < pw 256) (hn : 0 < n) : Contract F Try.prog 65 [sa, sb] (fun r => ∃ s t, r = tupL [s, t] ∧ Nats s (m / n) ∧ Nats t (m % n)) := by
  obtain ⟨xs, hi1, d1⟩ := ha.ints
  have l1 := (d1.len_le 256).2 b1
  have hb' := hb
  obtain ⟨a1, c1, z1, r1, rfl, hz1, hr1⟩ := hi1
  obtain ⟨a2, c2, z2, r2, x2, rfl, _⟩ := hb
  refine contract_of Try.func65 rfl (by kernel_rfl) ?_
  simp only [Try.ntmps65, argEnv]
  have e0 : IntKind.i64.wrap ((xs.length : Int) - 1) = (xs.length : Int) - 1 := w64 (by omega)
  (repeat refine Sat.seq ?_)
  (refine Sat.region_k fun k hk => ?_; simp -implicitDefEqProofs only [evr, id, reduceCtorEq, reduceIte, Nat.reduceMul, Nat.reduceAdd, Nat.reduceLT, Nat.reduceLeDiff, Nat.reduceEqDiff, Int.reduceLT, Int.reduceBEq, Int.reduceBNe, Nat.reduceBEq, List.append_nil, Nat.sub_self]; refine hk _ ?_; clear hk k; try show Sat _ _ _ _ _)
  (repeat refine Sat.seq ?_)
  (refine Sat.region_k fun k hk => ?_; simp -implicitDefEqProofs only [evr, id, reduceCtorEq, reduceIte, Nat.reduceMul, Nat.reduceAdd, Nat.reduceLT, Nat.reduceLeDiff, Nat.reduceEqDiff, Int.reduceLT, Int.reduceBEq, Int.reduceBNe, Nat.reduceBEq, List.append_nil, Nat.sub_self])
  refine ⟨by omega, fun a cap => ?_⟩
  (refine hk _ ?_; clear hk k; try show Sat _ _ _ _ _)
  (repeat refine Sat.seq ?_)
  (refine Sat.region_k fun k hk => ?_; simp -implicitDefEqProofs only [evr, id, reduceCtorEq, reduceIte, Nat.reduceMul, Nat.reduceAdd, Nat.reduceLT, Nat.reduceLeDiff, Nat.reduceEqDiff, Int.reduceLT, Int.reduceBEq, Int.reduceBNe, Nat.reduceBEq, List.append_nil, Nat.sub_self]; refine hk _ ?_; clear hk k; try show Sat _ _ _ _ _)
  (repeat refine Sat.seq ?_)
  refine Sat.region_k fun k hk => ?_
  simp -implicitDefEqProofs only [evr, id, reduceCtorEq, reduceIte, Nat.reduceMul, Nat.reduceAdd, Nat.reduceLT, Nat.reduceLeDiff, Nat.reduceEqDiff, Int.reduceLT, Int.reduceBEq, Int.reduceBNe, Nat.reduceBEq, List.append_nil, Nat.sub_self, e0]
  (refine hk _ ?_; clear hk k; try show Sat _ _ _ _ _)
  (repeat refine Sat.seq ?_)
  refine Sat.block ?_
  (repeat refine Sat.seq ?_)
  refine Sat.loop (ι := (Nat × List Int) × (SV × Nat)) (fun x => ⟨65, [(8, .i .i64 ((x.1.1 : Int) - 1)), (6, .os 0 a xs.length cap), (7, x.2.1), (0, .sl a1 xs.length c1 z1 r1), (1, .sl a2 x2.length c2 z2 r2)], [.row a 3 xs.length cap 1 (fun p _ => .i .i64 (x.1.2.getD p 0))]⟩)
    (fun x => x.1.1 ≤ xs.length ∧ SplitInv xs x.1.2 x.1.1 n x.2.2 ∧ Nats x.2.1 x.2.2 ∧ ∀ i, i < x.1.1 → x.1.2.getD i 0 = 0) (fun x => x.1.1) ((xs.length, List.replicate xs.length 0), (.sl none 0 0 0 (fun _ _ => .v undef), 0)) ⟨Nat.le_refl _, SplitInv.start xs hn, Nats.nil, fun i hi => by simp only [List.getD, List.getElem?_replicate]; split <;> rfl⟩ (by simp -implicitDefEqProofs only [evr, id, reduceCtorEq, reduceIte, Nat.reduceMul, Nat.reduceAdd, Nat.reduceLT, Nat.reduceLeDiff, Nat.reduceEqDiff, Int.reduceLT, Int.reduceBEq, Int.reduceBNe, Nat.reduceBEq, List.append_nil, Nat.sub_self, evl]; first | exact rd_zero (fun p => rfl) | exact ⟨rfl, rd_zero (fun p => rfl)⟩) ?_
  rintro ⟨⟨q, qs⟩, ⟨sr, r⟩⟩ ⟨hq, hinv, hr, hlow⟩
  simp only at hq hinv hr hlow ⊢
  obtain ⟨rs, hir, dr⟩ := hr.ints
  have hr' := hr
  obtain ⟨a3, c3, z3, r3, rfl, hz3, hr3⟩ := hir
  have hrl : rs.length ≤ 256 := (dr.len_le 256).2 (by have := hinv.lt; omega)
  (repeat refine Sat.seq ?_)
  (refine Sat.region_k fun k hk => ?_; simp -implicitDefEqProofs only [evr, id, reduceCtorEq, reduceIte, Nat.reduceMul, Nat.reduceAdd, Nat.reduceLT, Nat.reduceLeDiff, Nat.reduceEqDiff, Int.reduceLT, Int.reduceBEq, Int.reduceBNe, Nat.reduceBEq, List.append_nil, Nat.sub_self]; refine hk _ ?_; clear hk k; try show Sat _ _ _ _ _)
  (repeat refine Sat.seq ?_)
  refine Sat.cond_b rfl (fun h2 => ?_) (fun h2 => ?_)
  · simp only [decide_eq_true_eq] at h2
    obtain ⟨j, rfl⟩ : ∃ j, q = j + 1 := ⟨q - 1, by omega⟩
    have hj : j < xs.length := by omega
    have ej : (((j + 1 : Nat) : Int) - 1) = (j : Int) := by omega
    have ej2 : IntKind.i64.wrap ((j : Int) - 1) = (j : Int) - 1 := w64 (by omega)
    have hsz1 : z1 = 1 := by
      rcases hz1 with hz | hz
      · omega
      · exact hz
    subst hsz1
    have g1 := hr1 j hj
    have bx := limbs_getD d1.limbs j
    refine Sat.skip ?_
    simp only [thenK, ej]
    (repeat refine Sat.seq ?_)
    refine Sat.block ?_
    refine Sat.know_sz 7 rfl hz3 ?_
    (repeat refine Sat.seq ?_)
    refine Sat.region_k fun k hk => ?_
    simp -implicitDefEqProofs only [evr, id, reduceCtorEq, reduceIte, Nat.reduceMul, Nat.reduceAdd, Nat.reduceLT, Nat.reduceLeDiff, Nat.reduceEqDiff, Int.reduceLT, Int.reduceBEq, Int.reduceBNe, Nat.reduceBEq, List.append_nil, Nat.sub_self]
    refine ⟨by omega, ?_⟩
    rw [g1]
    simp -implicitDefEqProofs only [evr, id, reduceCtorEq, reduceIte, Nat.reduceMul, Nat.reduceAdd, Nat.reduceLT, Nat.reduceLeDiff, Nat.reduceEqDiff, Int.reduceLT, Int.reduceBEq, Int.reduceBNe, Nat.reduceBEq, List.append_nil, Nat.sub_self]
    intro blk
    refine ⟨⟨by unfold maxLen; omega, by omega⟩, fun a2_1 cap2 => ?_⟩
    have e1 : 1 + rs.length = (xs.getD j 0 :: rs).length := by rw [List.length_cons]; omega
    have hlim : Limbs (xs.getD j 0 :: rs) := limbs_cons.2 ⟨bx, dr.limbs⟩
    refine wcall_slice (refTrimC F (s := .sl a2_1 (xs.getD j 0 :: rs).length cap2 1 (rdCat 1 (rdL [.i .i64 (xs.getD j 0)] 1) r3)) ⟨_, _, 1, _, rfl, .inr rfl, rd_cons hr3⟩ hlim) (by simp -implicitDefEqProofs only [evr, id, reduceCtorEq, reduceIte, Nat.reduceMul, Nat.reduceAdd, Nat.reduceLT, Nat.reduceLeDiff, Nat.reduceEqDiff, Int.reduceLT, Int.reduceBEq, Int.reduceBNe, Nat.reduceBEq, List.append_nil, Nat.sub_self]; try rfl) (by simp -implicitDefEqProofs only [evr, id, reduceCtorEq, reduceIte, Nat.reduceMul, Nat.reduceAdd, Nat.reduceLT, Nat.reduceLeDiff, Nat.reduceEqDiff, Int.reduceLT, Int.reduceBEq, Int.reduceBNe, Nat.reduceBEq, List.append_nil, Nat.sub_self, e1]; try rfl) ?_
    intro y hy
    have hs4 := hy
    obtain ⟨a4, c4, z4, r4, x4, rfl, _⟩ := hy
    simp -implicitDefEqProofs only [evr, id, reduceCtorEq, reduceIte, Nat.reduceMul, Nat.reduceAdd, Nat.reduceLT, Nat.reduceLeDiff, Nat.reduceEqDiff, Int.reduceLT, Int.reduceBEq, Int.reduceBNe, Nat.reduceBEq, List.append_nil, Nat.sub_self]
    (refine hk _ ?_; clear hk k; try show Sat _ _ _ _ _)
    obtain ⟨tt, htt⟩ : ∃ tt : Nat, val (xs.getD j 0 :: rs) = (tt : Int) := ⟨_, (Int.toNat_of_nonneg (val_nonneg hlim)).symm⟩
    have htr : (xs.getD j 0).toNat + 1073741824 * r = tt := by
      rw [val_cons, dr.val] at htt
      omega
    rw [htt, Int.toNat_natCast] at hs4
    have hrn := hinv.lt
    have btt : (tt : Int) < pw 512 := by
      have h1 : pw 512 = pw 256 * pw 256 := pw_add 256 256
      have h2 : (1073741824 : Int) ≤ pw 256 := by
        have := pw_mono (show 1 ≤ 256 by omega)
        rw [pw_succ, pw_zero] at this
        omega
      have h3 : 1073741824 * (n : Int) ≤ pw 256 * pw 256 := Int.mul_le_mul h2 (by omega) (by omega) (by omega)
      omega
    (repeat refine Sat.seq ?_)
    (refine Sat.region_k fun k hk => ?_; simp -implicitDefEqProofs only [evr, id, reduceCtorEq, reduceIte, Nat.reduceMul, Nat.reduceAdd, Nat.reduceLT, Nat.reduceLeDiff, Nat.reduceEqDiff, Int.reduceLT, Int.reduceBEq, Int.reduceBNe, Nat.reduceBEq, List.append_nil, Nat.sub_self])
    refine wcall_plain (refCompareC F hs4 hb' btt) rfl (by rintro _ rfl; exact ok_plain rfl) ?_
    rintro y rfl
    simp -implicitDefEqProofs only [evr, id, reduceCtorEq, reduceIte, Nat.reduceMul, Nat.reduceAdd, Nat.reduceLT, Nat.reduceLeDiff, Nat.reduceEqDiff, Int.reduceLT, Int.reduceBEq, Int.reduceBNe, Nat.reduceBEq, List.append_nil, Nat.sub_self]
    (refine hk _ ?_; clear hk k; try show Sat _ _ _ _ _)
    refine Sat.cond_b rfl (fun h9 => ?_) (fun h9 => ?_)
    · have hlt : tt < n := by
        by_cases h10 : tt < n
        · exact h10
        exfalso
        by_cases h11 : n < tt
        · rw [cmpI_gt (by omega)] at h9; exact absurd h9 (by decide)
        · rw [cmpI_eq (by omega)] at h9; exact absurd h9 (by decide)
      have hst := (hinv.step d1.limbs hj (d := 0) (r' := tt) (by omega) hlt).1
      rw [show ((0 : Nat) : Int) = 0 by rfl, set_same (hlow j (by omega)) (by have := hinv.len; omega)] at hst
      refine Sat.exit ?_
      simp only [thenK, blockK, reduceIte]
      (repeat refine Sat.seq ?_)
      refine Sat.region_k fun k hk => ?_
      simp -implicitDefEqProofs only [evr, id, reduceCtorEq, reduceIte, Nat.reduceMul, Nat.reduceAdd, Nat.reduceLT, Nat.reduceLeDiff, Nat.reduceEqDiff, Int.reduceLT, Int.reduceBEq, Int.reduceBNe, Nat.reduceBEq, List.append_nil, Nat.sub_self, ej2]
      refine hk _ ?_
      simp only [thenK, blockK]
      refine ⟨((j, qs), (_, tt)), ⟨by show j ≤ xs.length; omega, hst, hs4, fun i hi => hlow i (by show i < j + 1; have : i < j := hi; omega)⟩, by show j < j + 1; omega, ?_⟩
      simp -implicitDefEqProofs only [evr, id, reduceCtorEq, reduceIte, Nat.reduceMul, Nat.reduceAdd, Nat.reduceLT, Nat.reduceLeDiff, Nat.reduceEqDiff, Int.reduceLT, Int.reduceBEq, Int.reduceBNe, Nat.reduceBEq, List.append_nil, Nat.sub_self, evl]
    have hge : n ≤ tt := by
      by_cases h10 : tt < n
      · rw [cmpI_lt (by omega)] at h9; exact absurd h9 (by decide)
      · omega
    have hstep := hinv.step d1.limbs hj (d := tt / n) (r' := tt % n) (by rw [htr, Nat.mul_comm]; exact (Nat.div_add_mod tt n).symm) (Nat.mod_lt _ hn)
    have hd1 : 1 ≤ tt / n := (Nat.one_le_div_iff hn).2 hge
    have hd2 := hstep.2
    have hst := hstep.1
    have hdm := Nat.div_add_mod tt n
    generalize hde : tt / n = d at hd1 hd2 hst hdm
    have bmul : ∀ z : Nat, z ≤ 1073741823 → (z : Int) < pw 256 ∧ (z : Int) < pw 512 ∧ ((n * z : Nat) : Int) < pw 512 := fun z hz => by
      have h1 : pw 512 = pw 256 * pw 256 := pw_add 256 256
      have h2 : (1073741824 : Int) ≤ pw 256 := by
        have := pw_mono (show 1 ≤ 256 by omega)
        rw [pw_succ, pw_zero] at this
        omega
      have h3 : (n : Int) * z ≤ (n : Int) * 1073741824 := Int.mul_le_mul_of_nonneg_left (by omega) (by omega)
      have h4 : (n : Int) * 1073741824 < pw 256 * 1073741824 := Int.mul_lt_mul_of_pos_right b2 (by decide)
      have h5 : pw 256 * 1073741824 ≤ pw 256 * pw 256 := Int.mul_le_mul_of_nonneg_left h2 (by omega)
      have h6 : (1073741824 : Int) ≤ pw 512 := by
        have := pw_mono (show 256 ≤ 512 by omega)
        omega
      refine ⟨by omega, by omega, ?_⟩
      rw [Int.natCast_mul]
      omega
    refine Sat.skip ?_
    simp only [thenK]
    (repeat refine Sat.seq ?_)
    (refine Sat.region_k fun k hk => ?_; simp -implicitDefEqProofs only [evr, id, reduceCtorEq, reduceIte, Nat.reduceMul, Nat.reduceAdd, Nat.reduceLT, Nat.reduceLeDiff, Nat.reduceEqDiff, Int.reduceLT, Int.reduceBEq, Int.reduceBNe, Nat.reduceBEq, List.append_nil, Nat.sub_self]; refine hk _ ?_; clear hk k; try show Sat _ _ _ _ _)
    (repeat refine Sat.seq ?_)
    refine Sat.block ?_
    (repeat refine Sat.seq ?_)
    refine Sat.loop (ι := Nat × Nat) (fun x => ⟨65, [(9, .i .i64 (x.1 : Int)), (10, .i .i64 (x.2 : Int)), (8, .i .i64 (j : Int)), (6, .os 0 a xs.length cap), (7, .sl a4 x4.length c4 z4 r4), (0, .sl a1 xs.length c1 1 r1), (1, .sl a2 x2.length c2 z2 r2)], [.row a 3 xs.length cap 1 (fun p _ => .i .i64 (qs.getD p 0))]⟩)
      (fun x => 1 ≤ x.1 ∧ x.1 ≤ d ∧ d ≤ x.2 ∧ x.2 ≤ 1073741823) (fun x => x.2 - x.1) (1, 1073741823) ⟨Nat.le_refl _, hd1, by omega, Nat.le_refl _⟩ (by simp -implicitDefEqProofs only [evr, id, reduceCtorEq, reduceIte, Nat.reduceMul, Nat.reduceAdd, Nat.reduceLT, Nat.reduceLeDiff, Nat.reduceEqDiff, Int.reduceLT, Int.reduceBEq, Int.reduceBNe, Nat.reduceBEq, List.append_nil, Nat.sub_self, evl]; exact ⟨rfl, rfl⟩) ?_
    rintro ⟨low, high⟩ ⟨i1, i2, i3, i4⟩
    simp only at i1 i2 i3 i4 ⊢
    (repeat refine Sat.seq ?_)
    (refine Sat.region_k fun k hk => ?_; simp -implicitDefEqProofs only [evr, id, reduceCtorEq, reduceIte, Nat.reduceMul, Nat.reduceAdd, Nat.reduceLT, Nat.reduceLeDiff, Nat.reduceEqDiff, Int.reduceLT, Int.reduceBEq, Int.reduceBNe, Nat.reduceBEq, List.append_nil, Nat.sub_self]; refine hk _ ?_; clear hk k; try show Sat _ _ _ _ _)
    (repeat refine Sat.seq ?_)
    refine Sat.cond_b rfl (fun h3 => ?_) (fun h3 => ?_)
    · simp only [decide_eq_true_eq] at h3
      have e1 : IntKind.i64.wrap ((low : Int) + (high : Int)) = (low : Int) + high := w64 (by omega)
      have e2 : IntKind.i64.wrap ((low : Int) + (high : Int) + 1) = (low : Int) + high + 1 := w64 (by omega)
      have e3 : IntKind.i64.wrap (((low : Int) + (high : Int) + 1).tdiv 2) = (((low + high + 1) / 2 : Nat) : Int) := by
        rw [Int.tdiv_eq_ediv_of_nonneg (by omega), w64 (by omega)]; omega
      have hmlo : low < (low + high + 1) / 2 := by omega
      have hmhi : (low + high + 1) / 2 ≤ high := by omega
      refine Sat.skip ?_
      simp only [thenK]
      (repeat refine Sat.seq ?_)
      refine Sat.block ?_
      (repeat refine Sat.seq ?_)
      refine Sat.region_k fun k hk => ?_
      simp -implicitDefEqProofs only [evr, id, reduceCtorEq, reduceIte, Nat.reduceMul, Nat.reduceAdd, Nat.reduceLT, Nat.reduceLeDiff, Nat.reduceEqDiff, Int.reduceLT, Int.reduceBEq, Int.reduceBNe, Nat.reduceBEq, List.append_nil, Nat.sub_self, e1, e2, e3]
      refine ⟨by decide, ?_⟩
      generalize (low + high + 1) / 2 = mid at hmlo hmhi
      (refine hk _ ?_; clear hk k; try show Sat _ _ _ _ _)
      (repeat refine Sat.seq ?_)
      obtain ⟨bm0, bm1, bm2⟩ := bmul mid (by omega)
      (refine Sat.region_k fun k hk => ?_; simp -implicitDefEqProofs only [evr, id, reduceCtorEq, reduceIte, Nat.reduceMul, Nat.reduceAdd, Nat.reduceLT, Nat.reduceLeDiff, Nat.reduceEqDiff, Int.reduceLT, Int.reduceBEq, Int.reduceBNe, Nat.reduceBEq, List.append_nil, Nat.sub_self])
      intro blk
      have hms : Nats (.sl (some ⟨blk, 0, none⟩) 1 1 1 (rdL [SV.i .i64 (mid : Int)] 1)) mid := nats_one (by omega) (by omega)
      refine wcall_slice (refTimesC F hb' hms (by have := pw_mono (show 256 ≤ 512 by omega); omega) bm1) (by simp -implicitDefEqProofs only [evr, id, reduceCtorEq, reduceIte, Nat.reduceMul, Nat.reduceAdd, Nat.reduceLT, Nat.reduceLeDiff, Nat.reduceEqDiff, Int.reduceLT, Int.reduceBEq, Int.reduceBNe, Nat.reduceBEq, List.append_nil, Nat.sub_self]; try rfl) (by simp -implicitDefEqProofs only [evr, id, reduceCtorEq, reduceIte, Nat.reduceMul, Nat.reduceAdd, Nat.reduceLT, Nat.reduceLeDiff, Nat.reduceEqDiff, Int.reduceLT, Int.reduceBEq, Int.reduceBNe, Nat.reduceBEq, List.append_nil, Nat.sub_self]; try rfl) ?_
      intro y hy
      have hs5 := hy
      obtain ⟨a5, c5, z5, r5, x5, rfl, _⟩ := hy
      simp -implicitDefEqProofs only [evr, id, reduceCtorEq, reduceIte, Nat.reduceMul, Nat.reduceAdd, Nat.reduceLT, Nat.reduceLeDiff, Nat.reduceEqDiff, Int.reduceLT, Int.reduceBEq, Int.reduceBNe, Nat.reduceBEq, List.append_nil, Nat.sub_self]
      refine wcall_plain (refCompareC F hs5 hs4 bm2) rfl (by rintro _ rfl; exact ok_plain rfl) ?_
      rintro y rfl
      simp -implicitDefEqProofs only [evr, id, reduceCtorEq, reduceIte, Nat.reduceMul, Nat.reduceAdd, Nat.reduceLT, Nat.reduceLeDiff, Nat.reduceEqDiff, Int.reduceLT, Int.reduceBEq, Int.reduceBNe, Nat.reduceBEq, List.append_nil, Nat.sub_self]
      (refine hk _ ?_; clear hk k; try show Sat _ _ _ _ _)
      refine Sat.cond_b rfl (fun h9 => ?_) (fun h9 => ?_)
      · have hle : mid ≤ d := by
          rw [← hde, Nat.le_div_iff_mul_le hn, Nat.mul_comm]
          by_cases h10 : n * mid ≤ tt
          · exact h10
          · rw [cmpI_gt (by omega)] at h9; exact absurd h9 (by decide)
        (refine Sat.region_k fun k hk => ?_; simp -implicitDefEqProofs only [evr, id, reduceCtorEq, reduceIte, Nat.reduceMul, Nat.reduceAdd, Nat.reduceLT, Nat.reduceLeDiff, Nat.reduceEqDiff, Int.reduceLT, Int.reduceBEq, Int.reduceBNe, Nat.reduceBEq, List.append_nil, Nat.sub_self])
        refine hk _ ?_
        simp only [thenK, blockK]
        refine ⟨(mid, high), ⟨by show 1 ≤ mid; omega, hle, i3, i4⟩, by show high - mid < high - low; omega, ?_⟩
        simp -implicitDefEqProofs only [evr, id, reduceCtorEq, reduceIte, Nat.reduceMul, Nat.reduceAdd, Nat.reduceLT, Nat.reduceLeDiff, Nat.reduceEqDiff, Int.reduceLT, Int.reduceBEq, Int.reduceBNe, Nat.reduceBEq, List.append_nil, Nat.sub_self, evl]
      · have hlt : d < mid := by
          rw [← hde, Nat.div_lt_iff_lt_mul hn, Nat.mul_comm]
          by_cases h10 : tt < n * mid
          · exact h10
          exfalso
          by_cases h11 : n * mid < tt
          · rw [cmpI_lt (by omega)] at h9; exact absurd h9 (by decide)
          · rw [cmpI_eq (by omega)] at h9; exact absurd h9 (by decide)
        have e5 : IntKind.i64.wrap ((mid : Int) - 1) = ((mid - 1 : Nat) : Int) := by rw [w64 (by omega)]; omega
        refine Sat.region_k fun k hk => ?_
        simp -implicitDefEqProofs only [evr, id, reduceCtorEq, reduceIte, Nat.reduceMul, Nat.reduceAdd, Nat.reduceLT, Nat.reduceLeDiff, Nat.reduceEqDiff, Int.reduceLT, Int.reduceBEq, Int.reduceBNe, Nat.reduceBEq, List.append_nil, Nat.sub_self, e5]
        refine hk _ ?_
        simp only [thenK, blockK]
        refine ⟨(low, mid - 1), ⟨i1, i2, by show d ≤ mid - 1; omega, by show mid - 1 ≤ 1073741823; omega⟩, by show mid - 1 - low < high - low; omega, ?_⟩
        simp -implicitDefEqProofs only [evr, id, reduceCtorEq, reduceIte, Nat.reduceMul, Nat.reduceAdd, Nat.reduceLT, Nat.reduceLeDiff, Nat.reduceEqDiff, Int.reduceLT, Int.reduceBEq, Int.reduceBNe, Nat.reduceBEq, List.append_nil, Nat.sub_self, evl]
    · simp only [decide_eq_false_iff_not] at h3
      obtain rfl : high = low := by omega
      obtain rfl : high = d := by omega
      clear i1 i2 i3 h3
      obtain ⟨bm0, bm1, bm2⟩ := bmul high (by omega)
      have hdle : n * high ≤ tt := by omega
      have hsub : tt - n * high = tt % n := by omega
      refine Sat.exit ?_
      simp only [thenK, blockK, reduceIte]
      (repeat refine Sat.seq ?_)
      (refine Sat.region_k fun k hk => ?_; simp -implicitDefEqProofs only [evr, id, reduceCtorEq, reduceIte, Nat.reduceMul, Nat.reduceAdd, Nat.reduceLT, Nat.reduceLeDiff, Nat.reduceEqDiff, Int.reduceLT, Int.reduceBEq, Int.reduceBNe, Nat.reduceBEq, List.append_nil, Nat.sub_self])
      refine ⟨by omega, by omega, ?_⟩
      (refine hk _ ?_; clear hk k; try show Sat _ _ _ _ _)
      (repeat refine Sat.seq ?_)
      (refine Sat.region_k fun k hk => ?_; simp -implicitDefEqProofs only [evr, id, reduceCtorEq, reduceIte, Nat.reduceMul, Nat.reduceAdd, Nat.reduceLT, Nat.reduceLeDiff, Nat.reduceEqDiff, Int.reduceLT, Int.reduceBEq, Int.reduceBNe, Nat.reduceBEq, List.append_nil, Nat.sub_self])
      intro blk
      have hms : Nats (.sl (some ⟨blk, 0, none⟩) 1 1 1 (rdL [SV.i .i64 (high : Int)] 1)) high := nats_one (by omega) (by omega)
      refine wcall_slice (refTimesC F hb' hms (by have := pw_mono (show 256 ≤ 512 by omega); omega) bm1) (by simp -implicitDefEqProofs only [evr, id, reduceCtorEq, reduceIte, Nat.reduceMul, Nat.reduceAdd, Nat.reduceLT, Nat.reduceLeDiff, Nat.reduceEqDiff, Int.reduceLT, Int.reduceBEq, Int.reduceBNe, Nat.reduceBEq, List.append_nil, Nat.sub_self]; try rfl) (by simp -implicitDefEqProofs only [evr, id, reduceCtorEq, reduceIte, Nat.reduceMul, Nat.reduceAdd, Nat.reduceLT, Nat.reduceLeDiff, Nat.reduceEqDiff, Int.reduceLT, Int.reduceBEq, Int.reduceBNe, Nat.reduceBEq, List.append_nil, Nat.sub_self]; try rfl) ?_
      intro y hy
      have hs5 := hy
      obtain ⟨a5, c5, z5, r5, x5, rfl, _⟩ := hy
      simp -implicitDefEqProofs only [evr, id, reduceCtorEq, reduceIte, Nat.reduceMul, Nat.reduceAdd, Nat.reduceLT, Nat.reduceLeDiff, Nat.reduceEqDiff, Int.reduceLT, Int.reduceBEq, Int.reduceBNe, Nat.reduceBEq, List.append_nil, Nat.sub_self]
      refine wcall_slice (refLessC F hs4 hs5 btt hdle) rfl rfl ?_
      intro y hy
      rw [hsub] at hy
      have hs6 := hy
      obtain ⟨a6, c6, z6, r6, x6, rfl, _⟩ := hy
      simp -implicitDefEqProofs only [evr, id, reduceCtorEq, reduceIte, Nat.reduceMul, Nat.reduceAdd, Nat.reduceLT, Nat.reduceLeDiff, Nat.reduceEqDiff, Int.reduceLT, Int.reduceBEq, Int.reduceBNe, Nat.reduceBEq, List.append_nil, Nat.sub_self]
      refine hk _ ?_
      clear hk k
      simp only [thenK, blockK]
      (repeat refine Sat.seq ?_)
      refine Sat.region_k fun k hk => ?_
      simp -implicitDefEqProofs only [evr, id, reduceCtorEq, reduceIte, Nat.reduceMul, Nat.reduceAdd, Nat.reduceLT, Nat.reduceLeDiff, Nat.reduceEqDiff, Int.reduceLT, Int.reduceBEq, Int.reduceBNe, Nat.reduceBEq, List.append_nil, Nat.sub_self, ej2]
      refine hk _ ?_
      simp only [thenK, blockK]
      refine ⟨((j, qs.set j (high : Int)), (_, tt % n)), ⟨by show j ≤ xs.length; omega, hst, hs6, fun i hi => by
        have hi' : i < j := hi
        show (qs.set j (high : Int)).getD i 0 = 0
        rw [getD_set _ _ _ (by have := hinv.len; omega), if_neg (by omega)]
        exact hlow i (by omega)⟩, by show j < j + 1; omega, ?_⟩
      simp -implicitDefEqProofs only [evr, id, reduceCtorEq, reduceIte, Nat.reduceMul, Nat.reduceAdd, Nat.reduceLT, Nat.reduceLeDiff, Nat.reduceEqDiff, Int.reduceLT, Int.reduceBEq, Int.reduceBNe, Nat.reduceBEq, List.append_nil, Nat.sub_self, evl]
      exact rd_set rfl (by have := hinv.len; omega)
  · simp only [decide_eq_false_iff_not] at h2
    obtain rfl : q = 0 := by omega
    obtain ⟨hd, hrm⟩ := hinv.done d1.val
    have hv : (val qs).toNat = m / n := by
      have h8 := hd.val
      rw [trim_val] at h8
      rw [h8]
      exact Int.toNat_natCast _
    have t3 := hinv.len
    refine Sat.exit ?_
    simp only [thenK, blockK, reduceIte]
    (repeat refine Sat.seq ?_)
    (refine Sat.region_k fun k hk => ?_; simp -implicitDefEqProofs only [evr, id, reduceCtorEq, reduceIte, Nat.reduceMul, Nat.reduceAdd, Nat.reduceLT, Nat.reduceLeDiff, Nat.reduceEqDiff, Int.reduceLT, Int.reduceBEq, Int.reduceBNe, Nat.reduceBEq, List.append_nil, Nat.sub_self])
    refine wcall_slice (refTrimC F (s := .sl a qs.length cap 1 (fun p _ => .i .i64 (qs.getD p 0))) ⟨a, cap, 1, _, rfl, .inr rfl, fun p _ => rfl⟩ hinv.limbs) (by simp -implicitDefEqProofs only [evr, id, reduceCtorEq, reduceIte, Nat.reduceMul, Nat.reduceAdd, Nat.reduceLT, Nat.reduceLeDiff, Nat.reduceEqDiff, Int.reduceLT, Int.reduceBEq, Int.reduceBNe, Nat.reduceBEq, List.append_nil, Nat.sub_self]; try rfl) (by simp -implicitDefEqProofs only [evr, id, reduceCtorEq, reduceIte, Nat.reduceMul, Nat.reduceAdd, Nat.reduceLT, Nat.reduceLeDiff, Nat.reduceEqDiff, Int.reduceLT, Int.reduceBEq, Int.reduceBNe, Nat.reduceBEq, List.append_nil, Nat.sub_self, t3]; try rfl) ?_
    intro y hy
    rw [hv] at hy
    have hs8 := hy
    obtain ⟨a8, c8, z8, r8, x8, rfl, _⟩ := hy
    simp -implicitDefEqProofs only [evr, id, reduceCtorEq, reduceIte, Nat.reduceMul, Nat.reduceAdd, Nat.reduceLT, Nat.reduceLeDiff, Nat.reduceEqDiff, Int.reduceLT, Int.reduceBEq, Int.reduceBNe, Nat.reduceBEq, List.append_nil, Nat.sub_self]
    (refine hk _ ?_; clear hk k; try show Sat _ _ _ _ _)
    refine Sat.ret ?_
    simp only [Try.results65, evr, id, reduceCtorEq, reduceIte, Nat.reduceMul, Nat.reduceAdd, Nat.reduceLT, Nat.reduceLeDiff, Nat.reduceEqDiff, Int.reduceLT, Int.reduceBEq, Int.reduceBNe, Nat.reduceBEq, List.append_nil, Nat.sub_self]
    exact ⟨_, _, rfl, hs8, by rw [← hrm]; exact hr'⟩
end Go.Proofs.Ytagmohpafjncfaa

/- The reference of fractions, by the evaluator: reduced, From, Reduce. -/
set_option linter.unusedSimpArgs false
set_option linter.unusedVariables false
namespace Go.Proofs.Ytagmohpafjncfaa
open Eng Lmb Go.RowKit

theorem Nats.len0 {a : Option Addr} {len cap sz n : Nat} {rd : Nat → Nat → SV} (h : Nats (.sl a len cap sz rd) n) : ((len : Int) == 0) = decide (n = 0) := by
  have := h.len
  have e : (0 < (len : Int)) ↔ (0 < n) := by rw [this]
  by_cases hn : n = 0
  · rw [decide_eq_true hn, beq_iff_eq]; omega
  · rw [decide_eq_false hn, beq_eq_false_iff_ne]; omega

set_option maxRecDepth 100000 in
theorem refReducedC (F : Frm) (neg : Bool) {sp sq : SV} {p q : Nat} (hp : Nats sp p) (hq : Nats sq q) (h1 : (p : Int) < pw 256) (h2 : (q : Int) < pw 256) (h0 : 0 < q) : Contract F Try.prog 39 [.b neg, sp, sq] (fun r => FrS r (neg && decide (0 < p)) (p / Nat.gcd p q) (q / Nat.gcd p q)) := by
  have hp' := hp
  have hq' := hq
  have hg : 0 < Nat.gcd p q := Nat.gcd_pos_of_pos_right _ h0
  have hgq : Nat.gcd p q ≤ q := Nat.le_of_dvd h0 (Nat.gcd_dvd_right p q)
  obtain ⟨a1, c1, z1, r1, x1, rfl, _⟩ := hp
  obtain ⟨a2, c2, z2, r2, x2, rfl, _⟩ := hq
  have hl := hp'.len0
  refine contract_of Try.func39 rfl (by kernel_rfl) ?_
  simp only [Try.ntmps39, argEnv]
  (repeat refine Sat.seq ?_)
  (refine Sat.region_k fun k hk => ?_; simp -implicitDefEqProofs only [evr, id, reduceCtorEq, reduceIte, Nat.reduceMul, Nat.reduceAdd, Nat.reduceLT, Nat.reduceLeDiff, Nat.reduceEqDiff, Int.reduceLT, Int.reduceBEq, Int.reduceBNe, Nat.reduceBEq, List.append_nil, Int.toNat_zero, Nat.sub_self, frS])
  intro b6
  (refine hk _ ?_; clear hk k; try show Sat _ _ _ _ _)
  (repeat refine Sat.seq ?_)
  (refine Sat.region_k fun k hk => ?_; simp -implicitDefEqProofs only [evr, id, reduceCtorEq, reduceIte, Nat.reduceMul, Nat.reduceAdd, Nat.reduceLT, Nat.reduceLeDiff, Nat.reduceEqDiff, Int.reduceLT, Int.reduceBEq, Int.reduceBNe, Nat.reduceBEq, List.append_nil, Int.toNat_zero, Nat.sub_self, frS]; refine hk _ ?_; clear hk k; try show Sat _ _ _ _ _)
  refine Sat.cond_b rfl (fun h => ?_) (fun h => ?_)
  · have hp0 : p = 0 := by rw [hl] at h; exact of_decide_eq_true h
    subst hp0
    (repeat refine Sat.seq ?_)
    (refine Sat.region_k fun k hk => ?_; simp -implicitDefEqProofs only [evr, id, reduceCtorEq, reduceIte, Nat.reduceMul, Nat.reduceAdd, Nat.reduceLT, Nat.reduceLeDiff, Nat.reduceEqDiff, Int.reduceLT, Int.reduceBEq, Int.reduceBNe, Nat.reduceBEq, List.append_nil, Int.toNat_zero, Nat.sub_self, frS])
    intro blk
    (refine hk _ ?_; clear hk k; try show Sat _ _ _ _ _)
    refine Sat.ret ?_
    simp only [Try.results39, evr, id, reduceCtorEq, reduceIte, Nat.reduceMul, Nat.reduceAdd, Nat.reduceLT, Nat.reduceLeDiff, Nat.reduceEqDiff, Int.reduceLT, Int.reduceBEq, Int.reduceBNe, Nat.reduceBEq, List.append_nil, Int.toNat_zero, Nat.sub_self, frS]
    have e1 : q / Nat.gcd 0 q = 1 := by rw [Nat.gcd_zero_left]; exact Nat.div_self h0
    rw [e1, Nat.zero_div, decide_false, Bool.and_false]
    refine ⟨_, _, rfl, Nats.nil, nats_one (x := 1) (by omega) (by omega)⟩
  · have hp0 : 0 < p := by
      rw [hl] at h
      have := of_decide_eq_false h
      omega
    refine Sat.skip ?_
    simp only [thenK]
    (repeat refine Sat.seq ?_)
    (refine Sat.region_k fun k hk => ?_; simp -implicitDefEqProofs only [evr, id, reduceCtorEq, reduceIte, Nat.reduceMul, Nat.reduceAdd, Nat.reduceLT, Nat.reduceLeDiff, Nat.reduceEqDiff, Int.reduceLT, Int.reduceBEq, Int.reduceBNe, Nat.reduceBEq, List.append_nil, Int.toNat_zero, Nat.sub_self, frS])
    refine wcall_slice (refGcdC F hp' hq' h1 h2 hp0 h0) rfl rfl ?_
    intro r hs
    have hgs := hs
    obtain ⟨a3, c3, z3, r3, x3, rfl, _⟩ := hs
    simp -implicitDefEqProofs only [evr, id, reduceCtorEq, reduceIte, Nat.reduceMul, Nat.reduceAdd, Nat.reduceLT, Nat.reduceLeDiff, Nat.reduceEqDiff, Int.reduceLT, Int.reduceBEq, Int.reduceBNe, Nat.reduceBEq, List.append_nil, Int.toNat_zero, Nat.sub_self, frS]
    (refine hk _ ?_; clear hk k; try show Sat _ _ _ _ _)
    (repeat refine Sat.seq ?_)
    (refine Sat.region_k fun k hk => ?_; simp -implicitDefEqProofs only [evr, id, reduceCtorEq, reduceIte, Nat.reduceMul, Nat.reduceAdd, Nat.reduceLT, Nat.reduceLeDiff, Nat.reduceEqDiff, Int.reduceLT, Int.reduceBEq, Int.reduceBNe, Nat.reduceBEq, List.append_nil, Int.toNat_zero, Nat.sub_self, frS])
    refine wcall_slice (refSplitC F hp' hgs h1 (by omega) hg) rfl rfl ?_
    rintro r ⟨s, t, rfl, hs, ht⟩
    have hs4 := hs
    obtain ⟨a4, c4, z4, r4, x4, rfl, _⟩ := hs
    obtain ⟨a5, c5, z5, r5, x5, rfl, _⟩ := ht
    simp -implicitDefEqProofs only [evr, id, reduceCtorEq, reduceIte, Nat.reduceMul, Nat.reduceAdd, Nat.reduceLT, Nat.reduceLeDiff, Nat.reduceEqDiff, Int.reduceLT, Int.reduceBEq, Int.reduceBNe, Nat.reduceBEq, List.append_nil, Int.toNat_zero, Nat.sub_self, frS]
    (refine hk _ ?_; clear hk k; try show Sat _ _ _ _ _)
    (repeat refine Sat.seq ?_)
    (refine Sat.region_k fun k hk => ?_; simp -implicitDefEqProofs only [evr, id, reduceCtorEq, reduceIte, Nat.reduceMul, Nat.reduceAdd, Nat.reduceLT, Nat.reduceLeDiff, Nat.reduceEqDiff, Int.reduceLT, Int.reduceBEq, Int.reduceBNe, Nat.reduceBEq, List.append_nil, Int.toNat_zero, Nat.sub_self, frS])
    refine wcall_slice (refSplitC F hq' hgs h2 (by omega) hg) rfl rfl ?_
    rintro r ⟨s, t, rfl, hs, ht⟩
    have hs6 := hs
    obtain ⟨a6, c6, z6, r6, x6, rfl, _⟩ := hs
    obtain ⟨a7, c7, z7, r7, x7, rfl, _⟩ := ht
    simp -implicitDefEqProofs only [evr, id, reduceCtorEq, reduceIte, Nat.reduceMul, Nat.reduceAdd, Nat.reduceLT, Nat.reduceLeDiff, Nat.reduceEqDiff, Int.reduceLT, Int.reduceBEq, Int.reduceBNe, Nat.reduceBEq, List.append_nil, Int.toNat_zero, Nat.sub_self, frS]
    (refine hk _ ?_; clear hk k; try show Sat _ _ _ _ _)
    (repeat refine Sat.seq ?_)
    (refine Sat.region_k fun k hk => ?_; simp -implicitDefEqProofs only [evr, id, reduceCtorEq, reduceIte, Nat.reduceMul, Nat.reduceAdd, Nat.reduceLT, Nat.reduceLeDiff, Nat.reduceEqDiff, Int.reduceLT, Int.reduceBEq, Int.reduceBNe, Nat.reduceBEq, List.append_nil, Int.toNat_zero, Nat.sub_self, frS])
    (refine hk _ ?_; clear hk k; try show Sat _ _ _ _ _)
    refine Sat.ret ?_
    simp only [Try.results39, evr, id, reduceCtorEq, reduceIte, Nat.reduceMul, Nat.reduceAdd, Nat.reduceLT, Nat.reduceLeDiff, Nat.reduceEqDiff, Int.reduceLT, Int.reduceBEq, Int.reduceBNe, Nat.reduceBEq, List.append_nil, Int.toNat_zero, Nat.sub_self, frS]
    rw [decide_eq_true hp0, Bool.and_true]
    exact ⟨_, _, rfl, hs4, hs6⟩

set_option maxRecDepth 100000 in
theorem refMagnitudeC (F : Frm) (n : Int) (h1 : -9223372036854775808 ≤ n) (h2 : n ≤ 9223372036854775807) : Contract F Try.prog 40 [.i .i64 n] (fun r => Nats r n.natAbs) := by
  refine contract_of Try.func40 rfl (by kernel_rfl) ?_
  simp only [Try.ntmps40, argEnv]
  have hw : ∀ z : Int, IntKind.u64.wrap z = z % 18446744073709551616 := fun z => by unfold IntKind.wrap; simp [IntKind.bits, IntKind.signed]
  (repeat refine Sat.seq ?_)
  (refine Sat.region_k fun k hk => ?_; simp -implicitDefEqProofs only [evr, id, reduceCtorEq, reduceIte, Nat.reduceMul, Nat.reduceAdd, Nat.reduceLT, Nat.reduceLeDiff, Nat.reduceEqDiff, Int.reduceLT, Int.reduceBEq, Int.reduceBNe, Nat.reduceBEq, List.append_nil, Int.toNat_zero, Nat.sub_self, frS]; refine hk _ ?_; clear hk k; try show Sat _ _ _ _ _)
  (repeat refine Sat.seq ?_)
  (refine Sat.region_k fun k hk => ?_; simp -implicitDefEqProofs only [evr, id, reduceCtorEq, reduceIte, Nat.reduceMul, Nat.reduceAdd, Nat.reduceLT, Nat.reduceLeDiff, Nat.reduceEqDiff, Int.reduceLT, Int.reduceBEq, Int.reduceBNe, Nat.reduceBEq, List.append_nil, Int.toNat_zero, Nat.sub_self, frS]; refine hk _ ?_; clear hk k; try show Sat _ _ _ _ _)
  refine Sat.cond_b rfl (fun h => ?_) (fun h => ?_)
  · have hn : n < 0 := of_decide_eq_true h
    have e1 : IntKind.i64.wrap (n + 1) = n + 1 := w64 (by omega)
    have e2 : IntKind.i64.wrap (0 - (n + 1)) = 0 - (n + 1) := w64 (by omega)
    have e3 : IntKind.u64.wrap (IntKind.u64.wrap (0 - (n + 1)) + 1) = ((n.natAbs : Nat) : Int) := by rw [hw, hw]; omega
    (repeat refine Sat.seq ?_)
    refine Sat.region_k fun k hk => ?_
    simp -implicitDefEqProofs only [evr, id, reduceCtorEq, reduceIte, Nat.reduceMul, Nat.reduceAdd, Nat.reduceLT, Nat.reduceLeDiff, Nat.reduceEqDiff, Int.reduceLT, Int.reduceBEq, Int.reduceBNe, Nat.reduceBEq, List.append_nil, Int.toNat_zero, Nat.sub_self, frS, e1, e2, e3]
    refine wcall_slice (refWordC F n.natAbs (by omega)) rfl rfl ?_
    intro r hs
    have hgs := hs
    obtain ⟨a3, c3, z3, r3, x3, rfl, _⟩ := hs
    simp -implicitDefEqProofs only [evr, id, reduceCtorEq, reduceIte, Nat.reduceMul, Nat.reduceAdd, Nat.reduceLT, Nat.reduceLeDiff, Nat.reduceEqDiff, Int.reduceLT, Int.reduceBEq, Int.reduceBNe, Nat.reduceBEq, List.append_nil, Int.toNat_zero, Nat.sub_self, frS]
    (refine hk _ ?_; clear hk k; try show Sat _ _ _ _ _)
    refine Sat.ret ?_
    simp only [Try.results40, evr, id, reduceCtorEq, reduceIte, Nat.reduceMul, Nat.reduceAdd, Nat.reduceLT, Nat.reduceLeDiff, Nat.reduceEqDiff, Int.reduceLT, Int.reduceBEq, Int.reduceBNe, Nat.reduceBEq, List.append_nil, Int.toNat_zero, Nat.sub_self, frS]
    exact hgs
  · have hn : 0 ≤ n := by have := of_decide_eq_false h; omega
    have e3 : IntKind.u64.wrap n = ((n.natAbs : Nat) : Int) := by rw [hw]; omega
    refine Sat.skip ?_
    simp only [thenK]
    (repeat refine Sat.seq ?_)
    refine Sat.region_k fun k hk => ?_
    simp -implicitDefEqProofs only [evr, id, reduceCtorEq, reduceIte, Nat.reduceMul, Nat.reduceAdd, Nat.reduceLT, Nat.reduceLeDiff, Nat.reduceEqDiff, Int.reduceLT, Int.reduceBEq, Int.reduceBNe, Nat.reduceBEq, List.append_nil, Int.toNat_zero, Nat.sub_self, frS, e3]
    refine wcall_slice (refWordC F n.natAbs (by omega)) rfl rfl ?_
    intro r hs
    have hgs := hs
    obtain ⟨a3, c3, z3, r3, x3, rfl, _⟩ := hs
    simp -implicitDefEqProofs only [evr, id, reduceCtorEq, reduceIte, Nat.reduceMul, Nat.reduceAdd, Nat.reduceLT, Nat.reduceLeDiff, Nat.reduceEqDiff, Int.reduceLT, Int.reduceBEq, Int.reduceBNe, Nat.reduceBEq, List.append_nil, Int.toNat_zero, Nat.sub_self, frS]
    (refine hk _ ?_; clear hk k; try show Sat _ _ _ _ _)
    refine Sat.ret ?_
    simp only [Try.results40, evr, id, reduceCtorEq, reduceIte, Nat.reduceMul, Nat.reduceAdd, Nat.reduceLT, Nat.reduceLeDiff, Nat.reduceEqDiff, Int.reduceLT, Int.reduceBEq, Int.reduceBNe, Nat.reduceBEq, List.append_nil, Int.toNat_zero, Nat.sub_self, frS]
    exact hgs

theorem natAbs_pw {n : Int} (h1 : -9223372036854775808 ≤ n) (h2 : n ≤ 9223372036854775807) : ((n.natAbs : Nat) : Int) < pw 256 := by
  exact lt_pw (a := 64) (by omega) (by decide)

set_option maxRecDepth 100000 in
theorem refFromC (F : Frm) (n d : Int) (h1 : -9223372036854775808 ≤ n) (h2 : n ≤ 9223372036854775807) (h3 : -9223372036854775808 ≤ d) (h4 : d ≤ 9223372036854775807) (h0 : d ≠ 0) :
    Contract F Try.prog 18 [.i .i64 n, .i .i64 d] (fun r => ∃ f, r = tupL [f, .i .i64 0] ∧ FrS f ((decide (n < 0) != decide (d < 0)) && decide (0 < n.natAbs)) (n.natAbs / Nat.gcd n.natAbs d.natAbs) (d.natAbs / Nat.gcd n.natAbs d.natAbs)) := by
  refine contract_of Try.func18 rfl (by kernel_rfl) ?_
  simp only [Try.ntmps18, argEnv]
  (repeat refine Sat.seq ?_)
  (refine Sat.region_k fun k hk => ?_; simp -implicitDefEqProofs only [evr, id, reduceCtorEq, reduceIte, Nat.reduceMul, Nat.reduceAdd, Nat.reduceLT, Nat.reduceLeDiff, Nat.reduceEqDiff, Int.reduceLT, Int.reduceBEq, Int.reduceBNe, Nat.reduceBEq, List.append_nil, Int.toNat_zero, Nat.sub_self, frS])
  intro b4
  (refine hk _ ?_; clear hk k; try show Sat _ _ _ _ _)
  (repeat refine Sat.seq ?_)
  (refine Sat.region_k fun k hk => ?_; simp -implicitDefEqProofs only [evr, id, reduceCtorEq, reduceIte, Nat.reduceMul, Nat.reduceAdd, Nat.reduceLT, Nat.reduceLeDiff, Nat.reduceEqDiff, Int.reduceLT, Int.reduceBEq, Int.reduceBNe, Nat.reduceBEq, List.append_nil, Int.toNat_zero, Nat.sub_self, frS]; refine hk _ ?_; clear hk k; try show Sat _ _ _ _ _)
  refine Sat.cond_b rfl (fun h => absurd (by simpa using h) h0) (fun h => ?_)
  refine Sat.skip ?_
  simp only [thenK]
  (repeat refine Sat.seq ?_)
  (refine Sat.region_k fun k hk => ?_; simp -implicitDefEqProofs only [evr, id, reduceCtorEq, reduceIte, Nat.reduceMul, Nat.reduceAdd, Nat.reduceLT, Nat.reduceLeDiff, Nat.reduceEqDiff, Int.reduceLT, Int.reduceBEq, Int.reduceBNe, Nat.reduceBEq, List.append_nil, Int.toNat_zero, Nat.sub_self, frS])
  refine wcall_slice (refMagnitudeC F n h1 h2) rfl rfl ?_
  intro r hs
  have hgs := hs
  obtain ⟨a3, c3, z3, r3, x3, rfl, _⟩ := hs
  simp -implicitDefEqProofs only [evr, id, reduceCtorEq, reduceIte, Nat.reduceMul, Nat.reduceAdd, Nat.reduceLT, Nat.reduceLeDiff, Nat.reduceEqDiff, Int.reduceLT, Int.reduceBEq, Int.reduceBNe, Nat.reduceBEq, List.append_nil, Int.toNat_zero, Nat.sub_self, frS]
  refine wcall_slice (refMagnitudeC F d h3 h4) rfl rfl ?_
  intro r hs
  have hgs2 := hs
  obtain ⟨a5, c5, z5, r5, x5, rfl, _⟩ := hs
  simp -implicitDefEqProofs only [evr, id, reduceCtorEq, reduceIte, Nat.reduceMul, Nat.reduceAdd, Nat.reduceLT, Nat.reduceLeDiff, Nat.reduceEqDiff, Int.reduceLT, Int.reduceBEq, Int.reduceBNe, Nat.reduceBEq, List.append_nil, Int.toNat_zero, Nat.sub_self, frS]
  refine wcall_slice (refReducedC F (decide (n < 0) != decide (d < 0)) hgs hgs2 (natAbs_pw h1 h2) (natAbs_pw h3 h4) (by omega)) rfl rfl ?_
  rintro r ⟨sp, sq, rfl, hp, hq⟩
  have hp' := hp
  have hq' := hq
  obtain ⟨a6, c6, z6, r6, x6, rfl, _⟩ := hp
  obtain ⟨a7, c7, z7, r7, x7, rfl, _⟩ := hq
  simp -implicitDefEqProofs only [evr, id, reduceCtorEq, reduceIte, Nat.reduceMul, Nat.reduceAdd, Nat.reduceLT, Nat.reduceLeDiff, Nat.reduceEqDiff, Int.reduceLT, Int.reduceBEq, Int.reduceBNe, Nat.reduceBEq, List.append_nil, Int.toNat_zero, Nat.sub_self, frS]
  (refine hk _ ?_; clear hk k; try show Sat _ _ _ _ _)
  refine Sat.ret ?_
  simp only [Try.results18, evr, id, reduceCtorEq, reduceIte, Nat.reduceMul, Nat.reduceAdd, Nat.reduceLT, Nat.reduceLeDiff, Nat.reduceEqDiff, Int.reduceLT, Int.reduceBEq, Int.reduceBNe, Nat.reduceBEq, List.append_nil, Int.toNat_zero, Nat.sub_self, frS]
  exact ⟨_, rfl, _, _, rfl, hp', hq'⟩
end Go.Proofs.Ytagmohpafjncfaa

/- The reference's texts of small numbers, by the evaluator: Decimal, Text of one limb, and of a fraction. -/
set_option linter.unusedSimpArgs false
set_option linter.unusedVariables false
namespace Go.Proofs.Ytagmohpafjncfaa
open Eng Lmb Go.RowKit

/-- a number's digits -/
def decB (n : Nat) : ByteArray := if h : n < 10 then bytesOf [48 + (n : Int)] else decB (n / 10) ++ bytesOf [48 + ((n % 10 : Nat) : Int)]
theorem decB_small {n : Nat} (h : n < 10) : decB n = bytesOf [48 + (n : Int)] := by rw [decB, dif_pos h]
theorem decB_big {n : Nat} (h : ¬ n < 10) : decB n = decB (n / 10) ++ bytesOf [48 + ((n % 10 : Nat) : Int)] := by rw [decB, dif_neg h]
theorem bytesOf_one (z : Int) : (bytesOf [z]).size = 1 := rfl
theorem decB_size : ∀ (k n : Nat), n < 10 ^ (k + 1) → (decB n).size ≤ k + 1 ∧ 1 ≤ (decB n).size
  | 0, n, h => by
    rw [decB_small (by simpa using h), bytesOf_one]
    exact ⟨Nat.le_refl _, Nat.le_refl _⟩
  | k + 1, n, h => by
    by_cases h9 : n < 10
    · rw [decB_small h9, bytesOf_one]; omega
    · rw [decB_big h9, ByteArray.size_append, bytesOf_one]
      have := decB_size k (n / 10) (by
        rw [Nat.pow_succ] at h
        exact Nat.div_lt_of_lt_mul (by omega))
      omega

set_option maxRecDepth 100000 in
theorem refDecimalC (F : Frm) : ∀ (n : Nat), n < 9223372036854775808 → Contract F Try.prog 73 [.i .i64 n] (fun r => r = .v (.string (decB n))) := by
  intro n
  induction n using Nat.strongRecOn with
  | ind n ih =>
  intro hn
  refine contract_of Try.func73 rfl (by kernel_rfl) ?_
  simp only [Try.ntmps73, argEnv]
  have e1 : ((n : Int)).tmod 10 = ((n % 10 : Nat) : Int) := by rw [Int.tmod_eq_emod_of_nonneg (by omega)]; omega
  have e2 : IntKind.i64.wrap (48 + ((n % 10 : Nat) : Int)) = 48 + ((n % 10 : Nat) : Int) := w64 (by omega)
  have hw : ∀ z : Int, IntKind.u8.wrap z = z % 256 := fun z => by unfold IntKind.wrap; simp [IntKind.bits, IntKind.signed]
  have e3 : IntKind.u8.wrap (48 + ((n % 10 : Nat) : Int)) = 48 + ((n % 10 : Nat) : Int) := by rw [hw]; omega
  have e4 : IntKind.i64.wrap (((n : Int)).tdiv 10) = ((n / 10 : Nat) : Int) := by rw [Int.tdiv_eq_ediv_of_nonneg (by omega), w64 (by omega)]; omega
  (repeat refine Sat.seq ?_)
  (refine Sat.region_k fun k hk => ?_; simp -implicitDefEqProofs only [evr, id, reduceCtorEq, reduceIte, Nat.reduceMul, Nat.reduceAdd, Nat.reduceLT, Nat.reduceLeDiff, Nat.reduceEqDiff, Int.reduceLT, Int.reduceBEq, Int.reduceBNe, Nat.reduceBEq, List.append_nil, Int.toNat_zero, Nat.sub_self, frS]; refine hk _ ?_; clear hk k; try show Sat _ _ _ _ _)
  (repeat refine Sat.seq ?_)
  refine Sat.region_k fun k hk => ?_
  simp -implicitDefEqProofs only [evr, id, reduceCtorEq, reduceIte, Nat.reduceMul, Nat.reduceAdd, Nat.reduceLT, Nat.reduceLeDiff, Nat.reduceEqDiff, Int.reduceLT, Int.reduceBEq, Int.reduceBNe, Nat.reduceBEq, List.append_nil, Int.toNat_zero, Nat.sub_self, frS, e1, e2, e3]
  refine ⟨by decide, fun blk => ?_⟩
  refine ⟨fun i hi => by obtain rfl : i = 0 := by omega
                         exact ⟨_, rfl⟩, ?_⟩
  have e5 : Eng.intOf (rdL [SV.i .u8 (48 + ((n % 10 : Nat) : Int))] 1 0 0) = 48 + ((n % 10 : Nat) : Int) := rfl
  rw [e5]
  (refine hk _ ?_; clear hk k; try show Sat _ _ _ _ _)
  (repeat refine Sat.seq ?_)
  (refine Sat.region_k fun k hk => ?_; simp -implicitDefEqProofs only [evr, id, reduceCtorEq, reduceIte, Nat.reduceMul, Nat.reduceAdd, Nat.reduceLT, Nat.reduceLeDiff, Nat.reduceEqDiff, Int.reduceLT, Int.reduceBEq, Int.reduceBNe, Nat.reduceBEq, List.append_nil, Int.toNat_zero, Nat.sub_self, frS]; refine hk _ ?_; clear hk k; try show Sat _ _ _ _ _)
  refine Sat.cond_b rfl (fun h => ?_) (fun h => ?_)
  · have h10 : ¬ n < 10 := by have := of_decide_eq_true h; omega
    have hsz := decB_size 18 (n / 10) (by omega)
    (repeat refine Sat.seq ?_)
    refine Sat.region_k fun k hk => ?_
    simp -implicitDefEqProofs only [evr, id, reduceCtorEq, reduceIte, Nat.reduceMul, Nat.reduceAdd, Nat.reduceLT, Nat.reduceLeDiff, Nat.reduceEqDiff, Int.reduceLT, Int.reduceBEq, Int.reduceBNe, Nat.reduceBEq, List.append_nil, Int.toNat_zero, Nat.sub_self, frS, e4]
    refine ⟨by decide, ?_⟩
    refine wcall_plain (ih (n / 10) (by omega) (by omega)) rfl (by rintro _ rfl; exact ok_plain rfl) ?_
    rintro r rfl
    simp -implicitDefEqProofs only [evr, id, reduceCtorEq, reduceIte, Nat.reduceMul, Nat.reduceAdd, Nat.reduceLT, Nat.reduceLeDiff, Nat.reduceEqDiff, Int.reduceLT, Int.reduceBEq, Int.reduceBNe, Nat.reduceBEq, List.append_nil, Int.toNat_zero, Nat.sub_self, frS]
    rw [bytesOf_one, if_pos (by show _ ≤ (9223372036854775807 : Int); omega)]
    simp -implicitDefEqProofs only [evr, id, reduceCtorEq, reduceIte, Nat.reduceMul, Nat.reduceAdd, Nat.reduceLT, Nat.reduceLeDiff, Nat.reduceEqDiff, Int.reduceLT, Int.reduceBEq, Int.reduceBNe, Nat.reduceBEq, List.append_nil, Int.toNat_zero, Nat.sub_self, frS]
    (refine hk _ ?_; clear hk k; try show Sat _ _ _ _ _)
    refine Sat.ret ?_
    simp only [Try.results73, evr, id, reduceCtorEq, reduceIte, Nat.reduceMul, Nat.reduceAdd, Nat.reduceLT, Nat.reduceLeDiff, Nat.reduceEqDiff, Int.reduceLT, Int.reduceBEq, Int.reduceBNe, Nat.reduceBEq, List.append_nil, Int.toNat_zero, Nat.sub_self, frS]
    rw [decB_big h10]
  · have h10 : n < 10 := by have := of_decide_eq_false h; omega
    refine Sat.skip ?_
    simp only [thenK]
    (repeat refine Sat.seq ?_)
    (refine Sat.region_k fun k hk => ?_; simp -implicitDefEqProofs only [evr, id, reduceCtorEq, reduceIte, Nat.reduceMul, Nat.reduceAdd, Nat.reduceLT, Nat.reduceLeDiff, Nat.reduceEqDiff, Int.reduceLT, Int.reduceBEq, Int.reduceBNe, Nat.reduceBEq, List.append_nil, Int.toNat_zero, Nat.sub_self, frS]; refine hk _ ?_; clear hk k; try show Sat _ _ _ _ _)
    refine Sat.ret ?_
    simp only [Try.results73, evr, id, reduceCtorEq, reduceIte, Nat.reduceMul, Nat.reduceAdd, Nat.reduceLT, Nat.reduceLeDiff, Nat.reduceEqDiff, Int.reduceLT, Int.reduceBEq, Int.reduceBNe, Nat.reduceBEq, List.append_nil, Int.toNat_zero, Nat.sub_self, frS]
    rw [decB_small h10, Nat.mod_eq_of_lt h10]

theorem byteAt_app (a b : ByteArray) (h : 0 < a.size) : byteAt (a ++ b) 0 = byteAt a 0 := by
  unfold byteAt
  have h2 : 0 < (a ++ b).size := by rw [ByteArray.size_append]; omega
  rw [getElem?_pos (a ++ b) 0 h2, getElem?_pos a 0 h, ByteArray.getElem_append_left h]
theorem decB_first : ∀ (n : Nat), 0 < n → byteAt (decB n) 0 ≠ 48 := by
  intro n
  induction n using Nat.strongRecOn with
  | ind n ih =>
  intro h0
  by_cases h : n < 10
  · rw [decB_small h]
    have : n = 1 ∨ n = 2 ∨ n = 3 ∨ n = 4 ∨ n = 5 ∨ n = 6 ∨ n = 7 ∨ n = 8 ∨ n = 9 := by omega
    rcases this with rfl | rfl | rfl | rfl | rfl | rfl | rfl | rfl | rfl <;> decide
  · rw [decB_big h, byteAt_app _ _ (by have := (decB_size n (n / 10) (Nat.lt_of_le_of_lt (Nat.div_le_self _ _) (Nat.lt_trans (Nat.lt_succ_self n) (Nat.lt_pow_self (by decide))))).2; omega)]
    exact ih (n / 10) (by omega) (by omega)

/-- the text of a number of at most one limb -/
theorem app_empty (a : ByteArray) : a ++ ByteArray.empty = a := by simp

set_option maxRecDepth 100000 in
theorem refText1C (F : Frm) {s : SV} {n : Nat} (hs : Nats s n) (hn : n < 1073741824) : Contract F Try.prog 55 [s] (fun r => r = .v (.string (decB n))) := by
  obtain ⟨xs, hi1, d1⟩ := hs.ints
  have hlim := hi1
  have l1 := (d1.len_le 1).2 (by rw [pw_succ, pw_zero]; omega)
  obtain ⟨a1, c1, z1, r1, rfl, hz1, hr1⟩ := hi1
  refine contract_of Try.func55 rfl (by kernel_rfl) ?_
  simp only [Try.ntmps55, argEnv]
  have hx : xs.getD 0 0 = (n : Int) := by
    have hv := d1.val
    cases xs with
    | nil => rw [val_nil] at hv; rw [← hv]; rfl
    | cons x t =>
      have : t = [] := by
        cases t with
        | nil => rfl
        | cons y t => simp at l1
      subst this
      simpa [val_cons, val_nil] using hv
  have hl0 : ((xs.length : Int) == 0) = decide (n = 0) := by
    have := hs.len0
    exact this
  (repeat refine Sat.seq ?_)
  (refine Sat.region_k fun k hk => ?_; simp -implicitDefEqProofs only [evr, id, reduceCtorEq, reduceIte, Nat.reduceMul, Nat.reduceAdd, Nat.reduceLT, Nat.reduceLeDiff, Nat.reduceEqDiff, Int.reduceLT, Int.reduceBEq, Int.reduceBNe, Nat.reduceBEq, List.append_nil, Int.toNat_zero, Nat.sub_self, frS]; refine hk _ ?_; clear hk k; try show Sat _ _ _ _ _)
  (repeat refine Sat.seq ?_)
  (refine Sat.region_k fun k hk => ?_; simp -implicitDefEqProofs only [evr, id, reduceCtorEq, reduceIte, Nat.reduceMul, Nat.reduceAdd, Nat.reduceLT, Nat.reduceLeDiff, Nat.reduceEqDiff, Int.reduceLT, Int.reduceBEq, Int.reduceBNe, Nat.reduceBEq, List.append_nil, Int.toNat_zero, Nat.sub_self, frS]; refine hk _ ?_; clear hk k; try show Sat _ _ _ _ _)
  (repeat refine Sat.seq ?_)
  refine Sat.block ?_
  refine Sat.loop (ι := Unit) (fun _ => ⟨73, [(0, .sl a1 xs.length c1 z1 r1), (3, .v (.string ByteArray.empty))], []⟩) (fun _ => True) (fun _ => 0) () trivial (by simp -implicitDefEqProofs only [evr, id, reduceCtorEq, reduceIte, Nat.reduceMul, Nat.reduceAdd, Nat.reduceLT, Nat.reduceLeDiff, Nat.reduceEqDiff, Int.reduceLT, Int.reduceBEq, Int.reduceBNe, Nat.reduceBEq, List.append_nil, Int.toNat_zero, Nat.sub_self, frS, evl]; try rfl) ?_
  rintro _ _
  (repeat refine Sat.seq ?_)
  (refine Sat.region_k fun k hk => ?_; simp -implicitDefEqProofs only [evr, id, reduceCtorEq, reduceIte, Nat.reduceMul, Nat.reduceAdd, Nat.reduceLT, Nat.reduceLeDiff, Nat.reduceEqDiff, Int.reduceLT, Int.reduceBEq, Int.reduceBNe, Nat.reduceBEq, List.append_nil, Int.toNat_zero, Nat.sub_self, frS]; refine hk _ ?_; clear hk k; try show Sat _ _ _ _ _)
  (repeat refine Sat.seq ?_)
  refine Sat.cond_b rfl (fun h => ?_) (fun h => ?_)
  · have := of_decide_eq_true h; omega
  refine Sat.exit ?_
  simp only [thenK, blockK, reduceIte]
  (repeat refine Sat.seq ?_)
  (refine Sat.region_k fun k hk => ?_; simp -implicitDefEqProofs only [evr, id, reduceCtorEq, reduceIte, Nat.reduceMul, Nat.reduceAdd, Nat.reduceLT, Nat.reduceLeDiff, Nat.reduceEqDiff, Int.reduceLT, Int.reduceBEq, Int.reduceBNe, Nat.reduceBEq, List.append_nil, Int.toNat_zero, Nat.sub_self, frS])
  refine wcall_plain (refLimbC F hlim 0) rfl (by rintro _ rfl; exact ok_plain rfl) ?_
  rintro r rfl
  simp -implicitDefEqProofs only [evr, id, reduceCtorEq, reduceIte, Nat.reduceMul, Nat.reduceAdd, Nat.reduceLT, Nat.reduceLeDiff, Nat.reduceEqDiff, Int.reduceLT, Int.reduceBEq, Int.reduceBNe, Nat.reduceBEq, List.append_nil, Int.toNat_zero, Nat.sub_self, frS, hx]
  refine wcall_plain (refDecimalC F n (by omega)) rfl (by rintro _ rfl; exact ok_plain rfl) ?_
  rintro r rfl
  simp -implicitDefEqProofs only [evr, id, reduceCtorEq, reduceIte, Nat.reduceMul, Nat.reduceAdd, Nat.reduceLT, Nat.reduceLeDiff, Nat.reduceEqDiff, Int.reduceLT, Int.reduceBEq, Int.reduceBNe, Nat.reduceBEq, List.append_nil, Int.toNat_zero, Nat.sub_self, frS]
  (refine hk _ ?_; clear hk k; try show Sat _ _ _ _ _)
  (repeat refine Sat.seq ?_)
  refine Sat.region_at ⟨73, [(58, .b false), (9, .v (.string (decB n))), (0, .sl a1 xs.length c1 z1 r1), (3, .v (.string ByteArray.empty))], []⟩ (fun k hk => ?_) ?_
  · simp -implicitDefEqProofs only [evr, id, reduceCtorEq, reduceIte, Nat.reduceMul, Nat.reduceAdd, Nat.reduceLT, Nat.reduceLeDiff, Nat.reduceEqDiff, Int.reduceLT, Int.reduceBEq, Int.reduceBNe, Nat.reduceBEq, List.append_nil, Int.toNat_zero, Nat.sub_self, frS]
    have he : (!ByteArray.empty.toList == ByteArray.empty.toList) = false := by simp
    refine ⟨fun h => ?_, fun h => ?_⟩
    · refine hk _ ?_
      simp -implicitDefEqProofs only [evr, id, reduceCtorEq, reduceIte, Nat.reduceMul, Nat.reduceAdd, Nat.reduceLT, Nat.reduceLeDiff, Nat.reduceEqDiff, Int.reduceLT, Int.reduceBEq, Int.reduceBNe, Nat.reduceBEq, List.append_nil, Int.toNat_zero, Nat.sub_self, frS, evl]
      exact .inl he
    · refine hk _ ?_
      rw [h]
      simp -implicitDefEqProofs only [evr, id, reduceCtorEq, reduceIte, Nat.reduceMul, Nat.reduceAdd, Nat.reduceLT, Nat.reduceLeDiff, Nat.reduceEqDiff, Int.reduceLT, Int.reduceBEq, Int.reduceBNe, Nat.reduceBEq, List.append_nil, Int.toNat_zero, Nat.sub_self, frS, evl]
      try rfl
  simp only [thenK]
  refine Sat.cond_b rfl (fun h => by cases h) (fun h => ?_)
  refine Sat.skip ?_
  simp only [thenK]
  have hsz := decB_size 18 n (by omega)
  (repeat refine Sat.seq ?_)
  refine Sat.region_k fun k hk => ?_
  simp -implicitDefEqProofs only [evr, id, reduceCtorEq, reduceIte, Nat.reduceMul, Nat.reduceAdd, Nat.reduceLT, Nat.reduceLeDiff, Nat.reduceEqDiff, Int.reduceLT, Int.reduceBEq, Int.reduceBNe, Nat.reduceBEq, List.append_nil, Int.toNat_zero, Nat.sub_self, frS]
  rw [if_pos (by show ((_ + 0 : Nat) : Int) ≤ (9223372036854775807 : Int); omega), app_empty]
  simp -implicitDefEqProofs only [evr, id, reduceCtorEq, reduceIte, Nat.reduceMul, Nat.reduceAdd, Nat.reduceLT, Nat.reduceLeDiff, Nat.reduceEqDiff, Int.reduceLT, Int.reduceBEq, Int.reduceBNe, Nat.reduceBEq, List.append_nil, Int.toNat_zero, Nat.sub_self, frS]
  (refine hk _ ?_; clear hk k; try show Sat _ _ _ _ _)
  (repeat refine Sat.seq ?_)
  refine Sat.block ?_
  (repeat refine Sat.seq ?_)
  refine Sat.loop (ι := Unit) (fun _ => ⟨73, [(3, .v (.string (decB n)))], []⟩) (fun _ => True) (fun _ => 0) () trivial (by simp -implicitDefEqProofs only [evr, id, reduceCtorEq, reduceIte, Nat.reduceMul, Nat.reduceAdd, Nat.reduceLT, Nat.reduceLeDiff, Nat.reduceEqDiff, Int.reduceLT, Int.reduceBEq, Int.reduceBNe, Nat.reduceBEq, List.append_nil, Int.toNat_zero, Nat.sub_self, frS, evl]; try rfl) ?_
  rintro _ _
  (repeat refine Sat.seq ?_)
  refine Sat.region_at ⟨73, [(69, .b false), (3, .v (.string (decB n)))], []⟩ (fun k hk => ?_) ?_
  · simp -implicitDefEqProofs only [evr, id, reduceCtorEq, reduceIte, Nat.reduceMul, Nat.reduceAdd, Nat.reduceLT, Nat.reduceLeDiff, Nat.reduceEqDiff, Int.reduceLT, Int.reduceBEq, Int.reduceBNe, Nat.reduceBEq, List.append_nil, Int.toNat_zero, Nat.sub_self, frS]
    refine ⟨fun h => ?_, fun h => ?_⟩
    · have h0 : 0 < n := by
        rcases Nat.eq_zero_or_pos n with h9 | h9
        · subst h9
          rw [decB_small (by omega), bytesOf_one] at h
          omega
        · exact h9
      have hf : (byteAt (decB n) 0 == 48) = false := by
        rw [beq_eq_false_iff_ne]
        exact decB_first n h0
      refine ⟨by omega, ?_⟩
      refine hk _ ?_
      rw [hf]
      simp -implicitDefEqProofs only [evr, id, reduceCtorEq, reduceIte, Nat.reduceMul, Nat.reduceAdd, Nat.reduceLT, Nat.reduceLeDiff, Nat.reduceEqDiff, Int.reduceLT, Int.reduceBEq, Int.reduceBNe, Nat.reduceBEq, List.append_nil, Int.toNat_zero, Nat.sub_self, frS, evl]
      try rfl
    · refine hk _ ?_
      rw [decide_eq_false h]
      simp -implicitDefEqProofs only [evr, id, reduceCtorEq, reduceIte, Nat.reduceMul, Nat.reduceAdd, Nat.reduceLT, Nat.reduceLeDiff, Nat.reduceEqDiff, Int.reduceLT, Int.reduceBEq, Int.reduceBNe, Nat.reduceBEq, List.append_nil, Int.toNat_zero, Nat.sub_self, frS, evl]
      try rfl
  simp only [thenK]
  refine Sat.cond_b rfl (fun h => by cases h) (fun h => ?_)
  refine Sat.exit ?_
  simp only [thenK, blockK, reduceIte]
  (repeat refine Sat.seq ?_)
  (refine Sat.region_k fun k hk => ?_; simp -implicitDefEqProofs only [evr, id, reduceCtorEq, reduceIte, Nat.reduceMul, Nat.reduceAdd, Nat.reduceLT, Nat.reduceLeDiff, Nat.reduceEqDiff, Int.reduceLT, Int.reduceBEq, Int.reduceBNe, Nat.reduceBEq, List.append_nil, Int.toNat_zero, Nat.sub_self, frS]; refine hk _ ?_; clear hk k; try show Sat _ _ _ _ _)
  refine Sat.ret ?_
  simp only [Try.results55, evr, id, reduceCtorEq, reduceIte, Nat.reduceMul, Nat.reduceAdd, Nat.reduceLT, Nat.reduceLeDiff, Nat.reduceEqDiff, Int.reduceLT, Int.reduceBEq, Int.reduceBNe, Nat.reduceBEq, List.append_nil, Int.toNat_zero, Nat.sub_self, frS]

set_option maxRecDepth 100000 in
theorem refReduceC (F : Frm) (neg : Bool) {sp sq : SV} {p q : Nat} (hp : Nats sp p) (hq : Nats sq q) (h1 : (p : Int) < pw 256) (h2 : (q : Int) < pw 256) (h0 : 0 < q) : Contract F Try.prog 42 [frS neg sp sq] (fun r => FrS r (neg && decide (0 < p)) (p / Nat.gcd p q) (q / Nat.gcd p q)) := by
  have hp' := hp
  have hq' := hq
  obtain ⟨a1, c1, z1, r1, x1, rfl, _⟩ := hp
  obtain ⟨a2, c2, z2, r2, x2, rfl, _⟩ := hq
  refine contract_of Try.func42 rfl (by kernel_rfl) ?_
  simp only [Try.ntmps42, argEnv, frS]
  (repeat refine Sat.seq ?_)
  (refine Sat.region_k fun k hk => ?_; simp -implicitDefEqProofs only [evr, id, reduceCtorEq, reduceIte, Nat.reduceMul, Nat.reduceAdd, Nat.reduceLT, Nat.reduceLeDiff, Nat.reduceEqDiff, Int.reduceLT, Int.reduceBEq, Int.reduceBNe, Nat.reduceBEq, List.append_nil, Int.toNat_zero, Nat.sub_self, frS])
  intro b1 b2
  (refine hk _ ?_; clear hk k; try show Sat _ _ _ _ _)
  (repeat refine Sat.seq ?_)
  (refine Sat.region_k fun k hk => ?_; simp -implicitDefEqProofs only [evr, id, reduceCtorEq, reduceIte, Nat.reduceMul, Nat.reduceAdd, Nat.reduceLT, Nat.reduceLeDiff, Nat.reduceEqDiff, Int.reduceLT, Int.reduceBEq, Int.reduceBNe, Nat.reduceBEq, List.append_nil, Int.toNat_zero, Nat.sub_self, frS])
  refine wcall_slice (refReducedC F neg hp' hq' h1 h2 h0) rfl (by simp -implicitDefEqProofs only [evr, id, reduceCtorEq, reduceIte, Nat.reduceMul, Nat.reduceAdd, Nat.reduceLT, Nat.reduceLeDiff, Nat.reduceEqDiff, Int.reduceLT, Int.reduceBEq, Int.reduceBNe, Nat.reduceBEq, List.append_nil, Int.toNat_zero, Nat.sub_self, frS]; try rfl) ?_
  rintro r ⟨sp3, sq3, rfl, h3, h4⟩
  have h3' := h3
  have h4' := h4
  obtain ⟨a3, c3, z3, r3, x3, rfl, _⟩ := h3
  obtain ⟨a4, c4, z4, r4, x4, rfl, _⟩ := h4
  simp only [frS, evr, id, reduceCtorEq, reduceIte, Nat.reduceMul, Nat.reduceAdd, Nat.reduceLT, Nat.reduceLeDiff, Nat.reduceEqDiff, Int.reduceLT, Int.reduceBEq, Int.reduceBNe, Nat.reduceBEq, List.append_nil, Int.toNat_zero, Nat.sub_self, frS]
  (refine hk _ ?_; clear hk k; try show Sat _ _ _ _ _)
  refine Sat.ret ?_
  simp only [Try.results42, evr, id, reduceCtorEq, reduceIte, Nat.reduceMul, Nat.reduceAdd, Nat.reduceLT, Nat.reduceLeDiff, Nat.reduceEqDiff, Int.reduceLT, Int.reduceBEq, Int.reduceBNe, Nat.reduceBEq, List.append_nil, Int.toNat_zero, Nat.sub_self, frS]
  exact ⟨_, _, rfl, h3', h4'⟩

/-- the text of a fraction from 0 on, of one limb each, reduced and no whole number -/
def frB (p q : Nat) : ByteArray := decB p ++ (bytesOf [47] ++ decB q)
set_option maxRecDepth 100000 in
theorem refText3C (F : Frm) {sp sq : SV} {p q : Nat} (hp : Nats sp p) (hq : Nats sq q) (h1 : p < 1073741824) (h2 : q < 1073741824) (h0 : 1 < q) (hg : Nat.gcd p q = 1) : Contract F Try.prog 28 [frS false sp sq] (fun r => r = .v (.string (frB p q))) := by
  have hp' := hp
  have hq' := hq
  obtain ⟨a1, c1, z1, r1, x1, rfl, _⟩ := hp
  obtain ⟨a2, c2, z2, r2, x2, rfl, _⟩ := hq
  refine contract_of Try.func28 rfl (by kernel_rfl) ?_
  simp only [Try.ntmps28, argEnv, frS]
  (repeat refine Sat.seq ?_)
  (refine Sat.region_k fun k hk => ?_; simp -implicitDefEqProofs only [evr, id, reduceCtorEq, reduceIte, Nat.reduceMul, Nat.reduceAdd, Nat.reduceLT, Nat.reduceLeDiff, Nat.reduceEqDiff, Int.reduceLT, Int.reduceBEq, Int.reduceBNe, Nat.reduceBEq, List.append_nil, Int.toNat_zero, Nat.sub_self, frS])
  intro b1
  (refine hk _ ?_; clear hk k; try show Sat _ _ _ _ _)
  (repeat refine Sat.seq ?_)
  (refine Sat.region_k fun k hk => ?_; simp -implicitDefEqProofs only [evr, id, reduceCtorEq, reduceIte, Nat.reduceMul, Nat.reduceAdd, Nat.reduceLT, Nat.reduceLeDiff, Nat.reduceEqDiff, Int.reduceLT, Int.reduceBEq, Int.reduceBNe, Nat.reduceBEq, List.append_nil, Int.toNat_zero, Nat.sub_self, frS])
  refine wcall_slice (refReduceC F false hp' hq' (lt_pw (a := 30) (Nat.le_of_lt h1) (by decide)) (lt_pw (a := 30) (Nat.le_of_lt h2) (by decide)) (by omega)) rfl (by simp only [frS, evr, id, reduceCtorEq, reduceIte, Nat.reduceMul, Nat.reduceAdd, Nat.reduceLT, Nat.reduceLeDiff, Nat.reduceEqDiff, Int.reduceLT, Int.reduceBEq, Int.reduceBNe, Nat.reduceBEq, List.append_nil, Int.toNat_zero, Nat.sub_self, frS]; try rfl) ?_
  rintro r ⟨sp3, sq3, rfl, h3, h4⟩
  rw [hg, Nat.div_one] at h3 h4
  have h3' := h3
  have h4' := h4
  obtain ⟨xs4, hi4, d4⟩ := h4.ints
  have hl1 := (d4.len_le 1).2 (by rw [pw_succ, pw_zero]; omega)
  have hl0 : 0 < xs4.length := by
    have := d4.len_zero
    omega
  have hx : xs4.getD 0 0 = (q : Int) := by
    have hv := d4.val
    cases xs4 with
    | nil => simp at hl0
    | cons x t =>
      have : t = [] := by
        cases t with
        | nil => rfl
        | cons y t => simp at hl1
      subst this
      simpa [val_cons, val_nil] using hv
  obtain ⟨a3, c3, z3, r3, x3, rfl, _⟩ := h3
  obtain ⟨a4, c4, z4, r4, rfl, hz4, hr4⟩ := hi4
  have hsz : z4 = 1 := by
    rcases hz4 with hz | hz
    · omega
    · exact hz
  subst hsz
  have hg4 := hr4 0 hl0
  simp only [frS, evr, id, reduceCtorEq, reduceIte, Nat.reduceMul, Nat.reduceAdd, Nat.reduceLT, Nat.reduceLeDiff, Nat.reduceEqDiff, Int.reduceLT, Int.reduceBEq, Int.reduceBNe, Nat.reduceBEq, List.append_nil, Int.toNat_zero, Nat.sub_self, frS, Bool.false_and]
  (refine hk _ ?_; clear hk k; try show Sat _ _ _ _ _)
  (repeat refine Sat.seq ?_)
  (refine Sat.region_k fun k hk => ?_; simp -implicitDefEqProofs only [evr, id, reduceCtorEq, reduceIte, Nat.reduceMul, Nat.reduceAdd, Nat.reduceLT, Nat.reduceLeDiff, Nat.reduceEqDiff, Int.reduceLT, Int.reduceBEq, Int.reduceBNe, Nat.reduceBEq, List.append_nil, Int.toNat_zero, Nat.sub_self, frS])
  refine wcall_plain (refText1C F h3' h1) (by simp -implicitDefEqProofs only [evr, id, reduceCtorEq, reduceIte, Nat.reduceMul, Nat.reduceAdd, Nat.reduceLT, Nat.reduceLeDiff, Nat.reduceEqDiff, Int.reduceLT, Int.reduceBEq, Int.reduceBNe, Nat.reduceBEq, List.append_nil, Int.toNat_zero, Nat.sub_self, frS]; try rfl) (by rintro _ rfl; exact ok_plain rfl) ?_
  rintro r rfl
  simp -implicitDefEqProofs only [evr, id, reduceCtorEq, reduceIte, Nat.reduceMul, Nat.reduceAdd, Nat.reduceLT, Nat.reduceLeDiff, Nat.reduceEqDiff, Int.reduceLT, Int.reduceBEq, Int.reduceBNe, Nat.reduceBEq, List.append_nil, Int.toNat_zero, Nat.sub_self, frS]
  (refine hk _ ?_; clear hk k; try show Sat _ _ _ _ _)
  (repeat refine Sat.seq ?_)
  (refine Sat.region_k fun k hk => ?_; simp -implicitDefEqProofs only [evr, id, reduceCtorEq, reduceIte, Nat.reduceMul, Nat.reduceAdd, Nat.reduceLT, Nat.reduceLeDiff, Nat.reduceEqDiff, Int.reduceLT, Int.reduceBEq, Int.reduceBNe, Nat.reduceBEq, List.append_nil, Int.toNat_zero, Nat.sub_self, frS]; refine hk _ ?_; clear hk k; try show Sat _ _ _ _ _)
  refine Sat.cond_b rfl (fun h => by cases h) (fun h => ?_)
  refine Sat.skip ?_
  simp only [thenK]
  (repeat refine Sat.seq ?_)
  refine Sat.region_at ⟨31, [(23, .b true), (3, .v (.string (decB p))), (1, .op 0 b1 0)], [.box b1 30 [.b false, .sl a3 x3.length c3 z3 r3, .sl a4 xs4.length c4 1 r4]]⟩ (fun k hk => ?_) ?_
  · simp -implicitDefEqProofs only [evr, id, reduceCtorEq, reduceIte, Nat.reduceMul, Nat.reduceAdd, Nat.reduceLT, Nat.reduceLeDiff, Nat.reduceEqDiff, Int.reduceLT, Int.reduceBEq, Int.reduceBNe, Nat.reduceBEq, List.append_nil, Int.toNat_zero, Nat.sub_self, frS]
    refine ⟨fun h => by omega, fun h => ?_⟩
    refine ⟨by omega, ?_⟩
    rw [hg4, hx]
    simp -implicitDefEqProofs only [evr, id, reduceCtorEq, reduceIte, Nat.reduceMul, Nat.reduceAdd, Nat.reduceLT, Nat.reduceLeDiff, Nat.reduceEqDiff, Int.reduceLT, Int.reduceBEq, Int.reduceBNe, Nat.reduceBEq, List.append_nil, Int.toNat_zero, Nat.sub_self, frS]
    refine hk _ ?_
    have e : (((q : Nat) : Int) != 1) = true := by rw [bne_iff_ne]; omega
    rw [e]
    simp -implicitDefEqProofs only [evr, id, reduceCtorEq, reduceIte, Nat.reduceMul, Nat.reduceAdd, Nat.reduceLT, Nat.reduceLeDiff, Nat.reduceEqDiff, Int.reduceLT, Int.reduceBEq, Int.reduceBNe, Nat.reduceBEq, List.append_nil, Int.toNat_zero, Nat.sub_self, frS, evl]
    try rfl
  simp only [thenK]
  refine Sat.cond_b rfl (fun h => ?_) (fun h => by cases h)
  have s1 := decB_size 18 p (by omega)
  have s2 := decB_size 18 q (by omega)
  (repeat refine Sat.seq ?_)
  (refine Sat.region_k fun k hk => ?_; simp -implicitDefEqProofs only [evr, id, reduceCtorEq, reduceIte, Nat.reduceMul, Nat.reduceAdd, Nat.reduceLT, Nat.reduceLeDiff, Nat.reduceEqDiff, Int.reduceLT, Int.reduceBEq, Int.reduceBNe, Nat.reduceBEq, List.append_nil, Int.toNat_zero, Nat.sub_self, frS])
  refine wcall_plain (refText1C F h4' h2) (by simp -implicitDefEqProofs only [evr, id, reduceCtorEq, reduceIte, Nat.reduceMul, Nat.reduceAdd, Nat.reduceLT, Nat.reduceLeDiff, Nat.reduceEqDiff, Int.reduceLT, Int.reduceBEq, Int.reduceBNe, Nat.reduceBEq, List.append_nil, Int.toNat_zero, Nat.sub_self, frS]; try rfl) (by rintro _ rfl; exact ok_plain rfl) ?_
  rintro r rfl
  simp -implicitDefEqProofs only [evr, id, reduceCtorEq, reduceIte, Nat.reduceMul, Nat.reduceAdd, Nat.reduceLT, Nat.reduceLeDiff, Nat.reduceEqDiff, Int.reduceLT, Int.reduceBEq, Int.reduceBNe, Nat.reduceBEq, List.append_nil, Int.toNat_zero, Nat.sub_self, frS]
  have e47 : (⟨#[47]⟩ : ByteArray) = bytesOf [47] := rfl
  rw [e47, bytesOf_one, if_pos (by show _ ≤ (9223372036854775807 : Int); omega)]
  simp -implicitDefEqProofs only [evr, id, reduceCtorEq, reduceIte, Nat.reduceMul, Nat.reduceAdd, Nat.reduceLT, Nat.reduceLeDiff, Nat.reduceEqDiff, Int.reduceLT, Int.reduceBEq, Int.reduceBNe, Nat.reduceBEq, List.append_nil, Int.toNat_zero, Nat.sub_self, frS]
  rw [ByteArray.size_append, bytesOf_one, if_pos (by show _ ≤ (9223372036854775807 : Int); omega)]
  simp -implicitDefEqProofs only [evr, id, reduceCtorEq, reduceIte, Nat.reduceMul, Nat.reduceAdd, Nat.reduceLT, Nat.reduceLeDiff, Nat.reduceEqDiff, Int.reduceLT, Int.reduceBEq, Int.reduceBNe, Nat.reduceBEq, List.append_nil, Int.toNat_zero, Nat.sub_self, frS]
  (refine hk _ ?_; clear hk k; try show Sat _ _ _ _ _)
  (repeat refine Sat.seq ?_)
  (refine Sat.region_k fun k hk => ?_; simp -implicitDefEqProofs only [evr, id, reduceCtorEq, reduceIte, Nat.reduceMul, Nat.reduceAdd, Nat.reduceLT, Nat.reduceLeDiff, Nat.reduceEqDiff, Int.reduceLT, Int.reduceBEq, Int.reduceBNe, Nat.reduceBEq, List.append_nil, Int.toNat_zero, Nat.sub_self, frS]; refine hk _ ?_; clear hk k; try show Sat _ _ _ _ _)
  refine Sat.ret ?_
  simp only [Try.results28, evr, id, reduceCtorEq, reduceIte, Nat.reduceMul, Nat.reduceAdd, Nat.reduceLT, Nat.reduceLeDiff, Nat.reduceEqDiff, Int.reduceLT, Int.reduceBEq, Int.reduceBNe, Nat.reduceBEq, List.append_nil, Int.toNat_zero, Nat.sub_self, frS]
  try rfl
end Go.Proofs.Ytagmohpafjncfaa

/- Fractions, by the evaluator: package fraction's Compare; package stopping's below, chance, power. -/
set_option linter.unusedSimpArgs false
set_option linter.unusedVariables false
namespace Go.Proofs.Ytagmohpafjncfaa
open Eng Lmb

/-- the order of two fractions -/
def cmpV (na : Bool) (p q : Nat) (nb : Bool) (r s : Nat) : Int :=
  if (sumV na (p * s) (!nb) (r * q)).2 = 0 then 0 else if (sumV na (p * s) (!nb) (r * q)).1 = true then -1 else 1
theorem cmpV_pos (p q r s : Nat) : cmpV false p q false r s = cmpI (p * s : Nat) (r * q : Nat) := by
  unfold cmpV sumV
  simp only [Bool.not_false, Bool.false_eq_true, if_false]
  by_cases h : p * s < r * q
  · rw [if_pos h, cmpI_lt (by omega)]
    have : ¬ r * q - p * s = 0 := by omega
    simp [this]
  · rw [if_neg h]
    by_cases h2 : r * q < p * s
    · rw [cmpI_gt (by omega)]
      have : ¬ p * s - r * q = 0 := by omega
      simp [this]
    · rw [cmpI_eq (by omega)]
      have : p * s - r * q = 0 := by omega
      simp [this]

theorem Nats.zero {a : Option Addr} {len cap sz n : Nat} {rd : Nat → Nat → SV} (h : Nats (.sl a len cap sz rd) n) : ((len : Int) == 0) = decide (n = 0) := by
  have := h.len
  by_cases h0 : n = 0
  · rw [decide_eq_true h0]
    have : ¬ 0 < (len : Int) := by rw [this]; omega
    have : (len : Int) = 0 := by omega
    rw [this]; rfl
  · rw [decide_eq_false h0, beq_eq_false_iff_ne]
    have : 0 < (len : Int) := by rw [this]; omega
    omega

set_option maxRecDepth 100000 in
theorem fractionCompareC (F : Frm) (na nb : Bool) {sp sq sr ss : SV} {p q r s : Nat} (hp : Nats sp p) (hq : Nats sq q) (hr : Nats sr r) (hs : Nats ss s)
    (b1 : (p : Int) < pw 256) (b2 : (q : Int) < pw 256) (b3 : (r : Int) < pw 256) (b4 : (s : Int) < pw 256) (b5 : ((p * s : Nat) : Int) < pw 256) (b6 : ((r * q : Nat) : Int) < pw 256) (b7 : ((p * s + r * q : Nat) : Int) < pw 256) :
    Contract F Try.prog 14 [frS na sp sq, frS nb sr ss] (fun x => x = tupL [.i .i64 (cmpV na p q nb r s), .i .i64 0]) := by
  have hp' := hp
  have hq' := hq
  have hr' := hr
  have hs' := hs
  obtain ⟨a1, c1, z1, r1, x1, rfl, _⟩ := hp
  obtain ⟨a2, c2, z2, r2, x2, rfl, _⟩ := hq
  obtain ⟨a3, c3, z3, r3, x3, rfl, _⟩ := hr
  obtain ⟨a4, c4, z4, r4, x4, rfl, _⟩ := hs
  refine contract_of Try.func14 rfl (by kernel_rfl) ?_
  simp only [Try.ntmps14, argEnv, frS]
  (repeat refine Sat.seq ?_)
  (refine Sat.region_k fun k hk => ?_; simp -implicitDefEqProofs only [evr, id, reduceCtorEq, reduceIte, Nat.reduceMul, Nat.reduceAdd, Nat.reduceLT, Nat.reduceLeDiff, Nat.reduceEqDiff, Int.reduceLT, Int.reduceBEq, Int.reduceBNe, Nat.reduceBEq, List.append_nil, Int.toNat_zero, Nat.sub_self, frS])
  intro k1 k2
  (refine hk _ ?_; clear hk k; try show Sat _ _ _ _ _)
  (repeat refine Sat.seq ?_)
  (refine Sat.region_rows [⟨0, 10, 4, 0⟩, ⟨1, 11, 512, 1⟩, ⟨0, 12, 4, 0⟩, ⟨4, 13, 2048, 1⟩, ⟨0, 14, 8, 0⟩, ⟨16, 15, 8192, 1⟩, ⟨40, 16, 20480, 2⟩, ⟨0, 17, 8, 0⟩, ⟨128, 18, 65536, 1⟩, ⟨256, 19, 131072, 0⟩, ⟨0, 20, 8, 0⟩, ⟨1024, 21, 524288, 1⟩, ⟨0, 22, 4, 0⟩, ⟨4096, 23, 2097152, 1⟩, ⟨10304, 24, 5242880, 2⟩, ⟨16962, 25, 8684544, 2⟩, ⟨32768, 9, 16777216, 0⟩, ⟨65536, 26, 256, 0⟩, ⟨65536, 27, 256, 0⟩, ⟨262143, 7, 33554432, 0⟩, ⟨1048575, 8, 67108864, 0⟩] [0, 2, 4, 7, 10, 12, 1, 3, 5, 8, 11, 13, 9] [(6, false), (14, false), (15, false), (16, false), (17, true), (18, true), (19, false), (20, false)] [6, 14] (by kernel_rfl) (by kernel_rfl) (fun _ _ h => h) fun k hk => ?_; simp only [List.map_cons, List.map_nil, List.getD_cons_zero, List.getD_cons_succ, btseq_cons, btseq_free, btseq_nil]; simp -implicitDefEqProofs only [evr, id, reduceCtorEq, reduceIte, Nat.reduceMul, Nat.reduceAdd, Nat.reduceLT, Nat.reduceLeDiff, Nat.reduceEqDiff, Int.reduceLT, Int.reduceBEq, Int.reduceBNe, Nat.reduceBEq, List.append_nil, Int.toNat_zero, Nat.sub_self, frS])
  refine wcall_slice (fractionProductC F hp' hs' b1 b4 b5) rfl (by simp -implicitDefEqProofs only [evr, id, reduceCtorEq, reduceIte, Nat.reduceMul, Nat.reduceAdd, Nat.reduceLT, Nat.reduceLeDiff, Nat.reduceEqDiff, Int.reduceLT, Int.reduceBEq, Int.reduceBNe, Nat.reduceBEq, List.append_nil, Int.toNat_zero, Nat.sub_self, frS]; try rfl) ?_
  intro y hy
  have hy1 := hy
  obtain ⟨a5, c5, z5, r5, x5, rfl, _⟩ := hy
  simp -implicitDefEqProofs only [evr, id, reduceCtorEq, reduceIte, Nat.reduceMul, Nat.reduceAdd, Nat.reduceLT, Nat.reduceLeDiff, Nat.reduceEqDiff, Int.reduceLT, Int.reduceBEq, Int.reduceBNe, Nat.reduceBEq, List.append_nil, Int.toNat_zero, Nat.sub_self, frS]
  refine wcall_slice (fractionProductC F hr' hq' b3 b2 b6) rfl (by simp -implicitDefEqProofs only [evr, id, reduceCtorEq, reduceIte, Nat.reduceMul, Nat.reduceAdd, Nat.reduceLT, Nat.reduceLeDiff, Nat.reduceEqDiff, Int.reduceLT, Int.reduceBEq, Int.reduceBNe, Nat.reduceBEq, List.append_nil, Int.toNat_zero, Nat.sub_self, frS]; try rfl) ?_
  intro y hy
  have hy2 := hy
  obtain ⟨a6, c6, z6, r6, x6, rfl, _⟩ := hy
  simp -implicitDefEqProofs only [evr, id, reduceCtorEq, reduceIte, Nat.reduceMul, Nat.reduceAdd, Nat.reduceLT, Nat.reduceLeDiff, Nat.reduceEqDiff, Int.reduceLT, Int.reduceBEq, Int.reduceBNe, Nat.reduceBEq, List.append_nil, Int.toNat_zero, Nat.sub_self, frS]
  refine wcall_slice (fractionSumC F na (!nb) hy1 hy2 b5 b6 b7) rfl (by simp -implicitDefEqProofs only [evr, id, reduceCtorEq, reduceIte, Nat.reduceMul, Nat.reduceAdd, Nat.reduceLT, Nat.reduceLeDiff, Nat.reduceEqDiff, Int.reduceLT, Int.reduceBEq, Int.reduceBNe, Nat.reduceBEq, List.append_nil, Int.toNat_zero, Nat.sub_self, frS]; try rfl) ?_
  rintro y ⟨sv, rfl, hy⟩
  have hy3 := hy
  obtain ⟨a7, c7, z7, r7, x7, rfl, _⟩ := hy
  have hz := hy3.zero
  simp -implicitDefEqProofs only [evr, id, reduceCtorEq, reduceIte, Nat.reduceMul, Nat.reduceAdd, Nat.reduceLT, Nat.reduceLeDiff, Nat.reduceEqDiff, Int.reduceLT, Int.reduceBEq, Int.reduceBNe, Nat.reduceBEq, List.append_nil, Int.toNat_zero, Nat.sub_self, frS]
  (refine hk _ ?_; clear hk k; try show Sat _ _ _ _ _)
  (repeat refine Sat.seq ?_)
  refine Sat.block ?_
  (repeat refine Sat.seq ?_)
  (refine Sat.region_k fun k hk => ?_; simp -implicitDefEqProofs only [evr, id, reduceCtorEq, reduceIte, Nat.reduceMul, Nat.reduceAdd, Nat.reduceLT, Nat.reduceLeDiff, Nat.reduceEqDiff, Int.reduceLT, Int.reduceBEq, Int.reduceBNe, Nat.reduceBEq, List.append_nil, Int.toNat_zero, Nat.sub_self, frS]; refine hk _ ?_; clear hk k; try show Sat _ _ _ _ _)
  refine Sat.cond_b rfl (fun h => ?_) (fun h => ?_)
  · rw [hz] at h
    have h0 := of_decide_eq_true h
    (repeat refine Sat.seq ?_)
    (refine Sat.region_k fun k hk => ?_; simp -implicitDefEqProofs only [evr, id, reduceCtorEq, reduceIte, Nat.reduceMul, Nat.reduceAdd, Nat.reduceLT, Nat.reduceLeDiff, Nat.reduceEqDiff, Int.reduceLT, Int.reduceBEq, Int.reduceBNe, Nat.reduceBEq, List.append_nil, Int.toNat_zero, Nat.sub_self, frS]; refine hk _ ?_; clear hk k; try show Sat _ _ _ _ _)
    refine Sat.ret ?_
    simp only [thenK, blockK, Try.results14, evr, id, reduceCtorEq, reduceIte, Nat.reduceMul, Nat.reduceAdd, Nat.reduceLT, Nat.reduceLeDiff, Nat.reduceEqDiff, Int.reduceLT, Int.reduceBEq, Int.reduceBNe, Nat.reduceBEq, List.append_nil, Int.toNat_zero, Nat.sub_self, frS]
    unfold cmpV
    rw [if_pos h0]
  · rw [hz] at h
    have h0 := of_decide_eq_false h
    (repeat refine Sat.seq ?_)
    (refine Sat.region_k fun k hk => ?_; simp -implicitDefEqProofs only [evr, id, reduceCtorEq, reduceIte, Nat.reduceMul, Nat.reduceAdd, Nat.reduceLT, Nat.reduceLeDiff, Nat.reduceEqDiff, Int.reduceLT, Int.reduceBEq, Int.reduceBNe, Nat.reduceBEq, List.append_nil, Int.toNat_zero, Nat.sub_self, frS]; refine hk _ ?_; clear hk k; try show Sat _ _ _ _ _)
    refine Sat.cond_b rfl (fun h2 => ?_) (fun h2 => ?_)
    · (repeat refine Sat.seq ?_)
      (refine Sat.region_k fun k hk => ?_; simp -implicitDefEqProofs only [evr, id, reduceCtorEq, reduceIte, Nat.reduceMul, Nat.reduceAdd, Nat.reduceLT, Nat.reduceLeDiff, Nat.reduceEqDiff, Int.reduceLT, Int.reduceBEq, Int.reduceBNe, Nat.reduceBEq, List.append_nil, Int.toNat_zero, Nat.sub_self, frS]; refine hk _ ?_; clear hk k; try show Sat _ _ _ _ _)
      refine Sat.ret ?_
      simp only [thenK, blockK, Try.results14, evr, id, reduceCtorEq, reduceIte, Nat.reduceMul, Nat.reduceAdd, Nat.reduceLT, Nat.reduceLeDiff, Nat.reduceEqDiff, Int.reduceLT, Int.reduceBEq, Int.reduceBNe, Nat.reduceBEq, List.append_nil, Int.toNat_zero, Nat.sub_self, frS]
      unfold cmpV
      rw [if_neg h0, if_pos h2]
    · refine Sat.skip ?_
      simp only [thenK, blockK]
      (repeat refine Sat.seq ?_)
      (refine Sat.region_k fun k hk => ?_; simp -implicitDefEqProofs only [evr, id, reduceCtorEq, reduceIte, Nat.reduceMul, Nat.reduceAdd, Nat.reduceLT, Nat.reduceLeDiff, Nat.reduceEqDiff, Int.reduceLT, Int.reduceBEq, Int.reduceBNe, Nat.reduceBEq, List.append_nil, Int.toNat_zero, Nat.sub_self, frS]; refine hk _ ?_; clear hk k; try show Sat _ _ _ _ _)
      refine Sat.ret ?_
      simp only [Try.results14, evr, id, reduceCtorEq, reduceIte, Nat.reduceMul, Nat.reduceAdd, Nat.reduceLT, Nat.reduceLeDiff, Nat.reduceEqDiff, Int.reduceLT, Int.reduceBEq, Int.reduceBNe, Nat.reduceBEq, List.append_nil, Int.toNat_zero, Nat.sub_self, frS]
      unfold cmpV
      rw [if_neg h0, if_neg (by simpa using h2)]

set_option maxRecDepth 100000 in
theorem stBelowC (F : Frm) (na nb : Bool) {sp sq sr ss : SV} {p q r s : Nat} (hp : Nats sp p) (hq : Nats sq q) (hr : Nats sr r) (hs : Nats ss s)
    (b1 : (p : Int) < pw 256) (b2 : (q : Int) < pw 256) (b3 : (r : Int) < pw 256) (b4 : (s : Int) < pw 256) (b5 : ((p * s : Nat) : Int) < pw 256) (b6 : ((r * q : Nat) : Int) < pw 256) (b7 : ((p * s + r * q : Nat) : Int) < pw 256) :
    Contract F Try.prog 30 [frS na sp sq, frS nb sr ss] (fun x => x = .b (decide (cmpV na p q nb r s < 0))) := by
  have hp' := hp
  have hq' := hq
  have hr' := hr
  have hs' := hs
  obtain ⟨a1, c1, z1, r1, x1, rfl, _⟩ := hp
  obtain ⟨a2, c2, z2, r2, x2, rfl, _⟩ := hq
  obtain ⟨a3, c3, z3, r3, x3, rfl, _⟩ := hr
  obtain ⟨a4, c4, z4, r4, x4, rfl, _⟩ := hs
  refine contract_of Try.func30 rfl (by kernel_rfl) ?_
  simp only [Try.ntmps30, argEnv, frS]
  (repeat refine Sat.seq ?_)
  (refine Sat.region_k fun k hk => ?_; simp -implicitDefEqProofs only [evr, id, reduceCtorEq, reduceIte, Nat.reduceMul, Nat.reduceAdd, Nat.reduceLT, Nat.reduceLeDiff, Nat.reduceEqDiff, Int.reduceLT, Int.reduceBEq, Int.reduceBNe, Nat.reduceBEq, List.append_nil, Int.toNat_zero, Nat.sub_self, frS])
  intro k1 k2
  (refine hk _ ?_; clear hk k; try show Sat _ _ _ _ _)
  (repeat refine Sat.seq ?_)
  (refine Sat.region_k fun k hk => ?_; simp -implicitDefEqProofs only [evr, id, reduceCtorEq, reduceIte, Nat.reduceMul, Nat.reduceAdd, Nat.reduceLT, Nat.reduceLeDiff, Nat.reduceEqDiff, Int.reduceLT, Int.reduceBEq, Int.reduceBNe, Nat.reduceBEq, List.append_nil, Int.toNat_zero, Nat.sub_self, frS])
  refine wcall_plain (fractionCompareC F na nb hp' hq' hr' hs' b1 b2 b3 b4 b5 b6 b7) (by simp -implicitDefEqProofs only [evr, id, reduceCtorEq, reduceIte, Nat.reduceMul, Nat.reduceAdd, Nat.reduceLT, Nat.reduceLeDiff, Nat.reduceEqDiff, Int.reduceLT, Int.reduceBEq, Int.reduceBNe, Nat.reduceBEq, List.append_nil, Int.toNat_zero, Nat.sub_self, frS]; try rfl) (by rintro _ rfl; exact ok_tupL rfl) ?_
  rintro y rfl
  simp -implicitDefEqProofs only [evr, id, reduceCtorEq, reduceIte, Nat.reduceMul, Nat.reduceAdd, Nat.reduceLT, Nat.reduceLeDiff, Nat.reduceEqDiff, Int.reduceLT, Int.reduceBEq, Int.reduceBNe, Nat.reduceBEq, List.append_nil, Int.toNat_zero, Nat.sub_self, frS]
  (refine hk _ ?_; clear hk k; try show Sat _ _ _ _ _)
  (repeat refine Sat.seq ?_)
  (refine Sat.region_k fun k hk => ?_; simp -implicitDefEqProofs only [evr, id, reduceCtorEq, reduceIte, Nat.reduceMul, Nat.reduceAdd, Nat.reduceLT, Nat.reduceLeDiff, Nat.reduceEqDiff, Int.reduceLT, Int.reduceBEq, Int.reduceBNe, Nat.reduceBEq, List.append_nil, Int.toNat_zero, Nat.sub_self, frS]; refine hk _ ?_; clear hk k; try show Sat _ _ _ _ _)
  refine Sat.ret ?_
  simp only [Try.results30, evr, id, reduceCtorEq, reduceIte, Nat.reduceMul, Nat.reduceAdd, Nat.reduceLT, Nat.reduceLeDiff, Nat.reduceEqDiff, Int.reduceLT, Int.reduceBEq, Int.reduceBNe, Nat.reduceBEq, List.append_nil, Int.toNat_zero, Nat.sub_self, frS]

theorem pw_one : (1 : Int) < pw 256 := by
  have := pw_mono (show 1 ≤ 256 by omega)
  rw [pw_succ, pw_zero] at this
  omega

set_option maxRecDepth 100000 in
theorem stChanceC (F : Frm) {sp sq : SV} {p q : Nat} (hp : Nats sp p) (hq : Nats sq q) (h0 : 0 < p) (h1 : p < q) (b1 : ((2 * q : Nat) : Int) < pw 256) :
    Contract F Try.prog 29 [frS false sp sq] (fun x => x = .b true) := by
  have hp' := hp
  have hq' := hq
  obtain ⟨a1, c1, z1, r1, x1, rfl, _⟩ := hp
  obtain ⟨a2, c2, z2, r2, x2, rfl, _⟩ := hq
  have e1 : 0 < (x1.length : Int) := by rw [hp'.len]; exact h0
  have e2 : 0 < (x2.length : Int) := by rw [hq'.len]; omega
  refine contract_of Try.func29 rfl (by kernel_rfl) ?_
  simp only [Try.ntmps29, argEnv, frS]
  (repeat refine Sat.seq ?_)
  (refine Sat.region_k fun k hk => ?_; simp -implicitDefEqProofs only [evr, id, reduceCtorEq, reduceIte, Nat.reduceMul, Nat.reduceAdd, Nat.reduceLT, Nat.reduceLeDiff, Nat.reduceEqDiff, Int.reduceLT, Int.reduceBEq, Int.reduceBNe, Nat.reduceBEq, List.append_nil, Int.toNat_zero, Nat.sub_self, frS])
  intro k1
  (refine hk _ ?_; clear hk k; try show Sat _ _ _ _ _)
  (repeat refine Sat.seq ?_)
  (refine Sat.region_k fun k hk => ?_; simp -implicitDefEqProofs only [evr, id, reduceCtorEq, reduceIte, Nat.reduceMul, Nat.reduceAdd, Nat.reduceLT, Nat.reduceLeDiff, Nat.reduceEqDiff, Int.reduceLT, Int.reduceBEq, Int.reduceBNe, Nat.reduceBEq, List.append_nil, Int.toNat_zero, Nat.sub_self, frS])
  refine wcall_slice (stSmallC F 1 (by decide)) rfl rfl ?_
  intro y hy
  have hy1 := hy
  obtain ⟨a3, c3, z3, r3, x3, rfl, _⟩ := hy
  simp -implicitDefEqProofs only [evr, id, reduceCtorEq, reduceIte, Nat.reduceMul, Nat.reduceAdd, Nat.reduceLT, Nat.reduceLeDiff, Nat.reduceEqDiff, Int.reduceLT, Int.reduceBEq, Int.reduceBNe, Nat.reduceBEq, List.append_nil, Int.toNat_zero, Nat.sub_self, frS]
  refine wcall_slice (stSmallC F 1 (by decide)) rfl rfl ?_
  intro y hy
  have hy2 := hy
  obtain ⟨a4, c4, z4, r4, x4, rfl, _⟩ := hy
  simp -implicitDefEqProofs only [evr, id, reduceCtorEq, reduceIte, Nat.reduceMul, Nat.reduceAdd, Nat.reduceLT, Nat.reduceLeDiff, Nat.reduceEqDiff, Int.reduceLT, Int.reduceBEq, Int.reduceBNe, Nat.reduceBEq, List.append_nil, Int.toNat_zero, Nat.sub_self, frS]
  intro k2
  (refine hk _ ?_; clear hk k; try show Sat _ _ _ _ _)
  (repeat refine Sat.seq ?_)
  (refine Sat.region_k fun k hk => ?_; simp -implicitDefEqProofs only [evr, id, reduceCtorEq, reduceIte, Nat.reduceMul, Nat.reduceAdd, Nat.reduceLT, Nat.reduceLeDiff, Nat.reduceEqDiff, Int.reduceLT, Int.reduceBEq, Int.reduceBNe, Nat.reduceBEq, List.append_nil, Int.toNat_zero, Nat.sub_self, frS])
  refine ⟨fun _ => ⟨fun _ => ?_, fun h => absurd e2 h⟩, fun h => absurd e1 h⟩
  refine wcall_plain (stBelowC F false false hp' hq' hy1 hy2 (by omega) (by omega) pw_one pw_one (by rw [Nat.mul_one]; omega) (by rw [Nat.one_mul]; omega) (by rw [Nat.mul_one, Nat.one_mul]; omega)) (by simp -implicitDefEqProofs only [evr, id, reduceCtorEq, reduceIte, Nat.reduceMul, Nat.reduceAdd, Nat.reduceLT, Nat.reduceLeDiff, Nat.reduceEqDiff, Int.reduceLT, Int.reduceBEq, Int.reduceBNe, Nat.reduceBEq, List.append_nil, Int.toNat_zero, Nat.sub_self, frS]; try rfl) (by rintro _ rfl; exact ok_plain rfl) ?_
  rintro y rfl
  have ed : decide (cmpV false p q false 1 1 < 0) = true := by
    rw [cmpV_pos, Nat.mul_one, Nat.one_mul, cmpI_lt (by omega)]
    rfl
  simp -implicitDefEqProofs only [evr, id, reduceCtorEq, reduceIte, Nat.reduceMul, Nat.reduceAdd, Nat.reduceLT, Nat.reduceLeDiff, Nat.reduceEqDiff, Int.reduceLT, Int.reduceBEq, Int.reduceBNe, Nat.reduceBEq, List.append_nil, Int.toNat_zero, Nat.sub_self, frS, ed]
  (refine hk _ ?_; clear hk k; try show Sat _ _ _ _ _)
  refine Sat.ret ?_
  simp only [Try.results29, evr, id, reduceCtorEq, reduceIte, Nat.reduceMul, Nat.reduceAdd, Nat.reduceLT, Nat.reduceLeDiff, Nat.reduceEqDiff, Int.reduceLT, Int.reduceBEq, Int.reduceBNe, Nat.reduceBEq, List.append_nil, Int.toNat_zero, Nat.sub_self, frS]
end Go.Proofs.Ytagmohpafjncfaa

/- Tables of flows in which each of some successors has a flow: counts and their laws. No program is in sight. -/
set_option linter.unusedSimpArgs false
namespace Go.Proofs.Ytagmohpafjncfaa
open Lmb

/-- the tables of n flows onto k successors in which each of j of them has a flow -/
def cnt (k : Nat) : Nat → Nat → Nat
  | 0, j => if j = 0 then 1 else 0
  | n + 1, j => (k - j) * cnt k n j + j * cnt k n (j - 1)

theorem cnt_mono (k n : Nat) : ∀ j, j + 1 ≤ k → cnt k n (j + 1) ≤ cnt k n j := by
  induction n with
  | zero => intro j _; simp [cnt]
  | succ n ih =>
    intro j hj
    simp only [cnt, Nat.add_sub_cancel]
    have h1 := ih j hj
    have h2 : (k - (j + 1)) * cnt k n (j + 1) ≤ (k - (j + 1)) * cnt k n j := Nat.mul_le_mul_left _ h1
    have h3 : j * cnt k n j ≤ j * cnt k n (j - 1) := by
      cases j with
      | zero => simp
      | succ j => exact Nat.mul_le_mul_left _ (ih j (by omega))
    have e1 : (k - j) * cnt k n j = (k - (j + 1)) * cnt k n j + cnt k n j := by
      have : k - j = (k - (j + 1)) + 1 := by omega
      rw [this, Nat.add_mul, Nat.one_mul]
    have e2 : (j + 1) * cnt k n j = j * cnt k n j + cnt k n j := by rw [Nat.add_mul, Nat.one_mul]
    omega

theorem cnt_le (k n : Nat) : ∀ j, j ≤ k → cnt k n j ≤ k ^ n := by
  have h0 : ∀ n, cnt k n 0 = k ^ n := by
    intro n
    induction n with
    | zero => rfl
    | succ n ih => simp [cnt, ih, Nat.pow_succ, Nat.mul_comm]
  intro j
  induction j with
  | zero => intro _; rw [h0]; exact Nat.le_refl _
  | succ j ih => intro h; exact Nat.le_trans (cnt_mono k n j h) (ih (by omega))

/-- one more successor: the part of the tables is not greater -/
theorem cnt_cross (k n : Nat) : ∀ j, j ≤ k → cnt (k + 1) n j * k ^ n ≤ cnt k n j * (k + 1) ^ n := by
  induction n with
  | zero => intro j _; simp [cnt]
  | succ n ih =>
    intro j hj
    have hA := ih j hj
    have hB := ih (j - 1) (by omega)
    have hm : j * cnt k n j ≤ j * cnt k n (j - 1) := by
      cases j with
      | zero => simp
      | succ j => exact Nat.mul_le_mul_left _ (cnt_mono k n j hj)
    simp only [cnt, Nat.pow_succ]
    generalize cnt (k + 1) n j = A' at *
    generalize cnt (k + 1) n (j - 1) = B' at *
    generalize cnt k n j = A at *
    generalize cnt k n (j - 1) = B at *
    generalize k ^ n = x at *
    generalize (k + 1) ^ n = y at *
    obtain ⟨d, rfl⟩ := Nat.exists_eq_add_of_le hj
    have e1 : j + d + 1 - j = d + 1 := by omega
    have e2 : j + d - j = d := by omega
    rw [e1, e2]
    have s1 : ((d + 1) * A' + j * B') * (x * (j + d)) = (j + d) * ((d + 1) * (A' * x) + j * (B' * x)) := by
      simp only [Nat.add_mul, Nat.mul_add, Nat.mul_assoc, Nat.mul_comm, Nat.mul_left_comm]
    have s2 : (j + d) * ((d + 1) * (A' * x) + j * (B' * x)) ≤ (j + d) * ((d + 1) * (A * y) + j * (B * y)) :=
      Nat.mul_le_mul_left _ (Nat.add_le_add (Nat.mul_le_mul_left _ hA) (Nat.mul_le_mul_left _ hB))
    have s3 : (j + d) * ((d + 1) * (A * y) + j * (B * y)) + j * B * y = (d * A + j * B) * (y * (j + d + 1)) + j * A * y := by
      simp only [Nat.add_mul, Nat.mul_add, Nat.mul_assoc, Nat.mul_comm, Nat.mul_left_comm, Nat.one_mul, Nat.mul_one]
      omega
    have s4 : j * A * y ≤ j * B * y := Nat.mul_le_mul_right _ hm
    omega

/-- what is missed with one more successor is not less -/
theorem miss_more {k n p q : Nat} (hk : 1 ≤ k) (h : p * k ^ n < (k ^ n - cnt k n k) * q) : p * (k + 1) ^ n < ((k + 1) ^ n - cnt (k + 1) n (k + 1)) * q := by
  have h1 := cnt_mono (k + 1) n k (Nat.le_refl _)
  have h2 := cnt_cross k n k (Nat.le_refl _)
  have h3 := cnt_le k n k (Nat.le_refl _)
  have h4 := cnt_le (k + 1) n (k + 1) (Nat.le_refl _)
  have hx : 0 < k ^ n := Nat.pow_pos (by omega)
  have hy : 0 < (k + 1) ^ n := Nat.pow_pos (by omega)
  generalize cnt (k + 1) n (k + 1) = G1 at *
  generalize cnt (k + 1) n k = G2 at *
  generalize cnt k n k = G at *
  generalize k ^ n = x at *
  generalize (k + 1) ^ n = y at *
  have a1 : G1 * x ≤ G * y := Nat.le_trans (Nat.mul_le_mul_right _ h1) h2
  have a2 : (p * x) * y < ((x - G) * q) * y := Nat.mul_lt_mul_of_pos_right h hy
  have a3 : ((x - G) * q) * y ≤ ((y - G1) * q) * x := by
    have e1 : ((x - G) * q) * y = q * ((x - G) * y) := by rw [Nat.mul_comm (x - G), Nat.mul_assoc]
    have e2 : ((y - G1) * q) * x = q * ((y - G1) * x) := by rw [Nat.mul_comm (y - G1), Nat.mul_assoc]
    rw [e1, e2]
    refine Nat.mul_le_mul_left _ ?_
    rw [Nat.sub_mul, Nat.sub_mul, Nat.mul_comm y x]
    omega
  have a4 : (p * x) * y = (p * y) * x := by rw [Nat.mul_assoc, Nat.mul_assoc, Nat.mul_comm x y]
  rw [a4] at a2
  exact Nat.lt_of_mul_lt_mul_right (Nat.lt_of_lt_of_le a2 a3)

/-- more flows never miss more -/
theorem cnt_more {k : Nat} (n : Nat) (hk : 1 ≤ k) : cnt k n k * k ≤ cnt k (n + 1) k := by
  simp only [cnt, Nat.sub_self, Nat.zero_mul, Nat.zero_add]
  obtain ⟨d, rfl⟩ := Nat.exists_eq_add_of_le hk
  rw [Nat.mul_comm]
  refine Nat.mul_le_mul_left _ ?_
  have := cnt_mono (1 + d) n d (by omega)
  rw [Nat.add_comm 1 d] at *
  simpa using this

/-! the sum with alternating signs -/
def altI (f : Nat → Int) : Nat → Int
  | 0 => 0
  | m + 1 => altI f m + if m % 2 = 0 then f m else - f m
def sumE (f : Nat → Nat) : Nat → Nat
  | 0 => 0
  | m + 1 => sumE f m + if m % 2 = 0 then f m else 0
def sumO (f : Nat → Nat) : Nat → Nat
  | 0 => 0
  | m + 1 => sumO f m + if m % 2 = 0 then 0 else f m
theorem sum_alt (f : Nat → Nat) : ∀ m, (sumE f m : Int) - sumO f m = altI (fun i => (f i : Int)) m
  | 0 => rfl
  | m + 1 => by
    have := sum_alt f m
    simp only [sumE, sumO, altI]
    split <;> simp <;> omega
theorem altI_congr {f g : Nat → Int} : ∀ m, (∀ i, i < m → f i = g i) → altI f m = altI g m
  | 0, _ => rfl
  | m + 1, h => by simp only [altI]; rw [altI_congr m fun i hi => h i (by omega), h m (by omega)]
theorem altI_lin (a b : Int) (f g : Nat → Int) : ∀ m, altI (fun i => a * f i + b * g i) m = a * altI f m + b * altI g m
  | 0 => by simp [altI]
  | m + 1 => by
    simp only [altI]
    rw [altI_lin a b f g m]
    split
    · rw [Int.mul_add, Int.mul_add]; omega
    · rw [Int.mul_add, Int.mul_add, Int.mul_neg, Int.mul_neg]; omega
theorem altI_binom (j : Nat) : ∀ m, altI (fun i => (binom (j + 1) i : Int)) (m + 1) = if m % 2 = 0 then (binom j m : Int) else - (binom j m : Int)
  | 0 => by simp [altI, binom_zero]
  | m + 1 => by
    have := altI_binom j m
    rw [altI, this]
    have e : binom (j + 1) (m + 1) = binom j m + binom j (m + 1) := rfl
    rw [e]
    rcases Nat.mod_two_eq_zero_or_one m with h | h
    · have h2 : (m + 1) % 2 = 1 := by omega
      simp [h, h2]; omega
    · have h2 : (m + 1) % 2 = 0 := by omega
      simp [h, h2]
      omega

theorem binom_less (j : Nat) : ∀ i, i ≤ j + 1 → (j + 1 - i) * binom (j + 1) i = (j + 1) * binom j i
  | 0, _ => by simp [binom_zero]
  | i + 1, h => by
    have hs := binom_step j i
    have e : binom (j + 1) (i + 1) = binom j i + binom j (i + 1) := rfl
    obtain ⟨d, rfl⟩ := Nat.exists_eq_add_of_le (show i ≤ j by omega)
    have e1 : i + d + 1 - (i + 1) = d := by omega
    have e2 : i + d - i = d := by omega
    rw [e2] at hs
    rw [e, e1, Nat.mul_add, Nat.mul_comm d (binom (i + d) i), ← hs]
    generalize binom (i + d) (i + 1) = z
    rw [Nat.mul_comm z, ← Nat.add_mul]
    congr 1
    omega

theorem alt_cnt (k n : Nat) : ∀ j, j ≤ k → altI (fun i => ((binom j i * (k - i) ^ n : Nat) : Int)) (j + 1) = cnt k n j := by
  induction n with
  | zero =>
    intro j _
    have e : altI (fun i => ((binom j i * (k - i) ^ 0 : Nat) : Int)) (j + 1) = altI (fun i => (binom j i : Int)) (j + 1) := altI_congr _ fun i _ => by simp
    rw [e]
    cases j with
    | zero => simp [altI, cnt, binom_zero]
    | succ j =>
      rw [altI_binom, binom_gt j (j + 1) (by omega)]
      simp [cnt]
  | succ n ih =>
    intro j hj
    cases j with
    | zero =>
      have := ih 0 (by omega)
      simp only [altI, binom_zero, Nat.one_mul, Nat.sub_zero, Nat.zero_mod, if_true, Int.zero_add] at this ⊢
      simp only [cnt, Nat.sub_zero, Nat.zero_mul, Nat.add_zero, Nat.pow_succ]
      rw [Int.natCast_mul, this, Int.natCast_mul, Int.mul_comm]
    | succ j =>
      have h1 := ih (j + 1) hj
      have h2 := ih j (by omega)
      have e : altI (fun i => ((binom (j + 1) i * (k - i) ^ (n + 1) : Nat) : Int)) (j + 1 + 1) = altI (fun i => ((k - (j + 1) : Nat) : Int) * ((binom (j + 1) i * (k - i) ^ n : Nat) : Int) + ((j + 1 : Nat) : Int) * ((binom j i * (k - i) ^ n : Nat) : Int)) (j + 1 + 1) := by
        refine altI_congr _ fun i hi => ?_
        rw [← Int.natCast_mul, ← Int.natCast_mul, ← Int.natCast_add]
        congr 1
        have hb := binom_less j i (by omega)
        have ek : k - i = (k - (j + 1)) + (j + 1 - i) := by omega
        have e1 : binom (j + 1) i * (k - i) ^ (n + 1) = ((k - i) * binom (j + 1) i) * (k - i) ^ n := by
          rw [Nat.pow_succ, Nat.mul_comm ((k - i) ^ n), ← Nat.mul_assoc, Nat.mul_comm (binom (j + 1) i)]
        have e2 : (k - i) * binom (j + 1) i = (k - (j + 1)) * binom (j + 1) i + (j + 1) * binom j i := by
          rw [← hb, ← Nat.add_mul, ← ek]
        rw [e1, e2, Nat.add_mul, Nat.mul_assoc, Nat.mul_assoc]
      rw [e, altI_lin, h1]
      have e3 : altI (fun i => ((binom j i * (k - i) ^ n : Nat) : Int)) (j + 1 + 1) = cnt k n j := by
        rw [altI, h2, binom_gt j (j + 1) (by omega)]
        simp
      rw [e3]
      simp only [cnt, Nat.add_sub_cancel, Int.natCast_add, Int.natCast_mul]

/-- what the code reckons -/
theorem onto_sum (n k : Nat) : sumO (fun i => binom k i * (k - i) ^ n) (k + 1) ≤ sumE (fun i => binom k i * (k - i) ^ n) (k + 1) ∧
    sumE (fun i => binom k i * (k - i) ^ n) (k + 1) - sumO (fun i => binom k i * (k - i) ^ n) (k + 1) = cnt k n k := by
  have h1 := sum_alt (fun i => binom k i * (k - i) ^ n) (k + 1)
  have h2 := alt_cnt k n k (Nat.le_refl _)
  rw [h2] at h1
  omega
end Go.Proofs.Ytagmohpafjncfaa

/- Package stopping, by the evaluator: power, Onto, Missing. -/
set_option linter.unusedSimpArgs false
set_option linter.unusedVariables false
namespace Go.Proofs.Ytagmohpafjncfaa
open Eng Lmb

theorem zero_pow_step {o r k : Nat} (h : o * 0 ^ r = 0 ^ k) (hr : 0 < r) : 0 ^ k = 0 := by
  obtain ⟨q, rfl⟩ : ∃ q, r = q + 1 := ⟨r - 1, by omega⟩
  rw [Nat.pow_succ, Nat.mul_zero, Nat.mul_zero] at h
  exact h.symm

theorem half_e (r : Nat) : ((r : Int)).fdiv (2 ^ min (Int.toNat 1) IntKind.i64.bits) = ((r / 2 : Nat) : Int) := by
  have e1 : ((2 : Int) ^ min (Int.toNat 1) IntKind.i64.bits) = 2 := by decide
  rw [e1, Int.fdiv_eq_ediv_of_nonneg _ (by decide)]
  omega

set_option maxRecDepth 100000 in
theorem pow0C (F : Frm) {sa : SV} (k0 : Nat) (ha : Nats sa 0) (hk0 : k0 ≤ 65536) : Contract F Try.prog 56 [sa, .i .i64 k0] (natRes (0 ^ k0)) := by
  have ha' := ha
  obtain ⟨a1, c1, z1, r1, x1, rfl, _⟩ := ha
  refine contract_of Try.func56 rfl (by kernel_rfl) ?_
  simp only [Try.ntmps56, argEnv]
  (repeat refine Sat.seq ?_)
  (refine Sat.region_k fun k hk => ?_; simp -implicitDefEqProofs only [evr, id, reduceCtorEq, reduceIte, Nat.reduceMul, Nat.reduceAdd, Nat.reduceLT, Nat.reduceLeDiff, Nat.reduceEqDiff, Int.reduceLT, Int.reduceBEq, Int.reduceBNe, Nat.reduceBEq, List.append_nil, Int.toNat_zero, Nat.sub_self, frS]; refine hk _ ?_; clear hk k; try show Sat _ _ _ _ _)
  (repeat refine Sat.seq ?_)
  refine Sat.region_at ⟨46, [(14, .b false), (0, .sl a1 x1.length c1 z1 r1), (1, .i .i64 k0)], []⟩ (fun k hk => ?_) ?_
  · simp -implicitDefEqProofs only [evr, id, reduceCtorEq, reduceIte, Nat.reduceMul, Nat.reduceAdd, Nat.reduceLT, Nat.reduceLeDiff, Nat.reduceEqDiff, Int.reduceLT, Int.reduceBEq, Int.reduceBNe, Nat.reduceBEq, List.append_nil, Int.toNat_zero, Nat.sub_self, frS]
    refine ⟨fun h => ?_, fun h => ?_⟩
    · omega
    · refine hk _ ?_
      have e : decide (65536 < (k0 : Int)) = false := by simp; omega
      simp only [e]
      simp -implicitDefEqProofs only [evr, id, reduceCtorEq, reduceIte, Nat.reduceMul, Nat.reduceAdd, Nat.reduceLT, Nat.reduceLeDiff, Nat.reduceEqDiff, Int.reduceLT, Int.reduceBEq, Int.reduceBNe, Nat.reduceBEq, List.append_nil, Int.toNat_zero, Nat.sub_self, frS, evl]
  simp only [thenK]
  refine Sat.cond_b rfl (fun h => by cases h) (fun h => ?_)
  refine Sat.skip ?_
  simp only [thenK]
  (repeat refine Sat.seq ?_)
  (refine Sat.region_k fun k hk => ?_; simp -implicitDefEqProofs only [evr, id, reduceCtorEq, reduceIte, Nat.reduceMul, Nat.reduceAdd, Nat.reduceLT, Nat.reduceLeDiff, Nat.reduceEqDiff, Int.reduceLT, Int.reduceBEq, Int.reduceBNe, Nat.reduceBEq, List.append_nil, Int.toNat_zero, Nat.sub_self, frS])
  intro blk
  refine wcall_slice (cloneNatC F ha' (by have := pw_one; omega)) rfl rfl ?_
  intro y hy
  have hy1 := hy
  obtain ⟨a2, c2, z2, r2, x2, rfl, _⟩ := hy
  simp -implicitDefEqProofs only [evr, id, reduceCtorEq, reduceIte, Nat.reduceMul, Nat.reduceAdd, Nat.reduceLT, Nat.reduceLeDiff, Nat.reduceEqDiff, Int.reduceLT, Int.reduceBEq, Int.reduceBNe, Nat.reduceBEq, List.append_nil, Int.toNat_zero, Nat.sub_self, frS]
  (refine hk _ ?_; clear hk k; try show Sat _ _ _ _ _)
  have h1s : Nats (.sl (some ⟨blk, 0, none⟩) 1 1 1 (rdL [.i .i64 1] 1)) 1 := nats_of (xs := [1]) rfl (fun p hp => by have hp0 : p = 0 := by omega
                                                                                                                     subst hp0; rfl) (dig_one (x := 1) (by omega) (by omega))
  refine Sat.settle2 6 rfl rfl ?_
  simp -implicitDefEqProofs only [evr, id, reduceCtorEq, reduceIte, Nat.reduceMul, Nat.reduceAdd, Nat.reduceLT, Nat.reduceLeDiff, Nat.reduceEqDiff, Int.reduceLT, Int.reduceBEq, Int.reduceBNe, Nat.reduceBEq, List.append_nil, Int.toNat_zero, Nat.sub_self, frS]
  (repeat refine Sat.seq ?_)
  refine Sat.block ?_
  (repeat refine Sat.seq ?_)
  refine Sat.loop (ι := Nat × SV × SV) (fun x => ⟨46, [(1, .i .i64 x.1), (6, x.2.1), (7, x.2.2)], []⟩)
    (fun x => x.1 ≤ 65536 ∧ (∃ o, Nats x.2.1 o ∧ o ≤ 1 ∧ o * 0 ^ x.1 = 0 ^ k0) ∧ Nats x.2.2 0) (fun x => x.1) (k0, .sl (some ⟨blk, 0, none⟩) 1 1 1 (rdL [.i .i64 1] 1), .sl a2 x2.length c2 z2 r2) ⟨hk0, ⟨1, h1s, by omega, Nat.one_mul _⟩, hy1⟩ (by simp -implicitDefEqProofs only [evr, id, reduceCtorEq, reduceIte, Nat.reduceMul, Nat.reduceAdd, Nat.reduceLT, Nat.reduceLeDiff, Nat.reduceEqDiff, Int.reduceLT, Int.reduceBEq, Int.reduceBNe, Nat.reduceBEq, List.append_nil, Int.toNat_zero, Nat.sub_self, frS, evl]; try rfl) ?_
  rintro ⟨r, so, sq⟩ ⟨hr, ⟨o, ho, ho1, hoe⟩, hs⟩
  simp only at hr ho ho1 hoe hs ⊢
  have ho' := ho
  have hs0 := hs
  obtain ⟨a3, c3, z3, r3, x3, rfl, _⟩ := ho
  obtain ⟨a4, c4, z4, r4, x4, rfl, _⟩ := hs
  (repeat refine Sat.seq ?_)
  (refine Sat.region_k fun k hk => ?_; simp -implicitDefEqProofs only [evr, id, reduceCtorEq, reduceIte, Nat.reduceMul, Nat.reduceAdd, Nat.reduceLT, Nat.reduceLeDiff, Nat.reduceEqDiff, Int.reduceLT, Int.reduceBEq, Int.reduceBNe, Nat.reduceBEq, List.append_nil, Int.toNat_zero, Nat.sub_self, frS]; refine hk _ ?_; clear hk k; try show Sat _ _ _ _ _)
  (repeat refine Sat.seq ?_)
  refine Sat.cond_b rfl (fun h => ?_) (fun h => ?_)
  · simp only [decide_eq_true_eq] at h
    have hr0 : 0 < r := by omega
    have hz := zero_pow_step hoe hr0
    refine Sat.skip ?_
    simp only [thenK]
    (repeat refine Sat.seq ?_)
    refine Sat.block ?_
    (repeat refine Sat.seq ?_)
    (refine Sat.region_k fun k hk => ?_; simp -implicitDefEqProofs only [evr, id, reduceCtorEq, reduceIte, Nat.reduceMul, Nat.reduceAdd, Nat.reduceLT, Nat.reduceLeDiff, Nat.reduceEqDiff, Int.reduceLT, Int.reduceBEq, Int.reduceBNe, Nat.reduceBEq, List.append_nil, Int.toNat_zero, Nat.sub_self, frS]; refine hk _ ?_; clear hk k; try show Sat _ _ _ _ _)
    (repeat refine Sat.seq ?_)
    refine Sat.region_k fun k hk => ?_
    simp -implicitDefEqProofs only [evr, id, reduceCtorEq, reduceIte, Nat.reduceMul, Nat.reduceAdd, Nat.reduceLT, Nat.reduceLeDiff, Nat.reduceEqDiff, Int.reduceLT, Int.reduceBEq, Int.reduceBNe, Nat.reduceBEq, List.append_nil, Int.toNat_zero, Nat.sub_self, frS, Zn.and_one]
    (refine hk _ ?_; clear hk k; try show Sat _ _ _ _ _)
    (repeat refine Sat.seq ?_)
    refine Sat.cond_b rfl (fun h5 => ?_) (fun h5 => ?_)
    · (repeat refine Sat.seq ?_)
      (refine Sat.region_k fun k hk => ?_; simp -implicitDefEqProofs only [evr, id, reduceCtorEq, reduceIte, Nat.reduceMul, Nat.reduceAdd, Nat.reduceLT, Nat.reduceLeDiff, Nat.reduceEqDiff, Int.reduceLT, Int.reduceBEq, Int.reduceBNe, Nat.reduceBEq, List.append_nil, Int.toNat_zero, Nat.sub_self, frS])
      refine wcall_slice (mulC F ho' hs0 (by have := pw_one; omega) (by have := pw_one; omega) (by have := pw_one; omega)) rfl rfl ?_
      rintro y ⟨s, rfl, hy⟩
      have hs5 := hy
      obtain ⟨a5, c5, z5, r5, x5, rfl, _⟩ := hy
      simp -implicitDefEqProofs only [evr, id, reduceCtorEq, reduceIte, Nat.reduceMul, Nat.reduceAdd, Nat.reduceLT, Nat.reduceLeDiff, Nat.reduceEqDiff, Int.reduceLT, Int.reduceBEq, Int.reduceBNe, Nat.reduceBEq, List.append_nil, Int.toNat_zero, Nat.sub_self, frS]
      (refine hk _ ?_; clear hk k; try show Sat _ _ _ _ _)
      (repeat refine Sat.seq ?_)
      (refine Sat.region_k fun k hk => ?_; simp -implicitDefEqProofs only [evr, id, reduceCtorEq, reduceIte, Nat.reduceMul, Nat.reduceAdd, Nat.reduceLT, Nat.reduceLeDiff, Nat.reduceEqDiff, Int.reduceLT, Int.reduceBEq, Int.reduceBNe, Nat.reduceBEq, List.append_nil, Int.toNat_zero, Nat.sub_self, frS]; refine hk _ ?_; clear hk k; try show Sat _ _ _ _ _)
      refine Sat.cond_b rfl (fun h => by cases h) (fun h => ?_)
      refine Sat.skip ?_
      simp only [thenK, blockK]
      (repeat refine Sat.seq ?_)
      (refine Sat.region_k fun k hk => ?_; simp -implicitDefEqProofs only [evr, id, reduceCtorEq, reduceIte, Nat.reduceMul, Nat.reduceAdd, Nat.reduceLT, Nat.reduceLeDiff, Nat.reduceEqDiff, Int.reduceLT, Int.reduceBEq, Int.reduceBNe, Nat.reduceBEq, List.append_nil, Int.toNat_zero, Nat.sub_self, frS]; refine hk _ ?_; clear hk k; try show Sat _ _ _ _ _)
      (repeat refine Sat.seq ?_)
      refine Sat.cond_b rfl (fun h => ?_) (fun h => ?_)
      · simp only [decide_eq_true_eq] at h
        (repeat refine Sat.seq ?_)
        (refine Sat.region_k fun k hk => ?_; simp -implicitDefEqProofs only [evr, id, reduceCtorEq, reduceIte, Nat.reduceMul, Nat.reduceAdd, Nat.reduceLT, Nat.reduceLeDiff, Nat.reduceEqDiff, Int.reduceLT, Int.reduceBEq, Int.reduceBNe, Nat.reduceBEq, List.append_nil, Int.toNat_zero, Nat.sub_self, frS])
        refine wcall_slice (mulC F hs0 hs0 (by have := pw_one; omega) (by have := pw_one; omega) (by have := pw_one; omega)) rfl rfl ?_
        rintro y ⟨s, rfl, hy⟩
        have hs1 := hy
        obtain ⟨a7, c7, z7, r7, x7, rfl, _⟩ := hy
        simp -implicitDefEqProofs only [evr, id, reduceCtorEq, reduceIte, Nat.reduceMul, Nat.reduceAdd, Nat.reduceLT, Nat.reduceLeDiff, Nat.reduceEqDiff, Int.reduceLT, Int.reduceBEq, Int.reduceBNe, Nat.reduceBEq, List.append_nil, Int.toNat_zero, Nat.sub_self, frS]
        (refine hk _ ?_; clear hk k; try show Sat _ _ _ _ _)
        (repeat refine Sat.seq ?_)
        (refine Sat.region_k fun k hk => ?_; simp -implicitDefEqProofs only [evr, id, reduceCtorEq, reduceIte, Nat.reduceMul, Nat.reduceAdd, Nat.reduceLT, Nat.reduceLeDiff, Nat.reduceEqDiff, Int.reduceLT, Int.reduceBEq, Int.reduceBNe, Nat.reduceBEq, List.append_nil, Int.toNat_zero, Nat.sub_self, frS]; refine hk _ ?_; clear hk k; try show Sat _ _ _ _ _)
        refine Sat.cond_b rfl (fun h => by cases h) (fun h => ?_)
        refine Sat.skip ?_
        simp only [thenK, blockK]
        (repeat refine Sat.seq ?_)
        (refine Sat.region_k fun k hk => ?_; simp -implicitDefEqProofs only [evr, id, reduceCtorEq, reduceIte, Nat.reduceMul, Nat.reduceAdd, Nat.reduceLT, Nat.reduceLeDiff, Nat.reduceEqDiff, Int.reduceLT, Int.reduceBEq, Int.reduceBNe, Nat.reduceBEq, List.append_nil, Int.toNat_zero, Nat.sub_self, frS])
        refine ⟨by decide, ?_⟩
        refine hk _ ?_
        simp only [thenK, blockK]
        refine ⟨(r / 2, _, _), ⟨by show r / 2 ≤ 65536; omega, ⟨0, hs5, by omega, by rw [hz, Nat.zero_mul]⟩, hs1⟩, by show r / 2 < r; omega, ?_⟩
        simp -implicitDefEqProofs only [evr, id, reduceCtorEq, reduceIte, Nat.reduceMul, Nat.reduceAdd, Nat.reduceLT, Nat.reduceLeDiff, Nat.reduceEqDiff, Int.reduceLT, Int.reduceBEq, Int.reduceBNe, Nat.reduceBEq, List.append_nil, Int.toNat_zero, Nat.sub_self, frS, evl]
        try exact half_e r
      · simp only [decide_eq_false_iff_not] at h
        refine Sat.skip ?_
        simp only [thenK, blockK]
        (repeat refine Sat.seq ?_)
        (refine Sat.region_k fun k hk => ?_; simp -implicitDefEqProofs only [evr, id, reduceCtorEq, reduceIte, Nat.reduceMul, Nat.reduceAdd, Nat.reduceLT, Nat.reduceLeDiff, Nat.reduceEqDiff, Int.reduceLT, Int.reduceBEq, Int.reduceBNe, Nat.reduceBEq, List.append_nil, Int.toNat_zero, Nat.sub_self, frS])
        refine ⟨by decide, ?_⟩
        refine hk _ ?_
        simp only [thenK, blockK]
        refine ⟨(r / 2, _, _), ⟨by show r / 2 ≤ 65536; omega, ⟨0, hs5, by omega, by rw [hz, Nat.zero_mul]⟩, hs0⟩, by show r / 2 < r; omega, ?_⟩
        simp -implicitDefEqProofs only [evr, id, reduceCtorEq, reduceIte, Nat.reduceMul, Nat.reduceAdd, Nat.reduceLT, Nat.reduceLeDiff, Nat.reduceEqDiff, Int.reduceLT, Int.reduceBEq, Int.reduceBNe, Nat.reduceBEq, List.append_nil, Int.toNat_zero, Nat.sub_self, frS, evl]
        try exact half_e r
    · refine Sat.skip ?_
      simp only [thenK, blockK]
      have h6 : r % 2 = 0 := by simp only [beq_eq_false_iff_ne] at h5; omega
      have h7 : o * 0 ^ (r / 2) = 0 ^ k0 := by
        obtain ⟨q, hq⟩ : ∃ q, r / 2 = q + 1 := ⟨r / 2 - 1, by omega⟩
        rw [hq, Nat.pow_succ, Nat.mul_zero, Nat.mul_zero, hz]
      (repeat refine Sat.seq ?_)
      (refine Sat.region_k fun k hk => ?_; simp -implicitDefEqProofs only [evr, id, reduceCtorEq, reduceIte, Nat.reduceMul, Nat.reduceAdd, Nat.reduceLT, Nat.reduceLeDiff, Nat.reduceEqDiff, Int.reduceLT, Int.reduceBEq, Int.reduceBNe, Nat.reduceBEq, List.append_nil, Int.toNat_zero, Nat.sub_self, frS]; refine hk _ ?_; clear hk k; try show Sat _ _ _ _ _)
      (repeat refine Sat.seq ?_)
      refine Sat.cond_b rfl (fun h => ?_) (fun h => ?_)
      · simp only [decide_eq_true_eq] at h
        (repeat refine Sat.seq ?_)
        (refine Sat.region_k fun k hk => ?_; simp -implicitDefEqProofs only [evr, id, reduceCtorEq, reduceIte, Nat.reduceMul, Nat.reduceAdd, Nat.reduceLT, Nat.reduceLeDiff, Nat.reduceEqDiff, Int.reduceLT, Int.reduceBEq, Int.reduceBNe, Nat.reduceBEq, List.append_nil, Int.toNat_zero, Nat.sub_self, frS])
        refine wcall_slice (mulC F hs0 hs0 (by have := pw_one; omega) (by have := pw_one; omega) (by have := pw_one; omega)) rfl rfl ?_
        rintro y ⟨s, rfl, hy⟩
        have hs1 := hy
        obtain ⟨a7, c7, z7, r7, x7, rfl, _⟩ := hy
        simp -implicitDefEqProofs only [evr, id, reduceCtorEq, reduceIte, Nat.reduceMul, Nat.reduceAdd, Nat.reduceLT, Nat.reduceLeDiff, Nat.reduceEqDiff, Int.reduceLT, Int.reduceBEq, Int.reduceBNe, Nat.reduceBEq, List.append_nil, Int.toNat_zero, Nat.sub_self, frS]
        (refine hk _ ?_; clear hk k; try show Sat _ _ _ _ _)
        (repeat refine Sat.seq ?_)
        (refine Sat.region_k fun k hk => ?_; simp -implicitDefEqProofs only [evr, id, reduceCtorEq, reduceIte, Nat.reduceMul, Nat.reduceAdd, Nat.reduceLT, Nat.reduceLeDiff, Nat.reduceEqDiff, Int.reduceLT, Int.reduceBEq, Int.reduceBNe, Nat.reduceBEq, List.append_nil, Int.toNat_zero, Nat.sub_self, frS]; refine hk _ ?_; clear hk k; try show Sat _ _ _ _ _)
        refine Sat.cond_b rfl (fun h => by cases h) (fun h => ?_)
        refine Sat.skip ?_
        simp only [thenK, blockK]
        (repeat refine Sat.seq ?_)
        (refine Sat.region_k fun k hk => ?_; simp -implicitDefEqProofs only [evr, id, reduceCtorEq, reduceIte, Nat.reduceMul, Nat.reduceAdd, Nat.reduceLT, Nat.reduceLeDiff, Nat.reduceEqDiff, Int.reduceLT, Int.reduceBEq, Int.reduceBNe, Nat.reduceBEq, List.append_nil, Int.toNat_zero, Nat.sub_self, frS])
        refine ⟨by decide, ?_⟩
        refine hk _ ?_
        simp only [thenK, blockK]
        refine ⟨(r / 2, _, _), ⟨by show r / 2 ≤ 65536; omega, ⟨o, ho', ho1, h7⟩, hs1⟩, by show r / 2 < r; omega, ?_⟩
        simp -implicitDefEqProofs only [evr, id, reduceCtorEq, reduceIte, Nat.reduceMul, Nat.reduceAdd, Nat.reduceLT, Nat.reduceLeDiff, Nat.reduceEqDiff, Int.reduceLT, Int.reduceBEq, Int.reduceBNe, Nat.reduceBEq, List.append_nil, Int.toNat_zero, Nat.sub_self, frS, evl]
        try exact half_e r
      · simp only [decide_eq_false_iff_not] at h
        refine Sat.skip ?_
        simp only [thenK, blockK]
        (repeat refine Sat.seq ?_)
        (refine Sat.region_k fun k hk => ?_; simp -implicitDefEqProofs only [evr, id, reduceCtorEq, reduceIte, Nat.reduceMul, Nat.reduceAdd, Nat.reduceLT, Nat.reduceLeDiff, Nat.reduceEqDiff, Int.reduceLT, Int.reduceBEq, Int.reduceBNe, Nat.reduceBEq, List.append_nil, Int.toNat_zero, Nat.sub_self, frS])
        refine ⟨by decide, ?_⟩
        refine hk _ ?_
        simp only [thenK, blockK]
        refine ⟨(r / 2, _, _), ⟨by show r / 2 ≤ 65536; omega, ⟨o, ho', ho1, h7⟩, hs0⟩, by show r / 2 < r; omega, ?_⟩
        simp -implicitDefEqProofs only [evr, id, reduceCtorEq, reduceIte, Nat.reduceMul, Nat.reduceAdd, Nat.reduceLT, Nat.reduceLeDiff, Nat.reduceEqDiff, Int.reduceLT, Int.reduceBEq, Int.reduceBNe, Nat.reduceBEq, List.append_nil, Int.toNat_zero, Nat.sub_self, frS, evl]
        try exact half_e r
  · simp only [decide_eq_false_iff_not] at h
    obtain rfl : r = 0 := by omega
    refine Sat.exit ?_
    simp only [thenK, blockK, reduceIte]
    (repeat refine Sat.seq ?_)
    (refine Sat.region_k fun k hk => ?_; simp -implicitDefEqProofs only [evr, id, reduceCtorEq, reduceIte, Nat.reduceMul, Nat.reduceAdd, Nat.reduceLT, Nat.reduceLeDiff, Nat.reduceEqDiff, Int.reduceLT, Int.reduceBEq, Int.reduceBNe, Nat.reduceBEq, List.append_nil, Int.toNat_zero, Nat.sub_self, frS]; refine hk _ ?_; clear hk k; try show Sat _ _ _ _ _)
    refine Sat.ret ?_
    simp only [Try.results56, evr, id, reduceCtorEq, reduceIte, Nat.reduceMul, Nat.reduceAdd, Nat.reduceLT, Nat.reduceLeDiff, Nat.reduceEqDiff, Int.reduceLT, Int.reduceBEq, Int.reduceBNe, Nat.reduceBEq, List.append_nil, Int.toNat_zero, Nat.sub_self, frS]
    rw [Nat.pow_zero, Nat.mul_one] at hoe
    exact ⟨_, rfl, by rw [← hoe]; exact ho'⟩

def xb : Nat := 512
theorem xb_eq : xb = 512 := rfl
attribute [irreducible] xb
theorem pow_bits (a n : Nat) : (2 ^ a) ^ n = 2 ^ (a * n) := (Nat.pow_mul 2 a n).symm
theorem kn_le {k n : Nat} (hk : k ≤ 16) (hn : n ≤ 128) : k ^ n ≤ 2 ^ xb := by
  have h1 : k ^ n ≤ (2 ^ 4) ^ n := Nat.pow_le_pow_left (show k ≤ 2 ^ 4 from hk) n
  rw [pow_bits] at h1
  exact Nat.le_trans h1 (Nat.pow_le_pow_right (by decide) (by rw [xb_eq]; omega))
theorem lt_pw_add {x y a b : Nat} (hx : x ≤ 2 ^ a) (hy : y ≤ 2 ^ b) (h : a + b + 1 < 30 * 256) : ((x + y : Nat) : Int) < pw 256 := by
  refine lt_pw (a := a + b + 1) ?_ h
  have h1 : 2 ^ a ≤ 2 ^ (a + b) := Nat.pow_le_pow_right (by decide) (by omega)
  have h2 : 2 ^ b ≤ 2 ^ (a + b) := Nat.pow_le_pow_right (by decide) (by omega)
  rw [Nat.pow_succ]
  omega
theorem kn_pw {k n : Nat} (hk : k ≤ 16) (hn : n ≤ 128) : ((k ^ n : Nat) : Int) < pw 256 := lt_pw (kn_le hk hn) (by rw [xb_eq]; decide)

set_option maxRecDepth 100000 in
theorem stPowerC (F : Frm) (m n : Nat) (hk0 : m ≤ 16) (hn : n ≤ 128) : Contract F Try.prog 31 [.i .i64 m, .i .i64 n] (fun r => Nats r (m ^ n)) := by
  refine contract_of Try.func31 rfl (by kernel_rfl) ?_
  simp only [Try.ntmps31, argEnv]
  (repeat refine Sat.seq ?_)
  (refine Sat.region_k fun k hk => ?_; simp -implicitDefEqProofs only [evr, id, reduceCtorEq, reduceIte, Nat.reduceMul, Nat.reduceAdd, Nat.reduceLT, Nat.reduceLeDiff, Nat.reduceEqDiff, Int.reduceLT, Int.reduceBEq, Int.reduceBNe, Nat.reduceBEq, List.append_nil, Int.toNat_zero, Nat.sub_self, frS]; refine hk _ ?_; clear hk k; try show Sat _ _ _ _ _)
  (repeat refine Sat.seq ?_)
  (refine Sat.region_k fun k hk => ?_; simp -implicitDefEqProofs only [evr, id, reduceCtorEq, reduceIte, Nat.reduceMul, Nat.reduceAdd, Nat.reduceLT, Nat.reduceLeDiff, Nat.reduceEqDiff, Int.reduceLT, Int.reduceBEq, Int.reduceBNe, Nat.reduceBEq, List.append_nil, Int.toNat_zero, Nat.sub_self, frS])
  refine wcall_slice (stSmallC F m (by omega)) rfl rfl ?_
  intro y hy
  have hy1 := hy
  obtain ⟨a2, c2, z2, r2, x2, rfl, _⟩ := hy
  simp -implicitDefEqProofs only [evr, id, reduceCtorEq, reduceIte, Nat.reduceMul, Nat.reduceAdd, Nat.reduceLT, Nat.reduceLeDiff, Nat.reduceEqDiff, Int.reduceLT, Int.reduceBEq, Int.reduceBNe, Nat.reduceBEq, List.append_nil, Int.toNat_zero, Nat.sub_self, frS]
  have hc : Contract F Try.prog 56 [.sl a2 x2.length c2 z2 r2, .i .i64 n] (natRes (m ^ n)) := by
    rcases Nat.eq_zero_or_pos m with rfl | h0
    · exact pow0C F n hy1 (by omega)
    · exact powC F n hy1 h0 (lt_pw (a := 4) (by omega) (by decide)) rfl (by omega) (kn_pw hk0 hn)
  refine wcall_slice hc rfl rfl ?_
  rintro y ⟨s, rfl, hy⟩
  have hs5 := hy
  obtain ⟨a5, c5, z5, r5, x5, rfl, _⟩ := hy
  simp -implicitDefEqProofs only [evr, id, reduceCtorEq, reduceIte, Nat.reduceMul, Nat.reduceAdd, Nat.reduceLT, Nat.reduceLeDiff, Nat.reduceEqDiff, Int.reduceLT, Int.reduceBEq, Int.reduceBNe, Nat.reduceBEq, List.append_nil, Int.toNat_zero, Nat.sub_self, frS]
  (refine hk _ ?_; clear hk k; try show Sat _ _ _ _ _)
  (repeat refine Sat.seq ?_)
  (refine Sat.region_k fun k hk => ?_; simp -implicitDefEqProofs only [evr, id, reduceCtorEq, reduceIte, Nat.reduceMul, Nat.reduceAdd, Nat.reduceLT, Nat.reduceLeDiff, Nat.reduceEqDiff, Int.reduceLT, Int.reduceBEq, Int.reduceBNe, Nat.reduceBEq, List.append_nil, Int.toNat_zero, Nat.sub_self, frS]; refine hk _ ?_; clear hk k; try show Sat _ _ _ _ _)
  refine Sat.ret ?_
  simp only [Try.results31, evr, id, reduceCtorEq, reduceIte, Nat.reduceMul, Nat.reduceAdd, Nat.reduceLT, Nat.reduceLeDiff, Nat.reduceEqDiff, Int.reduceLT, Int.reduceBEq, Int.reduceBNe, Nat.reduceBEq, List.append_nil, Int.toNat_zero, Nat.sub_self, frS]
  exact hs5

/-- a term of the sum -/
def ontoT (n k i : Nat) : Nat := binom k i * (k - i) ^ n
theorem ontoT_le {n k : Nat} (hk : k ≤ 16) (hn : n ≤ 128) (i : Nat) : ontoT n k i ≤ 2 ^ (16 + xb) := by
  unfold ontoT
  have h1 := binom_le k i
  have h2 : (2 : Nat) ^ k ≤ 2 ^ 16 := Nat.pow_le_pow_right (by decide) hk
  exact mul_two (a := 16) (b := xb) (Nat.le_trans h1 h2) (kn_le (by omega) hn)
theorem sumE_le {f : Nat → Nat} {B : Nat} (h : ∀ i, f i ≤ B) : ∀ m, sumE f m ≤ m * B
  | 0 => by simp [sumE]
  | m + 1 => by
    have := sumE_le h m
    have := h m
    simp only [sumE, Nat.add_mul, Nat.one_mul]
    split <;> omega
theorem sumO_le {f : Nat → Nat} {B : Nat} (h : ∀ i, f i ≤ B) : ∀ m, sumO f m ≤ m * B
  | 0 => by simp [sumO]
  | m + 1 => by
    have := sumO_le h m
    have := h m
    simp only [sumO, Nat.add_mul, Nat.one_mul]
    split <;> omega
theorem sumE_pw {n k : Nat} (hk : k ≤ 16) (hn : n ≤ 128) {m : Nat} (hm : m ≤ 18) : ((sumE (ontoT n k) m : Nat) : Int) < pw 256 := by
  refine lt_pw (a := 12 + (16 + xb)) (Nat.le_trans (sumE_le (ontoT_le hk hn) m) ?_) (by rw [xb_eq]; decide)
  exact mul_two (a := 12) (b := 16 + xb) (Nat.le_trans hm (by decide)) (Nat.le_refl _)
theorem sumO_pw {n k : Nat} (hk : k ≤ 16) (hn : n ≤ 128) {m : Nat} (hm : m ≤ 18) : ((sumO (ontoT n k) m : Nat) : Int) < pw 256 := by
  refine lt_pw (a := 12 + (16 + xb)) (Nat.le_trans (sumO_le (ontoT_le hk hn) m) ?_) (by rw [xb_eq]; decide)
  exact mul_two (a := 12) (b := 16 + xb) (Nat.le_trans hm (by decide)) (Nat.le_refl _)
theorem onto_cnt (n k : Nat) : sumO (ontoT n k) (k + 1) ≤ sumE (ontoT n k) (k + 1) ∧ sumE (ontoT n k) (k + 1) - sumO (ontoT n k) (k + 1) = cnt k n k := onto_sum n k

set_option maxRecDepth 100000 in
theorem stOntoC (F : Frm) (n m : Nat) (hn : n ≤ 128) (hk0 : m ≤ 16) : Contract F Try.prog 16 [.i .i64 n, .i .i64 m] (natRes (cnt m n m)) := by
  refine contract_of Try.func16 rfl (by kernel_rfl) ?_
  simp only [Try.ntmps16, argEnv]
  have ek : IntKind.i64.wrap ((m : Int) + 1) = ((m + 1 : Nat) : Int) := by rw [w64 (by omega)]; omega
  (repeat refine Sat.seq ?_)
  (refine Sat.region_k fun k hk => ?_; simp -implicitDefEqProofs only [evr, id, reduceCtorEq, reduceIte, Nat.reduceMul, Nat.reduceAdd, Nat.reduceLT, Nat.reduceLeDiff, Nat.reduceEqDiff, Int.reduceLT, Int.reduceBEq, Int.reduceBNe, Nat.reduceBEq, List.append_nil, Int.toNat_zero, Nat.sub_self, frS]; refine hk _ ?_; clear hk k; try show Sat _ _ _ _ _)
  (repeat refine Sat.seq ?_)
  refine Sat.region_at ⟨63, [(27, .b false), (0, .i .i64 n), (1, .i .i64 m)], []⟩ (fun k' hk => ?_) ?_
  · simp -implicitDefEqProofs only [evr, id, reduceCtorEq, reduceIte, Nat.reduceMul, Nat.reduceAdd, Nat.reduceLT, Nat.reduceLeDiff, Nat.reduceEqDiff, Int.reduceLT, Int.reduceBEq, Int.reduceBNe, Nat.reduceBEq, List.append_nil, Int.toNat_zero, Nat.sub_self, frS]
    refine ⟨fun h => by omega, fun h => ⟨fun h => by omega, fun h => ⟨fun h => by omega, fun h => ?_⟩⟩⟩
    refine hk _ ?_
    have e : decide (16 < (m : Int)) = false := by simp; omega
    simp only [e]
    simp -implicitDefEqProofs only [evr, id, reduceCtorEq, reduceIte, Nat.reduceMul, Nat.reduceAdd, Nat.reduceLT, Nat.reduceLeDiff, Nat.reduceEqDiff, Int.reduceLT, Int.reduceBEq, Int.reduceBNe, Nat.reduceBEq, List.append_nil, Int.toNat_zero, Nat.sub_self, frS, evl]
  simp only [thenK]
  refine Sat.cond_b rfl (fun h => by cases h) (fun h => ?_)
  refine Sat.skip ?_
  simp only [thenK]
  (repeat refine Sat.seq ?_)
  (refine Sat.region_k fun k hk => ?_; simp -implicitDefEqProofs only [evr, id, reduceCtorEq, reduceIte, Nat.reduceMul, Nat.reduceAdd, Nat.reduceLT, Nat.reduceLeDiff, Nat.reduceEqDiff, Int.reduceLT, Int.reduceBEq, Int.reduceBNe, Nat.reduceBEq, List.append_nil, Int.toNat_zero, Nat.sub_self, frS]; refine hk _ ?_; clear hk k; try show Sat _ _ _ _ _)
  (repeat refine Sat.seq ?_)
  refine Sat.region_k fun k' hk => ?_
  simp -implicitDefEqProofs only [evr, id, reduceCtorEq, reduceIte, Nat.reduceMul, Nat.reduceAdd, Nat.reduceLT, Nat.reduceLeDiff, Nat.reduceEqDiff, Int.reduceLT, Int.reduceBEq, Int.reduceBNe, Nat.reduceBEq, List.append_nil, Int.toNat_zero, Nat.sub_self, frS, ek]
  refine hk _ ?_
  clear hk k'
  (repeat refine Sat.seq ?_)
  refine Sat.block ?_
  (repeat refine Sat.seq ?_)
  refine Sat.loop (ι := Nat × SV × SV) (fun x => ⟨63, [(30, .i .i64 x.1), (29, .i .i64 (m + 1 : Nat)), (0, .i .i64 n), (1, .i .i64 m), (6, x.2.1), (7, x.2.2)], []⟩)
    (fun x => x.1 ≤ m + 1 ∧ Nats x.2.1 (sumE (ontoT n m) x.1) ∧ Nats x.2.2 (sumO (ontoT n m) x.1)) (fun x => m + 1 - x.1) (0, .sl none 0 0 0 (fun _ _ => .v undef), .sl none 0 0 0 (fun _ _ => .v undef)) ⟨by omega, Nats.nil, Nats.nil⟩ (by simp -implicitDefEqProofs only [evr, id, reduceCtorEq, reduceIte, Nat.reduceMul, Nat.reduceAdd, Nat.reduceLT, Nat.reduceLeDiff, Nat.reduceEqDiff, Int.reduceLT, Int.reduceBEq, Int.reduceBNe, Nat.reduceBEq, List.append_nil, Int.toNat_zero, Nat.sub_self, frS, evl]; try rfl) ?_
  rintro ⟨i, se, so⟩ ⟨hi, he, ho⟩
  simp only at hi he ho ⊢
  have he' := he
  have ho' := ho
  obtain ⟨a3, c3, z3, r3, x3, rfl, _⟩ := he
  obtain ⟨a4, c4, z4, r4, x4, rfl, _⟩ := ho
  (repeat refine Sat.seq ?_)
  (refine Sat.region_k fun k hk => ?_; simp -implicitDefEqProofs only [evr, id, reduceCtorEq, reduceIte, Nat.reduceMul, Nat.reduceAdd, Nat.reduceLT, Nat.reduceLeDiff, Nat.reduceEqDiff, Int.reduceLT, Int.reduceBEq, Int.reduceBNe, Nat.reduceBEq, List.append_nil, Int.toNat_zero, Nat.sub_self, frS]; refine hk _ ?_; clear hk k; try show Sat _ _ _ _ _)
  (repeat refine Sat.seq ?_)
  refine Sat.cond_b rfl (fun h => ?_) (fun h => ?_)
  · simp only [decide_eq_true_eq] at h
    have hik : i ≤ m := by omega
    have ei : IntKind.i64.wrap ((m : Int) - (i : Int)) = ((m - i : Nat) : Int) := by rw [w64 (by omega)]; omega
    have ei1 : IntKind.i64.wrap ((i : Int) + 1) = ((i + 1 : Nat) : Int) := by rw [w64 (by omega)]; omega
    have em : (((i : Int).tmod 2) == 0) = decide (i % 2 = 0) := by
      rw [Int.tmod_eq_emod_of_nonneg (by omega)]
      by_cases h9 : i % 2 = 0
      · rw [decide_eq_true h9, beq_iff_eq]; omega
      · rw [decide_eq_false h9, beq_eq_false_iff_ne]; omega
    refine Sat.skip ?_
    simp only [thenK]
    (repeat refine Sat.seq ?_)
    refine Sat.block ?_
    (repeat refine Sat.seq ?_)
    (refine Sat.region_k fun k hk => ?_; simp -implicitDefEqProofs only [evr, id, reduceCtorEq, reduceIte, Nat.reduceMul, Nat.reduceAdd, Nat.reduceLT, Nat.reduceLeDiff, Nat.reduceEqDiff, Int.reduceLT, Int.reduceBEq, Int.reduceBNe, Nat.reduceBEq, List.append_nil, Int.toNat_zero, Nat.sub_self, frS]; refine hk _ ?_; clear hk k; try show Sat _ _ _ _ _)
    (repeat refine Sat.seq ?_)
    (refine Sat.region_k fun k hk => ?_; simp -implicitDefEqProofs only [evr, id, reduceCtorEq, reduceIte, Nat.reduceMul, Nat.reduceAdd, Nat.reduceLT, Nat.reduceLeDiff, Nat.reduceEqDiff, Int.reduceLT, Int.reduceBEq, Int.reduceBNe, Nat.reduceBEq, List.append_nil, Int.toNat_zero, Nat.sub_self, frS])
    refine wcall_slice (chooseC F m i (by omega) (by omega)) rfl rfl ?_
    rintro y ⟨s, rfl, hy⟩
    have hs5 := hy
    obtain ⟨a5, c5, z5, r5, x5, rfl, _⟩ := hy
    simp -implicitDefEqProofs only [evr, id, reduceCtorEq, reduceIte, Nat.reduceMul, Nat.reduceAdd, Nat.reduceLT, Nat.reduceLeDiff, Nat.reduceEqDiff, Int.reduceLT, Int.reduceBEq, Int.reduceBNe, Nat.reduceBEq, List.append_nil, Int.toNat_zero, Nat.sub_self, frS]
    (refine hk _ ?_; clear hk k; try show Sat _ _ _ _ _)
    (repeat refine Sat.seq ?_)
    refine Sat.region_k fun k' hk => ?_
    simp -implicitDefEqProofs only [evr, id, reduceCtorEq, reduceIte, Nat.reduceMul, Nat.reduceAdd, Nat.reduceLT, Nat.reduceLeDiff, Nat.reduceEqDiff, Int.reduceLT, Int.reduceBEq, Int.reduceBNe, Nat.reduceBEq, List.append_nil, Int.toNat_zero, Nat.sub_self, frS, ei]
    refine wcall_slice (stPowerC F (m - i) n (by omega) hn) rfl rfl ?_
    intro y hy
    have hs6 := hy
    obtain ⟨a6, c6, z6, r6, x6, rfl, _⟩ := hy
    simp -implicitDefEqProofs only [evr, id, reduceCtorEq, reduceIte, Nat.reduceMul, Nat.reduceAdd, Nat.reduceLT, Nat.reduceLeDiff, Nat.reduceEqDiff, Int.reduceLT, Int.reduceBEq, Int.reduceBNe, Nat.reduceBEq, List.append_nil, Int.toNat_zero, Nat.sub_self, frS]
    refine wcall_slice (stTimesC F hs5 hs6 (Zn.binom_pw (by omega) i) (kn_pw (by omega) hn) (lt_pw (ontoT_le hk0 hn i) (by rw [xb_eq]; decide))) rfl rfl ?_
    intro y hy
    have hs7 : Nats y (ontoT n m i) := hy
    obtain ⟨a7, c7, z7, r7, x7, rfl, _⟩ := hy
    simp -implicitDefEqProofs only [evr, id, reduceCtorEq, reduceIte, Nat.reduceMul, Nat.reduceAdd, Nat.reduceLT, Nat.reduceLeDiff, Nat.reduceEqDiff, Int.reduceLT, Int.reduceBEq, Int.reduceBNe, Nat.reduceBEq, List.append_nil, Int.toNat_zero, Nat.sub_self, frS]
    refine hk _ ?_
    clear hk k'
    try show Sat _ _ _ _ _
    (repeat refine Sat.seq ?_)
    refine Sat.region_k fun k' hk => ?_
    simp -implicitDefEqProofs only [evr, id, reduceCtorEq, reduceIte, Nat.reduceMul, Nat.reduceAdd, Nat.reduceLT, Nat.reduceLeDiff, Nat.reduceEqDiff, Int.reduceLT, Int.reduceBEq, Int.reduceBNe, Nat.reduceBEq, List.append_nil, Int.toNat_zero, Nat.sub_self, frS, em]
    refine ⟨by decide, ?_⟩
    refine hk _ ?_
    clear hk k'
    try show Sat _ _ _ _ _
    have s1 : sumE (ontoT n m) (i + 1) = sumE (ontoT n m) i + if i % 2 = 0 then ontoT n m i else 0 := rfl
    have s2 : sumO (ontoT n m) (i + 1) = sumO (ontoT n m) i + if i % 2 = 0 then 0 else ontoT n m i := rfl
    have p1 := sumE_pw hk0 hn (show i + 1 ≤ 18 by omega)
    have p2 := sumO_pw hk0 hn (show i + 1 ≤ 18 by omega)
    (repeat refine Sat.seq ?_)
    refine Sat.cond_b rfl (fun h5 => ?_) (fun h5 => ?_)
    · have h6 := of_decide_eq_true h5
      rw [if_pos h6] at s1 s2
      (repeat refine Sat.seq ?_)
      (refine Sat.region_k fun k hk => ?_; simp -implicitDefEqProofs only [evr, id, reduceCtorEq, reduceIte, Nat.reduceMul, Nat.reduceAdd, Nat.reduceLT, Nat.reduceLeDiff, Nat.reduceEqDiff, Int.reduceLT, Int.reduceBEq, Int.reduceBNe, Nat.reduceBEq, List.append_nil, Int.toNat_zero, Nat.sub_self, frS])
      refine wcall_slice (stPlusC F he' hs7 (by rw [← s1]; exact p1)) rfl rfl ?_
      intro y hy
      have hs8 := hy
      obtain ⟨a8, c8, z8, r8, x8, rfl, _⟩ := hy
      simp -implicitDefEqProofs only [evr, id, reduceCtorEq, reduceIte, Nat.reduceMul, Nat.reduceAdd, Nat.reduceLT, Nat.reduceLeDiff, Nat.reduceEqDiff, Int.reduceLT, Int.reduceBEq, Int.reduceBNe, Nat.reduceBEq, List.append_nil, Int.toNat_zero, Nat.sub_self, frS]
      refine hk _ ?_
      clear hk k
      simp only [thenK, blockK]
      (repeat refine Sat.seq ?_)
      refine Sat.region_k fun k' hk => ?_
      simp -implicitDefEqProofs only [evr, id, reduceCtorEq, reduceIte, Nat.reduceMul, Nat.reduceAdd, Nat.reduceLT, Nat.reduceLeDiff, Nat.reduceEqDiff, Int.reduceLT, Int.reduceBEq, Int.reduceBNe, Nat.reduceBEq, List.append_nil, Int.toNat_zero, Nat.sub_self, frS, ei1]
      refine hk _ ?_
      simp only [thenK, blockK]
      refine ⟨(i + 1, _, _), ⟨by show i + 1 ≤ m + 1; omega, by rw [s1]; exact hs8, by rw [s2, Nat.add_zero]; exact ho'⟩, by show m + 1 - (i + 1) < m + 1 - i; omega, ?_⟩
      simp -implicitDefEqProofs only [evr, id, reduceCtorEq, reduceIte, Nat.reduceMul, Nat.reduceAdd, Nat.reduceLT, Nat.reduceLeDiff, Nat.reduceEqDiff, Int.reduceLT, Int.reduceBEq, Int.reduceBNe, Nat.reduceBEq, List.append_nil, Int.toNat_zero, Nat.sub_self, frS, evl]
    · have h6 := of_decide_eq_false h5
      rw [if_neg h6] at s1 s2
      (repeat refine Sat.seq ?_)
      (refine Sat.region_k fun k hk => ?_; simp -implicitDefEqProofs only [evr, id, reduceCtorEq, reduceIte, Nat.reduceMul, Nat.reduceAdd, Nat.reduceLT, Nat.reduceLeDiff, Nat.reduceEqDiff, Int.reduceLT, Int.reduceBEq, Int.reduceBNe, Nat.reduceBEq, List.append_nil, Int.toNat_zero, Nat.sub_self, frS])
      refine wcall_slice (stPlusC F ho' hs7 (by rw [← s2]; exact p2)) rfl rfl ?_
      intro y hy
      have hs8 := hy
      obtain ⟨a8, c8, z8, r8, x8, rfl, _⟩ := hy
      simp -implicitDefEqProofs only [evr, id, reduceCtorEq, reduceIte, Nat.reduceMul, Nat.reduceAdd, Nat.reduceLT, Nat.reduceLeDiff, Nat.reduceEqDiff, Int.reduceLT, Int.reduceBEq, Int.reduceBNe, Nat.reduceBEq, List.append_nil, Int.toNat_zero, Nat.sub_self, frS]
      refine hk _ ?_
      clear hk k
      simp only [thenK, blockK]
      (repeat refine Sat.seq ?_)
      refine Sat.region_k fun k' hk => ?_
      simp -implicitDefEqProofs only [evr, id, reduceCtorEq, reduceIte, Nat.reduceMul, Nat.reduceAdd, Nat.reduceLT, Nat.reduceLeDiff, Nat.reduceEqDiff, Int.reduceLT, Int.reduceBEq, Int.reduceBNe, Nat.reduceBEq, List.append_nil, Int.toNat_zero, Nat.sub_self, frS, ei1]
      refine hk _ ?_
      simp only [thenK, blockK]
      refine ⟨(i + 1, _, _), ⟨by show i + 1 ≤ m + 1; omega, by rw [s1, Nat.add_zero]; exact he', by rw [s2]; exact hs8⟩, by show m + 1 - (i + 1) < m + 1 - i; omega, ?_⟩
      simp -implicitDefEqProofs only [evr, id, reduceCtorEq, reduceIte, Nat.reduceMul, Nat.reduceAdd, Nat.reduceLT, Nat.reduceLeDiff, Nat.reduceEqDiff, Int.reduceLT, Int.reduceBEq, Int.reduceBNe, Nat.reduceBEq, List.append_nil, Int.toNat_zero, Nat.sub_self, frS, evl]
  · simp only [decide_eq_false_iff_not] at h
    have hi2 : i = m + 1 := by omega
    subst hi2
    obtain ⟨o1, o2⟩ := onto_cnt n m
    refine Sat.exit ?_
    simp only [thenK, blockK, reduceIte]
    (repeat refine Sat.seq ?_)
    (refine Sat.region_k fun k hk => ?_; simp -implicitDefEqProofs only [evr, id, reduceCtorEq, reduceIte, Nat.reduceMul, Nat.reduceAdd, Nat.reduceLT, Nat.reduceLeDiff, Nat.reduceEqDiff, Int.reduceLT, Int.reduceBEq, Int.reduceBNe, Nat.reduceBEq, List.append_nil, Int.toNat_zero, Nat.sub_self, frS])
    refine wcall_slice (subC F he' ho' (sumE_pw hk0 hn (by omega)) o1) rfl rfl ?_
    rintro y ⟨s, rfl, hy⟩
    rw [o2] at hy
    have hs8 := hy
    obtain ⟨a8, c8, z8, r8, x8, rfl, _⟩ := hy
    simp -implicitDefEqProofs only [evr, id, reduceCtorEq, reduceIte, Nat.reduceMul, Nat.reduceAdd, Nat.reduceLT, Nat.reduceLeDiff, Nat.reduceEqDiff, Int.reduceLT, Int.reduceBEq, Int.reduceBNe, Nat.reduceBEq, List.append_nil, Int.toNat_zero, Nat.sub_self, frS]
    (refine hk _ ?_; clear hk k; try show Sat _ _ _ _ _)
    (repeat refine Sat.seq ?_)
    (refine Sat.region_k fun k hk => ?_; simp -implicitDefEqProofs only [evr, id, reduceCtorEq, reduceIte, Nat.reduceMul, Nat.reduceAdd, Nat.reduceLT, Nat.reduceLeDiff, Nat.reduceEqDiff, Int.reduceLT, Int.reduceBEq, Int.reduceBNe, Nat.reduceBEq, List.append_nil, Int.toNat_zero, Nat.sub_self, frS]; refine hk _ ?_; clear hk k; try show Sat _ _ _ _ _)
    refine Sat.ret ?_
    simp only [Try.results16, evr, id, reduceCtorEq, reduceIte, Nat.reduceMul, Nat.reduceAdd, Nat.reduceLT, Nat.reduceLeDiff, Nat.reduceEqDiff, Int.reduceLT, Int.reduceBEq, Int.reduceBNe, Nat.reduceBEq, List.append_nil, Int.toNat_zero, Nat.sub_self, frS]
    exact ⟨_, rfl, hs8⟩
end Go.Proofs.Ytagmohpafjncfaa

/- Package stopping, by the evaluator: Missing, Needed. -/
set_option linter.unusedSimpArgs false
set_option linter.unusedVariables false
namespace Go.Proofs.Ytagmohpafjncfaa
open Eng Lmb

/-- the parts of the fraction of tables in which a successor is missed -/
def misG (n m : Nat) : Nat := Nat.gcd (m ^ n - cnt m n m) (m ^ n)
def misP (n m : Nat) : Nat := (m ^ n - cnt m n m) / misG n m
def misQ (n m : Nat) : Nat := m ^ n / misG n m
theorem misG_pos {n m : Nat} (hm : 1 ≤ m) : 0 < misG n m := Nat.gcd_pos_of_pos_right _ (Nat.pow_pos hm)
theorem misP_eq (n m : Nat) : misP n m * misG n m = m ^ n - cnt m n m := Nat.div_mul_cancel (Nat.gcd_dvd_left _ _)
theorem misQ_eq (n m : Nat) : misQ n m * misG n m = m ^ n := Nat.div_mul_cancel (Nat.gcd_dvd_right _ _)
theorem misP_le (n m : Nat) : misP n m ≤ m ^ n := Nat.le_trans (Nat.div_le_self _ _) (Nat.sub_le _ _)
theorem misQ_le (n m : Nat) : misQ n m ≤ m ^ n := Nat.div_le_self _ _
/-- more is missed than p / q -/
def missed (n m p q : Nat) : Prop := p * m ^ n < (m ^ n - cnt m n m) * q
theorem missed_iff {n m p q : Nat} (hm : 1 ≤ m) : missed n m p q ↔ p * misQ n m < misP n m * q := by
  unfold missed
  have e1 : p * m ^ n = p * misQ n m * misG n m := by rw [Nat.mul_assoc, misQ_eq]
  have e2 : (m ^ n - cnt m n m) * q = misP n m * q * misG n m := by rw [← misP_eq, Nat.mul_assoc, Nat.mul_comm (misG n m), ← Nat.mul_assoc]
  rw [e1, e2]
  exact Nat.mul_lt_mul_right (misG_pos hm)

set_option maxRecDepth 100000 in
theorem stMissingC (F : Frm) (n m : Nat) (hn : n ≤ 128) (hm : m ≤ 16) (hm1 : 1 ≤ m) : Contract F Try.prog 13 [.i .i64 n, .i .i64 m] (fun r => ∃ f, r = tupL [f, .i .i64 0] ∧ FrS f false (misP n m) (misQ n m)) := by
  refine contract_of Try.func13 rfl (by kernel_rfl) ?_
  simp only [Try.ntmps13, argEnv]
  have hpow := kn_pw hm hn
  have hcl := cnt_le m n m (Nat.le_refl _)
  have h0 : 0 < m ^ n := Nat.pow_pos hm1
  (repeat refine Sat.seq ?_)
  (refine Sat.region_k fun k hk => ?_; simp -implicitDefEqProofs only [evr, id, reduceCtorEq, reduceIte, Nat.reduceMul, Nat.reduceAdd, Nat.reduceLT, Nat.reduceLeDiff, Nat.reduceEqDiff, Int.reduceLT, Int.reduceBEq, Int.reduceBNe, Nat.reduceBEq, List.append_nil, Int.toNat_zero, Nat.sub_self, frS])
  intro b4
  (refine hk _ ?_; clear hk k; try show Sat _ _ _ _ _)
  (repeat refine Sat.seq ?_)
  refine Sat.region_at ⟨45, [(24, .b false), (4, .op 0 b4 0), (0, .i .i64 n), (1, .i .i64 m)], [.box b4 30 [.b false, .sl none 0 0 0 (fun _ _ => .v undef), .sl none 0 0 0 (fun _ _ => .v undef)]]⟩ (fun k hk => ?_) ?_
  · simp -implicitDefEqProofs only [evr, id, reduceCtorEq, reduceIte, Nat.reduceMul, Nat.reduceAdd, Nat.reduceLT, Nat.reduceLeDiff, Nat.reduceEqDiff, Int.reduceLT, Int.reduceBEq, Int.reduceBNe, Nat.reduceBEq, List.append_nil, Int.toNat_zero, Nat.sub_self, frS]
    refine ⟨fun h => by omega, fun h => ⟨fun h => by omega, fun h => ⟨fun h => by omega, fun h => ?_⟩⟩⟩
    refine hk _ ?_
    have e : decide (16 < (m : Int)) = false := by simp; omega
    simp only [e]
    simp -implicitDefEqProofs only [evr, id, reduceCtorEq, reduceIte, Nat.reduceMul, Nat.reduceAdd, Nat.reduceLT, Nat.reduceLeDiff, Nat.reduceEqDiff, Int.reduceLT, Int.reduceBEq, Int.reduceBNe, Nat.reduceBEq, List.append_nil, Int.toNat_zero, Nat.sub_self, frS, evl]
    try rfl
  simp only [thenK]
  refine Sat.cond_b rfl (fun h => by cases h) (fun h => ?_)
  refine Sat.skip ?_
  simp only [thenK]
  (repeat refine Sat.seq ?_)
  (refine Sat.region_k fun k hk => ?_; simp -implicitDefEqProofs only [evr, id, reduceCtorEq, reduceIte, Nat.reduceMul, Nat.reduceAdd, Nat.reduceLT, Nat.reduceLeDiff, Nat.reduceEqDiff, Int.reduceLT, Int.reduceBEq, Int.reduceBNe, Nat.reduceBEq, List.append_nil, Int.toNat_zero, Nat.sub_self, frS])
  refine wcall_slice (stPowerC F m n hm hn) rfl rfl ?_
  intro y hy
  have hs1 := hy
  obtain ⟨a1, c1, z1, r1, x1, rfl, _⟩ := hy
  simp -implicitDefEqProofs only [evr, id, reduceCtorEq, reduceIte, Nat.reduceMul, Nat.reduceAdd, Nat.reduceLT, Nat.reduceLeDiff, Nat.reduceEqDiff, Int.reduceLT, Int.reduceBEq, Int.reduceBNe, Nat.reduceBEq, List.append_nil, Int.toNat_zero, Nat.sub_self, frS]
  (refine hk _ ?_; clear hk k; try show Sat _ _ _ _ _)
  (repeat refine Sat.seq ?_)
  (refine Sat.region_k fun k hk => ?_; simp -implicitDefEqProofs only [evr, id, reduceCtorEq, reduceIte, Nat.reduceMul, Nat.reduceAdd, Nat.reduceLT, Nat.reduceLeDiff, Nat.reduceEqDiff, Int.reduceLT, Int.reduceBEq, Int.reduceBNe, Nat.reduceBEq, List.append_nil, Int.toNat_zero, Nat.sub_self, frS])
  refine wcall_slice (stOntoC F n m hn hm) rfl rfl ?_
  rintro y ⟨s, rfl, hy⟩
  have hs2 := hy
  obtain ⟨a2, c2, z2, r2, x2, rfl, _⟩ := hy
  simp -implicitDefEqProofs only [evr, id, reduceCtorEq, reduceIte, Nat.reduceMul, Nat.reduceAdd, Nat.reduceLT, Nat.reduceLeDiff, Nat.reduceEqDiff, Int.reduceLT, Int.reduceBEq, Int.reduceBNe, Nat.reduceBEq, List.append_nil, Int.toNat_zero, Nat.sub_self, frS]
  (refine hk _ ?_; clear hk k; try show Sat _ _ _ _ _)
  (repeat refine Sat.seq ?_)
  (refine Sat.region_k fun k hk => ?_; simp -implicitDefEqProofs only [evr, id, reduceCtorEq, reduceIte, Nat.reduceMul, Nat.reduceAdd, Nat.reduceLT, Nat.reduceLeDiff, Nat.reduceEqDiff, Int.reduceLT, Int.reduceBEq, Int.reduceBNe, Nat.reduceBEq, List.append_nil, Int.toNat_zero, Nat.sub_self, frS])
  refine wcall_slice (subC F hs1 hs2 hpow hcl) rfl rfl ?_
  rintro y ⟨s, rfl, hy⟩
  have hs3 := hy
  obtain ⟨a3, c3, z3, r3, x3, rfl, _⟩ := hy
  simp -implicitDefEqProofs only [evr, id, reduceCtorEq, reduceIte, Nat.reduceMul, Nat.reduceAdd, Nat.reduceLT, Nat.reduceLeDiff, Nat.reduceEqDiff, Int.reduceLT, Int.reduceBEq, Int.reduceBNe, Nat.reduceBEq, List.append_nil, Int.toNat_zero, Nat.sub_self, frS]
  (refine hk _ ?_; clear hk k; try show Sat _ _ _ _ _)
  (repeat refine Sat.seq ?_)
  (refine Sat.region_k fun k hk => ?_; simp -implicitDefEqProofs only [evr, id, reduceCtorEq, reduceIte, Nat.reduceMul, Nat.reduceAdd, Nat.reduceLT, Nat.reduceLeDiff, Nat.reduceEqDiff, Int.reduceLT, Int.reduceBEq, Int.reduceBNe, Nat.reduceBEq, List.append_nil, Int.toNat_zero, Nat.sub_self, frS])
  refine wcall_slice (fractionReduceC F false hs3 hs1 (by omega) hpow h0) rfl (by simp -implicitDefEqProofs only [evr, id, reduceCtorEq, reduceIte, Nat.reduceMul, Nat.reduceAdd, Nat.reduceLT, Nat.reduceLeDiff, Nat.reduceEqDiff, Int.reduceLT, Int.reduceBEq, Int.reduceBNe, Nat.reduceBEq, List.append_nil, Int.toNat_zero, Nat.sub_self, frS]; try rfl) ?_
  rintro y ⟨sp, sq, rfl, hp, hq⟩
  have hp' : Nats sp (misP n m) := hp
  have hq' : Nats sq (misQ n m) := hq
  obtain ⟨a5, c5, z5, r5, x5, rfl, _⟩ := hp
  obtain ⟨a6, c6, z6, r6, x6, rfl, _⟩ := hq
  simp -implicitDefEqProofs only [evr, id, reduceCtorEq, reduceIte, Nat.reduceMul, Nat.reduceAdd, Nat.reduceLT, Nat.reduceLeDiff, Nat.reduceEqDiff, Int.reduceLT, Int.reduceBEq, Int.reduceBNe, Nat.reduceBEq, List.append_nil, Int.toNat_zero, Nat.sub_self, frS, Bool.false_and]
  (refine hk _ ?_; clear hk k; try show Sat _ _ _ _ _)
  refine Sat.ret ?_
  simp only [Try.results13, evr, id, reduceCtorEq, reduceIte, Nat.reduceMul, Nat.reduceAdd, Nat.reduceLT, Nat.reduceLeDiff, Nat.reduceEqDiff, Int.reduceLT, Int.reduceBEq, Int.reduceBNe, Nat.reduceBEq, List.append_nil, Int.toNat_zero, Nat.sub_self, frS]
  exact ⟨_, rfl, _, _, rfl, hp', hq'⟩

/-- what Needed gives -/
def NeedPost (m p q : Nat) (r : SV) : Prop := (∃ n, n ≤ 128 ∧ r = tupL [.i .i64 (n : Nat), .i .i64 0] ∧ ¬ missed n (m + 1) p q ∧ ∀ j, j < n → missed j (m + 1) p q) ∨ (r = tupL [.i .i64 0, .i .i64 5] ∧ ∀ j, j ≤ 128 → missed j (m + 1) p q)

theorem q_pw {q : Nat} (h : q < 1073741824) : (q : Int) < pw 256 := lt_pw (a := 30) (Nat.le_of_lt h) (by decide)

set_option maxRecDepth 100000 in
theorem stNeededC (F : Frm) (m : Nat) (hm : m ≤ 15) (hm1 : 1 ≤ m) {sp sq : SV} {p q : Nat} (hp : Nats sp p) (hq : Nats sq q) (h0 : 0 < p) (h1 : p < q) (h2 : q < 1073741824) :
    Contract F Try.prog 12 [.i .i64 m, frS false sp sq] (NeedPost m p q) := by
  have hp' := hp
  have hq' := hq
  obtain ⟨a1, c1, z1, r1, x1, rfl, _⟩ := hp
  obtain ⟨a2, c2, z2, r2, x2, rfl, _⟩ := hq
  refine contract_of Try.func12 rfl (by kernel_rfl) ?_
  simp only [Try.ntmps12, argEnv, frS]
  (repeat refine Sat.seq ?_)
  (refine Sat.region_k fun k hk => ?_; simp -implicitDefEqProofs only [evr, id, reduceCtorEq, reduceIte, Nat.reduceMul, Nat.reduceAdd, Nat.reduceLT, Nat.reduceLeDiff, Nat.reduceEqDiff, Int.reduceLT, Int.reduceBEq, Int.reduceBNe, Nat.reduceBEq, List.append_nil, Int.toNat_zero, Nat.sub_self, frS])
  intro b3
  (refine hk _ ?_; clear hk k; try show Sat _ _ _ _ _)
  (repeat refine Sat.seq ?_)
  refine Sat.region_at ⟨36, [(19, .b false), (3, .op 0 b3 0), (0, .i .i64 m)], [.box b3 30 [.b false, .sl a1 x1.length c1 z1 r1, .sl a2 x2.length c2 z2 r2]]⟩ (fun k hk => ?_) ?_
  · simp -implicitDefEqProofs only [evr, id, reduceCtorEq, reduceIte, Nat.reduceMul, Nat.reduceAdd, Nat.reduceLT, Nat.reduceLeDiff, Nat.reduceEqDiff, Int.reduceLT, Int.reduceBEq, Int.reduceBNe, Nat.reduceBEq, List.append_nil, Int.toNat_zero, Nat.sub_self, frS]
    refine ⟨fun h => by omega, fun h => ⟨fun h => by omega, fun h => ?_⟩⟩
    refine wcall_plain (stChanceC F hp' hq' h0 h1 (lt_pw (a := 31) (by omega) (by decide))) (by simp -implicitDefEqProofs only [evr, id, reduceCtorEq, reduceIte, Nat.reduceMul, Nat.reduceAdd, Nat.reduceLT, Nat.reduceLeDiff, Nat.reduceEqDiff, Int.reduceLT, Int.reduceBEq, Int.reduceBNe, Nat.reduceBEq, List.append_nil, Int.toNat_zero, Nat.sub_self, frS]; try rfl) (by rintro _ rfl; exact ok_plain rfl) ?_
    rintro y rfl
    simp -implicitDefEqProofs only [evr, id, reduceCtorEq, reduceIte, Nat.reduceMul, Nat.reduceAdd, Nat.reduceLT, Nat.reduceLeDiff, Nat.reduceEqDiff, Int.reduceLT, Int.reduceBEq, Int.reduceBNe, Nat.reduceBEq, List.append_nil, Int.toNat_zero, Nat.sub_self, frS]
    refine hk _ ?_
    simp -implicitDefEqProofs only [evr, id, reduceCtorEq, reduceIte, Nat.reduceMul, Nat.reduceAdd, Nat.reduceLT, Nat.reduceLeDiff, Nat.reduceEqDiff, Int.reduceLT, Int.reduceBEq, Int.reduceBNe, Nat.reduceBEq, List.append_nil, Int.toNat_zero, Nat.sub_self, frS, evl]
    try rfl
  simp only [thenK]
  refine Sat.cond_b rfl (fun h => by cases h) (fun h => ?_)
  refine Sat.skip ?_
  simp only [thenK]
  (repeat refine Sat.seq ?_)
  (refine Sat.region_k fun k hk => ?_; simp -implicitDefEqProofs only [evr, id, reduceCtorEq, reduceIte, Nat.reduceMul, Nat.reduceAdd, Nat.reduceLT, Nat.reduceLeDiff, Nat.reduceEqDiff, Int.reduceLT, Int.reduceBEq, Int.reduceBNe, Nat.reduceBEq, List.append_nil, Int.toNat_zero, Nat.sub_self, frS]; refine hk _ ?_; clear hk k; try show Sat _ _ _ _ _)
  (repeat refine Sat.seq ?_)
  refine Sat.block ?_
  (repeat refine Sat.seq ?_)
  refine Sat.loop (ι := Nat) (fun i => ⟨36, [(20, .i .i64 i), (3, .op 0 b3 0), (0, .i .i64 m)], [.box b3 30 [.b false, .sl a1 x1.length c1 z1 r1, .sl a2 x2.length c2 z2 r2]]⟩)
    (fun i => i ≤ 129 ∧ ∀ j, j < i → missed j (m + 1) p q) (fun i => 129 - i) 0 ⟨by omega, fun j hj => absurd hj (Nat.not_lt_zero _)⟩ (by simp -implicitDefEqProofs only [evr, id, reduceCtorEq, reduceIte, Nat.reduceMul, Nat.reduceAdd, Nat.reduceLT, Nat.reduceLeDiff, Nat.reduceEqDiff, Int.reduceLT, Int.reduceBEq, Int.reduceBNe, Nat.reduceBEq, List.append_nil, Int.toNat_zero, Nat.sub_self, frS, evl]; try rfl) ?_
  rintro i ⟨hi, hmis⟩
  (repeat refine Sat.seq ?_)
  (refine Sat.region_k fun k hk => ?_; simp -implicitDefEqProofs only [evr, id, reduceCtorEq, reduceIte, Nat.reduceMul, Nat.reduceAdd, Nat.reduceLT, Nat.reduceLeDiff, Nat.reduceEqDiff, Int.reduceLT, Int.reduceBEq, Int.reduceBNe, Nat.reduceBEq, List.append_nil, Int.toNat_zero, Nat.sub_self, frS]; refine hk _ ?_; clear hk k; try show Sat _ _ _ _ _)
  (repeat refine Sat.seq ?_)
  refine Sat.cond_b rfl (fun h => ?_) (fun h => ?_)
  · simp only [decide_eq_true_eq] at h
    have hin : i ≤ 128 := by omega
    have em : IntKind.i64.wrap ((m : Int) + 1) = ((m + 1 : Nat) : Int) := by rw [w64 (by omega)]; omega
    have ei1 : IntKind.i64.wrap ((i : Int) + 1) = ((i + 1 : Nat) : Int) := by rw [w64 (by omega)]; omega
    have bP := Nat.le_trans (misP_le i (m + 1)) (kn_le (k := m + 1) (by omega) hin)
    have bQ := Nat.le_trans (misQ_le i (m + 1)) (kn_le (k := m + 1) (by omega) hin)
    refine Sat.skip ?_
    simp only [thenK]
    (repeat refine Sat.seq ?_)
    refine Sat.block ?_
    (repeat refine Sat.seq ?_)
    (refine Sat.region_k fun k hk => ?_; simp -implicitDefEqProofs only [evr, id, reduceCtorEq, reduceIte, Nat.reduceMul, Nat.reduceAdd, Nat.reduceLT, Nat.reduceLeDiff, Nat.reduceEqDiff, Int.reduceLT, Int.reduceBEq, Int.reduceBNe, Nat.reduceBEq, List.append_nil, Int.toNat_zero, Nat.sub_self, frS]; refine hk _ ?_; clear hk k; try show Sat _ _ _ _ _)
    (repeat refine Sat.seq ?_)
    refine Sat.region_k fun k hk => ?_
    simp -implicitDefEqProofs only [evr, id, reduceCtorEq, reduceIte, Nat.reduceMul, Nat.reduceAdd, Nat.reduceLT, Nat.reduceLeDiff, Nat.reduceEqDiff, Int.reduceLT, Int.reduceBEq, Int.reduceBNe, Nat.reduceBEq, List.append_nil, Int.toNat_zero, Nat.sub_self, frS, em]
    refine wcall_slice (stMissingC F i (m + 1) hin (by omega) (by omega)) rfl rfl ?_
    rintro y ⟨f, rfl, sr, ss, rfl, hr, hs⟩
    have hr' := hr
    have hs' := hs
    obtain ⟨a3, c3, z3, r3, x3, rfl, _⟩ := hr
    obtain ⟨a4, c4, z4, r4, x4, rfl, _⟩ := hs
    simp -implicitDefEqProofs only [evr, id, reduceCtorEq, reduceIte, Nat.reduceMul, Nat.reduceAdd, Nat.reduceLT, Nat.reduceLeDiff, Nat.reduceEqDiff, Int.reduceLT, Int.reduceBEq, Int.reduceBNe, Nat.reduceBEq, List.append_nil, Int.toNat_zero, Nat.sub_self, frS]
    intro b7
    refine hk _ ?_
    clear hk k
    try show Sat _ _ _ _ _
    (repeat refine Sat.seq ?_)
    (refine Sat.region_k fun k hk => ?_; simp -implicitDefEqProofs only [evr, id, reduceCtorEq, reduceIte, Nat.reduceMul, Nat.reduceAdd, Nat.reduceLT, Nat.reduceLeDiff, Nat.reduceEqDiff, Int.reduceLT, Int.reduceBEq, Int.reduceBNe, Nat.reduceBEq, List.append_nil, Int.toNat_zero, Nat.sub_self, frS])
    have bq : q ≤ 2 ^ 30 := Nat.le_of_lt h2
    have bp : p ≤ 2 ^ 30 := by omega
    have bpQ := mul_two bp bQ
    have bPq := mul_two bP bq
    refine wcall_plain (stBelowC F false false hp' hq' hr' hs' (q_pw (by omega)) (q_pw h2) (lt_pw bP (by rw [xb_eq]; decide)) (lt_pw bQ (by rw [xb_eq]; decide)) (lt_pw bpQ (by rw [xb_eq]; decide)) (lt_pw bPq (by rw [xb_eq]; decide)) (lt_pw_add bpQ bPq (by rw [xb_eq]; decide))) (by simp -implicitDefEqProofs only [evr, id, reduceCtorEq, reduceIte, Nat.reduceMul, Nat.reduceAdd, Nat.reduceLT, Nat.reduceLeDiff, Nat.reduceEqDiff, Int.reduceLT, Int.reduceBEq, Int.reduceBNe, Nat.reduceBEq, List.append_nil, Int.toNat_zero, Nat.sub_self, frS]; try rfl) (by rintro _ rfl; exact ok_plain rfl) ?_
    rintro y rfl
    rw [cmpV_pos]
    simp -implicitDefEqProofs only [evr, id, reduceCtorEq, reduceIte, Nat.reduceMul, Nat.reduceAdd, Nat.reduceLT, Nat.reduceLeDiff, Nat.reduceEqDiff, Int.reduceLT, Int.reduceBEq, Int.reduceBNe, Nat.reduceBEq, List.append_nil, Int.toNat_zero, Nat.sub_self, frS]
    (refine hk _ ?_; clear hk k; try show Sat _ _ _ _ _)
    have hmi := missed_iff (n := i) (m := m + 1) (p := p) (q := q) (by omega)
    refine Sat.cond_b rfl (fun h5 => ?_) (fun h5 => ?_)
    · have h6 : ¬ missed i (m + 1) p q := by
        intro h7
        have := hmi.1 h7
        rw [cmpI_lt (by omega)] at h5
        revert h5
        decide
      (repeat refine Sat.seq ?_)
      (refine Sat.region_k fun k hk => ?_; simp -implicitDefEqProofs only [evr, id, reduceCtorEq, reduceIte, Nat.reduceMul, Nat.reduceAdd, Nat.reduceLT, Nat.reduceLeDiff, Nat.reduceEqDiff, Int.reduceLT, Int.reduceBEq, Int.reduceBNe, Nat.reduceBEq, List.append_nil, Int.toNat_zero, Nat.sub_self, frS]; refine hk _ ?_; clear hk k; try show Sat _ _ _ _ _)
      refine Sat.ret ?_
      simp only [thenK, blockK, Try.results12, evr, id, reduceCtorEq, reduceIte, Nat.reduceMul, Nat.reduceAdd, Nat.reduceLT, Nat.reduceLeDiff, Nat.reduceEqDiff, Int.reduceLT, Int.reduceBEq, Int.reduceBNe, Nat.reduceBEq, List.append_nil, Int.toNat_zero, Nat.sub_self, frS]
      exact .inl ⟨i, hin, rfl, h6, hmis⟩
    · have h6 : missed i (m + 1) p q := by
        refine hmi.2 ?_
        by_cases h8 : p * misQ i (m + 1) < misP i (m + 1) * q
        · exact h8
        exfalso
        by_cases h9 : misP i (m + 1) * q < p * misQ i (m + 1)
        · rw [cmpI_gt (by omega)] at h5
          revert h5
          decide
        · rw [cmpI_eq (by omega)] at h5
          revert h5
          decide
      refine Sat.skip ?_
      simp only [thenK, blockK]
      (repeat refine Sat.seq ?_)
      refine Sat.region_k fun k hk => ?_
      simp -implicitDefEqProofs only [evr, id, reduceCtorEq, reduceIte, Nat.reduceMul, Nat.reduceAdd, Nat.reduceLT, Nat.reduceLeDiff, Nat.reduceEqDiff, Int.reduceLT, Int.reduceBEq, Int.reduceBNe, Nat.reduceBEq, List.append_nil, Int.toNat_zero, Nat.sub_self, frS, ei1]
      refine hk _ ?_
      simp only [thenK, blockK]
      refine ⟨i + 1, ⟨by show i + 1 ≤ 129; omega, fun j hj => ?_⟩, by show 129 - (i + 1) < 129 - i; omega, ?_⟩
      · rcases (show j < i ∨ j = i by omega) with h7 | rfl
        · exact hmis j h7
        · exact h6
      simp -implicitDefEqProofs only [evr, id, reduceCtorEq, reduceIte, Nat.reduceMul, Nat.reduceAdd, Nat.reduceLT, Nat.reduceLeDiff, Nat.reduceEqDiff, Int.reduceLT, Int.reduceBEq, Int.reduceBNe, Nat.reduceBEq, List.append_nil, Int.toNat_zero, Nat.sub_self, frS, evl]
  · simp only [decide_eq_false_iff_not] at h
    have hi2 : i = 129 := by omega
    refine Sat.exit ?_
    simp only [thenK, blockK, reduceIte]
    (repeat refine Sat.seq ?_)
    (refine Sat.region_k fun k hk => ?_; simp -implicitDefEqProofs only [evr, id, reduceCtorEq, reduceIte, Nat.reduceMul, Nat.reduceAdd, Nat.reduceLT, Nat.reduceLeDiff, Nat.reduceEqDiff, Int.reduceLT, Int.reduceBEq, Int.reduceBNe, Nat.reduceBEq, List.append_nil, Int.toNat_zero, Nat.sub_self, frS]; refine hk _ ?_; clear hk k; try show Sat _ _ _ _ _)
    refine Sat.ret ?_
    simp only [Try.results12, evr, id, reduceCtorEq, reduceIte, Nat.reduceMul, Nat.reduceAdd, Nat.reduceLT, Nat.reduceLeDiff, Nat.reduceEqDiff, Int.reduceLT, Int.reduceBEq, Int.reduceBNe, Nat.reduceBEq, List.append_nil, Int.toNat_zero, Nat.sub_self, frS]
    exact .inr ⟨rfl, fun j hj => hmis j (by omega)⟩
end Go.Proofs.Ytagmohpafjncfaa

/- How a slice of integers reads in memory: 'Rd', and a row of integers of the call's own: 'Own'. -/
namespace Go.Proofs.Ytagmohpafjncfaa
open Go.RowKit

/-- A slice value of elements of kind k (one cell each) reads as the list xs. -/
def Rd (k : IntKind) (w : World) (v : Value) (xs : List Int) : Prop :=
  ∃ ad cap, v = .slice ad xs.length cap ∧ xs.length ≤ cap ∧ cap ≤ maxLen ∧
    (xs.length = 0 ∨ ∃ b off, ad = some ⟨b, off, none⟩ ∧ b < w.heap.size ∧ ∀ i, i < xs.length → w.cell? ⟨b, off + i, none⟩ = some (.int k (xs.getD i 0)))

theorem Rd.nil (k : IntKind) (w : World) : Rd k w (.slice none 0 0) [] := ⟨none, 0, rfl, by simp, by simp [maxLen], .inl rfl⟩

theorem Rd.below {k : IntKind} {w w' : World} {v : Value} {xs : List Int} (h : Rd k w v xs) (hb : Below w.heap.size w w') : Rd k w' v xs := by
  obtain ⟨ad, cap, rfl, h1, h2, h3⟩ := h
  refine ⟨ad, cap, rfl, h1, h2, ?_⟩
  rcases h3 with h3 | ⟨b, off, rfl, hlt, hc⟩
  · exact .inl h3
  · exact .inr ⟨b, off, rfl, Nat.lt_of_lt_of_le hlt hb.size, fun i hi => (hb.cell (p := ⟨b, off + i, none⟩) hlt).trans (hc i hi)⟩

theorem Rd.take {k : IntKind} {w : World} {ad : Option Addr} {cap : Nat} {xs : List Int} (h : Rd k w (.slice ad xs.length cap) xs) (n : Nat) (hn : n ≤ xs.length) : Rd k w (.slice ad n cap) (xs.take n) := by
  obtain ⟨ad', cap', e, h1, h2, h3⟩ := h
  simp only [Value.slice.injEq] at e
  obtain ⟨rfl, _, rfl⟩ := e
  have hl : (xs.take n).length = n := by simp; omega
  refine ⟨ad, cap, by rw [hl], by omega, h2, ?_⟩
  rw [hl]
  rcases h3 with h3 | ⟨b, off, rfl, hlt, hc⟩
  · exact .inl (by omega)
  · refine .inr ⟨b, off, rfl, hlt, fun i hi => ?_⟩
    rw [hc i (by omega)]
    simp [List.getD, hi]

theorem rd_of_ints {k : IntKind} {w : World} {x : Addr} {l c : Nat} {zs : List Int} (hl : l ≤ c) (hm : c ≤ maxLen) (hz : zs.length = c) (hcell : ∀ i, i < zs.length → w.cell? (x.add i) = some (.int k (zs.getD i 0))) : Rd k w (.slice (some x) l c) (zs.take l) := by
  have hlen : (zs.take l).length = l := by simp; omega
  refine ⟨some x, c, by rw [hlen], by omega, hm, ?_⟩
  by_cases h0 : l = 0
  · exact .inl (by omega)
  · obtain ⟨b, off, spot⟩ := x
    have hc := hcell 0 (by omega)
    have hspot : spot = none := by simpa [Addr.add] using World.cell?_spot hc
    subst hspot
    refine .inr ⟨b, off, rfl, World.block_lt_of_cell? w _ hc, fun i hi => ?_⟩
    rw [hlen] at hi
    have := hcell i (by omega)
    rw [Addr.add_lit] at this
    rw [this]
    simp [List.getD, hi]

/-- n elements of type e, one cell each, at the head of block g, not frozen, which hold the numbers xs; g is none of the blocks below B. -/
def Own (k : IntKind) (e : TypeId) (B : Nat) (w : World) (g n : Nat) (xs : List Int) : Prop :=
  w.ownsRow B e 1 (.slice (some ⟨g, 0, none⟩) n n) n (xs.map (Value.int k))

section
variable {k : IntKind} {e : TypeId} {B : Nat} {w : World} {g n : Nat} {xs : List Int}

theorem Own.len (h : Own k e B w g n xs) : xs.length = n := by have := h.1; simpa using this
theorem Own.lt (h : Own k e B w g n xs) : B ≤ g ∧ g < w.heap.size := World.ownsRow.lt h g rfl
theorem Own.cell (h : Own k e B w g n xs) (i : Nat) (hi : i < n) : w.cell? ⟨g, i, none⟩ = some (.int k (xs.getD i 0)) := by
  have hl := h.len
  rw [World.ownsRow.cellAt h i (by omega)]
  simp [List.getD, show i < xs.length by omega]
theorem Own.frozen (h : Own k e B w g n xs) (i : Nat) : w.frozen? ⟨g, i, none⟩ = false := World.ownsRow.frozenAt h i
theorem Own.store (h : Own k e B w g n xs) (i : Nat) (v : Int) : Own k e B (w.setCell ⟨g, i, none⟩ (.int k v)) g n (xs.set i v) := by
  have := (World.ownsRow.stored h i (.int k v)).1
  unfold Own
  rwa [List.map_set]
theorem Own.below {w' : World} (h : Own k e B w g n xs) (hb : Below w.heap.size w w') : Own k e B w' g n xs :=
  World.ownsRow.kept h ⟨hb.os, hb.tape, hb.output, hb.size, fun i hi _ => hb.block i hi⟩ (row := none) (.inr (by simp [Value.ownBlock]))
theorem Own.cap (h : Own k e B w g n xs) : n ≤ maxLen := by
  rcases h.2 with ⟨h, _⟩ | ⟨_, cap, _, h, _, _, hn, hc, _⟩
  · cases h
  · simp only [Value.slice.injEq] at h; omega
theorem Own.rd (h : Own k e B w g n xs) : Rd k w (.slice (some ⟨g, 0, none⟩) n n) xs := by
  have hl := h.len
  refine ⟨some ⟨g, 0, none⟩, n, by rw [hl], by omega, h.cap, ?_⟩
  by_cases h0 : n = 0
  · exact .inl (by omega)
  · exact .inr ⟨g, 0, rfl, h.lt.2, fun i hi => by rw [Nat.zero_add]; exact h.cell i (by omega)⟩
end

theorem bcell {W w1 : World} (hb : Below W.heap.size W w1) : (∀ b o, b < W.heap.size → w1.cell? ⟨b, o, none⟩ = W.cell? ⟨b, o, none⟩) ∧ (∀ b o, b < W.heap.size → w1.frozen? ⟨b, o, none⟩ = W.frozen? ⟨b, o, none⟩) :=
  ⟨fun b o h => hb.cell (p := ⟨b, o, none⟩) h, fun b o h => hb.frozen (p := ⟨b, o, none⟩) h⟩

theorem Below.drewN' (w : World) (n : Nat) : Below w.heap.size w (w.drewN n) := ⟨rfl, rfl, rfl, Nat.le_refl _, fun _ _ => rfl⟩

theorem ret_int {k : IntKind} {a b : Int} (h : a = b) : Ending.returned (.int k a) = .returned (.int k b) := by rw [h]

/-! bits at int -/
theorem ofInt_i64 (a : Nat) (ha : a < 9223372036854775808) : (BitVec.ofInt 64 (a : Int)).toNat = a := by
  rw [BitVec.ofInt_natCast, BitVec.toNat_ofNat]; exact Nat.mod_eq_of_lt (by omega)

theorem and_limb (n : Int) : bits .and .i64 n 1073741823 = n % 1073741824 := by
  show IntKind.i64.wrap ((BitVec.ofInt 64 n &&& BitVec.ofInt 64 1073741823).toNat : Int) = _
  have e : (BitVec.ofInt 64 n &&& BitVec.ofInt 64 1073741823).toNat = (n % 18446744073709551616).toNat % 1073741824 := by
    rw [BitVec.toNat_and, BitVec.toNat_ofInt]
    exact Nat.and_two_pow_sub_one_eq_mod _ 30
  rw [e, IntKind.wrap_i64]
  omega

theorem or_limb (a b : Int) (ha : 0 ≤ a) (ha' : a < 8589934592) (hb : 0 ≤ b) (hb' : b < 1073741824) : bits .or .i64 (a * 1073741824) b = a * 1073741824 + b := by
  obtain ⟨x, rfl⟩ := Int.eq_ofNat_of_zero_le ha
  obtain ⟨y, rfl⟩ := Int.eq_ofNat_of_zero_le hb
  show IntKind.i64.wrap ((BitVec.ofInt 64 ((x : Int) * 1073741824) ||| BitVec.ofInt 64 (y : Int)).toNat : Int) = _
  have e1 : ((x : Int) * 1073741824) = ((x * 1073741824 : Nat) : Int) := by simp
  rw [e1, BitVec.toNat_or, ofInt_i64 _ (by omega), ofInt_i64 _ (by omega)]
  have e2 : x * 1073741824 ||| y = x * 1073741824 + y := nat_join 30 _ _ (by omega) (by omega)
  rw [e2, IntKind.wrap_i64]
  omega
end Go.Proofs.Ytagmohpafjncfaa

/- routescopedraw.Codes: New makes choices; Next gives a number in its range, whatever the codes are. -/
namespace Go.Proofs.Ytagmohpafjncfaa
open Go.RowKit

/-- Block cb holds choices: a list of codes, and the place of the next one. -/
def Codes (cb : Nat) (w : World) : Prop :=
  ∃ (ad : Option Addr) (n cap p : Nat), w.heap[cb]? = some (.cells #[.slice ad n cap, .int .i64 (p : Int)] 54 (0, 0)) ∧ n ≤ maxLen ∧ p ≤ n ∧
    (n = 0 ∨ ∃ b off, ad = some ⟨b, off, none⟩ ∧ b < cb ∧ ∀ i, i < n → ∃ x : Int, 0 ≤ x ∧ x < 256 ∧ w.cell? ⟨b, off + i, none⟩ = some (.int .u8 x))

theorem Codes.lt {cb : Nat} {w : World} (h : Codes cb w) : cb < w.heap.size := by
  obtain ⟨_, _, _, _, h, _⟩ := h
  exact (Array.getElem?_eq_some_iff.1 h).1

/-- what lies up to block cb is as it was -/
theorem Codes.kept {cb : Nat} {w w' : World} (h : Codes cb w) (hb : ∀ k, k ≤ cb → w'.heap[k]? = w.heap[k]?) : Codes cb w' := by
  obtain ⟨ad, n, cap, p, h1, h2, h3, h4⟩ := h
  refine ⟨ad, n, cap, p, (hb cb (Nat.le_refl _)).trans h1, h2, h3, ?_⟩
  rcases h4 with h4 | ⟨b, off, h5, h6, h8⟩
  · exact .inl h4
  · exact .inr ⟨b, off, h5, h6, fun i hi => let ⟨x, x0, x1, hx⟩ := h8 i hi; ⟨x, x0, x1, (World.cell?_of_block (w := w) (a := ⟨b, off + i, none⟩) (hb b (Nat.le_of_lt h6))).trans hx⟩⟩
theorem Codes.below {cb : Nat} {w w' : World} (h : Codes cb w) (hb : Below w.heap.size w w') : Codes cb w' :=
  h.kept fun k hk => hb.block k (Nat.lt_of_le_of_lt hk h.lt)
/-- a row that lies behind block cb is written -/
theorem Codes.grown {cb : Nat} {w w' : World} {row : Option Nat} (h : Codes cb w) (hg : w.grownBy w' row) (hr : ∀ k, row = some k → cb < k) : Codes cb w' :=
  h.kept fun k hk => hg.block k (Nat.lt_of_le_of_lt hk h.lt) fun e => by have := hr k e.symm; omega

theorem grown_trans {a b c : World} {row : Option Nat} (h : a.grownBy b row) (k : b.grownBy c row) : a.grownBy c row :=
  ⟨k.os.trans h.os, k.tape.trans h.tape, k.output.trans h.output, Nat.le_trans h.size k.size, fun i hi hne => (k.block i (Nat.lt_of_lt_of_le hi h.size) hne).trans (h.block i hi hne)⟩
theorem grown_of_below {a b : World} (h : Below a.heap.size a b) (row : Option Nat) : a.grownBy b row := ⟨h.os, h.tape, h.output, h.size, fun i hi _ => h.block i hi⟩
/-- the same, and then a row of one's own is written -/
theorem grown_own {a b c : World} {row row' : Option Nat} (h : a.grownBy b row) (k : b.grownBy c row') (hr : ∀ i, row' = some i → a.heap.size ≤ i) : a.grownBy c row :=
  ⟨k.os.trans h.os, k.tape.trans h.tape, k.output.trans h.output, Nat.le_trans h.size k.size, fun i hi hne => (k.block i (Nat.lt_of_lt_of_le hi h.size) (fun e => by have := hr i e.symm; omega)).trans (h.block i hi hne)⟩
theorem grown_alloc {a b : World} {row : Option Nat} (h : a.grownBy b row) (o : Obj) : a.grownBy (b.alloc o) row := grown_trans h (World.grownBy_alloc b o row)
/-- a row of one's own is kept while another block turns -/
theorem own_kept {w w' : World} {B cb : Nat} {e : TypeId} {size : Nat} {v : Value} {n : Nat} {xs : List Value} (h : w.ownsRow B e size v n xs) (hg : w.grownBy w' (some cb)) (hcb : cb < B) : w'.ownsRow B e size v n xs := by
  refine h.kept hg ?_
  cases hv : v.ownBlock with
  | none => exact .inl rfl
  | some k => have := (h.lt k hv).1; exact .inr (fun e => by injection e; omega)
theorem grown_drewN {a b : World} {row : Option Nat} (h : a.grownBy b row) (n : Nat) : a.grownBy (b.drewN n) row := ⟨h.os, h.tape, h.output, h.size, h.block⟩
theorem grown_setCell (w : World) (cb o : Nat) (u : Value) : w.grownBy (w.setCell ⟨cb, o, none⟩ u) (some cb) :=
  ⟨rfl, rfl, rfl, by simp [World.setCell], fun i _ hne => Below.heap_setCell w ⟨cb, o, none⟩ u i (fun e => hne (by rw [e]))⟩

/-- choices lie there whichever block of them is advanced -/
theorem Codes.advance {cb : Nat} {w : World} {ad : Option Addr} {n cap p : Nat} (h1 : w.heap[cb]? = some (.cells #[.slice ad n cap, .int .i64 (p : Int)] 54 (0, 0))) (h2 : n ≤ maxLen) (hp : p < n)
    (h4 : n = 0 ∨ ∃ b off, ad = some ⟨b, off, none⟩ ∧ b < cb ∧ ∀ i, i < n → ∃ x : Int, 0 ≤ x ∧ x < 256 ∧ w.cell? ⟨b, off + i, none⟩ = some (.int .u8 x)) :
    Codes cb (w.setCell ⟨cb, 1, none⟩ (.int .i64 ((p : Int) + 1))) := by
  refine ⟨ad, n, cap, p + 1, ?_, h2, hp, ?_⟩
  · rw [heap_setCell_same w cb 1 _ _ _ h1]; simp
  · rcases h4 with h4 | ⟨b, off, h5, h6, h8⟩
    · exact .inl h4
    · refine .inr ⟨b, off, h5, h6, fun i hi => ?_⟩
      obtain ⟨x, x0, x1, hx⟩ := h8 i hi
      refine ⟨x, x0, x1, ?_⟩
      rw [← hx]
      exact World.cell?_of_block (w := w) (Below.heap_setCell w ⟨cb, 1, none⟩ _ b (Nat.ne_of_lt h6))

/-- a number from 0 on, less than n (0 where n is less than 1); the choices have advanced, nothing else has turned -/
def RetNext (cb : Nat) (n : Int) (w : World) (e : Ending) (w' : World) : Prop :=
  ∃ r : Int, e = .returned (.int .i64 r) ∧ 0 ≤ r ∧ (r < n ∨ r = 0) ∧ Codes cb w' ∧ w.grownBy w' (some cb)

set_option maxHeartbeats 1000000 in
theorem next_small (cb : Nat) (n : Int) (w : World) (h : Codes cb w) (hn : n ≤ 256) (hn0 : -9223372036854775808 ≤ n) :
    Calls Try.prog 10 #[.pointer (some ⟨cb, 0, none⟩), .int .i64 n] w (RetNext cb n w) := by
  have hcodes := Lib.hid h
  obtain ⟨ad, l, cap, p, h1, h2, h3, h4⟩ := h
  have h4 := Lib.hid h4
  have c0 : w.cell? ⟨cb, 0, none⟩ = some (.slice ad l cap) := by rw [cell_of_row w cb 0 _ _ _ h1]; rfl
  have c1 : w.cell? ⟨cb, 1, none⟩ = some (.int .i64 (p : Int)) := by rw [cell_of_row w cb 1 _ _ _ h1]; rfl
  have f1 : w.frozen? ⟨cb, 1, none⟩ = false := frozen_of_row w cb 1 _ _ h1
  have H1 := Lib.hid h1
  clear h1
  unfold maxLen at h2
  by_cases hp : l ≤ p
  · have hd : decide (l ≤ p) = true := by simpa using hp
    go_enter Try.func10, Try.ntmps10
    go_wp2
    go_quiet (fail)
    go_wp2
    go_ret
    exact ⟨0, rfl, by omega, .inr rfl, hcodes.out.below (Below.drewN' _ _), grown_of_below (Below.drewN' _ _) _⟩
  · have hd : decide (l ≤ p) = false := by simpa using hp
    by_cases hn1 : n < 1
    · go_enter Try.func10, Try.ntmps10
      go_wp2
      go_quiet (fail)
      go_wp2
      go_ret
      exact ⟨0, rfl, by omega, .inr rfl, hcodes.out.below (Below.drewN' _ _), grown_of_below (Below.drewN' _ _) _⟩
    · have hd1 : decide (n < 1) = false := by simpa using hn1
      obtain ⟨b, off, rfl, hlt, hc⟩ : ∃ b off, ad = some ⟨b, off, none⟩ ∧ b < cb ∧ ∀ i, i < l → ∃ x : Int, 0 ≤ x ∧ x < 256 ∧ w.cell? ⟨b, off + i, none⟩ = some (.int .u8 x) := by
        rcases h4.out with h | h
        · omega
        · exact h
      obtain ⟨x, x0, x1, hx⟩ := hc p (by omega)
      clear hc
      go_enter Try.func10, Try.ntmps10
      go_wp2
      go_quiet (fail)
      go_wp2
      go_quiet (fail)
      go_wp2
      go_ret
      exact ⟨_, rfl, Int.emod_nonneg _ (by omega), .inl (Int.emod_lt_of_pos _ (by omega)), (Codes.advance H1.out (by unfold maxLen; exact h2) (by omega) h4.out).below (Below.drewN' _ _), grown_drewN (grown_setCell _ _ _ _) _⟩

set_option maxHeartbeats 1000000 in
theorem next_calls (cb : Nat) (n : Int) (w : World) (h : Codes cb w) (hn0 : -9223372036854775808 ≤ n) (hn2 : n ≤ 9223372036854775807) :
    Calls Try.prog 10 #[.pointer (some ⟨cb, 0, none⟩), .int .i64 n] w (RetNext cb n w) := by
  by_cases hn : n ≤ 256
  · exact next_small cb n w h hn hn0
  have hcodes := Lib.hid h
  obtain ⟨ad, l, cap, p, h1, h2, h3, h4⟩ := h
  have h4 := Lib.hid h4
  have c0 : w.cell? ⟨cb, 0, none⟩ = some (.slice ad l cap) := by rw [cell_of_row w cb 0 _ _ _ h1]; rfl
  have c1 : w.cell? ⟨cb, 1, none⟩ = some (.int .i64 (p : Int)) := by rw [cell_of_row w cb 1 _ _ _ h1]; rfl
  have f1 : w.frozen? ⟨cb, 1, none⟩ = false := frozen_of_row w cb 1 _ _ h1
  have H1 := Lib.hid h1
  clear h1
  unfold maxLen at h2
  by_cases hp : l ≤ p
  · have hd : decide (l ≤ p) = true := by simpa using hp
    go_enter Try.func10, Try.ntmps10
    go_wp2
    go_quiet (fail)
    go_wp2
    go_ret
    exact ⟨0, rfl, by omega, .inr rfl, hcodes.out.below (Below.drewN' _ _), grown_of_below (Below.drewN' _ _) _⟩
  · have hd : decide (l ≤ p) = false := by simpa using hp
    have hd1 : decide (n < 1) = false := by simp; omega
    obtain ⟨b, off, rfl, hlt, hc⟩ : ∃ b off, ad = some ⟨b, off, none⟩ ∧ b < cb ∧ ∀ i, i < l → ∃ x : Int, 0 ≤ x ∧ x < 256 ∧ w.cell? ⟨b, off + i, none⟩ = some (.int .u8 x) := by
      rcases h4.out with h | h
      · omega
      · exact h
    obtain ⟨x, x0, x1, hx⟩ := hc p (by omega)
    clear hc
    go_enter Try.func10, Try.ntmps10
    go_wp2
    go_quiet (fail)
    go_wp2
    go_quiet (fail)
    go_wp2_with fail
    refine (next_small cb 256 _ ((Codes.advance H1.out (by unfold maxLen; exact h2) (by omega) h4.out).below (Below.drewN' _ _)) (by omega) (by omega)).mono ?_
    rintro e w' ⟨r, rfl, hr0, hr1, hc', hg⟩
    have hr2 : r < 256 := by omega
    clear hr1
    have hg' := grown_trans (grown_drewN (grown_setCell _ _ _ _) _) hg
    clear hg
    go_wp2
    go_ret
    exact ⟨_, rfl, Int.emod_nonneg _ (by omega), .inl (Int.emod_lt_of_pos _ (by omega)), hc', hg'⟩

set_option maxHeartbeats 1000000 in
/-- New makes choices in a new block. -/
theorem new_calls (a : Value) (z : List Int) (w : World) (most : Nat) (h : Rd .u8 w a z) (hz : ∀ n ∈ z, (Lit.int .u8 n).wf = true) (hm : most ≤ 65536) :
    Calls Try.prog 9 #[a, .int .i64 (most : Int)] w fun e w' => e = .returned (.pointer (some ⟨w.heap.size, 0, none⟩)) ∧ Codes w.heap.size w' ∧ Below w.heap.size w w' := by
  obtain ⟨ad, cap, rfl, h1, h2, h3⟩ := h
  have codes : ∀ n, n ≤ z.length → Codes w.heap.size (w.alloc (.cells #[.slice ad n cap, .int .i64 0] 54)) := by
    intro n hn
    refine ⟨ad, n, cap, 0, heap_alloc_new w _, by omega, Nat.zero_le _, ?_⟩
    rcases h3 with h3 | ⟨b, off, rfl, hlt, hc⟩
    · exact .inl (by omega)
    · refine .inr ⟨b, off, rfl, hlt, fun i hi => ⟨z.getD i 0, ?_, ?_, ?_⟩⟩
      · have := bounds_u8 (hz (z.getD i 0) (by simp [List.getD, show i < z.length by omega])); omega
      · have := bounds_u8 (hz (z.getD i 0) (by simp [List.getD, show i < z.length by omega])); omega
      · rw [← hc i (by omega)]
        exact World.cell?_of_block (w := w) (Below.heap_alloc w _ b hlt)
  have bel : ∀ o, Below w.heap.size w (w.alloc o) := fun o => (Below.refl _ _).alloc (Nat.le_refl _) _
  have CD := Lib.hid codes
  have BL := Lib.hid bel
  clear codes bel hz h3
  unfold maxLen at h2
  by_cases hl : (most : Nat) < z.length
  · go_enter Try.func9, Try.ntmps9
    go_wp2
    go_ret
    exact ⟨rfl, CD.out most (by omega), BL.out _⟩
  · go_enter Try.func9, Try.ntmps9
    go_wp2
    go_ret
    exact ⟨rfl, CD.out z.length (by omega), BL.out _⟩
end Go.Proofs.Ytagmohpafjncfaa

/- Choices, for the evaluator: Next as a contract, New as what makes them. -/
set_option linter.unusedSimpArgs false
set_option linter.unusedVariables false
namespace Go.Proofs.Ytagmohpafjncfaa
open Go.RowKit Eng

/-- the frame of a function that draws choices of block cb -/
def Frm.codes (cb : Nat) : Frm := ⟨fun b => b = cb, Codes cb, fun w b h e => by subst e; exact h.lt, fun w w' B h hB hw => h.kept fun k hk => hw k (Nat.lt_of_le_of_lt hk (hB cb rfl))⟩
def ptr (cb : Nat) : SV := .v (.pointer (some ⟨cb, 0, none⟩))

theorem enters_of {P : Program} {f : FuncId} {fn : Func} {c : Code} (hf : P.funcs[f]? = some fn) (hb : fn.body = some c) (hname : (fn.name == "runtime.NumGoroutine") = false) : ∀ vs w, (callFunc f vs).run P w = .ok (.enter f vs) w := by
  intro vs w
  have hn : ¬ fn.name = "runtime.NumGoroutine" := by simpa using hname
  simp [callFunc, hf, hn, hb]

theorem nextC (cb : Nat) (n : Int) (h1 : -9223372036854775808 ≤ n) (h2 : n ≤ 9223372036854775807) : Contract (Frm.codes cb) Try.prog 10 [ptr cb, .i .i64 n] (fun r => ∃ x : Int, r = .i .i64 x ∧ 0 ≤ x ∧ (x < n ∨ x = 0)) := by
  refine ⟨enters_of Try.func10 rfl (by kernel_rfl), fun R w hinv _ hR => ?_⟩
  refine (next_calls cb n w hinv h1 h2).mono ?_
  rintro e w' ⟨r, rfl, hr0, hr1, hc, hg⟩
  exact ⟨.i .i64 r, rfl, ⟨r, rfl, hr0, hr1⟩, trivial, ⟨hg.os, hg.tape, hg.output, hg.size, fun b hb hm => hg.block b hb (fun e => hm (show b = cb by simpa using e))⟩, hc⟩

/-- bytes -/
def isBytes (s : SV) : Prop := ∃ a len cap rd, s = .sl a len cap 1 rd ∧ ∀ i, i < len → ∃ x : Int, 0 ≤ x ∧ x < 256 ∧ rd i 0 = .i .u8 x

theorem new_made (a : Option Addr) (len cap : Nat) (w : World) (most : Nat) (h1 : len ≤ cap) (h2 : cap ≤ maxLen) (hm : most ≤ 65536) :
    Calls Try.prog 9 #[.slice a len cap, .int .i64 (most : Int)] w fun e w' => e = .returned (.pointer (some ⟨w.heap.size, 0, none⟩)) ∧ ∃ n, n ≤ len ∧ w' = w.alloc (.cells #[.slice a n cap, .int .i64 0] 54) := by
  unfold maxLen at h2
  by_cases hl : (most : Nat) < len
  · go_enter Try.func9, Try.ntmps9
    go_wp2
    go_ret
    exact ⟨rfl, most, by omega, rfl⟩
  · go_enter Try.func9, Try.ntmps9
    go_wp2
    go_ret
    exact ⟨rfl, len, by omega, rfl⟩

theorem newRC (s : SV) (hs : isBytes s) (most : Nat) (hm : most ≤ 65536) : Makes Try.prog 9 [s, .i .i64 most] (fun cb w => Codes cb w) := by
  obtain ⟨a, len, cap, rd, rfl, hb⟩ := hs
  refine ⟨enters_of Try.func9 rfl (by kernel_rfl), fun R w hargs hR => ?_⟩
  obtain ⟨h1, h2, h3⟩ := hargs _ (List.mem_cons_self ..)
  refine (new_made a len cap w most h1 h2 hm).mono ?_
  rintro e w' ⟨rfl, n, hn, rfl⟩
  refine ⟨rfl, by simp, ⟨rfl, rfl, rfl, by simp, fun b hb _ => heap_alloc_old w _ hb⟩, fun w'' hw'' => ?_⟩
  refine ⟨a, n, cap, 0, (hw'' _ (.inr rfl)).trans (heap_alloc_new w _), by omega, Nat.zero_le _, ?_⟩
  rcases h3 with h3 | ⟨blk, off, rfl, hr, hc⟩
  · exact .inl (by omega)
  · have hlt := hR blk hr
    refine .inr ⟨blk, off, rfl, hlt, fun i hi => ?_⟩
    obtain ⟨x, hx0, hx1, hx⟩ := hb i (by omega)
    have h := (hc i 0 (by omega) (by omega)).1
    rw [hx, Nat.mul_one] at h
    exact ⟨x, hx0, hx1, by rw [World.cell?_of_block (w := w) (a := ⟨blk, off + i, none⟩) ((hw'' blk (.inl hr)).trans (heap_alloc_old w _ hlt))]; exact h⟩
end Go.Proofs.Ytagmohpafjncfaa

/- From a contract to the walk of a law: bytes that came in. -/
set_option linter.unusedSimpArgs false
set_option linter.unusedVariables false
namespace Go.Proofs.Ytagmohpafjncfaa
open Go.RowKit Eng

/-- bytes that came in -/
def slB (a : Option Addr) (cap : Nat) (z : List Int) : SV := .sl a z.length cap 1 fun i _ => .i .u8 (z.getD i 0)
theorem slB_of {w : World} {v : Value} {z : List Int} (h : Rd .u8 w v z) : ∃ a cap, v = (slB a cap z).den ∧ (slB a cap z).ok (fun b => b < w.heap.size) w := by
  obtain ⟨ad, cap, rfl, h1, h2, h3⟩ := h
  refine ⟨ad, cap, rfl, h1, h2, ?_⟩
  rcases h3 with h3 | ⟨b, off, rfl, hlt, hc⟩
  · exact .inl h3
  · refine .inr ⟨b, off, rfl, hlt, fun i j hi hj => ?_⟩
    obtain rfl : j = 0 := by omega
    rw [Nat.mul_one]
    exact ⟨hc i hi, rfl, trivial⟩

/-- the call returns true, and what was there is as it was -/
theorem walk_of {P : Program} {f : FuncId} {args : List SV} (h : Contract Frm.nil P f args (fun r => r = .b true)) {w : World} (ha : ∀ s ∈ args, s.ok (fun b => b < w.heap.size) w) :
    Calls P f (args.map SV.den).toArray w fun e w' => e = .returned (.bool true) ∧ Below w.heap.size w w' :=
  (h.calls _ w trivial ha (fun b hb => ⟨hb, fun h => h⟩)).mono fun e w' ⟨r, he, hr, _, hevo, _⟩ => by
    subst hr
    exact ⟨he, ⟨hevo.os, hevo.tape, hevo.output, hevo.size, fun b hb => hevo.block b hb (fun h => h)⟩⟩
end Go.Proofs.Ytagmohpafjncfaa

/- Chapter 23: Alpha, awake. -/
set_option linter.unusedSimpArgs false
set_option linter.unusedVariables false
namespace Go.Proofs.Ytagmohpafjncfaa
open Eng Lmb Go.RowKit

/-- a fraction greater than 0 and less than 1, of small numbers -/
def AlphaP (r : SV) : Prop := ∃ p q, FrS r false p q ∧ 0 < p ∧ p < q ∧ q ≤ 100
theorem alpha_parts {n d : Nat} (h0 : 0 < n) (h1 : n < d) (h2 : d ≤ 100) : 0 < n / Nat.gcd n d ∧ n / Nat.gcd n d < d / Nat.gcd n d ∧ d / Nat.gcd n d ≤ 100 := by
  have hg : 0 < Nat.gcd n d := Nat.gcd_pos_of_pos_left _ h0
  have e1 : n / Nat.gcd n d * Nat.gcd n d = n := Nat.div_mul_cancel (Nat.gcd_dvd_left n d)
  have e2 : d / Nat.gcd n d * Nat.gcd n d = d := Nat.div_mul_cancel (Nat.gcd_dvd_right n d)
  refine ⟨Nat.div_pos (Nat.le_of_dvd h0 (Nat.gcd_dvd_left n d)) hg, ?_, Nat.le_trans (Nat.div_le_self _ _) h2⟩
  refine Nat.lt_of_mul_lt_mul_right (a := Nat.gcd n d) ?_
  rw [e1, e2]
  exact h1

set_option maxRecDepth 100000 in
theorem alphaC (cb : Nat) : Contract (Frm.codes cb) Try.prog 11 [ptr cb] AlphaP := by
  refine contract_of Try.func11 rfl (by kernel_rfl) ?_
  simp only [Try.ntmps11, argEnv]
  (repeat refine Sat.seq ?_)
  (refine Sat.region_k fun k hk => ?_; simp -implicitDefEqProofs only [evr, id, reduceCtorEq, reduceIte, Nat.reduceMul, Nat.reduceAdd, Nat.reduceLT, Nat.reduceLeDiff, Nat.reduceEqDiff, Int.reduceLT, Int.reduceBEq, Int.reduceBNe, Nat.reduceBEq, List.append_nil, Int.toNat_zero, Nat.sub_self, frS, ptr])
  intro b2
  (refine hk _ ?_; clear hk k; try show Sat _ _ _ _ _)
  (repeat refine Sat.seq ?_)
  (refine Sat.region_k fun k hk => ?_; simp -implicitDefEqProofs only [evr, id, reduceCtorEq, reduceIte, Nat.reduceMul, Nat.reduceAdd, Nat.reduceLT, Nat.reduceLeDiff, Nat.reduceEqDiff, Int.reduceLT, Int.reduceBEq, Int.reduceBNe, Nat.reduceBEq, List.append_nil, Int.toNat_zero, Nat.sub_self, frS, ptr])
  refine wcall_plain (nextC cb 60 (by decide) (by decide)) rfl (by rintro _ ⟨x, rfl, _⟩; exact ok_plain rfl) ?_
  rintro r ⟨x, rfl, hx0, hx1⟩
  have hx2 : x < 60 := by omega
  have e1 : IntKind.i64.wrap (2 + x) = 2 + x := w64 (by omega)
  have e2 : IntKind.i64.wrap (2 + x - 1) = 1 + x := by rw [w64 (by omega)]; omega
  simp -implicitDefEqProofs only [evr, id, reduceCtorEq, reduceIte, Nat.reduceMul, Nat.reduceAdd, Nat.reduceLT, Nat.reduceLeDiff, Nat.reduceEqDiff, Int.reduceLT, Int.reduceBEq, Int.reduceBNe, Nat.reduceBEq, List.append_nil, Int.toNat_zero, Nat.sub_self, frS, ptr, e1]
  (refine hk _ ?_; clear hk k; try show Sat _ _ _ _ _)
  (repeat refine Sat.seq ?_)
  refine Sat.region_k fun k hk => ?_
  simp -implicitDefEqProofs only [evr, id, reduceCtorEq, reduceIte, Nat.reduceMul, Nat.reduceAdd, Nat.reduceLT, Nat.reduceLeDiff, Nat.reduceEqDiff, Int.reduceLT, Int.reduceBEq, Int.reduceBNe, Nat.reduceBEq, List.append_nil, Int.toNat_zero, Nat.sub_self, frS, ptr, e2]
  refine wcall_plain (nextC cb (1 + x) (by omega) (by omega)) rfl (by rintro _ ⟨x, rfl, _⟩; exact ok_plain rfl) ?_
  rintro r ⟨y, rfl, hy0, hy1⟩
  have hy2 : y < 1 + x := by omega
  have e3 : IntKind.i64.wrap (1 + y) = 1 + y := w64 (by omega)
  simp -implicitDefEqProofs only [evr, id, reduceCtorEq, reduceIte, Nat.reduceMul, Nat.reduceAdd, Nat.reduceLT, Nat.reduceLeDiff, Nat.reduceEqDiff, Int.reduceLT, Int.reduceBEq, Int.reduceBNe, Nat.reduceBEq, List.append_nil, Int.toNat_zero, Nat.sub_self, frS, ptr, e3]
  refine wcall_slice (refFromC (Frm.codes cb) (1 + y) (2 + x) (by omega) (by omega) (by omega) (by omega) (by omega)) rfl rfl ?_
  rintro r ⟨f, rfl, sp, sq, rfl, hp, hq⟩
  have e4 : ((decide (1 + y < 0) != decide (2 + x < 0)) && decide (0 < (1 + y).natAbs)) = false := by
    rw [decide_eq_false (show ¬ 1 + y < 0 by omega), decide_eq_false (show ¬ 2 + x < 0 by omega)]; rfl
  have hap := alpha_parts (n := (1 + y).natAbs) (d := (2 + x).natAbs) (by omega) (by omega) (by omega)
  have hp' := hp
  have hq' := hq
  obtain ⟨a6, c6, z6, r6, x6, rfl, _⟩ := hp
  obtain ⟨a7, c7, z7, r7, x7, rfl, _⟩ := hq
  simp -implicitDefEqProofs only [evr, id, reduceCtorEq, reduceIte, Nat.reduceMul, Nat.reduceAdd, Nat.reduceLT, Nat.reduceLeDiff, Nat.reduceEqDiff, Int.reduceLT, Int.reduceBEq, Int.reduceBNe, Nat.reduceBEq, List.append_nil, Int.toNat_zero, Nat.sub_self, frS, ptr]
  rw [e4]
  intro b4
  (refine hk _ ?_; clear hk k; try show Sat _ _ _ _ _)
  (repeat refine Sat.seq ?_)
  (refine Sat.region_k fun k hk => ?_; simp -implicitDefEqProofs only [evr, id, reduceCtorEq, reduceIte, Nat.reduceMul, Nat.reduceAdd, Nat.reduceLT, Nat.reduceLeDiff, Nat.reduceEqDiff, Int.reduceLT, Int.reduceBEq, Int.reduceBNe, Nat.reduceBEq, List.append_nil, Int.toNat_zero, Nat.sub_self, frS, ptr])
  (refine hk _ ?_; clear hk k; try show Sat _ _ _ _ _)
  refine Sat.ret ?_
  simp only [Try.results11, evr, id, reduceCtorEq, reduceIte, Nat.reduceMul, Nat.reduceAdd, Nat.reduceLT, Nat.reduceLeDiff, Nat.reduceEqDiff, Int.reduceLT, Int.reduceBEq, Int.reduceBNe, Nat.reduceBEq, List.append_nil, Int.toNat_zero, Nat.sub_self, frS, ptr]
  exact ⟨_, _, ⟨_, _, rfl, hp', hq'⟩, hap⟩

theorem awake_num : misP 6 2 = 1 ∧ misQ 6 2 = 32 := by decide
theorem awake_need : missed 5 2 1 20 ∧ missed 4 2 1 20 ∧ missed 3 2 1 20 ∧ missed 2 2 1 20 ∧ missed 1 2 1 20 ∧ missed 0 2 1 20 ∧ ¬ missed 6 2 1 20 := by unfold missed; decide

set_option maxRecDepth 100000 in
theorem awakeC (F : Frm) : Contract F Try.prog 8 [] (fun r => r = .b true) := by
  refine contract_of Try.func8 rfl (by kernel_rfl) ?_
  simp only [Try.ntmps8, argEnv]
  (repeat refine Sat.seq ?_)
  (refine Sat.region_k fun k hk => ?_; simp -implicitDefEqProofs only [evr, id, reduceCtorEq, reduceIte, Nat.reduceMul, Nat.reduceAdd, Nat.reduceLT, Nat.reduceLeDiff, Nat.reduceEqDiff, Int.reduceLT, Int.reduceBEq, Int.reduceBNe, Nat.reduceBEq, List.append_nil, Int.toNat_zero, Nat.sub_self, frS, ptr]; refine hk _ ?_; clear hk k; try show Sat _ _ _ _ _)
  (repeat refine Sat.seq ?_)
  (refine Sat.region_k fun k hk => ?_; simp -implicitDefEqProofs only [evr, id, reduceCtorEq, reduceIte, Nat.reduceMul, Nat.reduceAdd, Nat.reduceLT, Nat.reduceLeDiff, Nat.reduceEqDiff, Int.reduceLT, Int.reduceBEq, Int.reduceBNe, Nat.reduceBEq, List.append_nil, Int.toNat_zero, Nat.sub_self, frS, ptr])
  refine wcall_slice (stMissingC F 6 2 (by omega) (by omega) (by omega)) rfl rfl ?_
  rintro r ⟨f, rfl, sp, sq, rfl, hp, hq⟩
  rw [awake_num.1] at hp
  rw [awake_num.2] at hq
  have hp' := hp
  have hq' := hq
  obtain ⟨a1, c1, z1, r1, x1, rfl, _⟩ := hp
  obtain ⟨a2, c2, z2, r2, x2, rfl, _⟩ := hq
  simp -implicitDefEqProofs only [evr, id, reduceCtorEq, reduceIte, Nat.reduceMul, Nat.reduceAdd, Nat.reduceLT, Nat.reduceLeDiff, Nat.reduceEqDiff, Int.reduceLT, Int.reduceBEq, Int.reduceBNe, Nat.reduceBEq, List.append_nil, Int.toNat_zero, Nat.sub_self, frS, ptr]
  intro b1
  (refine hk _ ?_; clear hk k; try show Sat _ _ _ _ _)
  (repeat refine Sat.seq ?_)
  (refine Sat.region_k fun k hk => ?_; simp -implicitDefEqProofs only [evr, id, reduceCtorEq, reduceIte, Nat.reduceMul, Nat.reduceAdd, Nat.reduceLT, Nat.reduceLeDiff, Nat.reduceEqDiff, Int.reduceLT, Int.reduceBEq, Int.reduceBNe, Nat.reduceBEq, List.append_nil, Int.toNat_zero, Nat.sub_self, frS, ptr])
  refine wcall_slice (refFromC F 1 20 (by omega) (by omega) (by omega) (by omega) (by omega)) rfl rfl ?_
  rintro r ⟨f, rfl, sp, sq, rfl, hp, hq⟩
  have hp3 : Nats sp 1 := hp
  have hq3 : Nats sq 20 := hq
  have hp4 := hp3
  have hq4 := hq3
  clear hp hq
  obtain ⟨a3, c3, z3, r3, x3, rfl, _⟩ := hp3
  obtain ⟨a4, c4, z4, r4, x4, rfl, _⟩ := hq3
  have e4 : ((decide ((1 : Int) < 0) != decide ((20 : Int) < 0)) && decide (0 < (1 : Int).natAbs)) = false := rfl
  simp -implicitDefEqProofs only [evr, id, reduceCtorEq, reduceIte, Nat.reduceMul, Nat.reduceAdd, Nat.reduceLT, Nat.reduceLeDiff, Nat.reduceEqDiff, Int.reduceLT, Int.reduceBEq, Int.reduceBNe, Nat.reduceBEq, List.append_nil, Int.toNat_zero, Nat.sub_self, frS, ptr]
  intro b2
  (refine hk _ ?_; clear hk k; try show Sat _ _ _ _ _)
  (repeat refine Sat.seq ?_)
  (refine Sat.region_k fun k hk => ?_; simp -implicitDefEqProofs only [evr, id, reduceCtorEq, reduceIte, Nat.reduceMul, Nat.reduceAdd, Nat.reduceLT, Nat.reduceLeDiff, Nat.reduceEqDiff, Int.reduceLT, Int.reduceBEq, Int.reduceBNe, Nat.reduceBEq, List.append_nil, Int.toNat_zero, Nat.sub_self, frS, ptr])
  refine wcall_plain (stNeededC F 1 (by omega) (by omega) hp4 hq4 (by omega) (by omega) (by omega)) (by simp -implicitDefEqProofs only [evr, id, reduceCtorEq, reduceIte, Nat.reduceMul, Nat.reduceAdd, Nat.reduceLT, Nat.reduceLeDiff, Nat.reduceEqDiff, Int.reduceLT, Int.reduceBEq, Int.reduceBNe, Nat.reduceBEq, List.append_nil, Int.toNat_zero, Nat.sub_self, frS, ptr]; rfl) (fun _ h => h.elim (fun ⟨n, _, e, _⟩ => by subst e; exact ok_tupL rfl) (fun ⟨e, _⟩ => by subst e; exact ok_tupL rfl)) ?_
  intro r hr
  obtain rfl : r = tupL [.i .i64 6, .i .i64 0] := by
    obtain ⟨m5, m4, m3, m2, m1, m0, m6⟩ := awake_need
    rcases hr with ⟨n, _, rfl, hn, hj⟩ | ⟨_, hj⟩
    · have h6 : n = 6 := by
        by_cases hlt : 6 < n
        · exact absurd (hj 6 hlt) m6
        · rcases (show n = 0 ∨ n = 1 ∨ n = 2 ∨ n = 3 ∨ n = 4 ∨ n = 5 ∨ n = 6 by omega) with rfl | rfl | rfl | rfl | rfl | rfl | rfl
          · exact absurd m0 hn
          · exact absurd m1 hn
          · exact absurd m2 hn
          · exact absurd m3 hn
          · exact absurd m4 hn
          · exact absurd m5 hn
          · rfl
      subst h6
      rfl
    · exact absurd (hj 6 (by omega)) m6
  simp -implicitDefEqProofs only [evr, id, reduceCtorEq, reduceIte, Nat.reduceMul, Nat.reduceAdd, Nat.reduceLT, Nat.reduceLeDiff, Nat.reduceEqDiff, Int.reduceLT, Int.reduceBEq, Int.reduceBNe, Nat.reduceBEq, List.append_nil, Int.toNat_zero, Nat.sub_self, frS, ptr]
  (refine hk _ ?_; clear hk k; try show Sat _ _ _ _ _)
  (repeat refine Sat.seq ?_)
  refine Sat.region_k fun k hk => ?_
  simp -implicitDefEqProofs only [evr, id, reduceCtorEq, reduceIte, Nat.reduceMul, Nat.reduceAdd, Nat.reduceLT, Nat.reduceLeDiff, Nat.reduceEqDiff, Int.reduceLT, Int.reduceBEq, Int.reduceBNe, Nat.reduceBEq, List.append_nil, Int.toNat_zero, Nat.sub_self, frS, ptr]
  refine wcall_plain (refText3C F hp' hq' (by omega) (by omega) (by omega) (by decide)) (by simp -implicitDefEqProofs only [evr, id, reduceCtorEq, reduceIte, Nat.reduceMul, Nat.reduceAdd, Nat.reduceLT, Nat.reduceLeDiff, Nat.reduceEqDiff, Int.reduceLT, Int.reduceBEq, Int.reduceBNe, Nat.reduceBEq, List.append_nil, Int.toNat_zero, Nat.sub_self, frS, ptr]; try rfl) (by rintro _ rfl; exact ok_plain rfl) ?_
  rintro r rfl
  simp -implicitDefEqProofs only [evr, id, reduceCtorEq, reduceIte, Nat.reduceMul, Nat.reduceAdd, Nat.reduceLT, Nat.reduceLeDiff, Nat.reduceEqDiff, Int.reduceLT, Int.reduceBEq, Int.reduceBNe, Nat.reduceBEq, List.append_nil, Int.toNat_zero, Nat.sub_self, frS, ptr]
  have ef : (frB 1 32).toList == (⟨#[49, 47, 51, 50]⟩ : ByteArray).toList := by
    have e : frB 1 32 = (⟨#[49, 47, 51, 50]⟩ : ByteArray) := by
      unfold frB
      rw [decB_small (n := 1) (by omega), decB_big (n := 32) (by omega), decB_small (n := 32 / 10) (by omega)]
      decide
    rw [e]
    exact beq_self_eq_true _
  refine ⟨fun _ => ?_, fun h => absurd ef (by rw [h]; decide)⟩
  (refine hk _ ?_; clear hk k; try show Sat _ _ _ _ _)
  refine Sat.ret ?_
  simp only [Try.results8, evr, id, reduceCtorEq, reduceIte, Nat.reduceMul, Nat.reduceAdd, Nat.reduceLT, Nat.reduceLeDiff, Nat.reduceEqDiff, Int.reduceLT, Int.reduceBEq, Int.reduceBNe, Nat.reduceBEq, List.append_nil, Int.toNat_zero, Nat.sub_self, frS, ptr]

/-- the comparison of what is missed with a fraction -/
theorem misCmpC (F : Frm) {n m p q : Nat} (hn : n ≤ 128) (hm : m ≤ 16) {sr ss sp sq : SV} (hr : Nats sr (misP n m)) (hs : Nats ss (misQ n m)) (hp : Nats sp p) (hq : Nats sq q) (h1 : p < q) (h2 : q < 1073741824) :
    Contract F Try.prog 14 [frS false sr ss, frS false sp sq] (fun x => x = tupL [.i .i64 (cmpI (misP n m * q : Nat) (p * misQ n m : Nat)), .i .i64 0]) := by
  have bP := Nat.le_trans (misP_le n m) (kn_le (k := m) (by omega) hn)
  have bQ := Nat.le_trans (misQ_le n m) (kn_le (k := m) (by omega) hn)
  have bq : q ≤ 2 ^ 30 := Nat.le_of_lt h2
  have bp : p ≤ 2 ^ 30 := by omega
  have bpQ := mul_two bp bQ
  have bPq := mul_two bP bq
  have h := fractionCompareC F false false hr hs hp hq (lt_pw bP (by rw [xb_eq]; decide)) (lt_pw bQ (by rw [xb_eq]; decide)) (q_pw (by omega)) (q_pw h2) (lt_pw bPq (by rw [xb_eq]; decide)) (lt_pw bpQ (by rw [xb_eq]; decide)) (lt_pw_add bPq bpQ (by rw [xb_eq]; decide))
  rw [cmpV_pos] at h
  exact h
theorem mis_gt {n m p q : Nat} (hm : 1 ≤ m) (h : missed n m p q) : cmpI (misP n m * q : Nat) (p * misQ n m : Nat) = 1 := cmpI_gt (by have := (missed_iff hm).1 h; omega)
theorem mis_le {n m p q : Nat} (hm : 1 ≤ m) (h : ¬ missed n m p q) : cmpI (misP n m * q : Nat) (p * misQ n m : Nat) ≤ 0 := by
  have h1 : ¬ p * misQ n m < misP n m * q := fun h9 => h ((missed_iff hm).2 h9)
  unfold cmpI
  split
  · decide
  · split
    · omega
    · decide
end Go.Proofs.Ytagmohpafjncfaa

/- natural.Int; the reference's Same: what each gives. -/
set_option linter.unusedSimpArgs false
set_option linter.unusedVariables false
namespace Go.Proofs.Ytagmohpafjncfaa
open Eng Lmb Go.RowKit

theorem val_drop_le {xs : List Int} (h : Limbs xs) : ∀ q, val (xs.drop q) ≤ val xs
  | 0 => by simp
  | q + 1 => by
    refine Int.le_trans ?_ (val_drop_le h q)
    by_cases hq : q < xs.length
    · rw [val_drop xs q hq]
      have := limbs_getD h q
      have h2 : 0 ≤ val (xs.drop (q + 1)) := val_nonneg fun x hx => h x (List.mem_of_mem_drop hx)
      omega
    · rw [List.drop_eq_nil_of_le (by omega), List.drop_eq_nil_of_le (by omega)]
      exact Int.le_refl _
def intV (n : Nat) : Int := if n ≤ 4611686018427387904 then n else 0
def intE (n : Nat) : Int := if n ≤ 4611686018427387904 then 0 else 1

set_option maxRecDepth 100000 in
theorem natIntC (F : Frm) {s : SV} {n : Nat} (hs : Nats s n) (hb : (n : Int) < pw 512) : Contract F Try.prog 17 [s] (fun r => r = tupL [.i .i64 (intV n), .i .i64 (intE n)]) := by
  obtain ⟨xs, hi1, d1⟩ := hs.ints
  have l1 := (d1.len_le 512).2 hb
  obtain ⟨a1, c1, z1, r1, rfl, hz1, hr1⟩ := hi1
  refine contract_of Try.func17 rfl (by kernel_rfl) ?_
  simp only [Try.ntmps17, argEnv]
  have e0 : IntKind.i64.wrap ((xs.length : Int) - 1) = (xs.length : Int) - 1 := w64 (by omega)
  (repeat refine Sat.seq ?_)
  (refine Sat.region_k fun k hk => ?_; simp -implicitDefEqProofs only [evr, id, reduceCtorEq, reduceIte, Nat.reduceMul, Nat.reduceAdd, Nat.reduceLT, Nat.reduceLeDiff, Nat.reduceEqDiff, Int.reduceLT, Int.reduceBEq, Int.reduceBNe, Nat.reduceBEq, List.append_nil, Int.toNat_zero, Nat.sub_self, frS]; refine hk _ ?_; clear hk k; try show Sat _ _ _ _ _)
  (repeat refine Sat.seq ?_)
  (refine Sat.region_k fun k hk => ?_; simp -implicitDefEqProofs only [evr, id, reduceCtorEq, reduceIte, Nat.reduceMul, Nat.reduceAdd, Nat.reduceLT, Nat.reduceLeDiff, Nat.reduceEqDiff, Int.reduceLT, Int.reduceBEq, Int.reduceBNe, Nat.reduceBEq, List.append_nil, Int.toNat_zero, Nat.sub_self, frS]; refine hk _ ?_; clear hk k; try show Sat _ _ _ _ _)
  (repeat refine Sat.seq ?_)
  refine Sat.region_k fun k hk => ?_
  simp -implicitDefEqProofs only [evr, id, reduceCtorEq, reduceIte, Nat.reduceMul, Nat.reduceAdd, Nat.reduceLT, Nat.reduceLeDiff, Nat.reduceEqDiff, Int.reduceLT, Int.reduceBEq, Int.reduceBNe, Nat.reduceBEq, List.append_nil, Int.toNat_zero, Nat.sub_self, frS, e0]
  (refine hk _ ?_; clear hk k; try show Sat _ _ _ _ _)
  (repeat refine Sat.seq ?_)
  refine Sat.block ?_
  (repeat refine Sat.seq ?_)
  refine Sat.loop (ι := Nat) (fun q => ⟨29, [(5, .i .i64 ((q : Int) - 1)), (4, .i .i64 (val (xs.drop q))), (0, .sl a1 xs.length c1 z1 r1)], []⟩)
    (fun q => q ≤ xs.length ∧ val (xs.drop q) ≤ 4611686018427387904) (fun q => q) xs.length ⟨Nat.le_refl _, by rw [List.drop_length]; decide⟩ (by rw [List.drop_length]; simp -implicitDefEqProofs only [evr, id, reduceCtorEq, reduceIte, Nat.reduceMul, Nat.reduceAdd, Nat.reduceLT, Nat.reduceLeDiff, Nat.reduceEqDiff, Int.reduceLT, Int.reduceBEq, Int.reduceBNe, Nat.reduceBEq, List.append_nil, Int.toNat_zero, Nat.sub_self, frS, evl]; try rfl) ?_
  rintro q ⟨hq, hv⟩
  have hv0 : 0 ≤ val (xs.drop q) := val_nonneg fun x hx => d1.limbs x (List.mem_of_mem_drop hx)
  (repeat refine Sat.seq ?_)
  (refine Sat.region_k fun k hk => ?_; simp -implicitDefEqProofs only [evr, id, reduceCtorEq, reduceIte, Nat.reduceMul, Nat.reduceAdd, Nat.reduceLT, Nat.reduceLeDiff, Nat.reduceEqDiff, Int.reduceLT, Int.reduceBEq, Int.reduceBNe, Nat.reduceBEq, List.append_nil, Int.toNat_zero, Nat.sub_self, frS]; refine hk _ ?_; clear hk k; try show Sat _ _ _ _ _)
  (repeat refine Sat.seq ?_)
  refine Sat.cond_b rfl (fun h => ?_) (fun h => ?_)
  · simp only [decide_eq_true_eq] at h
    obtain ⟨j, rfl⟩ : ∃ j, q = j + 1 := ⟨q - 1, by omega⟩
    have hj : j < xs.length := by omega
    have ej : (((j + 1 : Nat) : Int) - 1) = (j : Int) := by omega
    have ej2 : IntKind.i64.wrap ((j : Int) - 1) = (j : Int) - 1 := w64 (by omega)
    have hsz1 : z1 = 1 := by
      rcases hz1 with hz | hz
      · omega
      · exact hz
    subst hsz1
    have g1 := hr1 j hj
    have bx := limbs_getD d1.limbs j
    have hd := val_drop xs j hj
    have hle := val_drop_le d1.limbs j
    rw [d1.val] at hle
    generalize val (xs.drop (j + 1)) = v at hv hv0 hd
    generalize hx : xs.getD j 0 = x at g1 bx hd
    have w1 : IntKind.i64.wrap (4611686018427387904 - x) = 4611686018427387904 - x := w64 (by omega)
    have p30 : ((2 : Int) ^ min (Int.toNat 30) IntKind.i64.bits) = 1073741824 := by decide
    have w2 : (4611686018427387904 - x).fdiv 1073741824 = (4611686018427387904 - x) / 1073741824 := Int.fdiv_eq_ediv_of_nonneg _ (by decide)
    refine Sat.skip ?_
    simp only [thenK, ej]
    (repeat refine Sat.seq ?_)
    refine Sat.block ?_
    (repeat refine Sat.seq ?_)
    refine Sat.region_k fun k hk => ?_
    simp -implicitDefEqProofs only [evr, id, reduceCtorEq, reduceIte, Nat.reduceMul, Nat.reduceAdd, Nat.reduceLT, Nat.reduceLeDiff, Nat.reduceEqDiff, Int.reduceLT, Int.reduceBEq, Int.reduceBNe, Nat.reduceBEq, List.append_nil, Int.toNat_zero, Nat.sub_self, frS]
    refine ⟨by omega, ?_⟩
    rw [g1]
    simp -implicitDefEqProofs only [evr, id, reduceCtorEq, reduceIte, Nat.reduceMul, Nat.reduceAdd, Nat.reduceLT, Nat.reduceLeDiff, Nat.reduceEqDiff, Int.reduceLT, Int.reduceBEq, Int.reduceBNe, Nat.reduceBEq, List.append_nil, Int.toNat_zero, Nat.sub_self, frS, w1, p30, w2]
    refine ⟨by decide, ?_⟩
    (refine hk _ ?_; clear hk k; try show Sat _ _ _ _ _)
    refine Sat.cond_b rfl (fun h9 => ?_) (fun h9 => ?_)
    · have h10 := of_decide_eq_true h9
      have hbig : ¬ n ≤ 4611686018427387904 := by omega
      (repeat refine Sat.seq ?_)
      (refine Sat.region_k fun k hk => ?_; simp -implicitDefEqProofs only [evr, id, reduceCtorEq, reduceIte, Nat.reduceMul, Nat.reduceAdd, Nat.reduceLT, Nat.reduceLeDiff, Nat.reduceEqDiff, Int.reduceLT, Int.reduceBEq, Int.reduceBNe, Nat.reduceBEq, List.append_nil, Int.toNat_zero, Nat.sub_self, frS]; refine hk _ ?_; clear hk k; try show Sat _ _ _ _ _)
      refine Sat.ret ?_
      simp only [thenK, blockK, Try.results17, evr, id, reduceCtorEq, reduceIte, Nat.reduceMul, Nat.reduceAdd, Nat.reduceLT, Nat.reduceLeDiff, Nat.reduceEqDiff, Int.reduceLT, Int.reduceBEq, Int.reduceBNe, Nat.reduceBEq, List.append_nil, Int.toNat_zero, Nat.sub_self, frS]
      unfold intV intE
      rw [if_neg hbig, if_neg hbig]
    · have h10 := of_decide_eq_false h9
      have w3 : IntKind.i64.wrap (v * 1073741824) = v * 1073741824 := w64 (by omega)
      have w4 : bits .or .i64 (v * 1073741824) x = v * 1073741824 + x := Zn.or_limb v x hv0 (by omega) bx.1 bx.2
      refine Sat.skip ?_
      simp only [thenK]
      (repeat refine Sat.seq ?_)
      refine Sat.region_k fun k hk => ?_
      simp -implicitDefEqProofs only [evr, id, reduceCtorEq, reduceIte, Nat.reduceMul, Nat.reduceAdd, Nat.reduceLT, Nat.reduceLeDiff, Nat.reduceEqDiff, Int.reduceLT, Int.reduceBEq, Int.reduceBNe, Nat.reduceBEq, List.append_nil, Int.toNat_zero, Nat.sub_self, frS, p30, w3]
      refine ⟨by decide, by omega, ?_⟩
      rw [g1]
      simp -implicitDefEqProofs only [evr, id, reduceCtorEq, reduceIte, Nat.reduceMul, Nat.reduceAdd, Nat.reduceLT, Nat.reduceLeDiff, Nat.reduceEqDiff, Int.reduceLT, Int.reduceBEq, Int.reduceBNe, Nat.reduceBEq, List.append_nil, Int.toNat_zero, Nat.sub_self, frS, w4]
      refine hk _ ?_
      clear hk k
      simp only [thenK, blockK]
      (repeat refine Sat.seq ?_)
      refine Sat.region_k fun k hk => ?_
      simp -implicitDefEqProofs only [evr, id, reduceCtorEq, reduceIte, Nat.reduceMul, Nat.reduceAdd, Nat.reduceLT, Nat.reduceLeDiff, Nat.reduceEqDiff, Int.reduceLT, Int.reduceBEq, Int.reduceBNe, Nat.reduceBEq, List.append_nil, Int.toNat_zero, Nat.sub_self, frS, ej2]
      refine hk _ ?_
      simp only [thenK, blockK]
      refine ⟨j, ⟨by omega, by rw [hd]; omega⟩, by omega, ?_⟩
      simp -implicitDefEqProofs only [evr, id, reduceCtorEq, reduceIte, Nat.reduceMul, Nat.reduceAdd, Nat.reduceLT, Nat.reduceLeDiff, Nat.reduceEqDiff, Int.reduceLT, Int.reduceBEq, Int.reduceBNe, Nat.reduceBEq, List.append_nil, Int.toNat_zero, Nat.sub_self, frS, evl]
      omega
  · simp only [decide_eq_false_iff_not] at h
    obtain rfl : q = 0 := by omega
    rw [List.drop_zero, d1.val] at hv
    have hsm : n ≤ 4611686018427387904 := by omega
    refine Sat.exit ?_
    simp only [thenK, blockK, reduceIte]
    (repeat refine Sat.seq ?_)
    (refine Sat.region_k fun k hk => ?_; simp -implicitDefEqProofs only [evr, id, reduceCtorEq, reduceIte, Nat.reduceMul, Nat.reduceAdd, Nat.reduceLT, Nat.reduceLeDiff, Nat.reduceEqDiff, Int.reduceLT, Int.reduceBEq, Int.reduceBNe, Nat.reduceBEq, List.append_nil, Int.toNat_zero, Nat.sub_self, frS]; refine hk _ ?_; clear hk k; try show Sat _ _ _ _ _)
    refine Sat.ret ?_
    simp only [Try.results17, evr, id, reduceCtorEq, reduceIte, Nat.reduceMul, Nat.reduceAdd, Nat.reduceLT, Nat.reduceLeDiff, Nat.reduceEqDiff, Int.reduceLT, Int.reduceBEq, Int.reduceBNe, Nat.reduceBEq, List.append_nil, Int.toNat_zero, Nat.sub_self, frS]
    unfold intV intE
    rw [if_pos hsm, if_pos hsm, d1.val]

set_option maxRecDepth 100000 in
theorem refSameC (F : Frm) {sa sb : SV} {m n : Nat} (ha : Nats sa m) (hb : Nats sb n) (b1 : (m : Int) < pw 512) (b2 : (n : Int) < pw 512) : Contract F Try.prog 24 [sa, sb] (fun r => r = .b (decide (m = n))) := by
  obtain ⟨xs, hi1, d1⟩ := ha.ints
  obtain ⟨ys, hi2, d2⟩ := hb.ints
  have l1 := (d1.len_le 512).2 b1
  have l2 := (d2.len_le 512).2 b2
  obtain ⟨a1, c1, z1, r1, rfl, hz1, hr1⟩ := hi1
  obtain ⟨a2, c2, z2, r2, rfl, hz2, hr2⟩ := hi2
  have hxy : xs = ys ↔ m = n := d1.inj d2
  refine contract_of Try.func24 rfl (by kernel_rfl) ?_
  simp only [Try.ntmps24, argEnv]
  (repeat refine Sat.seq ?_)
  (refine Sat.region_k fun k hk => ?_; simp -implicitDefEqProofs only [evr, id, reduceCtorEq, reduceIte, Nat.reduceMul, Nat.reduceAdd, Nat.reduceLT, Nat.reduceLeDiff, Nat.reduceEqDiff, Int.reduceLT, Int.reduceBEq, Int.reduceBNe, Nat.reduceBEq, List.append_nil, Int.toNat_zero, Nat.sub_self, frS]; refine hk _ ?_; clear hk k; try show Sat _ _ _ _ _)
  (repeat refine Sat.seq ?_)
  (refine Sat.region_k fun k hk => ?_; simp -implicitDefEqProofs only [evr, id, reduceCtorEq, reduceIte, Nat.reduceMul, Nat.reduceAdd, Nat.reduceLT, Nat.reduceLeDiff, Nat.reduceEqDiff, Int.reduceLT, Int.reduceBEq, Int.reduceBNe, Nat.reduceBEq, List.append_nil, Int.toNat_zero, Nat.sub_self, frS]; refine hk _ ?_; clear hk k; try show Sat _ _ _ _ _)
  refine Sat.cond_b rfl (fun h => ?_) (fun h => ?_)
  · have hne : xs.length ≠ ys.length := by
      simp only [bne_iff_ne] at h
      omega
    (repeat refine Sat.seq ?_)
    (refine Sat.region_k fun k hk => ?_; simp -implicitDefEqProofs only [evr, id, reduceCtorEq, reduceIte, Nat.reduceMul, Nat.reduceAdd, Nat.reduceLT, Nat.reduceLeDiff, Nat.reduceEqDiff, Int.reduceLT, Int.reduceBEq, Int.reduceBNe, Nat.reduceBEq, List.append_nil, Int.toNat_zero, Nat.sub_self, frS]; refine hk _ ?_; clear hk k; try show Sat _ _ _ _ _)
    refine Sat.ret ?_
    simp only [Try.results24, evr, id, reduceCtorEq, reduceIte, Nat.reduceMul, Nat.reduceAdd, Nat.reduceLT, Nat.reduceLeDiff, Nat.reduceEqDiff, Int.reduceLT, Int.reduceBEq, Int.reduceBNe, Nat.reduceBEq, List.append_nil, Int.toNat_zero, Nat.sub_self, frS]
    rw [decide_eq_false fun h9 => hne (by rw [hxy.2 h9])]
  have hlen : ys.length = xs.length := by
    have h9 : ¬ ((xs.length : Int) ≠ ys.length) := by
      intro h9
      rw [bne_iff_ne.2 h9] at h
      cases h
    omega
  refine Sat.skip ?_
  simp only [thenK]
  (repeat refine Sat.seq ?_)
  (refine Sat.region_k fun k hk => ?_; simp -implicitDefEqProofs only [evr, id, reduceCtorEq, reduceIte, Nat.reduceMul, Nat.reduceAdd, Nat.reduceLT, Nat.reduceLeDiff, Nat.reduceEqDiff, Int.reduceLT, Int.reduceBEq, Int.reduceBNe, Nat.reduceBEq, List.append_nil, Int.toNat_zero, Nat.sub_self, frS]; refine hk _ ?_; clear hk k; try show Sat _ _ _ _ _)
  (repeat refine Sat.seq ?_)
  refine Sat.block ?_
  (repeat refine Sat.seq ?_)
  refine Sat.loop (ι := Nat) (fun q => ⟨26, [(5, .i .i64 (q : Int)), (0, .sl a1 xs.length c1 z1 r1), (1, .sl a2 ys.length c2 z2 r2)], []⟩)
    (fun q => q ≤ xs.length ∧ ∀ i, i < q → xs.getD i 0 = ys.getD i 0) (fun q => xs.length - q) 0 ⟨Nat.zero_le _, fun i hi => by omega⟩ (by simp -implicitDefEqProofs only [evr, id, reduceCtorEq, reduceIte, Nat.reduceMul, Nat.reduceAdd, Nat.reduceLT, Nat.reduceLeDiff, Nat.reduceEqDiff, Int.reduceLT, Int.reduceBEq, Int.reduceBNe, Nat.reduceBEq, List.append_nil, Int.toNat_zero, Nat.sub_self, frS, evl]; try rfl) ?_
  rintro q ⟨hq, heq⟩
  (repeat refine Sat.seq ?_)
  (refine Sat.region_k fun k hk => ?_; simp -implicitDefEqProofs only [evr, id, reduceCtorEq, reduceIte, Nat.reduceMul, Nat.reduceAdd, Nat.reduceLT, Nat.reduceLeDiff, Nat.reduceEqDiff, Int.reduceLT, Int.reduceBEq, Int.reduceBNe, Nat.reduceBEq, List.append_nil, Int.toNat_zero, Nat.sub_self, frS]; refine hk _ ?_; clear hk k; try show Sat _ _ _ _ _)
  (repeat refine Sat.seq ?_)
  refine Sat.cond_b rfl (fun h => ?_) (fun h => ?_)
  · simp only [decide_eq_true_eq] at h
    have hj : q < xs.length := by omega
    have hsz1 : z1 = 1 := hz1.resolve_left (by omega)
    have hsz2 : z2 = 1 := hz2.resolve_left (by omega)
    subst hsz1 hsz2
    have g1 := hr1 q hj
    have g2 := hr2 q (by omega)
    have ej1 : IntKind.i64.wrap ((q : Int) + 1) = ((q + 1 : Nat) : Int) := by rw [w64 (by omega)]; omega
    refine Sat.skip ?_
    simp only [thenK]
    (repeat refine Sat.seq ?_)
    refine Sat.block ?_
    (repeat refine Sat.seq ?_)
    refine Sat.region_qk (by kernel_rfl) (by kernel_rfl) fun k hk => ?_
    simp -implicitDefEqProofs only [evr, id, reduceCtorEq, reduceIte, Nat.reduceMul, Nat.reduceAdd, Nat.reduceLT, Nat.reduceLeDiff, Nat.reduceEqDiff, Int.reduceLT, Int.reduceBEq, Int.reduceBNe, Nat.reduceBEq, List.append_nil, Int.toNat_zero, Nat.sub_self, frS]
    refine ⟨by omega, by omega, ?_⟩
    rw [g1, g2]
    simp -implicitDefEqProofs only [evr, id, reduceCtorEq, reduceIte, Nat.reduceMul, Nat.reduceAdd, Nat.reduceLT, Nat.reduceLeDiff, Nat.reduceEqDiff, Int.reduceLT, Int.reduceBEq, Int.reduceBNe, Nat.reduceBEq, List.append_nil, Int.toNat_zero, Nat.sub_self, frS]
    (refine hk _ ?_; clear hk k; try show Sat _ _ _ _ _)
    refine Sat.cond_b rfl (fun h9 => ?_) (fun h9 => ?_)
    · have hne : xs ≠ ys := fun h10 => by
        subst h10
        rw [bne_self_eq_false] at h9
        cases h9
      (repeat refine Sat.seq ?_)
      (refine Sat.region_k fun k hk => ?_; simp -implicitDefEqProofs only [evr, id, reduceCtorEq, reduceIte, Nat.reduceMul, Nat.reduceAdd, Nat.reduceLT, Nat.reduceLeDiff, Nat.reduceEqDiff, Int.reduceLT, Int.reduceBEq, Int.reduceBNe, Nat.reduceBEq, List.append_nil, Int.toNat_zero, Nat.sub_self, frS]; refine hk _ ?_; clear hk k; try show Sat _ _ _ _ _)
      refine Sat.ret ?_
      simp only [thenK, blockK, Try.results24, evr, id, reduceCtorEq, reduceIte, Nat.reduceMul, Nat.reduceAdd, Nat.reduceLT, Nat.reduceLeDiff, Nat.reduceEqDiff, Int.reduceLT, Int.reduceBEq, Int.reduceBNe, Nat.reduceBEq, List.append_nil, Int.toNat_zero, Nat.sub_self, frS]
      rw [decide_eq_false fun h10 => hne (hxy.2 h10)]
    · have hee : xs.getD q 0 = ys.getD q 0 := by
        by_cases h10 : xs.getD q 0 = ys.getD q 0
        · exact h10
        · rw [bne_iff_ne.2 h10] at h9; cases h9
      refine Sat.skip ?_
      simp only [thenK, blockK]
      (repeat refine Sat.seq ?_)
      refine Sat.region_k fun k hk => ?_
      simp -implicitDefEqProofs only [evr, id, reduceCtorEq, reduceIte, Nat.reduceMul, Nat.reduceAdd, Nat.reduceLT, Nat.reduceLeDiff, Nat.reduceEqDiff, Int.reduceLT, Int.reduceBEq, Int.reduceBNe, Nat.reduceBEq, List.append_nil, Int.toNat_zero, Nat.sub_self, frS, ej1]
      refine hk _ ?_
      simp only [thenK, blockK]
      refine ⟨q + 1, ⟨by omega, fun i hi => ?_⟩, by omega, ?_⟩
      · rcases (show i < q ∨ i = q by omega) with h10 | rfl
        · exact heq i h10
        · exact hee
      simp -implicitDefEqProofs only [evr, id, reduceCtorEq, reduceIte, Nat.reduceMul, Nat.reduceAdd, Nat.reduceLT, Nat.reduceLeDiff, Nat.reduceEqDiff, Int.reduceLT, Int.reduceBEq, Int.reduceBNe, Nat.reduceBEq, List.append_nil, Int.toNat_zero, Nat.sub_self, frS, evl]
  · simp only [decide_eq_false_iff_not] at h
    have hq2 : q = xs.length := by omega
    have hxs : xs = ys := by
      apply List.ext_getElem hlen.symm
      intro i h1 h2
      have := heq i (by omega)
      simpa [List.getD, h1, h2] using this
    refine Sat.exit ?_
    simp only [thenK, blockK, reduceIte]
    (repeat refine Sat.seq ?_)
    (refine Sat.region_k fun k hk => ?_; simp -implicitDefEqProofs only [evr, id, reduceCtorEq, reduceIte, Nat.reduceMul, Nat.reduceAdd, Nat.reduceLT, Nat.reduceLeDiff, Nat.reduceEqDiff, Int.reduceLT, Int.reduceBEq, Int.reduceBNe, Nat.reduceBEq, List.append_nil, Int.toNat_zero, Nat.sub_self, frS]; refine hk _ ?_; clear hk k; try show Sat _ _ _ _ _)
    refine Sat.ret ?_
    simp only [Try.results24, evr, id, reduceCtorEq, reduceIte, Nat.reduceMul, Nat.reduceAdd, Nat.reduceLT, Nat.reduceLeDiff, Nat.reduceEqDiff, Int.reduceLT, Int.reduceBEq, Int.reduceBNe, Nat.reduceBEq, List.append_nil, Int.toNat_zero, Nat.sub_self, frS]
    rw [decide_eq_true (hxy.1 hxs)]

set_option maxRecDepth 100000 in
theorem refSame3C (F : Frm) (na nb : Bool) {sp sq sr ss : SV} {p q r s : Nat} (hp : Nats sp p) (hq : Nats sq q) (hr : Nats sr r) (hs : Nats ss s) (b1 : (p : Int) < pw 512) (b2 : (q : Int) < pw 512) (b3 : (r : Int) < pw 512) (b4 : (s : Int) < pw 512) :
    Contract F Try.prog 19 [frS na sp sq, frS nb sr ss] (fun x => x = .b (decide (na = nb ∧ p = r ∧ q = s))) := by
  have hp' := hp
  have hq' := hq
  have hr' := hr
  have hs' := hs
  obtain ⟨a1, c1, z1, r1, x1, rfl, _⟩ := hp
  obtain ⟨a2, c2, z2, r2, x2, rfl, _⟩ := hq
  obtain ⟨a3, c3, z3, r3, x3, rfl, _⟩ := hr
  obtain ⟨a4, c4, z4, r4, x4, rfl, _⟩ := hs
  refine contract_of Try.func19 rfl (by kernel_rfl) ?_
  simp only [Try.ntmps19, argEnv, frS]
  (repeat refine Sat.seq ?_)
  (refine Sat.region_k fun k hk => ?_; simp -implicitDefEqProofs only [evr, id, reduceCtorEq, reduceIte, Nat.reduceMul, Nat.reduceAdd, Nat.reduceLT, Nat.reduceLeDiff, Nat.reduceEqDiff, Int.reduceLT, Int.reduceBEq, Int.reduceBNe, Nat.reduceBEq, List.append_nil, Int.toNat_zero, Nat.sub_self, frS])
  intro blk1 blk2
  (refine hk _ ?_; clear hk k; try show Sat _ _ _ _ _)
  (repeat refine Sat.seq ?_)
  refine Sat.region_at ⟨24, [(4, .b (decide (na = nb ∧ p = r ∧ q = s)))], []⟩ (fun k hk => ?_) ?_
  · simp -implicitDefEqProofs only [evr, id, reduceCtorEq, reduceIte, Nat.reduceMul, Nat.reduceAdd, Nat.reduceLT, Nat.reduceLeDiff, Nat.reduceEqDiff, Int.reduceLT, Int.reduceBEq, Int.reduceBNe, Nat.reduceBEq, List.append_nil, Int.toNat_zero, Nat.sub_self, frS]
    refine ⟨fun h => ?_, fun h => ?_⟩
    · have hn : na = nb := by simpa using h
      refine wcall_plain (refSameC F hp' hr' b1 b3) rfl (by rintro _ rfl; exact ok_plain rfl) ?_
      rintro y rfl
      simp -implicitDefEqProofs only [evr, id, reduceCtorEq, reduceIte, Nat.reduceMul, Nat.reduceAdd, Nat.reduceLT, Nat.reduceLeDiff, Nat.reduceEqDiff, Int.reduceLT, Int.reduceBEq, Int.reduceBNe, Nat.reduceBEq, List.append_nil, Int.toNat_zero, Nat.sub_self, frS]
      refine ⟨fun h2 => ?_, fun h2 => ?_⟩
      · refine wcall_plain (refSameC F hq' hs' b2 b4) rfl (by rintro _ rfl; exact ok_plain rfl) ?_
        rintro y rfl
        simp -implicitDefEqProofs only [evr, id, reduceCtorEq, reduceIte, Nat.reduceMul, Nat.reduceAdd, Nat.reduceLT, Nat.reduceLeDiff, Nat.reduceEqDiff, Int.reduceLT, Int.reduceBEq, Int.reduceBNe, Nat.reduceBEq, List.append_nil, Int.toNat_zero, Nat.sub_self, frS]
        refine hk _ ?_
        have e : decide (na = nb ∧ p = r ∧ q = s) = decide (q = s) := by simp [hn, h2]
        rw [e]
        simp -implicitDefEqProofs only [evr, id, reduceCtorEq, reduceIte, Nat.reduceMul, Nat.reduceAdd, Nat.reduceLT, Nat.reduceLeDiff, Nat.reduceEqDiff, Int.reduceLT, Int.reduceBEq, Int.reduceBNe, Nat.reduceBEq, List.append_nil, Int.toNat_zero, Nat.sub_self, frS, evl]
      · refine hk _ ?_
        have e : decide (na = nb ∧ p = r ∧ q = s) = false := by simp [h2]
        rw [e]
        simp -implicitDefEqProofs only [evr, id, reduceCtorEq, reduceIte, Nat.reduceMul, Nat.reduceAdd, Nat.reduceLT, Nat.reduceLeDiff, Nat.reduceEqDiff, Int.reduceLT, Int.reduceBEq, Int.reduceBNe, Nat.reduceBEq, List.append_nil, Int.toNat_zero, Nat.sub_self, frS, evl]
        try exact h2
    · have hn : ¬ na = nb := by simpa using h
      refine hk _ ?_
      have e : decide (na = nb ∧ p = r ∧ q = s) = false := by simp [hn]
      rw [e]
      simp -implicitDefEqProofs only [evr, id, reduceCtorEq, reduceIte, Nat.reduceMul, Nat.reduceAdd, Nat.reduceLT, Nat.reduceLeDiff, Nat.reduceEqDiff, Int.reduceLT, Int.reduceBEq, Int.reduceBNe, Nat.reduceBEq, List.append_nil, Int.toNat_zero, Nat.sub_self, frS, evl]
      try exact h
  simp only [thenK]
  refine Sat.ret ?_
  simp only [Try.results19, evr, id, reduceCtorEq, reduceIte, Nat.reduceMul, Nat.reduceAdd, Nat.reduceLT, Nat.reduceLeDiff, Nat.reduceEqDiff, Int.reduceLT, Int.reduceBEq, Int.reduceBNe, Nat.reduceBEq, List.append_nil, Int.toNat_zero, Nat.sub_self, frS]
end Go.Proofs.Ytagmohpafjncfaa

/- Choices as a variable of the call's own: New makes it, Next and Left turn it; what they give is known exactly. -/
set_option linter.unusedSimpArgs false
set_option linter.unusedVariables false
namespace Go.Proofs.Ytagmohpafjncfaa
open Go.RowKit Eng

namespace Eng
section
variable {P : Program} {F : Frm} {ds : List (Option Tmp)} {rest : List Oper} {dst : Option Tmp} {n : Nat} {env : List (Nat × SV)} {own : List Own} {k : St → Prop}
/-- a function that makes a variable and gives back its address -/
structure MakesB (P : Program) (f : FuncId) (args : List SV) (ty : TypeId) (post : List SV → Prop) : Prop where
  enters : ∀ vs w, (callFunc f vs).run P w = .ok (.enter f vs) w
  calls : ∀ (R : Nat → Prop) (w : World), (∀ s ∈ args, s.ok R w) → (∀ b, R b → b < w.heap.size) →
    Calls P f (args.map SV.den).toArray w fun e w' => e = .returned (.pointer (some ⟨w.heap.size, 0, none⟩)) ∧ ∃ cs, post cs ∧ Evo (fun _ => False) w w' ∧ w'.heap[w.heap.size]? = some (.cells (cs.map SV.den).toArray ty (0, 0)) ∧ ∀ c ∈ cs, c.den.oneCell' = true ∧ c.ok R w'
theorem wcall_box {f : FuncId} {args : List SV} {ty : TypeId} {post : List SV → Prop} (h : MakesB P f args ty post) (hk : ∀ (cb : Nat) (cs : List SV), post cs → WO P F ds rest (St.put ⟨n, env, own ++ [.box cb ty cs]⟩ dst (.op own.length cb 0)) k) : WCall P F ds rest dst ⟨n, env, own⟩ f (some args) k := by
  unfold WCall
  intro R0 w0 ob R a w hr hargs
  refine ⟨h.enters, ?_⟩
  refine (h.calls R w hargs (fun b hb => (hr.rr b hb).1)).mono ?_
  rintro e w' ⟨rfl, cs, hp, hevo, hcell, hok⟩
  have hg : w.grownBy w' none := ⟨hevo.os, hevo.tape, hevo.output, hevo.size, fun b hb _ => hevo.block b hb (fun h => h)⟩
  have hnew := hr.newRow (o := .box w.heap.size ty cs) hg (fun b hb => by simpa [Own.blk] using hb.symm) ⟨hr.obw, fun hc => by have := (hr.rr _ hc).1; omega, hcell, hok⟩
  exact ⟨.op own.length w.heap.size 0, _, R, rfl, hk w.heap.size cs hp, trivial, hnew, rfl⟩
/-- the cells of a variable of the call's own, read otherwise -/
theorem Sat.simBox {c : Code} {K : Exit → St → Prop} (id : Nat) {blk ty : Nat} {cs : List SV} (cs' : List SV) (hl : own[id]? = some (.box blk ty cs)) (hs : simA cs cs')
    (h : Sat P F c ⟨n, env, own.set id (.box blk ty cs')⟩ K) : Sat P F c ⟨n, env, own⟩ K := by
  rintro R0 w0 a w ⟨ob, R, hr⟩
  refine h R0 w0 a w ⟨ob, R, ?_⟩
  obtain ⟨h1, h2, h3, h4⟩ := hr.own id _ hl
  have key : ∀ (l l' : List SV), simA l l' → l'.map SV.den = l.map SV.den ∧ ∀ c' ∈ l', ∃ c ∈ l, sim c c' := by
    intro l
    induction l with
    | nil => intro l' h; cases l' with
      | nil => exact ⟨rfl, fun _ h => by cases h⟩
      | cons _ _ => exact h.elim
    | cons s t ih => intro l' h; cases l' with
      | nil => exact h.elim
      | cons s' t' =>
        obtain ⟨g1, g2⟩ := ih t' h.2
        refine ⟨by rw [List.map_cons, List.map_cons, g1, h.1.1], fun c' hc' => ?_⟩
        rcases List.mem_cons.1 hc' with rfl | hc'
        · exact ⟨s, by simp, h.1⟩
        · obtain ⟨c, hc, hcc⟩ := g2 c' hc'
          exact ⟨c, List.mem_cons_of_mem _ hc, hcc⟩
  obtain ⟨k1, k2⟩ := key cs cs' hs
  refine hr.setOwn (g := blk) hl rfl (fun b hb => by simpa [Own.blk] using hb.symm) rfl rfl rfl (Nat.le_refl _) (fun _ _ _ => rfl) ⟨h1, h2, by rw [k1]; exact h3, fun c' hc' => ?_⟩
  obtain ⟨c, hc, hcc⟩ := k2 c' hc'
  exact ⟨by rw [← hcc.1]; exact (h4 c hc).1, hcc.2 R w (h4 c hc).2⟩
/-- where ways meet again -/
theorem Sat.join {st : St} {K : Exit → St → Prop} {c y : Code} {ι : Type} (sh : ι → St) (J : ι → Prop) (h : Sat P F c st (thenK (fun st' => ∃ z, J z ∧ Le st' (sh z)) K)) (h2 : ∀ z, J z → Sat P F y (sh z) K) :
    Sat P F c st (thenK (fun st' => Sat P F y st' K) K) :=
  h.mono fun e st' hk => by
    cases e with
    | normal => obtain ⟨z, hz, hl⟩ := hk; exact (h2 z hz).le hl
    | _ => exact hk
/-- .. where more is done ahead of it -/
theorem Sat.join2 {st : St} {K : Exit → St → Prop} {c y : Code} {ι : Type} (sh : ι → St) (J : ι → Prop) (h : (∀ z, J z → Sat P F y (sh z) K) → Sat P F c st (thenK (fun st' => Sat P F y st' K) K)) (h2 : ∀ z, J z → Sat P F y (sh z) K) :
    Sat P F c st (thenK (fun st' => Sat P F y st' K) K) := h h2
end
end Eng

/-- the choices: the codes l, the next one is number p -/
def dbox (cb : Nat) (a : Option Addr) (l cap : Nat) (rd : Nat → Nat → SV) (p : Nat) : Eng.Own := .box cb 54 [.sl a l cap 1 rd, .i .i64 p]

theorem new_made2 (a : Option Addr) (len cap : Nat) (w : World) (most : Nat) (h1 : len ≤ cap) (h2 : cap ≤ maxLen) (hm : most ≤ 65536) :
    Calls Try.prog 9 #[.slice a len cap, .int .i64 (most : Int)] w fun e w' => e = .returned (.pointer (some ⟨w.heap.size, 0, none⟩)) ∧ ∃ n, n ≤ len ∧ n ≤ most ∧ w' = w.alloc (.cells #[.slice a n cap, .int .i64 0] 54) := by
  unfold maxLen at h2
  by_cases hl : (most : Nat) < len
  · go_enter Try.func9, Try.ntmps9
    go_wp2
    go_ret
    exact ⟨rfl, most, by omega, by omega, rfl⟩
  · go_enter Try.func9, Try.ntmps9
    go_wp2
    go_ret
    exact ⟨rfl, len, by omega, by omega, rfl⟩

theorem newB (s : SV) (hs : isBytes s) (most : Nat) (hm : most ≤ 65536) : MakesB Try.prog 9 [s, .i .i64 most] 54
    (fun cs => ∃ a l cap rd, l ≤ most ∧ l ≤ cap ∧ cap ≤ maxLen ∧ (∀ i, i < l → ∃ x : Int, 0 ≤ x ∧ x < 256 ∧ rd i 0 = .i .u8 x) ∧ cs = [.sl a l cap 1 rd, .i .i64 0]) := by
  obtain ⟨a, len, cap, rd, rfl, hb⟩ := hs
  refine ⟨enters_of Try.func9 rfl (by kernel_rfl), fun R w hargs hR => ?_⟩
  obtain ⟨h1, h2, h3⟩ := hargs _ (List.mem_cons_self ..)
  refine (new_made2 a len cap w most h1 h2 hm).mono ?_
  rintro e w' ⟨rfl, n, hn, hnm, rfl⟩
  have hold : ∀ b, R b → (w.alloc (.cells #[.slice a n cap, .int .i64 0] 54)).heap[b]? = w.heap[b]? := fun b hb => heap_alloc_old w _ (hR b hb)
  refine ⟨rfl, [.sl a n cap 1 rd, .i .i64 0], ⟨a, n, cap, rd, hnm, by omega, h2, fun i hi => hb i (by omega), rfl⟩, ⟨rfl, rfl, rfl, by simp, fun b hb _ => heap_alloc_old w _ hb⟩, heap_alloc_new w _, ?_⟩
  intro c hc
  simp only [List.mem_cons, List.not_mem_nil, or_false] at hc
  rcases hc with rfl | rfl
  · refine ⟨rfl, by omega, h2, ?_⟩
    rcases h3 with h3 | ⟨blk, off, rfl, hr, hc⟩
    · exact .inl (by omega)
    · refine .inr ⟨blk, off, rfl, hr, fun i j hi hj => ?_⟩
      obtain ⟨g1, g2, g3⟩ := hc i j (by omega) hj
      exact ⟨by rw [World.cell?_of_block (w := w) (a := ⟨blk, off + i * 1 + j, none⟩) (hold blk hr)]; exact g1, g2, SV.ok_mono (fun _ h => h) hold _ g3⟩
  · exact ⟨rfl, trivial⟩

set_option maxRecDepth 100000 in
theorem nextB (F : Frm) (cb : Nat) (a : Option Addr) (l cap : Nat) (rd : Nat → Nat → SV) (p : Nat) (hl : l ≤ 65536) (hb : ∀ i, i < l → ∃ x : Int, 0 ≤ x ∧ x < 256 ∧ rd i 0 = .i .u8 x) (n : Int) (h0 : 1 ≤ n) (h1 : n ≤ 256) :
    ContractM F Try.prog 10 [.op 0 cb 0, .i .i64 n] (dbox cb a l cap rd p) (fun r o1 => ∃ x : Int, r = .i .i64 x ∧ 0 ≤ x ∧ x < n ∧ o1 = dbox cb a l cap rd (if p < l then p + 1 else p)) := by
  refine contractM_of Try.func10 rfl (by kernel_rfl) (by rintro r o1 ⟨x, _, _, _, rfl⟩; rfl) ?_
  simp only [Try.ntmps10, argEnv, dbox]
  (repeat refine Sat.seq ?_)
  (refine Sat.region_k fun k hk => ?_; simp -implicitDefEqProofs only [evr, id, reduceCtorEq, reduceIte, Nat.reduceMul, Nat.reduceAdd, Nat.reduceLT, Nat.reduceLeDiff, Nat.reduceEqDiff, Int.reduceLT, Int.reduceBEq, Int.reduceBNe, Nat.reduceBEq, retM, retMK, dbox, List.cons_append, List.nil_append]; refine hk _ ?_; clear hk k; try show Sat _ _ _ _ _)
  by_cases hp : p < l
  · obtain ⟨x, hx0, hx1, hx⟩ := hb p hp
    have e1 : IntKind.i64.wrap ((p : Int) + 1) = ((p + 1 : Nat) : Int) := by rw [w64 (by omega)]; omega
    have e2 : IntKind.i64.wrap x = x := w64 (by omega)
    (repeat refine Sat.seq ?_)
    (refine Sat.region_qk (by kernel_rfl) (by kernel_rfl) fun k hk => ?_; simp -implicitDefEqProofs only [evr, id, reduceCtorEq, reduceIte, Nat.reduceMul, Nat.reduceAdd, Nat.reduceLT, Nat.reduceLeDiff, Nat.reduceEqDiff, Int.reduceLT, Int.reduceBEq, Int.reduceBNe, Nat.reduceBEq, retM, retMK, dbox, List.cons_append, List.nil_append])
    refine ⟨fun h => absurd h (by omega), fun _ => ?_⟩
    (refine hk _ ?_; clear hk k; try show Sat _ _ _ _ _)
    refine Sat.cond_b rfl (fun h => absurd h (by simp only [decide_eq_true_eq]; omega)) (fun _ => ?_)
    refine Sat.skip ?_
    simp only [thenK]
    (repeat refine Sat.seq ?_)
    refine Sat.region_qk (by kernel_rfl) (by kernel_rfl) fun k hk => ?_
    simp -implicitDefEqProofs only [evr, id, reduceCtorEq, reduceIte, Nat.reduceMul, Nat.reduceAdd, Nat.reduceLT, Nat.reduceLeDiff, Nat.reduceEqDiff, Int.reduceLT, Int.reduceBEq, Int.reduceBNe, Nat.reduceBEq, retM, retMK, dbox, List.cons_append, List.nil_append, Int.toNat_natCast, hx, e2]
    refine ⟨by omega, ?_⟩
    (refine hk _ ?_; clear hk k; try show Sat _ _ _ _ _)
    (repeat refine Sat.seq ?_)
    refine Sat.region_k fun k hk => ?_
    simp -implicitDefEqProofs only [evr, id, reduceCtorEq, reduceIte, Nat.reduceMul, Nat.reduceAdd, Nat.reduceLT, Nat.reduceLeDiff, Nat.reduceEqDiff, Int.reduceLT, Int.reduceBEq, Int.reduceBNe, Nat.reduceBEq, retM, retMK, dbox, List.cons_append, List.nil_append, e1]
    (refine hk _ ?_; clear hk k; try show Sat _ _ _ _ _)
    (repeat refine Sat.seq ?_)
    (refine Sat.region_k fun k hk => ?_; simp -implicitDefEqProofs only [evr, id, reduceCtorEq, reduceIte, Nat.reduceMul, Nat.reduceAdd, Nat.reduceLT, Nat.reduceLeDiff, Nat.reduceEqDiff, Int.reduceLT, Int.reduceBEq, Int.reduceBNe, Nat.reduceBEq, retM, retMK, dbox, List.cons_append, List.nil_append]; refine hk _ ?_; clear hk k; try show Sat _ _ _ _ _)
    (repeat refine Sat.seq ?_)
    refine Sat.cond_b rfl (fun h => absurd h (by simp only [decide_eq_true_eq]; omega)) (fun _ => ?_)
    refine Sat.skip ?_
    simp only [thenK]
    (repeat refine Sat.seq ?_)
    (refine Sat.region_k fun k hk => ?_; simp -implicitDefEqProofs only [evr, id, reduceCtorEq, reduceIte, Nat.reduceMul, Nat.reduceAdd, Nat.reduceLT, Nat.reduceLeDiff, Nat.reduceEqDiff, Int.reduceLT, Int.reduceBEq, Int.reduceBNe, Nat.reduceBEq, retM, retMK, dbox, List.cons_append, List.nil_append])
    refine ⟨by omega, ?_⟩
    (refine hk _ ?_; clear hk k; try show Sat _ _ _ _ _)
    refine Sat.ret ?_
    simp only [Try.results10, evr, id, reduceCtorEq, reduceIte, Nat.reduceMul, Nat.reduceAdd, Nat.reduceLT, Nat.reduceLeDiff, Nat.reduceEqDiff, Int.reduceLT, Int.reduceBEq, Int.reduceBNe, Nat.reduceBEq, retM, retMK, dbox, List.cons_append, List.nil_append]
    rw [if_pos hp]
    exact ⟨rfl, _, _, rfl, _, rfl, Int.tmod_nonneg _ hx0, Int.tmod_lt_of_pos _ (by omega), rfl⟩
  · (repeat refine Sat.seq ?_)
    (refine Sat.region_qk (by kernel_rfl) (by kernel_rfl) fun k hk => ?_; simp -implicitDefEqProofs only [evr, id, reduceCtorEq, reduceIte, Nat.reduceMul, Nat.reduceAdd, Nat.reduceLT, Nat.reduceLeDiff, Nat.reduceEqDiff, Int.reduceLT, Int.reduceBEq, Int.reduceBNe, Nat.reduceBEq, retM, retMK, dbox, List.cons_append, List.nil_append])
    refine ⟨fun _ => ?_, fun h => absurd (by omega) h⟩
    (refine hk _ ?_; clear hk k; try show Sat _ _ _ _ _)
    refine Sat.cond_tt rfl ?_
    (repeat refine Sat.seq ?_)
    (refine Sat.region_k fun k hk => ?_; simp -implicitDefEqProofs only [evr, id, reduceCtorEq, reduceIte, Nat.reduceMul, Nat.reduceAdd, Nat.reduceLT, Nat.reduceLeDiff, Nat.reduceEqDiff, Int.reduceLT, Int.reduceBEq, Int.reduceBNe, Nat.reduceBEq, retM, retMK, dbox, List.cons_append, List.nil_append]; refine hk _ ?_; clear hk k; try show Sat _ _ _ _ _)
    refine Sat.ret ?_
    simp only [Try.results10, evr, id, reduceCtorEq, reduceIte, Nat.reduceMul, Nat.reduceAdd, Nat.reduceLT, Nat.reduceLeDiff, Nat.reduceEqDiff, Int.reduceLT, Int.reduceBEq, Int.reduceBNe, Nat.reduceBEq, retM, retMK, dbox, List.cons_append, List.nil_append]
    rw [if_neg hp]
    exact ⟨rfl, _, _, rfl, 0, rfl, Int.le_refl _, by omega, rfl⟩

theorem nextB2 (F : Frm) (cb : Nat) (a : Option Addr) (l cap : Nat) (rd : Nat → Nat → SV) (p : Nat) (hl : l ≤ 65536) (hb : ∀ i, i < l → ∃ x : Int, 0 ≤ x ∧ x < 256 ∧ rd i 0 = .i .u8 x) (hp : p ≤ l) (n : Int) (h0 : 1 ≤ n) (h1 : n ≤ 256) :
    ContractM F Try.prog 10 [.op 0 cb 0, .i .i64 n] (dbox cb a l cap rd p) (fun r o1 => ∃ (x : Int) (p' : Nat), r = .i .i64 x ∧ 0 ≤ x ∧ x < n ∧ p ≤ p' ∧ p' ≤ l ∧ (p < l → p < p') ∧ o1 = dbox cb a l cap rd p') :=
  (nextB F cb a l cap rd p hl hb n h0 h1).mono fun r o1 ⟨x, h2, h3, h4, h5⟩ => ⟨x, _, h2, h3, h4, by split <;> omega, by split <;> omega, fun h => by rw [if_pos h]; omega, h5⟩
end Go.Proofs.Ytagmohpafjncfaa

/- The frame of the proof of 'Rows.StoppingCountsSaid': from the walk of the Go function to the given statement. Written by a program (wip/shell.py). -/
namespace Go.Proofs.Ytagmohpafjncfaa.stoppingCounts
open Go.ChangeShapes Go.WideShapes Go.ChangeAt Go.RowKit
open Go.ChangeMaps (open_string shut_string)
set_option linter.unusedVariables false

theorem own : ownKnob Try.prog.godebug = none := by kernel_rfl
theorem laidOut : laidOutB Try.prog = true := by kernel_rfl

/-- the walk: whatever the input, the call returns true, and what was there is as it was -/
def Walk : Prop := ∀ (a0 : Int) (a1 : Int) (w : World), (Lit.int .u8 a0).wf = true → (Lit.int .u8 a1).wf = true →
    Calls Try.prog 4 #[.int .u8 a0, .int .u8 a1] w fun e w' => e = .returned (.bool true) ∧ Below w.heap.size w w'

set_option maxRecDepth 100000 in
theorem lifted (walk : Walk) (os : Os) (started : os.Started) (H : Type) (enc : TypeId × Value → H) :
    ReturnsInHanded {} Try.checked os 4 .any (Rows.stoppingCountsSpec.pre6 enc Try.prog Try.f4 Rows.stoppingCountsRow.domain false) (Rows.stoppingCountsSpec.post enc Try.prog Try.f4 false true false false) := by
  refine returnsInHanded_of_change (C := Try.checked) own started (by kernel_rfl) Try.func4
    (ChangeSpec.witness6 (enc := enc) (C := Try.checked) false ⟨#[], #[.int .u8 0, .int .u8 0], []⟩ 8 (by kernel_rfl) (by kernel_rfl) (by kernel_rfl) (by kernel_rfl)) ?_
  intro W base args ds gs before hval0 hW hcnd _
  have hval : ∀ (j : Nat) t v, Try.f4.params[j]? = some t → args[j]? = some v → Value.okWide Try.prog W .any base t v := hval0
  have hW' := hW
  obtain ⟨p, q, hA0, hV, rfl, hfz, hnd⟩ := hW
  have hA : DataW.TrodAll enc Try.prog W 0 (fun _ => true) true Try.f4.params.toList args.toList ds p := hA0
  rw [Try.params4] at hA hval
  obtain ⟨v0, vs0, d0, ds0, p0, q0, hargs, rfl, rfl, h0, r0⟩ := trodAll_cons hA
  obtain ⟨v1, vs1, d1, ds1, p1, q1, rfl, rfl, rfl, h1, r1⟩ := trodAll_cons r0
  obtain ⟨rfl, rfl, rfl⟩ := trodAll_nil r1
  obtain rfl : args = #[v0, v1] := by cases args; simp_all
  obtain ⟨rfl, rfl⟩ := trodVars_none hV
  obtain ⟨a0, rfl, rfl, rfl, w0⟩ := open_int Try.underlying5 (hval 0 5 v0 rfl rfl) h0
  obtain ⟨a1, rfl, rfl, rfl, w1⟩ := open_int Try.underlying5 (hval 1 5 v1 rfl rfl) h1
  clear hA0 hval0
  refine (walk a0 a1 W w0 w1).mono fun e W' ⟨he, bel⟩ => ?_
  subst he
  exact ⟨_, rfl, _, _, _, [], _, [], hW', trodAll_mk1 (shut_bool Try.underlying4 _), (trodAll_cons_mk (shut_int Try.underlying5 w0) (trodAll_cons_mk (shut_int Try.underlying5 w1) trodAll_mk0)), rfl, bel.frame _, fun h => by cases h⟩

theorem of_walk (walk : Walk) : Rows.StoppingCountsSaid :=
  OpenClaim.holds_of_wide 4 Try.f4 rfl rfl rfl rfl rfl rfl rfl ⟨rfl, rfl, rfl, rfl, rfl⟩ rfl rfl rfl rfl rfl (by kernel_rfl) Try.func4 (by kernel_rfl)
    (of_decide_eq_true (by kernel_rfl)) (by unfold Func.isWrapper; first | (rw [if_pos (by decide +kernel)]; kernel_rfl) | (rw [if_neg (by decide +kernel)]; exact ⟨rfl, rfl⟩))
    (fun os started H enc _ => lifted walk os started H enc)
end Go.Proofs.Ytagmohpafjncfaa.stoppingCounts
