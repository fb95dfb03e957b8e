/- natural.Parse, by the evaluator. -/
import Derived.Test.YtgdbcpljdibliaaGreatDoorTxrE
import Derived.Test.YtgdbcpljdibliaaGreatDoorPk4
set_option linter.unusedSimpArgs false
set_option linter.unusedVariables false
namespace Go.Proofs.YtgdbcpljdibliaaGreatDoor
namespace Tq
open Eng Lmb Go.RowKit
theorem dig_in {c : UInt8} (h : isDig c) : digSet.contains c = true := by
  obtain ⟨h1, h2⟩ := h
  have e : c = UInt8.ofNat c.toNat := by simp
  rw [e]
  generalize c.toNat = m at h1 h2
  rcases (show m = 48 ∨ m = 49 ∨ m = 50 ∨ m = 51 ∨ m = 52 ∨ m = 53 ∨ m = 54 ∨ m = 55 ∨ m = 56 ∨ m = 57 by omega) with rfl | rfl | rfl | rfl | rfl | rfl | rfl | rfl | rfl | rfl <;> decide
theorem mkB_toList (l : List UInt8) : (mkB l).toList = l := by rw [ByteArray.toList_eq]; rfl
theorem emp_toList : (⟨#[]⟩ : ByteArray).toList = [] := by rw [ByteArray.toList_eq]
theorem byte_get (l : List UInt8) (i : Nat) (h : i < (mkB l).size) : (mkB l)[i]'h = l[i]'(by rw [mkB_size] at h; exact h) := by
  rw [ByteArray.getElem_eq_getElem_data]
  simp [mkB]
theorem byte_at (l : List UInt8) (i : Nat) (c : UInt8) (h : l[i]? = some c) : byteAt (mkB l) i = c.toNat := by
  obtain ⟨hi, e⟩ := List.getElem?_eq_some_iff.1 h
  unfold byteAt
  rw [getElem?_pos (mkB l) i (by rw [mkB_size]; exact hi), byte_get, e]
  rfl
set_option maxHeartbeats 1000000 in
set_option maxRecDepth 100000 in
theorem parseC (l : List UInt8) (hne : l ≠ []) (hd : ∀ c ∈ l, isDig c) (h0 : l.length = 1 ∨ l[0]? ≠ some 48) (hl : l.length ≤ 2400) (hv : (valD l : Int) < pw 256) : Contract FrA Tryz.prog 43 [sB l] (natRes (valD l)) := by
  have hlen : 0 < l.length := List.length_pos_iff.2 hne
  have htr : Lib.trimS l digSet = [] := trim_all fun c hc => dig_in (hd c hc)
  have tC := trimC FrA l (by omega)
  rw [htr] at tC
  refine contract_of Tryz.func43 rfl (by kernel_rfl) ?_
  simp only [Tryz.ntmps43, argEnv]
  (repeat refine Sat.seq ?_)
  (refine Sat.region_k fun k hk => ?_; simp -implicitDefEqProofs only [evr, id, reduceCtorEq, reduceIte, Nat.reduceMul, Nat.reduceAdd, Nat.reduceLT, Nat.reduceLeDiff, Nat.reduceEqDiff, Int.reduceLT, Int.reduceBEq, Int.reduceBNe, Nat.reduceBEq, evn]; refine hk _ ?_; clear hk k; try show Sat _ _ _ _ _)
  (repeat refine Sat.seq ?_)
  have q1 : (l == []) = false := by rw [beq_eq_false_iff_ne]; exact hne
  have q2 : (([] : List UInt8) != []) = false := by decide
  obtain ⟨c, hc⟩ : ∃ c, l[0]? = some c := ⟨_, List.getElem?_eq_getElem hlen⟩
  refine Sat.region_at ⟨68, [(27, .b false), (0, sB l), (2, .sl none 0 0 0 fun _ _ => .v undef), (3, .i .i64 0)], []⟩ (fun k hk => ?_) ?_
  · simp -implicitDefEqProofs only [evr, id, reduceCtorEq, reduceIte, Nat.reduceMul, Nat.reduceAdd, Nat.reduceLT, Nat.reduceLeDiff, Nat.reduceEqDiff, Int.reduceLT, Int.reduceBEq, Int.reduceBNe, Nat.reduceBEq, mkB_toList, emp_toList, q1, evn]
    refine wcall_plain tC rfl (by rintro _ rfl; exact ok_plain rfl) ?_
    rintro rr rfl
    simp -implicitDefEqProofs only [evr, id, reduceCtorEq, reduceIte, Nat.reduceMul, Nat.reduceAdd, Nat.reduceLT, Nat.reduceLeDiff, Nat.reduceEqDiff, Int.reduceLT, Int.reduceBEq, Int.reduceBNe, Nat.reduceBEq, mkB_toList, emp_toList, q2, evn]
    rw [byte_at l 0 c hc]
    have hc48 : ((c.toNat : Int) == 48) = true → l.length = 1 := fun h9 => by
      rw [beq_iff_eq] at h9
      rcases h0 with h0 | h0
      · exact h0
      · exfalso
        apply h0
        rw [hc]
        have e : c = UInt8.ofNat c.toNat := by simp
        rw [e, show c.toNat = 48 by omega]
        rfl
    refine ⟨⟨by omega, by rw [mkB_size]; omega⟩, fun h9 => ?_, fun h9 => ?_⟩
    · have e9 : decide (1 < ((mkB l).size : Int)) = false := decide_eq_false (by rw [mkB_size, hc48 h9]; decide)
      refine hk _ ?_
      simp only [e9]
      simp -implicitDefEqProofs only [evr, id, reduceCtorEq, reduceIte, Nat.reduceMul, Nat.reduceAdd, Nat.reduceLT, Nat.reduceLeDiff, Nat.reduceEqDiff, Int.reduceLT, Int.reduceBEq, Int.reduceBNe, Nat.reduceBEq, evl, evn]
      repeat' (first | rfl | (refine And.intro ?_ ?_))
    · refine hk _ ?_
      simp -implicitDefEqProofs only [evr, id, reduceCtorEq, reduceIte, Nat.reduceMul, Nat.reduceAdd, Nat.reduceLT, Nat.reduceLeDiff, Nat.reduceEqDiff, Int.reduceLT, Int.reduceBEq, Int.reduceBNe, Nat.reduceBEq, evl, evn]
      repeat' (first | rfl | (refine And.intro ?_ ?_))
  refine Sat.cond_b rfl (fun h => absurd h (by decide)) (fun _ => ?_)
  refine Sat.skip ?_
  simp only [thenK]
  (repeat refine Sat.seq ?_)
  (refine Sat.region_k fun k hk => ?_; simp -implicitDefEqProofs only [evr, id, reduceCtorEq, reduceIte, Nat.reduceMul, Nat.reduceAdd, Nat.reduceLT, Nat.reduceLeDiff, Nat.reduceEqDiff, Int.reduceLT, Int.reduceBEq, Int.reduceBNe, Nat.reduceBEq, evn]; refine hk _ ?_; clear hk k; try show Sat _ _ _ _ _)
  refine Sat.cond_b rfl (fun h => absurd (of_decide_eq_true h) (by rw [mkB_size]; omega)) (fun _ => ?_)
  refine Sat.skip ?_
  simp only [thenK]
  (repeat refine Sat.seq ?_)
  (refine Sat.region_k fun k hk => ?_; simp -implicitDefEqProofs only [evr, id, reduceCtorEq, reduceIte, Nat.reduceMul, Nat.reduceAdd, Nat.reduceLT, Nat.reduceLeDiff, Nat.reduceEqDiff, Int.reduceLT, Int.reduceBEq, Int.reduceBNe, Nat.reduceBEq, evn]; refine hk _ ?_; clear hk k; try show Sat _ _ _ _ _)
  (repeat refine Sat.seq ?_)
  refine Sat.region_range (by decide) (by decide) (by kernel_rfl) rfl ?_
  intro blk
  simp only [thenK]
  refine Sat.adopt 4 3 1 (fun p _ => .i .i64 (([] : List Int).getD p 0)) rfl ?_
  simp -implicitDefEqProofs only [evr, id, reduceCtorEq, reduceIte, Nat.reduceMul, Nat.reduceAdd, Nat.reduceLT, Nat.reduceLeDiff, Nat.reduceEqDiff, Int.reduceLT, Int.reduceBEq, Int.reduceBNe, Nat.reduceBEq, evn]
  (repeat refine Sat.seq ?_)
  try refine Sat.block ?_
  refine Sat.loop (ι := Nat × Option Addr × Nat × List Int) (fun x => ⟨68, [(32, .v (.pointer (some ⟨blk, 0, none⟩))), (4, .os 1 x.2.1 x.2.2.2.length x.2.2.1)], [.res blk (IterAt blk (mkB l) x.1), .row x.2.1 3 x.2.2.2.length x.2.2.1 1 (fun p _ => .i .i64 (x.2.2.2.getD p 0))]⟩)
    (fun x => x.1 ≤ l.length ∧ Limbs x.2.2.2 ∧ val x.2.2.2 = (valD (l.take x.1) : Int) ∧ x.2.2.2.length ≤ x.1) (fun x => l.length - x.1) (0, none, 0, []) ⟨Nat.zero_le _, limbs_nil, rfl, Nat.le_refl _⟩ (by
      simp -implicitDefEqProofs only [evr, id, reduceCtorEq, reduceIte, Nat.reduceMul, Nat.reduceAdd, Nat.reduceLT, Nat.reduceLeDiff, Nat.reduceEqDiff, Int.reduceLT, Int.reduceBEq, Int.reduceBNe, Nat.reduceBEq, evl, evn]
      repeat' (first | rfl | (refine And.intro ?_ ?_))) ?_
  rintro ⟨pos, a, cap, xs⟩ ⟨hpos, hlim, hval, hxl⟩
  simp only at hpos hlim hval hxl ⊢
  (repeat refine Sat.seq ?_)
  refine Sat.region_next (oid := 0) (s := mkB l) (pos := pos) (by decide) rfl rfl (fun h => by
    rw [byte_get]
    have := hd _ (List.getElem_mem (by rw [mkB_size] at h; exact h))
    exact Nat.lt_of_le_of_lt this.2 (by decide)) (fun h k hk => ?_) (fun h k hk => ?_)
  · have hp : pos < l.length := by rw [mkB_size] at h; exact h
    have hdig := hd _ (List.getElem_mem hp)
    have hgc := byte_get l pos h
    have htk : l.take (pos + 1) = l.take pos ++ [l[pos]] := by rw [List.take_add_one, List.getElem?_eq_getElem hp]; rfl
    have hvs : valD (l.take (pos + 1)) = 10 * valD (l.take pos) + (l[pos].toNat - 48) := by rw [htk, valD_snoc]
    simp only [hgc]
    generalize l[pos] = c9 at hdig hvs ⊢
    obtain ⟨g1, g2⟩ := hdig
    have e1 : IntKind.i32.wrap ((c9.toNat : Int) - 48) = ((c9.toNat - 48 : Nat) : Int) := by
      rw [IntWalk.i32_in _ ⟨by omega, by omega⟩]; omega
    have e2 : IntKind.i64.wrap ((c9.toNat - 48 : Nat) : Int) = ((c9.toNat - 48 : Nat) : Int) := w64 (by omega)
    simp -implicitDefEqProofs only [evr, id, reduceCtorEq, reduceIte, Nat.reduceMul, Nat.reduceAdd, Nat.reduceLT, Nat.reduceLeDiff, Nat.reduceEqDiff, Int.reduceLT, Int.reduceBEq, Int.reduceBNe, Nat.reduceBEq, evn]
    refine hk _ ?_
    clear hk k
    simp only [thenK]
    (repeat refine Sat.seq ?_)
    refine Sat.cond_b rfl (fun _ => ?_) (fun h9 => absurd h9 (by decide))
    refine Sat.skip ?_
    simp only [thenK]
    (repeat refine Sat.seq ?_)
    refine Sat.block ?_
    (repeat refine Sat.seq ?_)
    (refine Sat.region_k fun k hk => ?_; simp -implicitDefEqProofs only [evr, id, reduceCtorEq, reduceIte, Nat.reduceMul, Nat.reduceAdd, Nat.reduceLT, Nat.reduceLeDiff, Nat.reduceEqDiff, Int.reduceLT, Int.reduceBEq, Int.reduceBNe, Nat.reduceBEq, evn]; refine hk _ ?_; clear hk k; try show Sat _ _ _ _ _)
    (repeat refine Sat.seq ?_)
    refine Sat.region_k fun k hk => ?_
    simp -implicitDefEqProofs only [evr, id, reduceCtorEq, reduceIte, Nat.reduceMul, Nat.reduceAdd, Nat.reduceLT, Nat.reduceLeDiff, Nat.reduceEqDiff, Int.reduceLT, Int.reduceBEq, Int.reduceBNe, Nat.reduceBEq, e1, e2, evn]
    (refine hk _ ?_; clear hk k; try show Sat _ _ _ _ _)
    (repeat refine Sat.seq ?_)
    (refine Sat.region_k fun k hk => ?_; simp -implicitDefEqProofs only [evr, id, reduceCtorEq, reduceIte, Nat.reduceMul, Nat.reduceAdd, Nat.reduceLT, Nat.reduceLeDiff, Nat.reduceEqDiff, Int.reduceLT, Int.reduceBEq, Int.reduceBNe, Nat.reduceBEq, evn]; refine hk _ ?_; clear hk k; try show Sat _ _ _ _ _)
    (repeat refine Sat.seq ?_)
    refine Sat.block ?_
    refine Sat.loop (ι := Nat × List Int × Int) (fun x => ⟨68, [(41, .i .i64 x.1), (40, .i .i64 xs.length), (39, .os 1 a xs.length cap), (7, .i .i64 x.2.2), (32, .v (.pointer (some ⟨blk, 0, none⟩))), (4, .os 1 a xs.length cap)], [.res blk (IterAt blk (mkB l) (pos + 1)), .row a 3 xs.length cap 1 (fun p _ => .i .i64 (x.2.1.getD p 0))]⟩)
      (fun x => x.1 ≤ xs.length ∧ DigInv xs ((c9.toNat - 48 : Nat) : Int) x.1 x.2.1 x.2.2) (fun x => xs.length - x.1) (0, xs, ((c9.toNat - 48 : Nat) : Int)) ⟨Nat.zero_le _, DigInv.start hlim (by omega) (by omega)⟩ (by
        simp -implicitDefEqProofs only [evr, id, reduceCtorEq, reduceIte, Nat.reduceMul, Nat.reduceAdd, Nat.reduceLT, Nat.reduceLeDiff, Nat.reduceEqDiff, Int.reduceLT, Int.reduceBEq, Int.reduceBNe, Nat.reduceBEq, evl, evn]
        repeat' (first | rfl | (refine And.intro ?_ ?_))) ?_
    rintro ⟨i, ys, carry⟩ ⟨hi, hinv⟩
    simp only at hi hinv ⊢
    (repeat refine Sat.seq ?_)
    (refine Sat.region_k fun k hk => ?_; simp -implicitDefEqProofs only [evr, id, reduceCtorEq, reduceIte, Nat.reduceMul, Nat.reduceAdd, Nat.reduceLT, Nat.reduceLeDiff, Nat.reduceEqDiff, Int.reduceLT, Int.reduceBEq, Int.reduceBNe, Nat.reduceBEq, evn]; refine hk _ ?_; clear hk k; try show Sat _ _ _ _ _)
    (repeat refine Sat.seq ?_)
    refine Sat.cond_b rfl (fun h9 => ?_) (fun h9 => ?_)
    · have hi1 : i < xs.length := by have := of_decide_eq_true h9; omega
      clear h9
      have hnew := hinv.step hlim hi1
      have hc0 := hinv.c_lo
      have hc1 := hinv.c_hi
      have hyl := hinv.len
      have hyi : 0 ≤ ys.getD i 0 ∧ ys.getD i 0 < 1073741824 := by
        have e : ys.getD i 0 = ys[i]'(by omega) := by simp [List.getD, show i < ys.length by omega]
        rw [e]; exact hinv.limbs _ (List.getElem_mem _)
      have f1 : IntKind.i64.wrap (10 * ys.getD i 0) = 10 * ys.getD i 0 := w64 (by omega)
      have f2 : IntKind.i64.wrap (10 * ys.getD i 0 + carry) = 10 * ys.getD i 0 + carry := w64 (by omega)
      have f3 : bits .and .i64 (10 * ys.getD i 0 + carry) 1073741823 = (10 * ys.getD i 0 + carry) % 1073741824 := Zn.and_limb _
      have f4 : (10 * ys.getD i 0 + carry).fdiv (2 ^ min (Int.toNat 30) IntKind.i64.bits) = (10 * ys.getD i 0 + carry) / 1073741824 := by
        show (10 * ys.getD i 0 + carry).fdiv 1073741824 = _
        rw [Int.fdiv_eq_ediv_of_nonneg _ (by decide)]
      have f5 : IntKind.i64.wrap ((10 * ys.getD i 0 + carry) / 1073741824) = (10 * ys.getD i 0 + carry) / 1073741824 := w64 (by omega)
      have f6 : IntKind.i64.wrap ((i : Int) + 1) = ((i + 1 : Nat) : Int) := by rw [w64 (by omega)]; omega
      refine Sat.skip ?_
      simp only [thenK]
      (repeat refine Sat.seq ?_)
      refine Sat.block ?_
      (repeat refine Sat.seq ?_)
      (refine Sat.region_k fun k hk => ?_; simp -implicitDefEqProofs only [evr, id, reduceCtorEq, reduceIte, Nat.reduceMul, Nat.reduceAdd, Nat.reduceLT, Nat.reduceLeDiff, Nat.reduceEqDiff, Int.reduceLT, Int.reduceBEq, Int.reduceBNe, Nat.reduceBEq, evn])
      refine ⟨by omega, hi1, ?_⟩
      (refine hk _ ?_; clear hk k; try show Sat _ _ _ _ _)
      (repeat refine Sat.seq ?_)
      refine Sat.region_k fun k hk => ?_
      simp -implicitDefEqProofs only [evr, id, reduceCtorEq, reduceIte, Nat.reduceMul, Nat.reduceAdd, Nat.reduceLT, Nat.reduceLeDiff, Nat.reduceEqDiff, Int.reduceLT, Int.reduceBEq, Int.reduceBNe, Nat.reduceBEq, f1, f2, evn]
      (refine hk _ ?_; clear hk k; try show Sat _ _ _ _ _)
      refine Sat.region_k fun k hk => ?_
      simp -implicitDefEqProofs only [evr, id, reduceCtorEq, reduceIte, Nat.reduceMul, Nat.reduceAdd, Nat.reduceLT, Nat.reduceLeDiff, Nat.reduceEqDiff, Int.reduceLT, Int.reduceBEq, Int.reduceBNe, Nat.reduceBEq, f3, f4, f5, evn]
      refine ⟨by decide, by omega, hi1, ?_⟩
      refine hk _ ?_
      clear hk k
      simp only [thenK, blockK]
      refine Sat.region_k fun k hk => ?_
      simp -implicitDefEqProofs only [evr, id, reduceCtorEq, reduceIte, Nat.reduceMul, Nat.reduceAdd, Nat.reduceLT, Nat.reduceLeDiff, Nat.reduceEqDiff, Int.reduceLT, Int.reduceBEq, Int.reduceBNe, Nat.reduceBEq, f6, evn]
      refine hk _ ?_
      simp only [thenK, blockK]
      refine ⟨(i + 1, ys.set i ((10 * ys.getD i 0 + carry) % 1073741824), (10 * ys.getD i 0 + carry) / 1073741824), ⟨by omega, hnew⟩, by show _ - (i + 1) < _ - i; omega, ?_⟩
      have es := rd_set (qs := ys) (n := xs.length) (ix := i) (x := (10 * ys.getD i 0 + carry) % 1073741824) rfl (by omega)
      simp -implicitDefEqProofs only [evr, id, reduceCtorEq, reduceIte, Nat.reduceMul, Nat.reduceAdd, Nat.reduceLT, Nat.reduceLeDiff, Nat.reduceEqDiff, Int.reduceLT, Int.reduceBEq, Int.reduceBNe, Nat.reduceBEq, evl, evn]
      repeat' (first | exact es | rfl | (refine And.intro ?_ ?_))
    · have hi1 : i = xs.length := by have := of_decide_eq_false h9; omega
      subst hi1
      clear h9
      have hyl := hinv.len
      have hv9 := hinv.val
      rw [List.take_of_length_le (by omega), List.take_of_length_le (Nat.le_refl _), hval] at hv9
      have hc0 := hinv.c_lo
      have hc1 := hinv.c_hi
      refine Sat.exit ?_
      simp only [thenK, blockK, reduceIte]
      (repeat refine Sat.seq ?_)
      (refine Sat.region_k fun k hk => ?_; simp -implicitDefEqProofs only [evr, id, reduceCtorEq, reduceIte, Nat.reduceMul, Nat.reduceAdd, Nat.reduceLT, Nat.reduceLeDiff, Nat.reduceEqDiff, Int.reduceLT, Int.reduceBEq, Int.reduceBNe, Nat.reduceBEq, evn]; refine hk _ ?_; clear hk k; try show Sat _ _ _ _ _)
      refine Sat.cond_b rfl (fun h9 => ?_) (fun h9 => ?_)
      · have h9 := of_decide_eq_true h9
        refine Sat.region_k fun k hk => ?_
        simp -implicitDefEqProofs only [evr, id, reduceCtorEq, reduceIte, Nat.reduceMul, Nat.reduceAdd, Nat.reduceLT, Nat.reduceLeDiff, Nat.reduceEqDiff, Int.reduceLT, Int.reduceBEq, Int.reduceBNe, Nat.reduceBEq, evn]
        intro blk2
        refine ⟨⟨by unfold maxLen; omega, by omega⟩, fun a2 cap2 => ?_⟩
        refine hk _ ?_
        simp only [thenK, blockK]
        refine ⟨(pos + 1, a2, cap2, ys ++ [carry]), ⟨by omega, limbs_append.2 ⟨hinv.limbs, limbs_cons.2 ⟨by omega, limbs_nil⟩⟩, ?_, by simp; omega⟩, by show _ - (pos + 1) < _ - pos; omega, ?_⟩
        · rw [val_append, hyl, show Lmb.val [carry] = carry by simp [Lmb.val], hv9, hvs]
          omega
        · have es := rd_snoc (os := ys) (x := carry) (n := xs.length) hyl rfl
          simp only [List.length_append, List.length_cons, List.length_nil, hyl]
          simp -implicitDefEqProofs only [evr, id, reduceCtorEq, reduceIte, Nat.reduceMul, Nat.reduceAdd, Nat.reduceLT, Nat.reduceLeDiff, Nat.reduceEqDiff, Int.reduceLT, Int.reduceBEq, Int.reduceBNe, Nat.reduceBEq, evl, evn]
          repeat' (first | exact es | rfl | (refine And.intro ?_ ?_))
      · have h9 := of_decide_eq_false h9
        have hcz : carry = 0 := by omega
        subst hcz
        refine Sat.skip ?_
        simp only [thenK, blockK]
        refine ⟨(pos + 1, a, cap, ys), ⟨by omega, hinv.limbs, ?_, by show ys.length ≤ pos + 1; omega⟩, by show _ - (pos + 1) < _ - pos; omega, ?_⟩
        · rw [Int.mul_zero, Int.add_zero] at hv9
          rw [hv9, hvs]
          omega
        · simp only [hyl]
          simp -implicitDefEqProofs only [evr, id, reduceCtorEq, reduceIte, Nat.reduceMul, Nat.reduceAdd, Nat.reduceLT, Nat.reduceLeDiff, Nat.reduceEqDiff, Int.reduceLT, Int.reduceBEq, Int.reduceBNe, Nat.reduceBEq, evl, evn]
          repeat' (first | rfl | (refine And.intro ?_ ?_))
  · have hp : pos = l.length := by rw [mkB_size] at h; omega
    subst hp
    rw [List.take_length] at hval
    have hval2 : (val xs).toNat = valD l := by omega
    have hint : Ints (.sl a xs.length cap 1 (fun p _ => .i .i64 (xs.getD p 0))) xs := ⟨a, cap, 1, _, rfl, .inr rfl, fun _ _ => rfl⟩
    have htr2 : (trim xs).length ≤ 256 := ((dig_trim hlim).len_le 256).2 (by rw [hval2]; exact hv)
    have rC := resultC FrA hint hlim htr2
    rw [hval2] at rC
    simp -implicitDefEqProofs only [evr, id, reduceCtorEq, reduceIte, Nat.reduceMul, Nat.reduceAdd, Nat.reduceLT, Nat.reduceLeDiff, Nat.reduceEqDiff, Int.reduceLT, Int.reduceBEq, Int.reduceBNe, Nat.reduceBEq, evn]
    refine hk _ ?_
    clear hk k
    simp only [thenK]
    (repeat refine Sat.seq ?_)
    refine Sat.cond_b rfl (fun h9 => absurd h9 (by decide)) (fun _ => ?_)
    refine Sat.exit ?_
    simp only [thenK, blockK, reduceIte]
    (repeat refine Sat.seq ?_)
    (refine Sat.region_k fun k hk => ?_; simp -implicitDefEqProofs only [evr, id, reduceCtorEq, reduceIte, Nat.reduceMul, Nat.reduceAdd, Nat.reduceLT, Nat.reduceLeDiff, Nat.reduceEqDiff, Int.reduceLT, Int.reduceBEq, Int.reduceBNe, Nat.reduceBEq, evn])
    refine wcall_slice rC rfl (by simp -implicitDefEqProofs only [evr, id, reduceCtorEq, reduceIte, Nat.reduceMul, Nat.reduceAdd, Nat.reduceLT, Nat.reduceLeDiff, Nat.reduceEqDiff, Int.reduceLT, Int.reduceBEq, Int.reduceBNe, Nat.reduceBEq, evn]; try rfl) ?_
    rintro r ⟨s9, rfl, hs9⟩
    have hs8 := hs9
    obtain ⟨a3, c3, z3, r3, x3, rfl, _⟩ := hs9
    simp -implicitDefEqProofs only [evr, id, reduceCtorEq, reduceIte, Nat.reduceMul, Nat.reduceAdd, Nat.reduceLT, Nat.reduceLeDiff, Nat.reduceEqDiff, Int.reduceLT, Int.reduceBEq, Int.reduceBNe, Nat.reduceBEq, evn]
    (refine hk _ ?_; clear hk k; try show Sat _ _ _ _ _)
    refine Sat.ret ?_
    simp only [Tryz.results43, evr, id, reduceCtorEq, reduceIte, Nat.reduceMul, Nat.reduceAdd, Nat.reduceLT, Nat.reduceLeDiff, Nat.reduceEqDiff, Int.reduceLT, Int.reduceBEq, Int.reduceBNe, Nat.reduceBEq, List.append_nil, Int.toNat_zero, Nat.sub_self]
    exact ⟨_, rfl, hs8⟩
set_option maxRecDepth 100000 in
theorem parseZeroC (l : List UInt8) (hne : l ≠ []) (hd : ∀ c ∈ l, isDig c) (hl : l.length ≤ 2400) : Contract FrA Tryz.prog 43 [sB (48 :: l)] (fun r => ∃ s, r = tupL [s, .i .i64 2] ∧ ∃ a c z rd, s = .sl a 0 c z rd) := by
  have hlen : 0 < l.length := List.length_pos_iff.2 hne
  have htr : Lib.trimS (48 :: l) digSet = [] := trim_all fun c hc => dig_in (by
    rcases List.mem_cons.1 hc with rfl | hc
    · exact ⟨by decide, by decide⟩
    · exact hd c hc)
  have tC := trimC FrA (48 :: l) (by simp; omega)
  rw [htr] at tC
  refine contract_of Tryz.func43 rfl (by kernel_rfl) ?_
  simp only [Tryz.ntmps43, argEnv]
  (repeat refine Sat.seq ?_)
  (refine Sat.region_k fun k hk => ?_; simp -implicitDefEqProofs only [evr, id, reduceCtorEq, reduceIte, Nat.reduceMul, Nat.reduceAdd, Nat.reduceLT, Nat.reduceLeDiff, Nat.reduceEqDiff, Int.reduceLT, Int.reduceBEq, Int.reduceBNe, Nat.reduceBEq, evn]; refine hk _ ?_; clear hk k; try show Sat _ _ _ _ _)
  (repeat refine Sat.seq ?_)
  have q1 : (48 :: l == []) = false := by rw [beq_eq_false_iff_ne]; simp
  have q2 : (([] : List UInt8) != []) = false := by decide
  refine Sat.region_at ⟨68, [(27, .b true), (0, sB (48 :: l)), (2, .sl none 0 0 0 fun _ _ => .v undef), (3, .i .i64 0)], []⟩ (fun k hk => ?_) ?_
  · simp -implicitDefEqProofs only [evr, id, reduceCtorEq, reduceIte, Nat.reduceMul, Nat.reduceAdd, Nat.reduceLT, Nat.reduceLeDiff, Nat.reduceEqDiff, Int.reduceLT, Int.reduceBEq, Int.reduceBNe, Nat.reduceBEq, mkB_toList, emp_toList, q1, evn]
    refine wcall_plain tC rfl (by rintro _ rfl; exact ok_plain rfl) ?_
    rintro rr rfl
    simp -implicitDefEqProofs only [evr, id, reduceCtorEq, reduceIte, Nat.reduceMul, Nat.reduceAdd, Nat.reduceLT, Nat.reduceLeDiff, Nat.reduceEqDiff, Int.reduceLT, Int.reduceBEq, Int.reduceBNe, Nat.reduceBEq, mkB_toList, emp_toList, q2, evn]
    rw [byte_at (48 :: l) 0 48 rfl]
    refine ⟨⟨by omega, by rw [mkB_size]; simp⟩, fun h9 => ?_, fun h9 => absurd h9 (by decide)⟩
    have e9 : decide (1 < ((mkB (48 :: l)).size : Int)) = true := decide_eq_true (by rw [mkB_size]; simp; omega)
    refine hk _ ?_
    simp only [e9]
    simp -implicitDefEqProofs only [evr, id, reduceCtorEq, reduceIte, Nat.reduceMul, Nat.reduceAdd, Nat.reduceLT, Nat.reduceLeDiff, Nat.reduceEqDiff, Int.reduceLT, Int.reduceBEq, Int.reduceBNe, Nat.reduceBEq, evl, evn]
    repeat' (first | rfl | (refine And.intro ?_ ?_))
  refine Sat.cond_b rfl (fun _ => ?_) (fun h => absurd h (by decide))
  (repeat refine Sat.seq ?_)
  (refine Sat.region_k fun k hk => ?_; simp -implicitDefEqProofs only [evr, id, reduceCtorEq, reduceIte, Nat.reduceMul, Nat.reduceAdd, Nat.reduceLT, Nat.reduceLeDiff, Nat.reduceEqDiff, Int.reduceLT, Int.reduceBEq, Int.reduceBNe, Nat.reduceBEq, evn]; refine hk _ ?_; clear hk k; try show Sat _ _ _ _ _)
  refine Sat.ret ?_
  simp only [Tryz.results43, evr, id, reduceCtorEq, reduceIte, Nat.reduceMul, Nat.reduceAdd, Nat.reduceLT, Nat.reduceLeDiff, Nat.reduceEqDiff, Int.reduceLT, Int.reduceBEq, Int.reduceBNe, Nat.reduceBEq, List.append_nil, Int.toNat_zero, Nat.sub_self]
  exact ⟨_, rfl, _, _, _, _, rfl⟩
end Tq
end Go.Proofs.YtgdbcpljdibliaaGreatDoor
