/- AddressSpecial: the kinds of addresses, and the other ends of subnets: the code's answers are the reference's, and the other end of the other end is the address itself. For every input. -/
import Derived.Test.YtceacooambpkdaaDoorMteM
import Derived.Test.YtceacooambpkdaaDoorParE
import Derived.Test.YtceacooambpkdaaDoorShAddressSpecial
set_option linter.unusedSimpArgs false
set_option linter.unusedVariables false
namespace Go.Proofs.YtceacooambpkdaaDoor
open Go.Sort Eng

theorem slB_bytesS (a : Option Addr) (cap : Nat) (z : List Int) (hz : ∀ n ∈ z, (Lit.int .u8 n).wf = true) : isBytes (slB a cap z) :=
  ⟨a, z.length, cap, _, rfl, fun i hi => ⟨z.getD i 0, by have := bounds_u8 (hz _ (getD_mem (d := 0) hi)); omega, by have := bounds_u8 (hz _ (getD_mem (d := 0) hi)); omega, rfl⟩⟩
abbrev FrC (cb : Nat) : Frm := Frm.codesT cb (0 + 1) BlkT blk_low
def adRd (ls : List Nat) (i j : Nat) : SV := .i .u32 (ls.getD i 0 : Nat)
def inRd (ns : List Int) (i j : Nat) : SV := .i .i64 (ns.getD i 0)
theorem byte_choice : ∀ y : Nat, y < 11 → ∃ l : Int, rdL [SV.i .i64 0, SV.i .i64 10, SV.i .i64 127, SV.i .i64 169, SV.i .i64 172, SV.i .i64 192, SV.i .i64 223, SV.i .i64 224, SV.i .i64 239, SV.i .i64 240, SV.i .i64 255] 1 y 0 = .i .i64 l := by
  intro y hy
  rcases (show y = 0 ∨ y = 1 ∨ y = 2 ∨ y = 3 ∨ y = 4 ∨ y = 5 ∨ y = 6 ∨ y = 7 ∨ y = 8 ∨ y = 9 ∨ y = 10 by omega) with rfl | rfl | rfl | rfl | rfl | rfl | rfl | rfl | rfl | rfl | rfl <;> exact ⟨_, rfl⟩
set_option maxHeartbeats 4000000 in
set_option maxRecDepth 100000 in
theorem specialLawC (ad : Option Addr) (cap : Nat) (z : List Int) (hb : isBytes (slB ad cap z)) (a : Nat) (ha : a < 2 ^ 32) (n : Int) :
    Contract FrT Tryd.prog 7 [.i .u32 a, .i .i64 n, slB ad cap z] (fun r => r = .b true) := by
  refine contract_of Tryd.func7 rfl (by kernel_rfl) ?_
  simp only [Tryd.ntmps7, argEnv]
  (repeat refine Sat.seq ?_)
  (refine Sat.region_k fun k hk => ?_; simp -implicitDefEqProofs only [evr, id, reduceCtorEq, reduceIte, Nat.reduceMul, Nat.reduceAdd, Nat.reduceLT, Nat.reduceLeDiff, Nat.reduceEqDiff, Int.reduceLT, Int.reduceBEq, Int.reduceBNe, Nat.reduceBEq, List.append_nil, Int.toNat_zero, Nat.sub_self, Int.reduceNeg, ptr, Nat.reduceMod]; refine hk _ ?_; clear hk k; try show Sat _ _ _ _ _)
  (repeat refine Sat.seq ?_)
  (refine Sat.region_k fun k hk => ?_; simp -implicitDefEqProofs only [evr, id, reduceCtorEq, reduceIte, Nat.reduceMul, Nat.reduceAdd, Nat.reduceLT, Nat.reduceLeDiff, Nat.reduceEqDiff, Int.reduceLT, Int.reduceBEq, Int.reduceBNe, Nat.reduceBEq, List.append_nil, Int.toNat_zero, Nat.sub_self, Int.reduceNeg, ptr, Nat.reduceMod])
  refine wcall_plain (awakeC FrT) rfl (by rintro _ rfl; exact ok_plain rfl) ?_
  rintro r rfl
  simp -implicitDefEqProofs only [evr, id, reduceCtorEq, reduceIte, Nat.reduceMul, Nat.reduceAdd, Nat.reduceLT, Nat.reduceLeDiff, Nat.reduceEqDiff, Int.reduceLT, Int.reduceBEq, Int.reduceBNe, Nat.reduceBEq, List.append_nil, Int.toNat_zero, Nat.sub_self, Int.reduceNeg, ptr, Nat.reduceMod]
  (refine hk _ ?_; clear hk k; try show Sat _ _ _ _ _)
  (repeat refine Sat.seq ?_)
  refine Sat.cond_b rfl (fun h => absurd h (by decide)) (fun _ => ?_)
  refine Sat.skip ?_
  simp only [thenK]
  (repeat refine Sat.seq ?_)
  (refine Sat.region_k fun k hk => ?_; simp -implicitDefEqProofs only [evr, id, reduceCtorEq, reduceIte, Nat.reduceMul, Nat.reduceAdd, Nat.reduceLT, Nat.reduceLeDiff, Nat.reduceEqDiff, Int.reduceLT, Int.reduceBEq, Int.reduceBNe, Nat.reduceBEq, List.append_nil, Int.toNat_zero, Nat.sub_self, Int.reduceNeg, ptr, Nat.reduceMod])
  refine wcall_make (newRC (slB ad cap z) hb 40 (by decide)) ?_
  intro cb
  simp -implicitDefEqProofs only [evr, id, reduceCtorEq, reduceIte, Nat.reduceMul, Nat.reduceAdd, Nat.reduceLT, Nat.reduceLeDiff, Nat.reduceEqDiff, Int.reduceLT, Int.reduceBEq, Int.reduceBNe, Nat.reduceBEq, List.append_nil, Int.toNat_zero, Nat.sub_self, Int.reduceNeg, ptr, Nat.reduceMod]
  (refine hk _ ?_; clear hk k; try show Sat _ _ _ _ _)
  refine Sat.switchT (cb := cb) (id := 0) rfl ?_
  (repeat refine Sat.seq ?_)
  refine Sat.join2 (ι := List Nat × Nat) (fun y => ⟨125, [(8, .os 1 (some ⟨y.2, 0, none⟩) 4 4), (1, .i .i64 n)], [.gone, .row (some ⟨y.2, 0, none⟩) 23 4 4 1 (adRd y.1)]⟩) (fun y => ∀ i, i < 4 → y.1.getD i 0 < 2 ^ 32) (fun hrest => ?_) ?_
  · (refine Sat.region_k fun k hk => ?_; simp -implicitDefEqProofs only [evr, id, reduceCtorEq, reduceIte, Nat.reduceMul, Nat.reduceAdd, Nat.reduceLT, Nat.reduceLeDiff, Nat.reduceEqDiff, Int.reduceLT, Int.reduceBEq, Int.reduceBNe, Nat.reduceBEq, List.append_nil, Int.toNat_zero, Nat.sub_self, Int.reduceNeg, ptr, Nat.reduceMod])
    refine wcall_plain ((addressC cb).codesT) rfl (by rintro _ ⟨x, rfl, _⟩; exact ok_plain rfl) ?_
    rintro r ⟨a1, rfl, ha1⟩
    simp -implicitDefEqProofs only [evr, id, reduceCtorEq, reduceIte, Nat.reduceMul, Nat.reduceAdd, Nat.reduceLT, Nat.reduceLeDiff, Nat.reduceEqDiff, Int.reduceLT, Int.reduceBEq, Int.reduceBNe, Nat.reduceBEq, List.append_nil, Int.toNat_zero, Nat.sub_self, Int.reduceNeg, ptr, Nat.reduceMod]
    refine wcall_plain ((nextC cb 256 (by decide) (by decide)).codesT) rfl (by rintro _ ⟨x, rfl, _⟩; exact ok_plain rfl) ?_
    rintro r ⟨x1, rfl, hx1, _⟩
    simp -implicitDefEqProofs only [evr, id, reduceCtorEq, reduceIte, Nat.reduceMul, Nat.reduceAdd, Nat.reduceLT, Nat.reduceLeDiff, Nat.reduceEqDiff, Int.reduceLT, Int.reduceBEq, Int.reduceBNe, Nat.reduceBEq, List.append_nil, Int.toNat_zero, Nat.sub_self, Int.reduceNeg, ptr, Nat.reduceMod]
    refine ⟨by decide, ?_⟩
    refine wcall_plain ((nextC cb 256 (by decide) (by decide)).codesT) rfl (by rintro _ ⟨x, rfl, _⟩; exact ok_plain rfl) ?_
    rintro r ⟨x2, rfl, hx2, _⟩
    simp -implicitDefEqProofs only [evr, id, reduceCtorEq, reduceIte, Nat.reduceMul, Nat.reduceAdd, Nat.reduceLT, Nat.reduceLeDiff, Nat.reduceEqDiff, Int.reduceLT, Int.reduceBEq, Int.reduceBNe, Nat.reduceBEq, List.append_nil, Int.toNat_zero, Nat.sub_self, Int.reduceNeg, ptr, Nat.reduceMod]
    refine ⟨by decide, ?_⟩
    intro blk1
    refine wcall_plain ((nextC cb 11 (by decide) (by decide)).codesT) rfl (by rintro _ ⟨x, rfl, _⟩; exact ok_plain rfl) ?_
    rintro r ⟨x3, rfl, hx3, hx4⟩
    obtain ⟨y, rfl⟩ := Int.eq_ofNat_of_zero_le hx3
    have hy : y < 11 := by omega
    obtain ⟨l, hl⟩ := byte_choice y hy
    simp -implicitDefEqProofs only [evr, id, reduceCtorEq, reduceIte, Nat.reduceMul, Nat.reduceAdd, Nat.reduceLT, Nat.reduceLeDiff, Nat.reduceEqDiff, Int.reduceLT, Int.reduceBEq, Int.reduceBNe, Nat.reduceBEq, List.append_nil, Int.toNat_zero, Nat.sub_self, Int.reduceNeg, ptr, Nat.reduceMod, hl]
    refine ⟨by omega, hy, by decide, by decide, ?_⟩
    intro blk
    obtain ⟨A2, hA2, hA2'⟩ := u32_some (IntKind.i64.wrap (IntKind.i64.wrap (x1 * 2 ^ min (Int.toNat 24) IntKind.i64.bits) + IntKind.i64.wrap (x2 * 2 ^ min (Int.toNat 16) IntKind.i64.bits)))
    obtain ⟨A3, hA3, hA3'⟩ := u32_some (IntKind.u32.wrap (IntKind.i64.wrap (l * 2 ^ min (Int.toNat 24) IntKind.i64.bits)) + (a : Int).tmod 16777216)
    simp only [hA2, hA3]
    refine hk _ ?_
    clear hk
    simp only [thenK]
    refine Sat.le (hrest ([a, a1, A2, A3], blk) ?_) ?_
    · intro i hi
      rcases (show i = 0 ∨ i = 1 ∨ i = 2 ∨ i = 3 by omega) with rfl | rfl | rfl | rfl
      · exact ha
      · exact ha1
      · exact hA2'
      · exact hA3'
    · simp -implicitDefEqProofs only [evr, id, reduceCtorEq, reduceIte, Nat.reduceMul, Nat.reduceAdd, Nat.reduceLT, Nat.reduceLeDiff, Nat.reduceEqDiff, Int.reduceLT, Int.reduceBEq, Int.reduceBNe, Nat.reduceBEq, List.append_nil, Int.toNat_zero, Nat.sub_self, Int.reduceNeg, ptr, Nat.reduceMod, evl]
      intro i j hi hj
      obtain rfl : j = 0 := by omega
      rcases (show i = 0 ∨ i = 1 ∨ i = 2 ∨ i = 3 by omega) with rfl | rfl | rfl | rfl <;> rfl
  rintro ⟨ls, blk⟩ hls
  simp only [] at hls ⊢
  refine Sat.settle2 8 rfl rfl ?_
  (repeat refine Sat.seq ?_)
  (refine Sat.region_k fun k hk => ?_; simp -implicitDefEqProofs only [evr, id, reduceCtorEq, reduceIte, Nat.reduceMul, Nat.reduceAdd, Nat.reduceLT, Nat.reduceLeDiff, Nat.reduceEqDiff, Int.reduceLT, Int.reduceBEq, Int.reduceBNe, Nat.reduceBEq, List.append_nil, Int.toNat_zero, Nat.sub_self, Int.reduceNeg, ptr, Nat.reduceMod]; refine hk _ ?_; clear hk k; try show Sat _ _ _ _ _)
  (repeat refine Sat.seq ?_)
  refine Sat.block ?_
  refine Sat.loop (ι := Nat) (fun i => ⟨125, [(9, .i .i64 i), (8, .sl (some ⟨blk, 0, none⟩) 4 4 1 (adRd ls)), (1, .i .i64 n)], []⟩)
    (fun i => i ≤ 4) (fun i => 4 - i) 0 (by decide) (by simp -implicitDefEqProofs only [evr, id, reduceCtorEq, reduceIte, Nat.reduceMul, Nat.reduceAdd, Nat.reduceLT, Nat.reduceLeDiff, Nat.reduceEqDiff, Int.reduceLT, Int.reduceBEq, Int.reduceBNe, Nat.reduceBEq, List.append_nil, Int.toNat_zero, Nat.sub_self, Int.reduceNeg, ptr, Nat.reduceMod, evl]; try rfl) ?_
  intro i hi
  (repeat refine Sat.seq ?_)
  (refine Sat.region_k fun k hk => ?_; simp -implicitDefEqProofs only [evr, id, reduceCtorEq, reduceIte, Nat.reduceMul, Nat.reduceAdd, Nat.reduceLT, Nat.reduceLeDiff, Nat.reduceEqDiff, Int.reduceLT, Int.reduceBEq, Int.reduceBNe, Nat.reduceBEq, List.append_nil, Int.toNat_zero, Nat.sub_self, Int.reduceNeg, ptr, Nat.reduceMod]; refine hk _ ?_; clear hk k; try show Sat _ _ _ _ _)
  (repeat refine Sat.seq ?_)
  refine Sat.cond_b rfl (fun h => ?_) (fun h => ?_)
  · have hi4 : i < 4 := by simp only [decide_eq_true_eq] at h; omega
    have hA := hls i hi4
    have hrd : adRd ls i 0 = .i .u32 (ls.getD i 0 : Nat) := rfl
    generalize ls.getD i 0 = A at hA hrd
    have e1 : IntKind.i64.wrap ((i : Int) + 1) = ((i + 1 : Nat) : Int) := by rw [w64 (by omega)]; omega
    refine Sat.skip ?_
    simp only [thenK]
    (repeat refine Sat.seq ?_)
    refine Sat.block ?_
    (repeat refine Sat.seq ?_)
    (refine Sat.region_k fun k hk => ?_; simp -implicitDefEqProofs only [evr, id, reduceCtorEq, reduceIte, Nat.reduceMul, Nat.reduceAdd, Nat.reduceLT, Nat.reduceLeDiff, Nat.reduceEqDiff, Int.reduceLT, Int.reduceBEq, Int.reduceBNe, Nat.reduceBEq, List.append_nil, Int.toNat_zero, Nat.sub_self, Int.reduceNeg, ptr, Nat.reduceMod])
    intro blk5
    refine hk _ ?_
    clear hk
    simp only [thenK]
    refine Sat.le (st' := ⟨125, [(51, .os 0 (some ⟨blk5, 0, none⟩) 5 5), (52, .i .i64 5), (53, .i .i64 0), (9, .i .i64 i), (8, .sl (some ⟨blk, 0, none⟩) 4 4 1 (adRd ls)), (1, .i .i64 n)], [.row (some ⟨blk5, 0, none⟩) 3 5 5 1 (inRd [n, 30, 31, 29, 32])]⟩) ?_ ?_
    rotate_left
    · simp -implicitDefEqProofs only [evr, id, reduceCtorEq, reduceIte, Nat.reduceMul, Nat.reduceAdd, Nat.reduceLT, Nat.reduceLeDiff, Nat.reduceEqDiff, Int.reduceLT, Int.reduceBEq, Int.reduceBNe, Nat.reduceBEq, List.append_nil, Int.toNat_zero, Nat.sub_self, Int.reduceNeg, ptr, Nat.reduceMod, evl]
      refine ⟨rfl, ?_⟩
      intro p q hp hq
      obtain rfl : q = 0 := by omega
      rcases (show p = 0 ∨ p = 1 ∨ p = 2 ∨ p = 3 ∨ p = 4 by omega) with rfl | rfl | rfl | rfl | rfl <;> rfl
    refine Sat.settle2 51 rfl rfl ?_
    generalize [n, 30, 31, 29, 32] = ns
    (repeat refine Sat.seq ?_)
    refine Sat.block ?_
    refine Sat.loop (ι := Nat) (fun k => ⟨125, [(53, .i .i64 k), (52, .i .i64 5), (51, .sl (some ⟨blk5, 0, none⟩) 5 5 1 (inRd ns)), (9, .i .i64 i), (8, .sl (some ⟨blk, 0, none⟩) 4 4 1 (adRd ls)), (1, .i .i64 n)], []⟩)
      (fun k => k ≤ 5) (fun k => 5 - k) 0 (by decide) (by simp -implicitDefEqProofs only [evr, id, reduceCtorEq, reduceIte, Nat.reduceMul, Nat.reduceAdd, Nat.reduceLT, Nat.reduceLeDiff, Nat.reduceEqDiff, Int.reduceLT, Int.reduceBEq, Int.reduceBNe, Nat.reduceBEq, List.append_nil, Int.toNat_zero, Nat.sub_self, Int.reduceNeg, ptr, Nat.reduceMod, evl]; try rfl) ?_
    intro k hk5
    (repeat refine Sat.seq ?_)
    (refine Sat.region_k fun k hk => ?_; simp -implicitDefEqProofs only [evr, id, reduceCtorEq, reduceIte, Nat.reduceMul, Nat.reduceAdd, Nat.reduceLT, Nat.reduceLeDiff, Nat.reduceEqDiff, Int.reduceLT, Int.reduceBEq, Int.reduceBNe, Nat.reduceBEq, List.append_nil, Int.toNat_zero, Nat.sub_self, Int.reduceNeg, ptr, Nat.reduceMod]; refine hk _ ?_; clear hk k; try show Sat _ _ _ _ _)
    (repeat refine Sat.seq ?_)
    refine Sat.cond_b rfl (fun h => ?_) (fun h => ?_)
    · have hk6 : k < 5 := by simp only [decide_eq_true_eq] at h; omega
      have e2 : IntKind.i64.wrap ((k : Int) + 1) = ((k + 1 : Nat) : Int) := by rw [w64 (by omega)]; omega
      have hin : inRd ns k 0 = .i .i64 (ns.getD k 0) := rfl
      generalize ns.getD k 0 = m at hin
      refine Sat.skip ?_
      simp only [thenK]
      (repeat refine Sat.seq ?_)
      refine Sat.block ?_
      (repeat refine Sat.seq ?_)
      refine Sat.region_k fun kk hkk => ?_
      simp -implicitDefEqProofs only [evr, id, reduceCtorEq, reduceIte, Nat.reduceMul, Nat.reduceAdd, Nat.reduceLT, Nat.reduceLeDiff, Nat.reduceEqDiff, Int.reduceLT, Int.reduceBEq, Int.reduceBNe, Nat.reduceBEq, List.append_nil, Int.toNat_zero, Nat.sub_self, Int.reduceNeg, ptr, Nat.reduceMod, hin]
      refine ⟨by omega, ?_⟩
      refine hkk _ ?_
      clear hkk kk
      try show Sat _ _ _ _ _
      have cM := mateC (FrC cb) A hA m
      have cR := rfMateC (FrC cb) A hA m
      have hX := mateP_lt hA m
      have hback := fun h => mate_back (a := A) hA (n := m) h
      have cM2 := mateC (FrC cb) _ hX m
      rw [mateN_eq] at cM cR cM2
      have hcom := commonC (FrC cb) A _ hA hX
      have hmP : ∃ Y er, mateP (mateP A m).1 m = (Y, er) := ⟨_, _, rfl⟩
      obtain ⟨Y, er2, hYe⟩ := hmP
      rw [hYe] at cM2 hback
      generalize hXe : mateP A m = Q at *
      obtain ⟨X, er⟩ := Q
      simp only at cM cR cM2 hX hback hcom
      (repeat refine Sat.seq ?_)
      refine Sat.region_k fun kk hkk => ?_
      simp -implicitDefEqProofs only [evr, id, reduceCtorEq, reduceIte, Nat.reduceMul, Nat.reduceAdd, Nat.reduceLT, Nat.reduceLeDiff, Nat.reduceEqDiff, Int.reduceLT, Int.reduceBEq, Int.reduceBNe, Nat.reduceBEq, List.append_nil, Int.toNat_zero, Nat.sub_self, Int.reduceNeg, ptr, Nat.reduceMod, hrd]
      refine ⟨by omega, ?_⟩
      refine wcall_slice cM rfl (by simp -implicitDefEqProofs only [evr, id, reduceCtorEq, reduceIte, Nat.reduceMul, Nat.reduceAdd, Nat.reduceLT, Nat.reduceLeDiff, Nat.reduceEqDiff, Int.reduceLT, Int.reduceBEq, Int.reduceBNe, Nat.reduceBEq, List.append_nil, Int.toNat_zero, Nat.sub_self, Int.reduceNeg, ptr, Nat.reduceMod]; try rfl) ?_
      rintro r rfl
      simp -implicitDefEqProofs only [evr, id, reduceCtorEq, reduceIte, Nat.reduceMul, Nat.reduceAdd, Nat.reduceLT, Nat.reduceLeDiff, Nat.reduceEqDiff, Int.reduceLT, Int.reduceBEq, Int.reduceBNe, Nat.reduceBEq, List.append_nil, Int.toNat_zero, Nat.sub_self, Int.reduceNeg, ptr, Nat.reduceMod]
      refine hkk _ ?_
      clear hkk kk
      try show Sat _ _ _ _ _
      (repeat refine Sat.seq ?_)
      refine Sat.region_k fun kk hkk => ?_
      simp -implicitDefEqProofs only [evr, id, reduceCtorEq, reduceIte, Nat.reduceMul, Nat.reduceAdd, Nat.reduceLT, Nat.reduceLeDiff, Nat.reduceEqDiff, Int.reduceLT, Int.reduceBEq, Int.reduceBNe, Nat.reduceBEq, List.append_nil, Int.toNat_zero, Nat.sub_self, Int.reduceNeg, ptr, Nat.reduceMod, hrd]
      refine ⟨by omega, ?_⟩
      refine wcall_slice cR rfl (by simp -implicitDefEqProofs only [evr, id, reduceCtorEq, reduceIte, Nat.reduceMul, Nat.reduceAdd, Nat.reduceLT, Nat.reduceLeDiff, Nat.reduceEqDiff, Int.reduceLT, Int.reduceBEq, Int.reduceBNe, Nat.reduceBEq, List.append_nil, Int.toNat_zero, Nat.sub_self, Int.reduceNeg, ptr, Nat.reduceMod]; try rfl) ?_
      rintro r rfl
      simp -implicitDefEqProofs only [evr, id, reduceCtorEq, reduceIte, Nat.reduceMul, Nat.reduceAdd, Nat.reduceLT, Nat.reduceLeDiff, Nat.reduceEqDiff, Int.reduceLT, Int.reduceBEq, Int.reduceBNe, Nat.reduceBEq, List.append_nil, Int.toNat_zero, Nat.sub_self, Int.reduceNeg, ptr, Nat.reduceMod]
      refine hkk _ ?_
      clear hkk kk
      try show Sat _ _ _ _ _
      (repeat refine Sat.seq ?_)
      refine Sat.region_k fun kk hkk => ?_
      simp -implicitDefEqProofs only [evr, id, reduceCtorEq, reduceIte, Nat.reduceMul, Nat.reduceAdd, Nat.reduceLT, Nat.reduceLeDiff, Nat.reduceEqDiff, Int.reduceLT, Int.reduceBEq, Int.reduceBNe, Nat.reduceBEq, List.append_nil, Int.toNat_zero, Nat.sub_self, Int.reduceNeg, ptr, Nat.reduceMod, bne_self_eq_false]
      refine hkk _ ?_
      clear hkk kk
      try show Sat _ _ _ _ _
      (repeat refine Sat.seq ?_)
      refine Sat.cond_b rfl (fun h => by cases h) (fun _ => ?_)
      refine Sat.skip ?_
      simp only [thenK]
      (repeat refine Sat.seq ?_)
      refine Sat.region_k fun kk hkk => ?_
      simp -implicitDefEqProofs only [evr, id, reduceCtorEq, reduceIte, Nat.reduceMul, Nat.reduceAdd, Nat.reduceLT, Nat.reduceLeDiff, Nat.reduceEqDiff, Int.reduceLT, Int.reduceBEq, Int.reduceBNe, Nat.reduceBEq, List.append_nil, Int.toNat_zero, Nat.sub_self, Int.reduceNeg, ptr, Nat.reduceMod]
      refine wcall_slice cM2 rfl (by simp -implicitDefEqProofs only [evr, id, reduceCtorEq, reduceIte, Nat.reduceMul, Nat.reduceAdd, Nat.reduceLT, Nat.reduceLeDiff, Nat.reduceEqDiff, Int.reduceLT, Int.reduceBEq, Int.reduceBNe, Nat.reduceBEq, List.append_nil, Int.toNat_zero, Nat.sub_self, Int.reduceNeg, ptr, Nat.reduceMod]; try rfl) ?_
      rintro r rfl
      simp -implicitDefEqProofs only [evr, id, reduceCtorEq, reduceIte, Nat.reduceMul, Nat.reduceAdd, Nat.reduceLT, Nat.reduceLeDiff, Nat.reduceEqDiff, Int.reduceLT, Int.reduceBEq, Int.reduceBNe, Nat.reduceBEq, List.append_nil, Int.toNat_zero, Nat.sub_self, Int.reduceNeg, ptr, Nat.reduceMod]
      refine hkk _ ?_
      clear hkk kk
      try show Sat _ _ _ _ _
      (repeat refine Sat.seq ?_)
      refine Sat.region_at ⟨125, [(112, .b false), (53, .i .i64 k), (52, .i .i64 5), (51, .sl (some ⟨blk5, 0, none⟩) 5 5 1 (inRd ns)), (9, .i .i64 i), (8, .sl (some ⟨blk, 0, none⟩) 4 4 1 (adRd ls)), (1, .i .i64 n)], []⟩ (fun kk hkk => ?_) ?_
      · by_cases h0 : er = 0
        · obtain ⟨hb1, hb2⟩ := hback h0
          cases hb1
          subst h0
          simp -implicitDefEqProofs only [evr, id, reduceCtorEq, reduceIte, Nat.reduceMul, Nat.reduceAdd, Nat.reduceLT, Nat.reduceLeDiff, Nat.reduceEqDiff, Int.reduceLT, Int.reduceBEq, Int.reduceBNe, Nat.reduceBEq, List.append_nil, Int.toNat_zero, Nat.sub_self, Int.reduceNeg, ptr, Nat.reduceMod, beq_self_eq_true, bne_self_eq_false, hrd]
          have e30 : decide ((comP A X).len < 30) = false := decide_eq_false (by omega)
          refine ⟨by omega, by omega, ?_⟩
          refine wcall_slice hcom rfl (by simp -implicitDefEqProofs only [evr, id, reduceCtorEq, reduceIte, Nat.reduceMul, Nat.reduceAdd, Nat.reduceLT, Nat.reduceLeDiff, Nat.reduceEqDiff, Int.reduceLT, Int.reduceBEq, Int.reduceBNe, Nat.reduceBEq, List.append_nil, Int.toNat_zero, Nat.sub_self, Int.reduceNeg, ptr, Nat.reduceMod]; try rfl) ?_
          rintro r rfl
          simp only [prS, prC, evr, id, reduceCtorEq, reduceIte, Nat.reduceMul, Nat.reduceAdd, Nat.reduceLT, Nat.reduceLeDiff, Nat.reduceEqDiff, Int.reduceLT, Int.reduceBEq, Int.reduceBNe, Nat.reduceBEq, List.append_nil, Int.toNat_zero, Nat.sub_self, Int.reduceNeg, ptr, Nat.reduceMod, e30]
          refine hkk _ ?_
          simp -implicitDefEqProofs only [evr, id, reduceCtorEq, reduceIte, Nat.reduceMul, Nat.reduceAdd, Nat.reduceLT, Nat.reduceLeDiff, Nat.reduceEqDiff, Int.reduceLT, Int.reduceBEq, Int.reduceBNe, Nat.reduceBEq, List.append_nil, Int.toNat_zero, Nat.sub_self, Int.reduceNeg, ptr, Nat.reduceMod, evl]
        · have hf : (er == 0) = false := beq_eq_false_iff_ne.2 h0
          simp -implicitDefEqProofs only [evr, id, reduceCtorEq, reduceIte, Nat.reduceMul, Nat.reduceAdd, Nat.reduceLT, Nat.reduceLeDiff, Nat.reduceEqDiff, Int.reduceLT, Int.reduceBEq, Int.reduceBNe, Nat.reduceBEq, List.append_nil, Int.toNat_zero, Nat.sub_self, Int.reduceNeg, ptr, Nat.reduceMod, hf]
          refine hkk _ ?_
          simp -implicitDefEqProofs only [evr, id, reduceCtorEq, reduceIte, Nat.reduceMul, Nat.reduceAdd, Nat.reduceLT, Nat.reduceLeDiff, Nat.reduceEqDiff, Int.reduceLT, Int.reduceBEq, Int.reduceBNe, Nat.reduceBEq, List.append_nil, Int.toNat_zero, Nat.sub_self, Int.reduceNeg, ptr, Nat.reduceMod, evl]
      try simp only [thenK]
      refine Sat.cond_b rfl (fun h => by cases h) (fun _ => ?_)
      refine Sat.skip ?_
      simp only [thenK, blockK, reduceIte]
      refine Sat.region_k fun kk hkk => ?_
      simp -implicitDefEqProofs only [evr, id, reduceCtorEq, reduceIte, Nat.reduceMul, Nat.reduceAdd, Nat.reduceLT, Nat.reduceLeDiff, Nat.reduceEqDiff, Int.reduceLT, Int.reduceBEq, Int.reduceBNe, Nat.reduceBEq, List.append_nil, Int.toNat_zero, Nat.sub_self, Int.reduceNeg, ptr, Nat.reduceMod, e2]
      refine hkk _ ?_
      simp only [thenK, blockK]
      refine ⟨k + 1, by omega, by omega, ?_⟩
      simp -implicitDefEqProofs only [evr, id, reduceCtorEq, reduceIte, Nat.reduceMul, Nat.reduceAdd, Nat.reduceLT, Nat.reduceLeDiff, Nat.reduceEqDiff, Int.reduceLT, Int.reduceBEq, Int.reduceBNe, Nat.reduceBEq, List.append_nil, Int.toNat_zero, Nat.sub_self, Int.reduceNeg, ptr, Nat.reduceMod, evl]
    · refine Sat.exit ?_
      simp only [thenK, blockK, reduceIte]
      (repeat refine Sat.seq ?_)
      (refine Sat.region_rows [⟨0, 115, 256, 0⟩, ⟨0, 116, 512, 0⟩, ⟨3, 117, 62307562302417931542365955950641152, 0⟩, ⟨4, 118, 83076749736557242056487941267521536, 1⟩, ⟨8, 119, 166153499473114484112975882535043072, 2⟩, ⟨0, 120, 256, 0⟩, ⟨0, 121, 512, 0⟩, ⟨96, 122, 1993841993677373809355710590420516864, 0⟩, ⟨128, 123, 2658455991569831745807614120560689152, 1⟩, ⟨272, 124, 5316911983139663491615228241121378304, 2⟩, ⟨528, 125, 10966130965225555951456408247312842752, 0⟩] [0, 1, 2, 5, 6, 7, 3, 8] [(4, false), (9, false), (10, false)] [4] (by kernel_rfl) (by kernel_rfl) (fun _ _ h => h) fun k hk => ?_; simp only [List.map_cons, List.map_nil, List.getD_cons_zero, List.getD_cons_succ, btseq_cons, btseq_free, btseq_nil]; simp -implicitDefEqProofs only [evr, id, reduceCtorEq, reduceIte, Nat.reduceMul, Nat.reduceAdd, Nat.reduceLT, Nat.reduceLeDiff, Nat.reduceEqDiff, Int.reduceLT, Int.reduceBEq, Int.reduceBNe, Nat.reduceBEq, List.append_nil, Int.toNat_zero, Nat.sub_self, Int.reduceNeg, ptr, Nat.reduceMod])
      simp only [hrd]
      refine ⟨by omega, by omega, ?_⟩
      refine wcall_slice (specialC A hA).tabT rfl (by simp -implicitDefEqProofs only [evr, id, reduceCtorEq, reduceIte, Nat.reduceMul, Nat.reduceAdd, Nat.reduceLT, Nat.reduceLeDiff, Nat.reduceEqDiff, Int.reduceLT, Int.reduceBEq, Int.reduceBNe, Nat.reduceBEq, List.append_nil, Int.toNat_zero, Nat.sub_self, Int.reduceNeg, ptr, Nat.reduceMod]; try rfl) ?_
      rintro r rfl
      simp -implicitDefEqProofs only [evr, id, reduceCtorEq, reduceIte, Nat.reduceMul, Nat.reduceAdd, Nat.reduceLT, Nat.reduceLeDiff, Nat.reduceEqDiff, Int.reduceLT, Int.reduceBEq, Int.reduceBNe, Nat.reduceBEq, List.append_nil, Int.toNat_zero, Nat.sub_self, Int.reduceNeg, ptr, Nat.reduceMod]
      refine wcall_slice (rfSpecialC (FrC cb) A hA) rfl (by simp -implicitDefEqProofs only [evr, id, reduceCtorEq, reduceIte, Nat.reduceMul, Nat.reduceAdd, Nat.reduceLT, Nat.reduceLeDiff, Nat.reduceEqDiff, Int.reduceLT, Int.reduceBEq, Int.reduceBNe, Nat.reduceBEq, List.append_nil, Int.toNat_zero, Nat.sub_self, Int.reduceNeg, ptr, Nat.reduceMod]; try rfl) ?_
      rintro r rfl
      simp -implicitDefEqProofs only [evr, id, reduceCtorEq, reduceIte, Nat.reduceMul, Nat.reduceAdd, Nat.reduceLT, Nat.reduceLeDiff, Nat.reduceEqDiff, Int.reduceLT, Int.reduceBEq, Int.reduceBNe, Nat.reduceBEq, List.append_nil, Int.toNat_zero, Nat.sub_self, Int.reduceNeg, ptr, Nat.reduceMod, bne_self_eq_false]
      (refine hk _ ?_; clear hk k; try show Sat _ _ _ _ _)
      refine Sat.cond_b rfl (fun h => by cases h) (fun _ => ?_)
      refine Sat.skip ?_
      simp only [thenK, blockK, reduceIte]
      refine Sat.region_k fun kk hkk => ?_
      simp -implicitDefEqProofs only [evr, id, reduceCtorEq, reduceIte, Nat.reduceMul, Nat.reduceAdd, Nat.reduceLT, Nat.reduceLeDiff, Nat.reduceEqDiff, Int.reduceLT, Int.reduceBEq, Int.reduceBNe, Nat.reduceBEq, List.append_nil, Int.toNat_zero, Nat.sub_self, Int.reduceNeg, ptr, Nat.reduceMod, e1]
      refine hkk _ ?_
      simp only [thenK, blockK]
      refine ⟨i + 1, by omega, by omega, ?_⟩
      simp -implicitDefEqProofs only [evr, id, reduceCtorEq, reduceIte, Nat.reduceMul, Nat.reduceAdd, Nat.reduceLT, Nat.reduceLeDiff, Nat.reduceEqDiff, Int.reduceLT, Int.reduceBEq, Int.reduceBNe, Nat.reduceBEq, List.append_nil, Int.toNat_zero, Nat.sub_self, Int.reduceNeg, ptr, Nat.reduceMod, evl]
  · refine Sat.exit ?_
    simp only [thenK, blockK, reduceIte]
    (repeat refine Sat.seq ?_)
    (refine Sat.region_k fun k hk => ?_; simp -implicitDefEqProofs only [evr, id, reduceCtorEq, reduceIte, Nat.reduceMul, Nat.reduceAdd, Nat.reduceLT, Nat.reduceLeDiff, Nat.reduceEqDiff, Int.reduceLT, Int.reduceBEq, Int.reduceBNe, Nat.reduceBEq, List.append_nil, Int.toNat_zero, Nat.sub_self, Int.reduceNeg, ptr, Nat.reduceMod]; refine hk _ ?_; clear hk k; try show Sat _ _ _ _ _)
    refine Sat.ret ?_
    simp only [Tryd.results7, evr, id, reduceCtorEq, reduceIte, Nat.reduceMul, Nat.reduceAdd, Nat.reduceLT, Nat.reduceLeDiff, Nat.reduceEqDiff, Int.reduceLT, Int.reduceBEq, Int.reduceBNe, Nat.reduceBEq, List.append_nil, Int.toNat_zero, Nat.sub_self, Int.reduceNeg, ptr, Nat.reduceMod]
end Go.Proofs.YtceacooambpkdaaDoor
