/- address.Parse at "10.0.0.1", and the sanity check of law01. -/
import Derived.Test.YtceacooambpkdaaDoorNumE
import Derived.Test.YtceacooambpkdaaDoorSpoE
import Derived.Test.YtceacooambpkdaaDoorSetB
import Derived.Test.YtceacooambpkdaaDoorEngL
import Derived.Test.YtceacooambpkdaaDoorMem
import Derived.OpenShut
import Derived.ChangeArms
import Derived.ChangeSame
import Derived.Test.YtceacooambpkdaaDoorRows
import Derived.WalkKit
import Derived.Test.YtceacooambpkdaaDoorCards
import Derived.Test.YtceacooambpkdaaDoorTie
import Derived.SevenTiedAt
import Derived.LaidMore
import Derived.LaidLaws
import Derived.LaidHandle
import Derived.ChangeVars
import Derived.JoinedOf
import Derived.ProofKit
import Derived.ShutString
import Derived.ChangeOld
import Derived.Below
set_option linter.unusedSimpArgs false
set_option linter.unusedVariables false
namespace Go.Proofs.YtceacooambpkdaaDoor
open Go.RowKit Eng

def restB (i : Nat) : ByteArray := [⟨#[49, 48, 46, 48, 46, 48, 46, 49]⟩, ⟨#[48, 46, 48, 46, 49]⟩, ⟨#[48, 46, 49]⟩, ⟨#[49]⟩, ⟨#[]⟩].getD i ⟨#[]⟩
def accN (i : Nat) : Nat := [0, 10, 2560, 655360, 167772161].getD i 0
theorem cutAt (F : Frm) (i : Nat) (hi : i < 4) : Contract F Tryd.prog 47 [.v (.string (restB i)), .v (.string ⟨#[46]⟩)] (fun r => r = tupL [partS i, .v (.string (restB (i + 1))), .b (decide (i < 3))]) := by
  rcases (show i = 0 ∨ i = 1 ∨ i = 2 ∨ i = 3 by omega) with rfl | rfl | rfl | rfl
  · have h := cutC F (restB 0) 2 (by decide +kernel) (by decide) (by decide)
    rw [show (restB 0).extract 0 2 = ⟨(Lib.decDigits (partN 0)).toArray⟩ by decide +kernel, show (restB 0).extract (2 + 1) (restB 0).size = restB 1 by decide +kernel] at h
    exact h
  · have h := cutC F (restB 1) 1 (by decide +kernel) (by decide) (by decide)
    rw [show (restB 1).extract 0 1 = ⟨(Lib.decDigits (partN 1)).toArray⟩ by decide +kernel, show (restB 1).extract (1 + 1) (restB 1).size = restB 2 by decide +kernel] at h
    exact h
  · have h := cutC F (restB 2) 1 (by decide +kernel) (by decide) (by decide)
    rw [show (restB 2).extract 0 1 = ⟨(Lib.decDigits (partN 2)).toArray⟩ by decide +kernel, show (restB 2).extract (1 + 1) (restB 2).size = restB 3 by decide +kernel] at h
    exact h
  · have h := cutNoC F (restB 3) (by decide +kernel)
    rw [show restB 3 = ⟨(Lib.decDigits (partN 3)).toArray⟩ by decide +kernel] at h
    rw [show restB 3 = ⟨(Lib.decDigits (partN 3)).toArray⟩ by decide +kernel]
    exact h
theorem numberAt (F : Frm) (i : Nat) (hi : i < 4) : Contract F Tryd.prog 48 [partS i, .i .i64 255] (fun r => r = tupL [.i .i64 (partN i), .b true]) := by
  rcases (show i = 0 ∨ i = 1 ∨ i = 2 ∨ i = 3 by omega) with rfl | rfl | rfl | rfl
  · exact numberC F (partN 0) 255 (by decide) (by decide) (by decide) (by decide +kernel) (by decide +kernel)
  · exact numberC F (partN 1) 255 (by decide) (by decide) (by decide) (by decide +kernel) (by decide +kernel)
  · exact numberC F (partN 2) 255 (by decide) (by decide) (by decide) (by decide +kernel) (by decide +kernel)
  · exact numberC F (partN 3) 255 (by decide) (by decide) (by decide) (by decide +kernel) (by decide +kernel)
set_option maxRecDepth 100000 in
theorem parseAwC (F : Frm) : Contract F Tryd.prog 15 [.v (.string ⟨#[49, 48, 46, 48, 46, 48, 46, 49]⟩)] (fun r => r = tupL [.i .u32 167772161, .i .i64 0]) := by
  refine contract_of Tryd.func15 rfl (by kernel_rfl) ?_
  simp only [Tryd.ntmps15, argEnv]
  (repeat refine Sat.seq ?_)
  (refine Sat.region_k fun k hk => ?_; simp -implicitDefEqProofs only [evr, id, reduceCtorEq, reduceIte, Nat.reduceMul, Nat.reduceAdd, Nat.reduceLT, Nat.reduceLeDiff, Nat.reduceEqDiff, Int.reduceLT, Int.reduceBEq, Int.reduceBNe, Nat.reduceBEq, List.append_nil, Int.toNat_zero, Nat.sub_self, Int.reduceNeg]; refine hk _ ?_; clear hk k; try show Sat _ _ _ _ _)
  (repeat refine Sat.seq ?_)
  (refine Sat.region_k fun k hk => ?_; simp -implicitDefEqProofs only [evr, id, reduceCtorEq, reduceIte, Nat.reduceMul, Nat.reduceAdd, Nat.reduceLT, Nat.reduceLeDiff, Nat.reduceEqDiff, Int.reduceLT, Int.reduceBEq, Int.reduceBNe, Nat.reduceBEq, List.append_nil, Int.toNat_zero, Nat.sub_self, Int.reduceNeg]; refine hk _ ?_; clear hk k; try show Sat _ _ _ _ _)
  (repeat refine Sat.seq ?_)
  (refine Sat.region_k fun k hk => ?_; simp -implicitDefEqProofs only [evr, id, reduceCtorEq, reduceIte, Nat.reduceMul, Nat.reduceAdd, Nat.reduceLT, Nat.reduceLeDiff, Nat.reduceEqDiff, Int.reduceLT, Int.reduceBEq, Int.reduceBNe, Nat.reduceBEq, List.append_nil, Int.toNat_zero, Nat.sub_self, Int.reduceNeg]; refine hk _ ?_; clear hk k; try show Sat _ _ _ _ _)
  (repeat refine Sat.seq ?_)
  refine Sat.block ?_
  refine Sat.loop (ι := Nat) (fun i => ⟨41, [(11, .i .i64 i), (4, .i .u32 (accN i)), (0, .v (.string (restB i)))], []⟩) (fun i => i ≤ 4) (fun i => 4 - i) 0 (by decide) (by simp -implicitDefEqProofs only [evr, id, reduceCtorEq, reduceIte, Nat.reduceMul, Nat.reduceAdd, Nat.reduceLT, Nat.reduceLeDiff, Nat.reduceEqDiff, Int.reduceLT, Int.reduceBEq, Int.reduceBNe, Nat.reduceBEq, List.append_nil, Int.toNat_zero, Nat.sub_self, Int.reduceNeg, evl]; exact ⟨rfl, rfl, rfl⟩) ?_
  intro i hi
  try simp only at hi ⊢
  (repeat refine Sat.seq ?_)
  (refine Sat.region_k fun k hk => ?_; simp -implicitDefEqProofs only [evr, id, reduceCtorEq, reduceIte, Nat.reduceMul, Nat.reduceAdd, Nat.reduceLT, Nat.reduceLeDiff, Nat.reduceEqDiff, Int.reduceLT, Int.reduceBEq, Int.reduceBNe, Nat.reduceBEq, List.append_nil, Int.toNat_zero, Nat.sub_self, Int.reduceNeg]; refine hk _ ?_; clear hk k; try show Sat _ _ _ _ _)
  (repeat refine Sat.seq ?_)
  refine Sat.cond_b rfl (fun h => ?_) (fun h => ?_)
  · simp only [decide_eq_true_eq] at h
    have hi4 : i < 4 := by omega
    refine Sat.skip ?_
    simp only [thenK]
    (repeat refine Sat.seq ?_)
    refine Sat.block ?_
    (repeat refine Sat.seq ?_)
    (refine Sat.region_k fun k hk => ?_; simp -implicitDefEqProofs only [evr, id, reduceCtorEq, reduceIte, Nat.reduceMul, Nat.reduceAdd, Nat.reduceLT, Nat.reduceLeDiff, Nat.reduceEqDiff, Int.reduceLT, Int.reduceBEq, Int.reduceBNe, Nat.reduceBEq, List.append_nil, Int.toNat_zero, Nat.sub_self, Int.reduceNeg]; refine hk _ ?_; clear hk k; try show Sat _ _ _ _ _)
    (repeat refine Sat.seq ?_)
    (refine Sat.region_k fun k hk => ?_; simp -implicitDefEqProofs only [evr, id, reduceCtorEq, reduceIte, Nat.reduceMul, Nat.reduceAdd, Nat.reduceLT, Nat.reduceLeDiff, Nat.reduceEqDiff, Int.reduceLT, Int.reduceBEq, Int.reduceBNe, Nat.reduceBEq, List.append_nil, Int.toNat_zero, Nat.sub_self, Int.reduceNeg])
    refine wcall_slice (cutAt F i hi4) rfl (by simp -implicitDefEqProofs only [evr, id, reduceCtorEq, reduceIte, Nat.reduceMul, Nat.reduceAdd, Nat.reduceLT, Nat.reduceLeDiff, Nat.reduceEqDiff, Int.reduceLT, Int.reduceBEq, Int.reduceBNe, Nat.reduceBEq, List.append_nil, Int.toNat_zero, Nat.sub_self, Int.reduceNeg]; try rfl) ?_
    rintro r rfl
    simp -implicitDefEqProofs only [evr, id, reduceCtorEq, reduceIte, Nat.reduceMul, Nat.reduceAdd, Nat.reduceLT, Nat.reduceLeDiff, Nat.reduceEqDiff, Int.reduceLT, Int.reduceBEq, Int.reduceBNe, Nat.reduceBEq, List.append_nil, Int.toNat_zero, Nat.sub_self, Int.reduceNeg]
    (refine hk _ ?_; clear hk k; try show Sat _ _ _ _ _)
    (repeat refine Sat.seq ?_)
    (refine Sat.region_k fun k hk => ?_; simp -implicitDefEqProofs only [evr, id, reduceCtorEq, reduceIte, Nat.reduceMul, Nat.reduceAdd, Nat.reduceLT, Nat.reduceLeDiff, Nat.reduceEqDiff, Int.reduceLT, Int.reduceBEq, Int.reduceBNe, Nat.reduceBEq, List.append_nil, Int.toNat_zero, Nat.sub_self, Int.reduceNeg])
    refine wcall_slice (numberAt F i hi4) rfl (by simp -implicitDefEqProofs only [evr, id, reduceCtorEq, reduceIte, Nat.reduceMul, Nat.reduceAdd, Nat.reduceLT, Nat.reduceLeDiff, Nat.reduceEqDiff, Int.reduceLT, Int.reduceBEq, Int.reduceBNe, Nat.reduceBEq, List.append_nil, Int.toNat_zero, Nat.sub_self, Int.reduceNeg]; try rfl) ?_
    rintro r rfl
    simp -implicitDefEqProofs only [evr, id, reduceCtorEq, reduceIte, Nat.reduceMul, Nat.reduceAdd, Nat.reduceLT, Nat.reduceLeDiff, Nat.reduceEqDiff, Int.reduceLT, Int.reduceBEq, Int.reduceBNe, Nat.reduceBEq, List.append_nil, Int.toNat_zero, Nat.sub_self, Int.reduceNeg]
    (refine hk _ ?_; clear hk k; try show Sat _ _ _ _ _)
    have e3 : ((i : Int) < 3) = (i < 3) := propext (by omega)
    (repeat refine Sat.seq ?_)
    refine Sat.region_k fun k hk => ?_
    simp -implicitDefEqProofs only [evr, id, reduceCtorEq, reduceIte, Nat.reduceMul, Nat.reduceAdd, Nat.reduceLT, Nat.reduceLeDiff, Nat.reduceEqDiff, Int.reduceLT, Int.reduceBEq, Int.reduceBNe, Nat.reduceBEq, List.append_nil, Int.toNat_zero, Nat.sub_self, Int.reduceNeg, e3, bne_self_eq_false]
    (refine hk _ ?_; clear hk k; try show Sat _ _ _ _ _)
    (repeat refine Sat.seq ?_)
    refine Sat.cond_b rfl (fun h => by cases h) (fun h => ?_)
    refine Sat.skip ?_
    simp only [thenK]
    have e4 : bits BinOp.or IntKind.u32 (IntKind.u32.wrap ((accN i : Int) * 2 ^ min (Int.toNat 8) IntKind.u32.bits)) (IntKind.u32.wrap (partN i : Int)) = (accN (i + 1) : Int) := by
      rcases (show i = 0 ∨ i = 1 ∨ i = 2 ∨ i = 3 by omega) with rfl | rfl | rfl | rfl <;> decide
    have e5 : IntKind.i64.wrap ((i : Int) + 1) = ((i + 1 : Nat) : Int) := by rw [w64 (by omega)]; omega
    (repeat refine Sat.seq ?_)
    refine Sat.region_k fun k hk => ?_
    simp -implicitDefEqProofs only [evr, id, reduceCtorEq, reduceIte, Nat.reduceMul, Nat.reduceAdd, Nat.reduceLT, Nat.reduceLeDiff, Nat.reduceEqDiff, Int.reduceLT, Int.reduceBEq, Int.reduceBNe, Nat.reduceBEq, List.append_nil, Int.toNat_zero, Nat.sub_self, Int.reduceNeg, e4]
    refine ⟨by decide, ?_⟩
    (refine hk _ ?_; clear hk k; try show Sat _ _ _ _ _)
    (repeat refine Sat.seq ?_)
    refine Sat.region_k fun k hk => ?_
    simp -implicitDefEqProofs only [evr, id, reduceCtorEq, reduceIte, Nat.reduceMul, Nat.reduceAdd, Nat.reduceLT, Nat.reduceLeDiff, Nat.reduceEqDiff, Int.reduceLT, Int.reduceBEq, Int.reduceBNe, Nat.reduceBEq, List.append_nil, Int.toNat_zero, Nat.sub_self, Int.reduceNeg, e5]
    refine hk _ ?_
    simp only [thenK, blockK]
    refine ⟨i + 1, by omega, by omega, ?_⟩
    simp -implicitDefEqProofs only [evr, id, reduceCtorEq, reduceIte, Nat.reduceMul, Nat.reduceAdd, Nat.reduceLT, Nat.reduceLeDiff, Nat.reduceEqDiff, Int.reduceLT, Int.reduceBEq, Int.reduceBNe, Nat.reduceBEq, List.append_nil, Int.toNat_zero, Nat.sub_self, Int.reduceNeg, evl]
  · simp only [decide_eq_false_iff_not] at h
    obtain rfl : i = 4 := by omega
    refine Sat.exit ?_
    simp only [thenK, blockK, reduceIte]
    (repeat refine Sat.seq ?_)
    (refine Sat.region_k fun k hk => ?_; simp -implicitDefEqProofs only [evr, id, reduceCtorEq, reduceIte, Nat.reduceMul, Nat.reduceAdd, Nat.reduceLT, Nat.reduceLeDiff, Nat.reduceEqDiff, Int.reduceLT, Int.reduceBEq, Int.reduceBNe, Nat.reduceBEq, List.append_nil, Int.toNat_zero, Nat.sub_self, Int.reduceNeg]; refine hk _ ?_; clear hk k; try show Sat _ _ _ _ _)
    refine Sat.ret ?_
    simp only [Tryd.results15, evr, id, reduceCtorEq, reduceIte, Nat.reduceMul, Nat.reduceAdd, Nat.reduceLT, Nat.reduceLeDiff, Nat.reduceEqDiff, Int.reduceLT, Int.reduceBEq, Int.reduceBNe, Nat.reduceBEq, List.append_nil, Int.toNat_zero, Nat.sub_self, Int.reduceNeg]
    rfl
set_option maxRecDepth 100000 in
theorem awakeC (F : Frm) : Contract F Tryd.prog 9 [] (fun r => r = .b true) := by
  refine contract_of Tryd.func9 rfl (by kernel_rfl) ?_
  simp only [Tryd.ntmps9, argEnv]
  (repeat refine Sat.seq ?_)
  (refine Sat.region_k fun k hk => ?_; simp -implicitDefEqProofs only [evr, id, reduceCtorEq, reduceIte, Nat.reduceMul, Nat.reduceAdd, Nat.reduceLT, Nat.reduceLeDiff, Nat.reduceEqDiff, Int.reduceLT, Int.reduceBEq, Int.reduceBNe, Nat.reduceBEq, List.append_nil, Int.toNat_zero, Nat.sub_self, Int.reduceNeg]; refine hk _ ?_; clear hk k; try show Sat _ _ _ _ _)
  (repeat refine Sat.seq ?_)
  (refine Sat.region_k fun k hk => ?_; simp -implicitDefEqProofs only [evr, id, reduceCtorEq, reduceIte, Nat.reduceMul, Nat.reduceAdd, Nat.reduceLT, Nat.reduceLeDiff, Nat.reduceEqDiff, Int.reduceLT, Int.reduceBEq, Int.reduceBNe, Nat.reduceBEq, List.append_nil, Int.toNat_zero, Nat.sub_self, Int.reduceNeg])
  refine wcall_slice (parseAwC F) rfl (by simp -implicitDefEqProofs only [evr, id, reduceCtorEq, reduceIte, Nat.reduceMul, Nat.reduceAdd, Nat.reduceLT, Nat.reduceLeDiff, Nat.reduceEqDiff, Int.reduceLT, Int.reduceBEq, Int.reduceBNe, Nat.reduceBEq, List.append_nil, Int.toNat_zero, Nat.sub_self, Int.reduceNeg]; try rfl) ?_
  rintro r rfl
  simp -implicitDefEqProofs only [evr, id, reduceCtorEq, reduceIte, Nat.reduceMul, Nat.reduceAdd, Nat.reduceLT, Nat.reduceLeDiff, Nat.reduceEqDiff, Int.reduceLT, Int.reduceBEq, Int.reduceBNe, Nat.reduceBEq, List.append_nil, Int.toNat_zero, Nat.sub_self, Int.reduceNeg]
  (refine hk _ ?_; clear hk k; try show Sat _ _ _ _ _)
  (repeat refine Sat.seq ?_)
  (refine Sat.region_k fun k hk => ?_; simp -implicitDefEqProofs only [evr, id, reduceCtorEq, reduceIte, Nat.reduceMul, Nat.reduceAdd, Nat.reduceLT, Nat.reduceLeDiff, Nat.reduceEqDiff, Int.reduceLT, Int.reduceBEq, Int.reduceBNe, Nat.reduceBEq, List.append_nil, Int.toNat_zero, Nat.sub_self, Int.reduceNeg])
  refine wcall_slice (formatAwC F) rfl (by simp -implicitDefEqProofs only [evr, id, reduceCtorEq, reduceIte, Nat.reduceMul, Nat.reduceAdd, Nat.reduceLT, Nat.reduceLeDiff, Nat.reduceEqDiff, Int.reduceLT, Int.reduceBEq, Int.reduceBNe, Nat.reduceBEq, List.append_nil, Int.toNat_zero, Nat.sub_self, Int.reduceNeg]; try rfl) ?_
  rintro r rfl
  simp -implicitDefEqProofs only [evr, id, reduceCtorEq, reduceIte, Nat.reduceMul, Nat.reduceAdd, Nat.reduceLT, Nat.reduceLeDiff, Nat.reduceEqDiff, Int.reduceLT, Int.reduceBEq, Int.reduceBNe, Nat.reduceBEq, List.append_nil, Int.toNat_zero, Nat.sub_self, Int.reduceNeg]
  (refine hk _ ?_; clear hk k; try show Sat _ _ _ _ _)
  refine Sat.ret ?_
  simp only [Tryd.results9, evr, id, reduceCtorEq, reduceIte, Nat.reduceMul, Nat.reduceAdd, Nat.reduceLT, Nat.reduceLeDiff, Nat.reduceEqDiff, Int.reduceLT, Int.reduceBEq, Int.reduceBNe, Nat.reduceBEq, List.append_nil, Int.toNat_zero, Nat.sub_self, Int.reduceNeg]
end Go.Proofs.YtceacooambpkdaaDoor

/- AddressTexts at a long string. -/
set_option linter.unusedSimpArgs false
set_option linter.unusedVariables false
namespace Go.Proofs.YtceacooambpkdaaDoor
open Go.RowKit Eng Go.Sort

theorem lit6 : (⟨#[46, 49, 46, 50, 46, 51]⟩ : ByteArray) = mkB [46, 49, 46, 50, 46, 51] := rfl
theorem pr_same3 (a b : Int) : aggEq Tryd.prog 25 2 (fun j => [SV.i .u32 a, SV.i .i64 b].getD j default) 2 (fun j => [SV.i .u32 a, SV.i .i64 b].getD j default) = some true := by
  have h : aggEq Tryd.prog 25 2 (fun j => [SV.i .u32 a, SV.i .i64 b].getD j default) 2 (fun j => [SV.i .u32 a, SV.i .i64 b].getD j default) = some ([a == a, b == b].all id) := by kernel_rfl
  rw [h]; simp
theorem slB_bytesT (a : Option Addr) (cap : Nat) (z : List Int) (hz : ∀ n ∈ z, (Lit.int .u8 n).wf = true) : isBytes (slB a cap z) :=
  ⟨a, z.length, cap, _, rfl, fun i hi => ⟨z.getD i 0, by have := bounds_u8 (hz _ (getD_mem (d := 0) hi)); omega, by have := bounds_u8 (hz _ (getD_mem (d := 0) hi)); omega, rfl⟩⟩
abbrev FrAC (cb : Nat) : Frm := Frm.codesT cb txN TxT tx_low
theorem by_conv (l : List UInt8) : (fun (i : Nat) (_ : Nat) => SV.i .u8 (((mkB l).data.toList.getD i 0).toNat : Nat)) = byRd l := rfl
/-- the text of bytes -/
theorem bytes_text (l : List UInt8) : bytesOf ((List.range l.length).map fun i => Eng.intOf (byRd l i 0)) = mkB l := by
  have h : ∀ (m : List UInt8) (acc : ByteArray), (m.map fun c => ((c.toNat : Nat) : Int)).foldl (fun r n => r.push (UInt8.ofNat n.toNat)) acc = acc ++ mkB m := by
    intro m
    induction m with
    | nil => intro acc; rw [mkB_of acc, mkB_append]; simp
    | cons c m ih =>
      intro acc
      rw [List.map_cons, List.foldl_cons, ih, mkB_of acc]
      have e : (mkB acc.data.toList).push (UInt8.ofNat (((c.toNat : Nat) : Int)).toNat) = mkB (acc.data.toList ++ [c]) := mkB_inj (by
        rw [Int.toNat_natCast]
        simp [mkB, ByteArray.push])
      rw [e, mkB_append, mkB_append, List.append_assoc]
      rfl
  have e2 : ((List.range l.length).map fun i => Eng.intOf (byRd l i 0)) = l.map fun c => ((c.toNat : Nat) : Int) := by
    apply List.ext_getElem?
    intro i
    by_cases hi : i < l.length
    · rw [List.getElem?_map, List.getElem?_range hi, List.getElem?_map, List.getElem?_eq_getElem hi]
      simp [byRd, Eng.intOf, List.getD_eq_getElem?_getD, hi]
    · rw [List.getElem?_eq_none (by simp; omega), List.getElem?_eq_none (by simp; omega)]
  rw [e2]
  unfold bytesOf
  rw [h]
  exact mkB_inj (by simp [mkB, ByteArray.data_append])
set_option maxHeartbeats 4000000 in
set_option maxRecDepth 100000 in
theorem textsLongC (s : List UInt8) (hs : 200 < s.length) (a : Nat) (ha : a < 2 ^ 32) (p : Prf) (hp : prOk p) (ad : Option Addr) (cap : Nat) (z : List Int) (hb : isBytes (slB ad cap z)) :
    Contract FrA Tryd.prog 3 [sB s, .i .u32 a, prS p, slB ad cap z] (fun r => r = .b true) := by
  refine contract_of Tryd.func3 rfl (by kernel_rfl) ?_
  simp only [Tryd.ntmps3, argEnv, prS, prC]
  (repeat refine Sat.seq ?_)
  (refine Sat.region_k fun k hk => ?_; simp -implicitDefEqProofs only [evr, id, reduceCtorEq, reduceIte, Nat.reduceMul, Nat.reduceAdd, Nat.reduceLT, Nat.reduceLeDiff, Nat.reduceEqDiff, Int.reduceLT, Int.reduceBEq, Int.reduceBNe, Nat.reduceBEq, List.append_nil, Int.toNat_zero, Nat.sub_self, Int.reduceNeg, ptr, mkB_size, mkB_extract, mkB_append, mkB_toList, lit46, lit47, lit6, strsRd_at, pr_same3])
  intro b6
  (refine hk _ ?_; clear hk k; try show Sat _ _ _ _ _)
  (repeat refine Sat.seq ?_)
  (refine Sat.region_k fun k hk => ?_; simp -implicitDefEqProofs only [evr, id, reduceCtorEq, reduceIte, Nat.reduceMul, Nat.reduceAdd, Nat.reduceLT, Nat.reduceLeDiff, Nat.reduceEqDiff, Int.reduceLT, Int.reduceBEq, Int.reduceBNe, Nat.reduceBEq, List.append_nil, Int.toNat_zero, Nat.sub_self, Int.reduceNeg, ptr, mkB_size, mkB_extract, mkB_append, mkB_toList, lit46, lit47, lit6, strsRd_at, pr_same3])
  refine wcall_plain (awakeC FrA) rfl (by rintro _ rfl; exact ok_plain rfl) ?_
  rintro r rfl
  simp -implicitDefEqProofs only [evr, id, reduceCtorEq, reduceIte, Nat.reduceMul, Nat.reduceAdd, Nat.reduceLT, Nat.reduceLeDiff, Nat.reduceEqDiff, Int.reduceLT, Int.reduceBEq, Int.reduceBNe, Nat.reduceBEq, List.append_nil, Int.toNat_zero, Nat.sub_self, Int.reduceNeg, ptr, mkB_size, mkB_extract, mkB_append, mkB_toList, lit46, lit47, lit6, strsRd_at, pr_same3]
  (refine hk _ ?_; clear hk k; try show Sat _ _ _ _ _)
  (repeat refine Sat.seq ?_)
  refine Sat.cond_b rfl (fun h => ?_) (fun h => ?_)
  · (repeat refine Sat.seq ?_)
    (refine Sat.region_k fun k hk => ?_; simp -implicitDefEqProofs only [evr, id, reduceCtorEq, reduceIte, Nat.reduceMul, Nat.reduceAdd, Nat.reduceLT, Nat.reduceLeDiff, Nat.reduceEqDiff, Int.reduceLT, Int.reduceBEq, Int.reduceBNe, Nat.reduceBEq, List.append_nil, Int.toNat_zero, Nat.sub_self, Int.reduceNeg, ptr, mkB_size, mkB_extract, mkB_append, mkB_toList, lit46, lit47, lit6, strsRd_at, pr_same3]; refine hk _ ?_; clear hk k; try show Sat _ _ _ _ _)
    refine Sat.ret ?_
    simp only [Tryd.results3, evr, id, reduceCtorEq, reduceIte, Nat.reduceMul, Nat.reduceAdd, Nat.reduceLT, Nat.reduceLeDiff, Nat.reduceEqDiff, Int.reduceLT, Int.reduceBEq, Int.reduceBNe, Nat.reduceBEq, List.append_nil, Int.toNat_zero, Nat.sub_self, Int.reduceNeg, ptr, mkB_size, mkB_extract, mkB_append, mkB_toList, lit46, lit47, lit6, strsRd_at, pr_same3]
    rw [h]
  · simp only [decide_eq_false_iff_not] at h
    omega
end Go.Proofs.YtceacooambpkdaaDoor

/- AddressTexts: what any string means as an address or a prefix, and the texts of any of them: the code's answers are the reference's. For every input. -/
set_option linter.unusedSimpArgs false
set_option linter.unusedVariables false
namespace Go.Proofs.YtceacooambpkdaaDoor
open Go.RowKit Eng Go.Sort

set_option maxHeartbeats 4000000 in
set_option maxRecDepth 100000 in
theorem textsC (s : List UInt8) (hs : s.length ≤ 200) (a : Nat) (ha : a < 2 ^ 32) (p : Prf) (hp : prOk p) (ad : Option Addr) (cap : Nat) (z : List Int) (hb : isBytes (slB ad cap z))
    (c1 : (((s.length + 6 : Nat) : Int) ≤ IntKind.i64.max) = True) (c2 : ((((fmtB a).length + 1 : Nat) : Int) ≤ IntKind.i64.max) = True) (c3 : ((((fmtB a ++ [47]).length + s.length : Nat) : Int) ≤ IntKind.i64.max) = True) :
    Contract FrA Tryd.prog 3 [sB s, .i .u32 a, prS p, slB ad cap z] (fun r => r = .b true) := by
  refine contract_of Tryd.func3 rfl (by kernel_rfl) ?_
  simp only [Tryd.ntmps3, argEnv, prS, prC]
  (repeat refine Sat.seq ?_)
  (refine Sat.region_k fun k hk => ?_; simp -implicitDefEqProofs only [evr, id, reduceCtorEq, reduceIte, Nat.reduceMul, Nat.reduceAdd, Nat.reduceLT, Nat.reduceLeDiff, Nat.reduceEqDiff, Int.reduceLT, Int.reduceBEq, Int.reduceBNe, Nat.reduceBEq, List.append_nil, Int.toNat_zero, Nat.sub_self, Int.reduceNeg, ptr, mkB_size, mkB_extract, mkB_append, mkB_toList, lit46, lit47, lit6, strsRd_at, pr_same3, bytes_text, c1, c2, c3])
  intro b6
  (refine hk _ ?_; clear hk k; try show Sat _ _ _ _ _)
  (repeat refine Sat.seq ?_)
  (refine Sat.region_k fun k hk => ?_; simp -implicitDefEqProofs only [evr, id, reduceCtorEq, reduceIte, Nat.reduceMul, Nat.reduceAdd, Nat.reduceLT, Nat.reduceLeDiff, Nat.reduceEqDiff, Int.reduceLT, Int.reduceBEq, Int.reduceBNe, Nat.reduceBEq, List.append_nil, Int.toNat_zero, Nat.sub_self, Int.reduceNeg, ptr, mkB_size, mkB_extract, mkB_append, mkB_toList, lit46, lit47, lit6, strsRd_at, pr_same3, bytes_text, c1, c2, c3])
  refine wcall_plain (awakeC FrA) rfl (by rintro _ rfl; exact ok_plain rfl) ?_
  rintro r rfl
  simp -implicitDefEqProofs only [evr, id, reduceCtorEq, reduceIte, Nat.reduceMul, Nat.reduceAdd, Nat.reduceLT, Nat.reduceLeDiff, Nat.reduceEqDiff, Int.reduceLT, Int.reduceBEq, Int.reduceBNe, Nat.reduceBEq, List.append_nil, Int.toNat_zero, Nat.sub_self, Int.reduceNeg, ptr, mkB_size, mkB_extract, mkB_append, mkB_toList, lit46, lit47, lit6, strsRd_at, pr_same3, bytes_text, c1, c2, c3]
  (refine hk _ ?_; clear hk k; try show Sat _ _ _ _ _)
  (repeat refine Sat.seq ?_)
  refine Sat.cond_b rfl (fun h => ?_) (fun h => ?_)
  · (repeat refine Sat.seq ?_)
    (refine Sat.region_k fun k hk => ?_; simp -implicitDefEqProofs only [evr, id, reduceCtorEq, reduceIte, Nat.reduceMul, Nat.reduceAdd, Nat.reduceLT, Nat.reduceLeDiff, Nat.reduceEqDiff, Int.reduceLT, Int.reduceBEq, Int.reduceBNe, Nat.reduceBEq, List.append_nil, Int.toNat_zero, Nat.sub_self, Int.reduceNeg, ptr, mkB_size, mkB_extract, mkB_append, mkB_toList, lit46, lit47, lit6, strsRd_at, pr_same3, bytes_text, c1, c2, c3]; refine hk _ ?_; clear hk k; try show Sat _ _ _ _ _)
    refine Sat.ret ?_
    simp only [Tryd.results3, evr, id, reduceCtorEq, reduceIte, Nat.reduceMul, Nat.reduceAdd, Nat.reduceLT, Nat.reduceLeDiff, Nat.reduceEqDiff, Int.reduceLT, Int.reduceBEq, Int.reduceBNe, Nat.reduceBEq, List.append_nil, Int.toNat_zero, Nat.sub_self, Int.reduceNeg, ptr, mkB_size, mkB_extract, mkB_append, mkB_toList, lit46, lit47, lit6, strsRd_at, pr_same3, bytes_text, c1, c2, c3]
    rw [h]
  refine Sat.skip ?_
  simp only [thenK]
  (repeat refine Sat.seq ?_)
  (refine Sat.region_k fun k hk => ?_; simp -implicitDefEqProofs only [evr, id, reduceCtorEq, reduceIte, Nat.reduceMul, Nat.reduceAdd, Nat.reduceLT, Nat.reduceLeDiff, Nat.reduceEqDiff, Int.reduceLT, Int.reduceBEq, Int.reduceBNe, Nat.reduceBEq, List.append_nil, Int.toNat_zero, Nat.sub_self, Int.reduceNeg, ptr, mkB_size, mkB_extract, mkB_append, mkB_toList, lit46, lit47, lit6, strsRd_at, pr_same3, bytes_text, c1, c2, c3])
  refine wcall_make (newRC (slB ad cap z) hb 40 (by decide)) ?_
  intro cb
  simp -implicitDefEqProofs only [evr, id, reduceCtorEq, reduceIte, Nat.reduceMul, Nat.reduceAdd, Nat.reduceLT, Nat.reduceLeDiff, Nat.reduceEqDiff, Int.reduceLT, Int.reduceBEq, Int.reduceBNe, Nat.reduceBEq, List.append_nil, Int.toNat_zero, Nat.sub_self, Int.reduceNeg, ptr, mkB_size, mkB_extract, mkB_append, mkB_toList, lit46, lit47, lit6, strsRd_at, pr_same3, bytes_text, c1, c2, c3]
  (refine hk _ ?_; clear hk k; try show Sat _ _ _ _ _)
  refine Sat.settleBox 6 rfl rfl ?_
  refine Sat.switchT (cb := cb) (id := 1) rfl ?_
  (repeat refine Sat.seq ?_)
  (refine Sat.region_k fun k hk => ?_; simp -implicitDefEqProofs only [evr, id, reduceCtorEq, reduceIte, Nat.reduceMul, Nat.reduceAdd, Nat.reduceLT, Nat.reduceLeDiff, Nat.reduceEqDiff, Int.reduceLT, Int.reduceBEq, Int.reduceBNe, Nat.reduceBEq, List.append_nil, Int.toNat_zero, Nat.sub_self, Int.reduceNeg, ptr, mkB_size, mkB_extract, mkB_append, mkB_toList, lit46, lit47, lit6, strsRd_at, pr_same3, bytes_text, c1, c2, c3])
  refine wcall_slice ((prefixC cb).codesT) rfl (by simp -implicitDefEqProofs only [evr, id, reduceCtorEq, reduceIte, Nat.reduceMul, Nat.reduceAdd, Nat.reduceLT, Nat.reduceLeDiff, Nat.reduceEqDiff, Int.reduceLT, Int.reduceBEq, Int.reduceBNe, Nat.reduceBEq, List.append_nil, Int.toNat_zero, Nat.sub_self, Int.reduceNeg, ptr, mkB_size, mkB_extract, mkB_append, mkB_toList, lit46, lit47, lit6, strsRd_at, pr_same3, bytes_text, c1, c2, c3]; try rfl) ?_
  rintro r ⟨q, rfl, hq, hqv⟩
  simp only [prS, prC, evr, id, reduceCtorEq, reduceIte, Nat.reduceMul, Nat.reduceAdd, Nat.reduceLT, Nat.reduceLeDiff, Nat.reduceEqDiff, Int.reduceLT, Int.reduceBEq, Int.reduceBNe, Nat.reduceBEq, List.append_nil, Int.toNat_zero, Nat.sub_self, Int.reduceNeg, ptr, mkB_size, mkB_extract, mkB_append, mkB_toList, lit46, lit47, lit6, strsRd_at, pr_same3, bytes_text, c1, c2, c3]
  intro b10
  (refine hk _ ?_; clear hk k; try show Sat _ _ _ _ _)
  have hgl : (fmtP q).length ≤ 19 := by
    unfold fmtP
    rw [if_pos hqv, List.length_append, List.length_cons]
    obtain ⟨h1, h2, h3⟩ := vld_iff.1 hqv
    have h5 := fmt_short q.addr
    have h6 := dig_len ⟨q.len.toNat, by omega⟩
    simp only at h6
    omega
  have kF := (formatC a ha).tabT (cb := cb)
  have kG := rfFormatPrefixC (FrAC cb) q hq
  have hfl := fmt_short a
  have kS := fun (ad : Option Addr) (cap : Nat) => (spoiltC cb (fmtP q) (by omega) ad cap).codesT (N := txN) (T := TxT) (hT := tx_low)
  have kF0 := kF
  unfold prS prC at kG
  (repeat refine Sat.seq ?_)
  refine Sat.join2 (ι := List (List UInt8) × Nat) (fun y => ⟨129, [(11, .os 1 (some ⟨y.2, 0, none⟩) 6 6), (1, .i .u32 a), (10, .op 0 b10 0), (6, .el ⟨b6, 0, none⟩ 2 fun j => [SV.i .u32 p.addr, SV.i .i64 p.len].getD j default)], [.box b10 25 [SV.i .u32 q.addr, SV.i .i64 q.len], .row (some ⟨y.2, 0, none⟩) 9 6 6 1 (strsRd y.1)]⟩) (fun y => y.1.length = 6 ∧ ∀ x ∈ y.1, x.length ≤ 1000) (fun hrest => ?_) ?_
  · (refine Sat.region_tree (.keep [0, 1, 5, 11, 14, 16, 17, 3, 6] [2, 4] (.one 2 (.one 4 (.one 7 (.one 8 (.one 9 (.alt 10 (.one 12 (.one 13 (.one 15 (.one 18 (.one 19 .done))))) (.alt 12 (.free 13 (.free 15 (.one 10 (.one 18 (.one 19 .done))))) .none)))))))) (by kernel_rfl) (by kernel_rfl) (fun _ _ h => h) fun k hk => ?_; simp only [WOT, List.map_cons, List.map_nil, List.getD_cons_zero, List.getD_cons_succ]; simp -implicitDefEqProofs only [evr, id, reduceCtorEq, reduceIte, Nat.reduceMul, Nat.reduceAdd, Nat.reduceLT, Nat.reduceLeDiff, Nat.reduceEqDiff, Int.reduceLT, Int.reduceBEq, Int.reduceBNe, Nat.reduceBEq, List.append_nil, Int.toNat_zero, Nat.sub_self, Int.reduceNeg, ptr, mkB_size, mkB_extract, mkB_append, mkB_toList, lit46, lit47, lit6, strsRd_at, pr_same3, bytes_text, c1, c2, c3, WOT])
    repeat' (first
      | (refine And.intro ?_ ?_)
      | (refine wcall_slice kF rfl ?_ ?_; (focus (simp -implicitDefEqProofs only [evr, id, reduceCtorEq, reduceIte, Nat.reduceMul, Nat.reduceAdd, Nat.reduceLT, Nat.reduceLeDiff, Nat.reduceEqDiff, Int.reduceLT, Int.reduceBEq, Int.reduceBNe, Nat.reduceBEq, List.append_nil, Int.toNat_zero, Nat.sub_self, Int.reduceNeg, ptr, mkB_size, mkB_extract, mkB_append, mkB_toList, lit46, lit47, lit6, strsRd_at, pr_same3, bytes_text, c1, c2, c3]; try rfl)); rintro r rfl; simp -implicitDefEqProofs only [evr, id, reduceCtorEq, reduceIte, Nat.reduceMul, Nat.reduceAdd, Nat.reduceLT, Nat.reduceLeDiff, Nat.reduceEqDiff, Int.reduceLT, Int.reduceBEq, Int.reduceBNe, Nat.reduceBEq, List.append_nil, Int.toNat_zero, Nat.sub_self, Int.reduceNeg, ptr, mkB_size, mkB_extract, mkB_append, mkB_toList, lit46, lit47, lit6, strsRd_at, pr_same3, bytes_text, c1, c2, c3])
      | (refine wcall_slice kG rfl ?_ ?_; (focus (simp -implicitDefEqProofs only [evr, id, reduceCtorEq, reduceIte, Nat.reduceMul, Nat.reduceAdd, Nat.reduceLT, Nat.reduceLeDiff, Nat.reduceEqDiff, Int.reduceLT, Int.reduceBEq, Int.reduceBNe, Nat.reduceBEq, List.append_nil, Int.toNat_zero, Nat.sub_self, Int.reduceNeg, ptr, mkB_size, mkB_extract, mkB_append, mkB_toList, lit46, lit47, lit6, strsRd_at, pr_same3, bytes_text, c1, c2, c3]; try rfl)); rintro r rfl; simp -implicitDefEqProofs only [evr, id, reduceCtorEq, reduceIte, Nat.reduceMul, Nat.reduceAdd, Nat.reduceLT, Nat.reduceLeDiff, Nat.reduceEqDiff, Int.reduceLT, Int.reduceBEq, Int.reduceBNe, Nat.reduceBEq, List.append_nil, Int.toNat_zero, Nat.sub_self, Int.reduceNeg, ptr, mkB_size, mkB_extract, mkB_append, mkB_toList, lit46, lit47, lit6, strsRd_at, pr_same3, bytes_text, c1, c2, c3])
      | (refine wcall_slice (kS _ _) rfl ?_ ?_; (focus (simp -implicitDefEqProofs only [evr, id, reduceCtorEq, reduceIte, Nat.reduceMul, Nat.reduceAdd, Nat.reduceLT, Nat.reduceLeDiff, Nat.reduceEqDiff, Int.reduceLT, Int.reduceBEq, Int.reduceBNe, Nat.reduceBEq, List.append_nil, Int.toNat_zero, Nat.sub_self, Int.reduceNeg, ptr, mkB_size, mkB_extract, mkB_append, mkB_toList, lit46, lit47, lit6, strsRd_at, pr_same3, bytes_text, c1, c2, c3]; rfl)); rintro r ⟨l1, a1, cap1, rfl, hl1⟩; simp -implicitDefEqProofs only [evr, id, reduceCtorEq, reduceIte, Nat.reduceMul, Nat.reduceAdd, Nat.reduceLT, Nat.reduceLeDiff, Nat.reduceEqDiff, Int.reduceLT, Int.reduceBEq, Int.reduceBNe, Nat.reduceBEq, List.append_nil, Int.toNat_zero, Nat.sub_self, Int.reduceNeg, ptr, mkB_size, mkB_extract, mkB_append, mkB_toList, lit46, lit47, lit6, strsRd_at, pr_same3, bytes_text, c1, c2, c3])
      | rfl
      | (focus (show (fmtP q).length ≤ 1000000; omega)))
    intro blk8 cap8
    refine wcall_slice (kS (some ⟨blk8, 0, none⟩) cap8) rfl ?_ ?_
    · simp -implicitDefEqProofs only [evr, id, reduceCtorEq, reduceIte, Nat.reduceMul, Nat.reduceAdd, Nat.reduceLT, Nat.reduceLeDiff, Nat.reduceEqDiff, Int.reduceLT, Int.reduceBEq, Int.reduceBNe, Nat.reduceBEq, List.append_nil, Int.toNat_zero, Nat.sub_self, Int.reduceNeg, ptr, mkB_size, mkB_extract, mkB_append, mkB_toList, lit46, lit47, lit6, strsRd_at, pr_same3, bytes_text, c1, c2, c3]
      rfl
    rintro r ⟨l1, a1, cap1, rfl, hl1⟩
    simp -implicitDefEqProofs only [evr, id, reduceCtorEq, reduceIte, Nat.reduceMul, Nat.reduceAdd, Nat.reduceLT, Nat.reduceLeDiff, Nat.reduceEqDiff, Int.reduceLT, Int.reduceBEq, Int.reduceBNe, Nat.reduceBEq, List.append_nil, Int.toNat_zero, Nat.sub_self, Int.reduceNeg, ptr, mkB_size, mkB_extract, mkB_append, mkB_toList, lit46, lit47, lit6, strsRd_at, pr_same3, bytes_text, c1, c2, c3]
    repeat' (first
      | (refine And.intro ?_ ?_)
      | (refine wcall_slice kF rfl ?_ ?_; (focus (simp -implicitDefEqProofs only [evr, id, reduceCtorEq, reduceIte, Nat.reduceMul, Nat.reduceAdd, Nat.reduceLT, Nat.reduceLeDiff, Nat.reduceEqDiff, Int.reduceLT, Int.reduceBEq, Int.reduceBNe, Nat.reduceBEq, List.append_nil, Int.toNat_zero, Nat.sub_self, Int.reduceNeg, ptr, mkB_size, mkB_extract, mkB_append, mkB_toList, lit46, lit47, lit6, strsRd_at, pr_same3, bytes_text, c1, c2, c3]; try rfl)); rintro r rfl; simp -implicitDefEqProofs only [evr, id, reduceCtorEq, reduceIte, Nat.reduceMul, Nat.reduceAdd, Nat.reduceLT, Nat.reduceLeDiff, Nat.reduceEqDiff, Int.reduceLT, Int.reduceBEq, Int.reduceBNe, Nat.reduceBEq, List.append_nil, Int.toNat_zero, Nat.sub_self, Int.reduceNeg, ptr, mkB_size, mkB_extract, mkB_append, mkB_toList, lit46, lit47, lit6, strsRd_at, pr_same3, bytes_text, c1, c2, c3])
      | rfl
      | exact (fun i hi => Exists.intro _ rfl)
      | intro blkA)
    all_goals
      refine hk _ ?_
      clear hk
      simp only [thenK]
      refine Sat.le (hrest ([s, fmtB a, fmtP q, l1, fmtB a ++ 47 :: s, s ++ [46, 49, 46, 50, 46, 51]], blkA) ⟨rfl, ?_⟩) ?_
      · intro x hx
        simp only [List.mem_cons, List.not_mem_nil, or_false] at hx
        rcases hx with rfl | rfl | rfl | rfl | rfl | rfl
        · omega
        · omega
        · omega
        · omega
        · simp only [List.length_append, List.length_cons]; omega
        · simp only [List.length_append, List.length_cons, List.length_nil]; omega
      · simp -implicitDefEqProofs only [evr, id, reduceCtorEq, reduceIte, Nat.reduceMul, Nat.reduceAdd, Nat.reduceLT, Nat.reduceLeDiff, Nat.reduceEqDiff, Int.reduceLT, Int.reduceBEq, Int.reduceBNe, Nat.reduceBEq, List.append_nil, Int.toNat_zero, Nat.sub_self, Int.reduceNeg, ptr, mkB_size, mkB_extract, mkB_append, mkB_toList, lit46, lit47, lit6, strsRd_at, pr_same3, bytes_text, c1, c2, c3, evl]
        intro i j hi hj
        obtain rfl : j = 0 := by omega
        rcases (show i = 0 ∨ i = 1 ∨ i = 2 ∨ i = 3 ∨ i = 4 ∨ i = 5 by omega) with rfl | rfl | rfl | rfl | rfl | rfl <;> rfl
  rintro ⟨L, blk⟩ ⟨hL6, hLs⟩
  simp only at hL6 hLs ⊢
  refine Sat.settle2 11 rfl rfl ?_
  (repeat refine Sat.seq ?_)
  (refine Sat.region_k fun k hk => ?_; simp -implicitDefEqProofs only [evr, id, reduceCtorEq, reduceIte, Nat.reduceMul, Nat.reduceAdd, Nat.reduceLT, Nat.reduceLeDiff, Nat.reduceEqDiff, Int.reduceLT, Int.reduceBEq, Int.reduceBNe, Nat.reduceBEq, List.append_nil, Int.toNat_zero, Nat.sub_self, Int.reduceNeg, ptr, mkB_size, mkB_extract, mkB_append, mkB_toList, lit46, lit47, lit6, strsRd_at, pr_same3, bytes_text, c1, c2, c3]; refine hk _ ?_; clear hk k; try show Sat _ _ _ _ _)
  (repeat refine Sat.seq ?_)
  refine Sat.block ?_
  refine Sat.loop (ι := Nat) (fun i => ⟨129, [(12, .i .i64 i), (11, .sl (some ⟨blk, 0, none⟩) 6 6 1 (strsRd L)), (1, .i .u32 a), (10, .op 0 b10 0), (6, .el ⟨b6, 0, none⟩ 2 fun j => [SV.i .u32 p.addr, SV.i .i64 p.len].getD j default)], [.box b10 25 [SV.i .u32 q.addr, SV.i .i64 q.len]]⟩) (fun i => i ≤ 6) (fun i => 6 - i) 0 (by decide) (by simp -implicitDefEqProofs only [evr, id, reduceCtorEq, reduceIte, Nat.reduceMul, Nat.reduceAdd, Nat.reduceLT, Nat.reduceLeDiff, Nat.reduceEqDiff, Int.reduceLT, Int.reduceBEq, Int.reduceBNe, Nat.reduceBEq, List.append_nil, Int.toNat_zero, Nat.sub_self, Int.reduceNeg, ptr, mkB_size, mkB_extract, mkB_append, mkB_toList, lit46, lit47, lit6, strsRd_at, pr_same3, bytes_text, c1, c2, c3, evl]; try rfl) ?_
  intro i hi
  (repeat refine Sat.seq ?_)
  (refine Sat.region_k fun k hk => ?_; simp -implicitDefEqProofs only [evr, id, reduceCtorEq, reduceIte, Nat.reduceMul, Nat.reduceAdd, Nat.reduceLT, Nat.reduceLeDiff, Nat.reduceEqDiff, Int.reduceLT, Int.reduceBEq, Int.reduceBNe, Nat.reduceBEq, List.append_nil, Int.toNat_zero, Nat.sub_self, Int.reduceNeg, ptr, mkB_size, mkB_extract, mkB_append, mkB_toList, lit46, lit47, lit6, strsRd_at, pr_same3, bytes_text, c1, c2, c3]; refine hk _ ?_; clear hk k; try show Sat _ _ _ _ _)
  (repeat refine Sat.seq ?_)
  refine Sat.cond_b rfl (fun h => ?_) (fun h => ?_)
  · have hi6 : i < 6 := by simp only [decide_eq_true_eq] at h; omega
    clear h
    have e1 : IntKind.i64.wrap ((i : Int) + 1) = ((i + 1 : Nat) : Int) := by rw [w64 (by omega)]; omega
    have hx := hLs _ (List.mem_of_getElem? (getD_of (P := L) (i := i) (d := []) (by omega)))
    have k1 := (parseC (L.getD i []) (by omega)).tabT (cb := cb)
    have k2 := rfParseC (FrAC cb) (L.getD i []) (by omega)
    have k3 := (parsePrefixC (L.getD i []) (by omega)).tabT (cb := cb)
    have k4 := rfParsePrefixC (FrAC cb) (L.getD i []) (by omega)
    have h1 : ∃ av er : Int, parS (L.getD i []) = tupL [.i .u32 av, .i .i64 er] := by
      unfold parS
      split <;> exact ⟨_, _, rfl⟩
    have h2 : ∃ (pv : Prf) (er : Int), parPS (L.getD i []) = tupL [prS pv, .i .i64 er] := by
      unfold parPS
      split <;> exact ⟨_, _, rfl⟩
    obtain ⟨av, er, h1⟩ := h1
    obtain ⟨pv, er2, h2⟩ := h2
    rw [h1] at k1 k2
    rw [h2] at k3 k4
    unfold prS prC at k3 k4
    refine Sat.skip ?_
    simp only [thenK]
    (repeat refine Sat.seq ?_)
    refine Sat.block ?_
    (repeat refine Sat.seq ?_)
    (refine Sat.region_k fun k hk => ?_; simp -implicitDefEqProofs only [evr, id, reduceCtorEq, reduceIte, Nat.reduceMul, Nat.reduceAdd, Nat.reduceLT, Nat.reduceLeDiff, Nat.reduceEqDiff, Int.reduceLT, Int.reduceBEq, Int.reduceBNe, Nat.reduceBEq, List.append_nil, Int.toNat_zero, Nat.sub_self, Int.reduceNeg, ptr, mkB_size, mkB_extract, mkB_append, mkB_toList, lit46, lit47, lit6, strsRd_at, pr_same3, bytes_text, c1, c2, c3])
    refine ⟨by omega, ?_⟩
    refine wcall_slice k1 rfl (by simp -implicitDefEqProofs only [evr, id, reduceCtorEq, reduceIte, Nat.reduceMul, Nat.reduceAdd, Nat.reduceLT, Nat.reduceLeDiff, Nat.reduceEqDiff, Int.reduceLT, Int.reduceBEq, Int.reduceBNe, Nat.reduceBEq, List.append_nil, Int.toNat_zero, Nat.sub_self, Int.reduceNeg, ptr, mkB_size, mkB_extract, mkB_append, mkB_toList, lit46, lit47, lit6, strsRd_at, pr_same3, bytes_text, c1, c2, c3]; try rfl) ?_
    rintro r rfl
    simp -implicitDefEqProofs only [evr, id, reduceCtorEq, reduceIte, Nat.reduceMul, Nat.reduceAdd, Nat.reduceLT, Nat.reduceLeDiff, Nat.reduceEqDiff, Int.reduceLT, Int.reduceBEq, Int.reduceBNe, Nat.reduceBEq, List.append_nil, Int.toNat_zero, Nat.sub_self, Int.reduceNeg, ptr, mkB_size, mkB_extract, mkB_append, mkB_toList, lit46, lit47, lit6, strsRd_at, pr_same3, bytes_text, c1, c2, c3]
    (refine hk _ ?_; clear hk k; try show Sat _ _ _ _ _)
    (repeat refine Sat.seq ?_)
    (refine Sat.region_k fun k hk => ?_; simp -implicitDefEqProofs only [evr, id, reduceCtorEq, reduceIte, Nat.reduceMul, Nat.reduceAdd, Nat.reduceLT, Nat.reduceLeDiff, Nat.reduceEqDiff, Int.reduceLT, Int.reduceBEq, Int.reduceBNe, Nat.reduceBEq, List.append_nil, Int.toNat_zero, Nat.sub_self, Int.reduceNeg, ptr, mkB_size, mkB_extract, mkB_append, mkB_toList, lit46, lit47, lit6, strsRd_at, pr_same3, bytes_text, c1, c2, c3])
    refine ⟨by omega, ?_⟩
    refine wcall_slice k2 rfl (by simp -implicitDefEqProofs only [evr, id, reduceCtorEq, reduceIte, Nat.reduceMul, Nat.reduceAdd, Nat.reduceLT, Nat.reduceLeDiff, Nat.reduceEqDiff, Int.reduceLT, Int.reduceBEq, Int.reduceBNe, Nat.reduceBEq, List.append_nil, Int.toNat_zero, Nat.sub_self, Int.reduceNeg, ptr, mkB_size, mkB_extract, mkB_append, mkB_toList, lit46, lit47, lit6, strsRd_at, pr_same3, bytes_text, c1, c2, c3]; try rfl) ?_
    rintro r rfl
    simp -implicitDefEqProofs only [evr, id, reduceCtorEq, reduceIte, Nat.reduceMul, Nat.reduceAdd, Nat.reduceLT, Nat.reduceLeDiff, Nat.reduceEqDiff, Int.reduceLT, Int.reduceBEq, Int.reduceBNe, Nat.reduceBEq, List.append_nil, Int.toNat_zero, Nat.sub_self, Int.reduceNeg, ptr, mkB_size, mkB_extract, mkB_append, mkB_toList, lit46, lit47, lit6, strsRd_at, pr_same3, bytes_text, c1, c2, c3]
    (refine hk _ ?_; clear hk k; try show Sat _ _ _ _ _)
    (repeat refine Sat.seq ?_)
    (refine Sat.region_k fun k hk => ?_; simp -implicitDefEqProofs only [evr, id, reduceCtorEq, reduceIte, Nat.reduceMul, Nat.reduceAdd, Nat.reduceLT, Nat.reduceLeDiff, Nat.reduceEqDiff, Int.reduceLT, Int.reduceBEq, Int.reduceBNe, Nat.reduceBEq, List.append_nil, Int.toNat_zero, Nat.sub_self, Int.reduceNeg, ptr, mkB_size, mkB_extract, mkB_append, mkB_toList, lit46, lit47, lit6, strsRd_at, pr_same3, bytes_text, c1, c2, c3])
    refine ⟨by omega, ?_⟩
    refine wcall_slice k3 rfl (by simp -implicitDefEqProofs only [evr, id, reduceCtorEq, reduceIte, Nat.reduceMul, Nat.reduceAdd, Nat.reduceLT, Nat.reduceLeDiff, Nat.reduceEqDiff, Int.reduceLT, Int.reduceBEq, Int.reduceBNe, Nat.reduceBEq, List.append_nil, Int.toNat_zero, Nat.sub_self, Int.reduceNeg, ptr, mkB_size, mkB_extract, mkB_append, mkB_toList, lit46, lit47, lit6, strsRd_at, pr_same3, bytes_text, c1, c2, c3]; try rfl) ?_
    rintro r rfl
    simp -implicitDefEqProofs only [evr, id, reduceCtorEq, reduceIte, Nat.reduceMul, Nat.reduceAdd, Nat.reduceLT, Nat.reduceLeDiff, Nat.reduceEqDiff, Int.reduceLT, Int.reduceBEq, Int.reduceBNe, Nat.reduceBEq, List.append_nil, Int.toNat_zero, Nat.sub_self, Int.reduceNeg, ptr, mkB_size, mkB_extract, mkB_append, mkB_toList, lit46, lit47, lit6, strsRd_at, pr_same3, bytes_text, c1, c2, c3]
    intro c1'
    (refine hk _ ?_; clear hk k; try show Sat _ _ _ _ _)
    (repeat refine Sat.seq ?_)
    (refine Sat.region_k fun k hk => ?_; simp -implicitDefEqProofs only [evr, id, reduceCtorEq, reduceIte, Nat.reduceMul, Nat.reduceAdd, Nat.reduceLT, Nat.reduceLeDiff, Nat.reduceEqDiff, Int.reduceLT, Int.reduceBEq, Int.reduceBNe, Nat.reduceBEq, List.append_nil, Int.toNat_zero, Nat.sub_self, Int.reduceNeg, ptr, mkB_size, mkB_extract, mkB_append, mkB_toList, lit46, lit47, lit6, strsRd_at, pr_same3, bytes_text, c1, c2, c3])
    refine ⟨by omega, ?_⟩
    refine wcall_slice k4 rfl (by simp -implicitDefEqProofs only [evr, id, reduceCtorEq, reduceIte, Nat.reduceMul, Nat.reduceAdd, Nat.reduceLT, Nat.reduceLeDiff, Nat.reduceEqDiff, Int.reduceLT, Int.reduceBEq, Int.reduceBNe, Nat.reduceBEq, List.append_nil, Int.toNat_zero, Nat.sub_self, Int.reduceNeg, ptr, mkB_size, mkB_extract, mkB_append, mkB_toList, lit46, lit47, lit6, strsRd_at, pr_same3, bytes_text, c1, c2, c3]; try rfl) ?_
    rintro r rfl
    simp -implicitDefEqProofs only [evr, id, reduceCtorEq, reduceIte, Nat.reduceMul, Nat.reduceAdd, Nat.reduceLT, Nat.reduceLeDiff, Nat.reduceEqDiff, Int.reduceLT, Int.reduceBEq, Int.reduceBNe, Nat.reduceBEq, List.append_nil, Int.toNat_zero, Nat.sub_self, Int.reduceNeg, ptr, mkB_size, mkB_extract, mkB_append, mkB_toList, lit46, lit47, lit6, strsRd_at, pr_same3, bytes_text, c1, c2, c3]
    intro c2'
    (refine hk _ ?_; clear hk k; try show Sat _ _ _ _ _)
    (repeat refine Sat.seq ?_)
    refine Sat.region_k fun k hk => ?_
    simp -implicitDefEqProofs only [evr, id, reduceCtorEq, reduceIte, Nat.reduceMul, Nat.reduceAdd, Nat.reduceLT, Nat.reduceLeDiff, Nat.reduceEqDiff, Int.reduceLT, Int.reduceBEq, Int.reduceBNe, Nat.reduceBEq, List.append_nil, Int.toNat_zero, Nat.sub_self, Int.reduceNeg, ptr, mkB_size, mkB_extract, mkB_append, mkB_toList, lit46, lit47, lit6, strsRd_at, pr_same3, bytes_text, c1, c2, c3, bne_self_eq_false]
    (refine hk _ ?_; clear hk k; try show Sat _ _ _ _ _)
    (repeat refine Sat.seq ?_)
    refine Sat.cond_b rfl (fun h => by cases h) (fun _ => ?_)
    refine Sat.skip ?_
    simp only [thenK, blockK, reduceIte]
    refine Sat.region_k fun kk hkk => ?_
    simp -implicitDefEqProofs only [evr, id, reduceCtorEq, reduceIte, Nat.reduceMul, Nat.reduceAdd, Nat.reduceLT, Nat.reduceLeDiff, Nat.reduceEqDiff, Int.reduceLT, Int.reduceBEq, Int.reduceBNe, Nat.reduceBEq, List.append_nil, Int.toNat_zero, Nat.sub_self, Int.reduceNeg, ptr, mkB_size, mkB_extract, mkB_append, mkB_toList, lit46, lit47, lit6, strsRd_at, pr_same3, bytes_text, c1, c2, c3, e1]
    refine hkk _ ?_
    simp only [thenK, blockK]
    refine ⟨i + 1, by omega, by omega, ?_⟩
    simp -implicitDefEqProofs only [evr, id, reduceCtorEq, reduceIte, Nat.reduceMul, Nat.reduceAdd, Nat.reduceLT, Nat.reduceLeDiff, Nat.reduceEqDiff, Int.reduceLT, Int.reduceBEq, Int.reduceBNe, Nat.reduceBEq, List.append_nil, Int.toNat_zero, Nat.sub_self, Int.reduceNeg, ptr, mkB_size, mkB_extract, mkB_append, mkB_toList, lit46, lit47, lit6, strsRd_at, pr_same3, bytes_text, c1, c2, c3, evl]
  · refine Sat.exit ?_
    simp only [thenK, blockK, reduceIte]
    have kF2 := rfFormatC (FrAC cb) a ha
    have kP1 := (formatPrefixC p hp).tabT (cb := cb)
    have kP2 := rfFormatPrefixC (FrAC cb) p hp
    have kQ1 := (formatPrefixC q hq).tabT (cb := cb)
    unfold prS prC at kP1 kP2 kQ1
    (repeat refine Sat.seq ?_)
    (refine Sat.region_tree (.keep [0, 2] [] (.one 1 (.one 3 (.one 4 (.one 5 (.alt 6 (.alt 7 (.one 8 (.one 9 (.one 10 (.one 11 (.one 12 (.alt 13 (.alt 14 (.one 15 (.one 16 (.one 17 (.one 18 (.one 19 .done))))) (.alt 15 (.one 14 (.one 16 (.one 17 (.one 18 (.one 19 .done))))) .none)) (.alt 15 (.one 13 (.one 14 (.one 16 (.one 17 (.one 18 (.one 19 .done)))))) .none))))))) (.alt 8 (.one 7 (.one 9 (.one 10 (.one 11 (.one 12 (.alt 13 (.alt 14 (.one 15 (.one 16 (.one 17 (.one 18 (.one 19 .done))))) (.alt 15 (.one 14 (.one 16 (.one 17 (.one 18 (.one 19 .done))))) .none)) (.alt 15 (.one 13 (.one 14 (.one 16 (.one 17 (.one 18 (.one 19 .done)))))) .none))))))) .none)) (.alt 8 (.one 6 (.one 7 (.one 9 (.one 10 (.one 11 (.one 12 (.alt 13 (.alt 14 (.one 15 (.one 16 (.one 17 (.one 18 (.one 19 .done))))) (.alt 15 (.one 14 (.one 16 (.one 17 (.one 18 (.one 19 .done))))) .none)) (.alt 15 (.one 13 (.one 14 (.one 16 (.one 17 (.one 18 (.one 19 .done)))))) .none)))))))) .none))))))) (by kernel_rfl) (by kernel_rfl) (fun _ _ h => h) fun k hk => ?_; simp only [WOT, List.map_cons, List.map_nil, List.getD_cons_zero, List.getD_cons_succ]; simp -implicitDefEqProofs only [evr, id, reduceCtorEq, reduceIte, Nat.reduceMul, Nat.reduceAdd, Nat.reduceLT, Nat.reduceLeDiff, Nat.reduceEqDiff, Int.reduceLT, Int.reduceBEq, Int.reduceBNe, Nat.reduceBEq, List.append_nil, Int.toNat_zero, Nat.sub_self, Int.reduceNeg, ptr, mkB_size, mkB_extract, mkB_append, mkB_toList, lit46, lit47, lit6, strsRd_at, pr_same3, bytes_text, c1, c2, c3, WOT])
    repeat' (first
      | (refine And.intro ?_ ?_)
      | (refine wcall_slice kF rfl ?_ ?_; (focus (simp -implicitDefEqProofs only [evr, id, reduceCtorEq, reduceIte, Nat.reduceMul, Nat.reduceAdd, Nat.reduceLT, Nat.reduceLeDiff, Nat.reduceEqDiff, Int.reduceLT, Int.reduceBEq, Int.reduceBNe, Nat.reduceBEq, List.append_nil, Int.toNat_zero, Nat.sub_self, Int.reduceNeg, ptr, mkB_size, mkB_extract, mkB_append, mkB_toList, lit46, lit47, lit6, strsRd_at, pr_same3, bytes_text, c1, c2, c3]; try rfl)); rintro r rfl; simp -implicitDefEqProofs only [evr, id, reduceCtorEq, reduceIte, Nat.reduceMul, Nat.reduceAdd, Nat.reduceLT, Nat.reduceLeDiff, Nat.reduceEqDiff, Int.reduceLT, Int.reduceBEq, Int.reduceBNe, Nat.reduceBEq, List.append_nil, Int.toNat_zero, Nat.sub_self, Int.reduceNeg, ptr, mkB_size, mkB_extract, mkB_append, mkB_toList, lit46, lit47, lit6, strsRd_at, pr_same3, bytes_text, c1, c2, c3])
      | (refine wcall_slice kF2 rfl ?_ ?_; (focus (simp -implicitDefEqProofs only [evr, id, reduceCtorEq, reduceIte, Nat.reduceMul, Nat.reduceAdd, Nat.reduceLT, Nat.reduceLeDiff, Nat.reduceEqDiff, Int.reduceLT, Int.reduceBEq, Int.reduceBNe, Nat.reduceBEq, List.append_nil, Int.toNat_zero, Nat.sub_self, Int.reduceNeg, ptr, mkB_size, mkB_extract, mkB_append, mkB_toList, lit46, lit47, lit6, strsRd_at, pr_same3, bytes_text, c1, c2, c3]; try rfl)); rintro r rfl; simp -implicitDefEqProofs only [evr, id, reduceCtorEq, reduceIte, Nat.reduceMul, Nat.reduceAdd, Nat.reduceLT, Nat.reduceLeDiff, Nat.reduceEqDiff, Int.reduceLT, Int.reduceBEq, Int.reduceBNe, Nat.reduceBEq, List.append_nil, Int.toNat_zero, Nat.sub_self, Int.reduceNeg, ptr, mkB_size, mkB_extract, mkB_append, mkB_toList, lit46, lit47, lit6, strsRd_at, pr_same3, bytes_text, c1, c2, c3])
      | (refine wcall_slice kP1 rfl ?_ ?_; (focus (simp -implicitDefEqProofs only [evr, id, reduceCtorEq, reduceIte, Nat.reduceMul, Nat.reduceAdd, Nat.reduceLT, Nat.reduceLeDiff, Nat.reduceEqDiff, Int.reduceLT, Int.reduceBEq, Int.reduceBNe, Nat.reduceBEq, List.append_nil, Int.toNat_zero, Nat.sub_self, Int.reduceNeg, ptr, mkB_size, mkB_extract, mkB_append, mkB_toList, lit46, lit47, lit6, strsRd_at, pr_same3, bytes_text, c1, c2, c3]; try rfl)); rintro r rfl; simp -implicitDefEqProofs only [evr, id, reduceCtorEq, reduceIte, Nat.reduceMul, Nat.reduceAdd, Nat.reduceLT, Nat.reduceLeDiff, Nat.reduceEqDiff, Int.reduceLT, Int.reduceBEq, Int.reduceBNe, Nat.reduceBEq, List.append_nil, Int.toNat_zero, Nat.sub_self, Int.reduceNeg, ptr, mkB_size, mkB_extract, mkB_append, mkB_toList, lit46, lit47, lit6, strsRd_at, pr_same3, bytes_text, c1, c2, c3])
      | (refine wcall_slice kP2 rfl ?_ ?_; (focus (simp -implicitDefEqProofs only [evr, id, reduceCtorEq, reduceIte, Nat.reduceMul, Nat.reduceAdd, Nat.reduceLT, Nat.reduceLeDiff, Nat.reduceEqDiff, Int.reduceLT, Int.reduceBEq, Int.reduceBNe, Nat.reduceBEq, List.append_nil, Int.toNat_zero, Nat.sub_self, Int.reduceNeg, ptr, mkB_size, mkB_extract, mkB_append, mkB_toList, lit46, lit47, lit6, strsRd_at, pr_same3, bytes_text, c1, c2, c3]; try rfl)); rintro r rfl; simp -implicitDefEqProofs only [evr, id, reduceCtorEq, reduceIte, Nat.reduceMul, Nat.reduceAdd, Nat.reduceLT, Nat.reduceLeDiff, Nat.reduceEqDiff, Int.reduceLT, Int.reduceBEq, Int.reduceBNe, Nat.reduceBEq, List.append_nil, Int.toNat_zero, Nat.sub_self, Int.reduceNeg, ptr, mkB_size, mkB_extract, mkB_append, mkB_toList, lit46, lit47, lit6, strsRd_at, pr_same3, bytes_text, c1, c2, c3])
      | (refine wcall_slice kQ1 rfl ?_ ?_; (focus (simp -implicitDefEqProofs only [evr, id, reduceCtorEq, reduceIte, Nat.reduceMul, Nat.reduceAdd, Nat.reduceLT, Nat.reduceLeDiff, Nat.reduceEqDiff, Int.reduceLT, Int.reduceBEq, Int.reduceBNe, Nat.reduceBEq, List.append_nil, Int.toNat_zero, Nat.sub_self, Int.reduceNeg, ptr, mkB_size, mkB_extract, mkB_append, mkB_toList, lit46, lit47, lit6, strsRd_at, pr_same3, bytes_text, c1, c2, c3]; try rfl)); rintro r rfl; simp -implicitDefEqProofs only [evr, id, reduceCtorEq, reduceIte, Nat.reduceMul, Nat.reduceAdd, Nat.reduceLT, Nat.reduceLeDiff, Nat.reduceEqDiff, Int.reduceLT, Int.reduceBEq, Int.reduceBNe, Nat.reduceBEq, List.append_nil, Int.toNat_zero, Nat.sub_self, Int.reduceNeg, ptr, mkB_size, mkB_extract, mkB_append, mkB_toList, lit46, lit47, lit6, strsRd_at, pr_same3, bytes_text, c1, c2, c3])
      | (refine wcall_slice kG rfl ?_ ?_; (focus (simp -implicitDefEqProofs only [evr, id, reduceCtorEq, reduceIte, Nat.reduceMul, Nat.reduceAdd, Nat.reduceLT, Nat.reduceLeDiff, Nat.reduceEqDiff, Int.reduceLT, Int.reduceBEq, Int.reduceBNe, Nat.reduceBEq, List.append_nil, Int.toNat_zero, Nat.sub_self, Int.reduceNeg, ptr, mkB_size, mkB_extract, mkB_append, mkB_toList, lit46, lit47, lit6, strsRd_at, pr_same3, bytes_text, c1, c2, c3]; try rfl)); rintro r rfl; simp -implicitDefEqProofs only [evr, id, reduceCtorEq, reduceIte, Nat.reduceMul, Nat.reduceAdd, Nat.reduceLT, Nat.reduceLeDiff, Nat.reduceEqDiff, Int.reduceLT, Int.reduceBEq, Int.reduceBNe, Nat.reduceBEq, List.append_nil, Int.toNat_zero, Nat.sub_self, Int.reduceNeg, ptr, mkB_size, mkB_extract, mkB_append, mkB_toList, lit46, lit47, lit6, strsRd_at, pr_same3, bytes_text, c1, c2, c3])
      | rfl)
    all_goals
      refine hk _ ?_
      clear hk
      try simp only [thenK]
      refine Sat.ret ?_
      simp only [Tryd.results3, evr, id, reduceCtorEq, reduceIte, Nat.reduceMul, Nat.reduceAdd, Nat.reduceLT, Nat.reduceLeDiff, Nat.reduceEqDiff, Int.reduceLT, Int.reduceBEq, Int.reduceBNe, Nat.reduceBEq, List.append_nil, Int.toNat_zero, Nat.sub_self, Int.reduceNeg, ptr, mkB_size, mkB_extract, mkB_append, mkB_toList, lit46, lit47, lit6, strsRd_at, pr_same3, bytes_text, c1, c2, c3]
end Go.Proofs.YtceacooambpkdaaDoor

/- What comes in (a parameter's value with what it reaches), as the evaluator knows it. -/
set_option linter.unusedSimpArgs false
set_option linter.unusedVariables false
namespace Go.Proofs.YtceacooambpkdaaDoor
namespace Eng
open Go.WideShapes Go.ChangeShapes

/-- fields that lie one behind the other, from off on -/
def contig (P : Program) : Nat → List Field → Option Nat
  | off, [] => some off
  | off, f :: fs => if f.offset = off then contig P (off + P.cellsOf f.type) fs else none

/-- the types that are served, to depth D -/
def serv (P : Program) : Nat → TypeId → Bool
  | 0, _ => false
  | D + 1, t =>
    match P.underlying t with
    | some .bool => P.cellsOf t == 1
    | some (.int _) => P.cellsOf t == 1
    | some .string => P.cellsOf t == 1
    | some (.slice e) => (serv P D e && P.cellsOf t == 1) && P.cellsOf e != 0
    | some (.struct fs) => fs.toList.all (fun f => serv P D f.type) && (contig P 0 fs.toList == some (P.cellsOf t))
    | _ => false

/-- what the cells of a value of a type are -/
def Sh (P : Program) : Nat → TypeId → List SV → Prop
  | 0, _, _ => False
  | D + 1, t, l =>
    match P.underlying t with
    | some .bool => ∃ b, l = [.b b]
    | some (.int k) => ∃ n, l = [.i k n] ∧ (Lit.int k n).wf = true
    | some .string => ∃ s, l = [.v (.string s)] ∧ s.size ≤ maxLen
    | some (.slice e) => ∃ a len cap rd, l = [.sl a len cap (P.cellsOf e) rd] ∧ ∀ i, i < len → Sh P D e ((List.range (P.cellsOf e)).map (rd i))
    | some (.struct fs) => l.length = P.cellsOf t ∧ ∀ f ∈ fs.toList, Sh P D f.type ((l.drop f.offset).take (P.cellsOf f.type))
    | _ => False

/-- cells that came in -/
def Came (w : World) (l : List SV) : Prop := ∀ s ∈ l, s.ok (fun b => b < w.heap.size) w ∧ s.den.oneCell' = true

variable {H : Type} {enc : TypeId × Value → H} {P : Program} {w : World} {spare : Nat → Bool} {held : Bool}

theorem map_range_getD (l : List SV) : (List.range l.length).map (fun j => l.getD j default) = l := by
  apply List.ext_getElem?
  intro i
  by_cases h : i < l.length
  · simp [h, List.getD]
  · simp [h]

theorem came_nil (w : World) : Came w [] := fun s hs => by cases hs
theorem came_one {w : World} {s : SV} (h : s.ok (fun b => b < w.heap.size) w) (h1 : s.den.oneCell' = true) : Came w [s] := fun s' hs => by obtain rfl := List.mem_singleton.1 hs; exact ⟨h, h1⟩

theorem open_fields {D n : Nat} {cs : List Value} (ih : ∀ t, serv P D t = true → ∀ fuel cs x, DataW.trod enc P w 0 spare held fuel t cs = some x → ∃ l : List SV, l.map SV.den = cs ∧ Came w l ∧ Sh P D t l ∧ l.length = P.cellsOf t) :
    ∀ (fs : List Field) (off e : Nat), fs.all (fun f => serv P D f.type) = true → contig P off fs = some e → e = cs.length → (∀ f ∈ fs, ∃ x, DataW.trod enc P w 0 spare held n f.type ((cs.drop f.offset).take (P.cellsOf f.type)) = some x) →
      ∃ l : List SV, l.map SV.den = cs.drop off ∧ Came w l ∧ (∀ f ∈ fs, off ≤ f.offset ∧ Sh P D f.type ((l.drop (f.offset - off)).take (P.cellsOf f.type)))
  | [], off, e, _, hc, he, _ => by
    simp only [contig, Option.some.injEq] at hc
    exact ⟨[], by simp; omega, came_nil w, (fun f hf => by cases hf)⟩
  | f :: fs, off, e, hs, hc, he, h => by
    simp only [contig] at hc
    split at hc
    · rename_i ho
      simp only [List.all_cons, Bool.and_eq_true] at hs
      obtain ⟨x, hx⟩ := h f (by simp)
      obtain ⟨l1, h1, h2, h3, h4⟩ := ih f.type hs.1 n _ x hx
      obtain ⟨l2, g1, g2, g3⟩ := open_fields ih fs (off + P.cellsOf f.type) e hs.2 hc he (fun g hg => h g (by simp [hg]))
      refine ⟨l1 ++ l2, ?_, ?_, ?_⟩
      · rw [List.map_append, h1, g1, ho, ← List.drop_drop]
        exact List.take_append_drop _ _
      · intro s hs
        rcases List.mem_append.1 hs with hs | hs
        · exact h2 s hs
        · exact g2 s hs
      · intro g hg
        rcases List.mem_cons.1 hg with rfl | hg
        · refine ⟨by omega, ?_⟩
          rw [ho, Nat.sub_self, List.drop_zero, List.take_append_of_le_length (by omega), List.take_of_length_le (by omega)]
          exact h3
        · obtain ⟨k1, k2⟩ := g3 g hg
          refine ⟨by omega, ?_⟩
          rw [List.drop_append, List.drop_eq_nil_of_le (by omega), List.nil_append, show g.offset - off - l1.length = g.offset - (off + P.cellsOf f.type) by omega]
          exact k2
    · cases hc

theorem open_sh : ∀ (D : Nat) (t : TypeId), serv P D t = true → ∀ (fuel : Nat) (cs : List Value) (x : DataW H × List MemPlace), DataW.trod enc P w 0 spare held fuel t cs = some x →
    ∃ l : List SV, l.map SV.den = cs ∧ Came w l ∧ Sh P D t l ∧ l.length = P.cellsOf t
  | 0, _, h, _, _, _, _ => by simp [serv] at h
  | D + 1, t, hs, fuel, cs, x, h => by
    unfold serv at hs
    unfold Sh
    cases hu : P.underlying t with
    | none => simp [hu] at hs
    | some kd =>
      cases kd
      case bool =>
        obtain ⟨b, rfl, rfl⟩ := DataW.trod_bool hu h
        exact ⟨[.b b], rfl, came_one trivial rfl, ⟨b, rfl⟩, by simp only [hu, beq_iff_eq] at hs; rw [hs]; rfl⟩
      case int k =>
        obtain ⟨m, rfl, rfl, hw⟩ := DataW.trod_int hu h
        exact ⟨[.i k m], rfl, came_one trivial rfl, ⟨m, rfl, hw⟩, by simp only [hu, beq_iff_eq] at hs; rw [hs]; rfl⟩
      case string =>
        obtain ⟨s, rfl, rfl, hw⟩ := DataW.trod_string hu h
        exact ⟨[.v (.string s)], rfl, came_one trivial rfl, ⟨s, rfl, hw⟩, by simp only [hu, beq_iff_eq] at hs; rw [hs]; rfl⟩
      case slice e =>
        simp only [hu, Bool.and_eq_true, beq_iff_eq, bne_iff_ne] at hs
        obtain ⟨hs, hz⟩ := hs
        rcases DataW.trod_slice hu h with ⟨rfl, rfl⟩ | ⟨a, len, cap, elems, rest, n, rfl, rfl, rfl, hb, hl, hm, hlen, hel, _, _⟩
        · exact ⟨[.sl none 0 0 (P.cellsOf e) default], rfl, came_one ⟨Nat.le_refl _, Nat.zero_le _, .inl rfl⟩ rfl, ⟨none, 0, 0, default, rfl, fun i hi => by omega⟩, by rw [hs.2]; rfl⟩
        · have each : ∀ i, i < len → ∃ l : List SV, (∃ cs, w.cells? 0 (a.add (i * P.cellsOf e)) (P.cellsOf e) = some cs ∧ l.map SV.den = cs) ∧ Came w l ∧ Sh P D e l ∧ l.length = P.cellsOf e := fun i hi => by
            have h1 := hel i hi
            obtain ⟨y, hy⟩ : ∃ y, elems[i]? = some y := ⟨elems[i]'(by omega), by simp⟩
            rw [hy, Option.bind_eq_some_iff] at h1
            obtain ⟨cs, h2, h3⟩ := h1
            obtain ⟨l, g1, g2, g3, g4⟩ := open_sh D e hs.1 n cs y h3
            exact ⟨l, ⟨cs, h2, g1⟩, g2, g3, g4⟩
          have pick : ∀ i, ∃ l : List SV, i < len → (∃ cs, w.cells? 0 (a.add (i * P.cellsOf e)) (P.cellsOf e) = some cs ∧ l.map SV.den = cs) ∧ Came w l ∧ Sh P D e l ∧ l.length = P.cellsOf e := fun i => by
            by_cases hi : i < len
            · obtain ⟨l, h⟩ := each i hi; exact ⟨l, fun _ => h⟩
            · exact ⟨[], fun h => absurd h hi⟩
          obtain ⟨rd, hrd⟩ := Classical.axiomOfChoice pick
          refine ⟨[.sl (some a) len cap (P.cellsOf e) fun i j => (rd i).getD j default], rfl, came_one ⟨hl, hm, ?_⟩ rfl, ⟨some a, len, cap, _, rfl, fun i hi => ?_⟩, by rw [hs.2]; rfl⟩
          · by_cases h0 : len = 0
            · exact .inl h0
            · · obtain ⟨blk, off, spot⟩ := a
                have cell : ∀ i j, i < len → j < P.cellsOf e → ∃ s, (rd i)[j]? = some s ∧ w.cell? ((Addr.mk blk off spot).add (i * P.cellsOf e + j)) = some s.den ∧ s.den.oneCell' = true ∧ s.ok (fun b => b < w.heap.size) w := fun i j hi hj => by
                  obtain ⟨⟨cs, h1, h2⟩, h3, h4, h5⟩ := hrd i hi
                  obtain ⟨_, k1, k2⟩ := World.cells?_some h1
                  have hj' : j < (rd i).length := by omega
                  refine ⟨(rd i)[j], by simp, ?_, (h3 _ (List.getElem_mem hj')).2, (h3 _ (List.getElem_mem hj')).1⟩
                  have h6 := k2 j hj
                  rw [← h2] at h6
                  rw [show (Addr.mk blk off spot).add (i * P.cellsOf e + j) = ((Addr.mk blk off spot).add (i * P.cellsOf e)).add j by rw [Addr.add_add], h6]
                  simp [hj']
                obtain ⟨s0, _, hc0, _⟩ := cell 0 0 (by omega) (by omega)
                have hspot : spot = none := by simpa [Addr.add] using World.cell?_spot hc0
                subst hspot
                refine .inr ⟨blk, off, rfl, by simpa [Addr.add] using World.block_lt_of_cell? w _ hc0, fun i j hi hj => ?_⟩
                obtain ⟨s, h1, h2, h3, h4⟩ := cell i j hi hj
                rw [Addr.add_lit, ← Nat.add_assoc] at h2
                have : (rd i).getD j default = s := by simp [List.getD, h1]
                show _ = some ((rd i).getD j default).den ∧ ((rd i).getD j default).den.oneCell' = true ∧ _
                simp only [this]
                exact ⟨h2, h3, h4⟩
          · have h5 := (hrd i hi).2.2.2
            rw [← h5, map_range_getD]
            exact (hrd i hi).2.2.1
      case struct fs =>
        simp only [hu, Bool.and_eq_true, beq_iff_eq] at hs
        obtain ⟨xs, n, rfl, rfl, hl, hlen, hf⟩ := DataW.trod_struct hu h
        obtain ⟨l, h1, h2, h3⟩ := open_fields (n := n) (cs := cs) (fun t ht fuel cs x hx => open_sh D t ht fuel cs x hx) fs.toList 0 _ hs.1 hs.2 hl.symm (fun f hf' => by
          obtain ⟨i, hi, rfl⟩ := List.getElem_of_mem hf'
          have hi' : i < xs.length := by rw [hlen]; simpa using hi
          exact ⟨xs[i], by rw [hf i _ (by simp)]; simp⟩)
        have hll : l.length = P.cellsOf t := by rw [← hl, ← List.length_map (f := SV.den), h1]; simp
        exact ⟨l, by simpa using h1, h2, ⟨hll, fun f hf => by simpa using (h3 f hf).2⟩, hll⟩
      all_goals (simp [hu] at hs)
/-- the value of a type that has these cells -/
def valS (P : Program) (t : TypeId) (l : List SV) : SV := match P.underlying t with | some (.struct _) => .agg l.length (fun j => l.getD j default) | _ => l.headD default

theorem open_val2 {D : Nat} {t : TypeId} {v : Value} {d : DataW H} {ps : List MemPlace} {base : Nat} (hs : serv P D t = true) (hv : Value.okWide P w .any base t v) (h : DataW.Trod enc P w 0 spare held t v d ps) :
    ∃ l, v = (valS P t l).den ∧ Came w l ∧ Sh P D t l ∧ (∀ s, valS P t l = s → s.ok (fun b => b < w.heap.size) w) ∧ l.map SV.den = v.cells.toList := by
  obtain ⟨fuel, h⟩ := h
  obtain ⟨l, h1, h2, h3, h4⟩ := open_sh D t hs fuel _ _ h
  refine ⟨l, ?_, h2, h3, ?_, h1⟩
  · unfold valS
    cases D with
    | zero => simp [serv] at hs
    | succ D =>
    unfold serv at hs
    have one : v.cells.toList = [v] → (match P.underlying t with | some (.struct _) => False | _ => True) → v = (match P.underlying t with | some (.struct _) => SV.agg l.length (fun j => l.getD j default) | _ => l.headD default).den := fun hc hn => by
      rw [hc] at h1
      obtain ⟨s, rfl⟩ : ∃ s, l = [s] := by
        match l, h1 with
        | [s], _ => exact ⟨s, rfl⟩
      simp only [List.map_cons, List.map_nil, List.cons.injEq, and_true] at h1
      split
      · rename_i hu; rw [hu] at hn; exact hn.elim
      · exact h1.symm
    cases hu : P.underlying t with
    | none => simp [hu] at hs
    | some kd =>
      rw [hu] at one
      cases kd
      case bool => obtain ⟨b, rfl⟩ := okWide_bool hu hv; exact one rfl trivial
      case int k => obtain ⟨b, rfl⟩ := okWide_int hu hv; exact one rfl trivial
      case string => obtain ⟨b, rfl⟩ := okWide_string hu hv; exact one rfl trivial
      case slice e => obtain ⟨a, b, c, rfl⟩ := okWide_slice hu hv; exact one rfl trivial
      case struct fs =>
        obtain ⟨cs, rfl, _⟩ := okWide_struct hu hv
        simp only [Value.cells] at h1
        simp only [SV.den]
        congr 1
        apply Array.toList_inj.1
        rw [← h1, List.toList_toArray]
        conv => lhs; rw [← map_range_getD l]
        rw [List.map_map]
        rfl
      all_goals (simp [hu] at hs)
  · rintro s rfl
    unfold valS
    split
    · intro j hj
      have : l.getD j default = l[j] := by simp [List.getD, hj]
      show SV.ok _ _ (l.getD j default)
      rw [this]
      exact (h2 _ (List.getElem_mem hj)).1
    · cases l with
      | nil => trivial
      | cons s l => exact (h2 s (by simp)).1
theorem open_val {D : Nat} {t : TypeId} {v : Value} {d : DataW H} {ps : List MemPlace} {base : Nat} (hs : serv P D t = true) (hv : Value.okWide P w .any base t v) (h : DataW.Trod enc P w 0 spare held t v d ps) :
    ∃ l, v = (valS P t l).den ∧ Came w l ∧ Sh P D t l ∧ (∀ s, valS P t l = s → s.ok (fun b => b < w.heap.size) w) := by
  obtain ⟨l, h1, h2, h3, h4, _⟩ := open_val2 hs hv h
  exact ⟨l, h1, h2, h3, h4⟩
/-! ### What a shape says -/
theorem sh_int {D : Nat} {t : TypeId} {k : IntKind} {l : List SV} (hu : P.underlying t = some (.int k)) (h : Sh P (D + 1) t l) : ∃ n, l = [.i k n] ∧ (Lit.int k n).wf = true := by
  unfold Sh at h; rw [hu] at h; exact h
theorem sh_bool {D : Nat} {t : TypeId} {l : List SV} (hu : P.underlying t = some .bool) (h : Sh P (D + 1) t l) : ∃ b, l = [.b b] := by
  unfold Sh at h; rw [hu] at h; exact h
theorem sh_string {D : Nat} {t : TypeId} {l : List SV} (hu : P.underlying t = some .string) (h : Sh P (D + 1) t l) : ∃ s, l = [.v (.string s)] ∧ s.size ≤ maxLen := by
  unfold Sh at h; rw [hu] at h; exact h
theorem sh_struct {D : Nat} {t : TypeId} {fs : Array Field} {l : List SV} (hu : P.underlying t = some (.struct fs)) (h : Sh P (D + 1) t l) : l.length = P.cellsOf t ∧ ∀ f ∈ fs.toList, Sh P D f.type ((l.drop f.offset).take (P.cellsOf f.type)) := by
  unfold Sh at h; rw [hu] at h; exact h
/-- a slice: a list of what its elements are -/
theorem sh_slice {A : Type} [Inhabited A] (cs : A → List SV) (Q : A → Prop) {D sz : Nat} {t e : TypeId} {l : List SV} (hu : P.underlying t = some (.slice e)) (hc : P.cellsOf e = sz) (hel : ∀ l, Sh P D e l → ∃ x : A, l = cs x ∧ Q x) (h : Sh P (D + 1) t l) :
    ∃ (a : Option Addr) (cap : Nat) (xs : List A) (rd : Nat → Nat → SV), l = [.sl a xs.length cap sz rd] ∧ (∀ x ∈ xs, Q x) ∧ rdEq xs.length sz rd (fun i j => (cs (xs.getD i default)).getD j default) := by
  unfold Sh at h
  rw [hu] at h
  obtain ⟨a, len, cap, rd, rfl, h⟩ := h
  rw [hc] at h
  have pick : ∀ i, ∃ x : A, i < len → (List.range sz).map (rd i) = cs x ∧ Q x := fun i => by
    by_cases hi : i < len
    · rw [← hc] at h ⊢
      obtain ⟨x, h1, h2⟩ := hel _ (h i hi)
      exact ⟨x, fun _ => ⟨h1, h2⟩⟩
    · exact ⟨default, fun h => absurd h hi⟩
  obtain ⟨f, hf⟩ := Classical.axiomOfChoice pick
  refine ⟨a, cap, (List.range len).map f, rd, by simp [hc], fun x hx => ?_, fun i j hi hj => ?_⟩
  · obtain ⟨i, hi, rfl⟩ := List.mem_map.1 hx
    exact (hf i (List.mem_range.1 hi)).2
  · have hi' : i < len := by simpa using hi
    have : ((List.range len).map f).getD i default = f i := by simp [List.getD, hi']
    show rd i j = (cs (((List.range len).map f).getD i default)).getD j default
    rw [this, ← (hf i hi').1]
    simp [List.getD, hj]
theorem sh_ints {D : Nat} {t e : TypeId} {k : IntKind} {l : List SV} (hu : P.underlying t = some (.slice e)) (he : P.underlying e = some (.int k)) (hc : P.cellsOf e = 1) (h : Sh P (D + 2) t l) :
    ∃ (a : Option Addr) (cap : Nat) (z : List Int) (rd : Nat → Nat → SV), l = [.sl a z.length cap 1 rd] ∧ (∀ n ∈ z, (Lit.int k n).wf = true) ∧ rdEq z.length 1 rd (fun i _ => .i k (z.getD i 0)) := by
  obtain ⟨a, cap, xs, rd, h1, h2, h3⟩ := sh_slice (fun n : Int => [SV.i k n]) (fun n => (Lit.int k n).wf = true) hu hc (fun l h => sh_int he h) h
  refine ⟨a, cap, xs, rd, h1, h2, fun i j hi hj => ?_⟩
  obtain rfl : j = 0 := by omega
  rw [h3 i 0 hi hj]
  rfl
theorem valS_one {t : TypeId} {s : SV} (h : (match P.underlying t with | some (.struct _) => false | _ => true) = true) : valS P t [s] = s := by
  unfold valS
  split
  · rename_i hu; rw [hu] at h; cases h
  · rfl
end Eng
end Go.Proofs.YtceacooambpkdaaDoor

/- The frame of the proof of 'Rows.AddressTextsSaid': from the walk of the Go function to the given statement. Written by a program (wip/shell2.py). -/
namespace Go.Proofs.YtceacooambpkdaaDoor.addressTexts
open Go.ChangeShapes Go.WideShapes Go.ChangeAt Go.RowKit Go.Proofs.YtceacooambpkdaaDoor.Eng
open Go.ChangeMaps (open_string shut_string)
set_option linter.unusedVariables false

theorem own : ownKnob Tryd.prog.godebug = none := by kernel_rfl
theorem laidOut : laidOutB Tryd.prog = true := by kernel_rfl

/-- the walk: whatever the input, the call returns true, and what was there is as it was -/
def Walk : Prop := ∀ (w : World) (_ : laidMetH Tryd.prog Rows.addressTextsRow.laid w) (l0 : List SV) (l1 : List SV) (l2 : List SV) (l3 : List SV), Came w l0 → Sh Tryd.prog 8 9 l0 → (valS Tryd.prog 9 l0).ok (fun b => b < w.heap.size) w → Came w l1 → Sh Tryd.prog 8 23 l1 → (valS Tryd.prog 23 l1).ok (fun b => b < w.heap.size) w → Came w l2 → Sh Tryd.prog 8 25 l2 → (valS Tryd.prog 25 l2).ok (fun b => b < w.heap.size) w → Came w l3 → Sh Tryd.prog 8 26 l3 → (valS Tryd.prog 26 l3).ok (fun b => b < w.heap.size) w →
    Calls Tryd.prog 3 #[(valS Tryd.prog 9 l0).den, (valS Tryd.prog 23 l1).den, (valS Tryd.prog 25 l2).den, (valS Tryd.prog 26 l3).den] w fun e w' => e = .returned (.bool true) ∧ Below w.heap.size w w'

/-- The door's own heap meets the condition. -/
theorem door_met (os : Os) (args : Array Value) : laidMetH Tryd.prog Rows.addressTextsRow.laid ((World.doorLaid Tryd.prog 83 os).forCall (fun _ _ => 0) ⟨#[], args, []⟩).memory :=
  laidMetH_of_parts3 (fuel := 8) (laidMet_of_run' 8 (by kernel_rfl) (by kernel_rfl)) (by kernel_rfl) (by kernel_rfl)

set_option maxRecDepth 100000 in
theorem lifted (walk : Walk) (os : Os) (started : os.Started) (H : Type) (enc : TypeId × Value → H) :
    ReturnsInHanded {} Tryd.checked os 3 .any (fun w args => (Rows.addressTextsSpec.pre enc Tryd.prog Tryd.f3 Rows.addressTextsRow.domain false w args ∧ laidMetH Tryd.prog Rows.addressTextsRow.laid w) ∧ sizedMet enc Tryd.prog Tryd.f3 (OpenSpec.ofChange Rows.addressTextsSpec) false w args) (Rows.addressTextsSpec.post enc Tryd.prog Tryd.f3 false true false false) := by
  refine returnsInHanded_of_change_and (C := Tryd.checked) (X := fun w _ => laidMetH Tryd.prog Rows.addressTextsRow.laid w) (fun _ _ _ hh h => h.of_heap hh) own started (by kernel_rfl) Tryd.func3
    (ChangeSpec.witness_shaped (enc := enc) (C := Tryd.checked) (os := os) (X := fun w _ => laidMetH Tryd.prog Rows.addressTextsRow.laid w) false (World.doorLaid Tryd.prog 83 os) #[.string ByteArray.empty, .int .u32 0, .agg #[.int .u32 0, .int .i64 0], .slice none 0 0] 8 rfl (World.shaped_of_RefB (by kernel_rfl) (by kernel_rfl)) (by kernel_rfl) (by kernel_rfl) (by kernel_rfl) (door_met os _)) ?_
  intro W base args ds gs before hval0 hW hcnd _ hL _
  have hval : ∀ (j : Nat) t v, Tryd.f3.params[j]? = some t → args[j]? = some v → Value.okWide Tryd.prog W .any base t v := hval0
  have hW' := hW
  obtain ⟨p, q, hA0, hV, rfl, hfz, hnd⟩ := hW
  have hA : DataW.TrodAll enc Tryd.prog W 0 (fun _ => true) true Tryd.f3.params.toList args.toList ds p := hA0
  rw [Tryd.params3] at hA hval
  obtain ⟨v0, vs0, d0, ds0, p0, q0, hargs, rfl, rfl, h0, r0⟩ := trodAll_cons hA
  obtain ⟨v1, vs1, d1, ds1, p1, q1, rfl, rfl, rfl, h1, r1⟩ := trodAll_cons r0
  obtain ⟨v2, vs2, d2, ds2, p2, q2, rfl, rfl, rfl, h2, r2⟩ := trodAll_cons r1
  obtain ⟨v3, vs3, d3, ds3, p3, q3, rfl, rfl, rfl, h3, r3⟩ := trodAll_cons r2
  obtain ⟨rfl, rfl, rfl⟩ := trodAll_nil r3
  obtain rfl : args = #[v0, v1, v2, v3] := by cases args; simp_all
  obtain ⟨rfl, rfl⟩ := trodVars_none hV
  have lt0 : ∀ x ∈ p0, x.block < W.heap.size := by obtain ⟨m, hm⟩ := h0; exact DataW.trod_lt m _ _ _ hm
  obtain ⟨l0, e0, c0, s0, o0⟩ := open_val (D := 8) (t := 9) (by kernel_rfl) (hval 0 9 v0 rfl rfl) h0
  have lt1 : ∀ x ∈ p1, x.block < W.heap.size := by obtain ⟨m, hm⟩ := h1; exact DataW.trod_lt m _ _ _ hm
  obtain ⟨l1, e1, c1, s1, o1⟩ := open_val (D := 8) (t := 23) (by kernel_rfl) (hval 1 23 v1 rfl rfl) h1
  have lt2 : ∀ x ∈ p2, x.block < W.heap.size := by obtain ⟨m, hm⟩ := h2; exact DataW.trod_lt m _ _ _ hm
  obtain ⟨l2, e2, c2, s2, o2⟩ := open_val (D := 8) (t := 25) (by kernel_rfl) (hval 2 25 v2 rfl rfl) h2
  have lt3 : ∀ x ∈ p3, x.block < W.heap.size := by obtain ⟨m, hm⟩ := h3; exact DataW.trod_lt m _ _ _ hm
  obtain ⟨l3, e3, c3, s3, o3⟩ := open_val (D := 8) (t := 26) (by kernel_rfl) (hval 3 26 v3 rfl rfl) h3
  clear hA0 hval0
  have HW := (walk W hL l0 l1 l2 l3 c0 s0 (o0 _ rfl) c1 s1 (o1 _ rfl) c2 s2 (o2 _ rfl) c3 s3 (o3 _ rfl))
  rw [← e0, ← e1, ← e2, ← e3] at HW
  refine HW.mono fun e W' ⟨he, bel⟩ => ?_
  subst he
  exact ⟨_, rfl, _, _, _, [], _, [], hW', trodAll_mk1 (shut_bool Tryd.underlying4 _), (trodAll_cons_mk (Below.trod laidOut (by kernel_rfl) (of_decide_eq_true (by kernel_rfl)) h0 bel lt0) (trodAll_cons_mk (Below.trod laidOut (by kernel_rfl) (of_decide_eq_true (by kernel_rfl)) h1 bel lt1) (trodAll_cons_mk (Below.trod laidOut (by kernel_rfl) (of_decide_eq_true (by kernel_rfl)) h2 bel lt2) (trodAll_cons_mk (Below.trod laidOut (by kernel_rfl) (of_decide_eq_true (by kernel_rfl)) h3 bel lt3) trodAll_mk0)))), rfl, bel.frame _, fun h => by cases h⟩

theorem of_walk (walk : Walk) : Rows.AddressTextsSaid :=
  OpenClaim.holds_of_wide 3 Tryd.f3 rfl rfl rfl rfl rfl rfl rfl ⟨rfl, rfl, rfl, rfl, rfl⟩ rfl rfl rfl rfl rfl (by kernel_rfl) Tryd.func3 (by kernel_rfl)
    (of_decide_eq_true (by kernel_rfl)) (by unfold Func.isWrapper; first | (rw [if_pos (by decide +kernel)]; kernel_rfl) | (rw [if_neg (by decide +kernel)]; exact ⟨rfl, rfl⟩))
    (fun os started H enc _ => lifted walk os started H enc)

/-- the card: the row, and what it lists tied to the program's text -/
theorem card_of_walk (walk : Walk) : Rows.AddressTextsCardSaid :=
  Claim7.holds_tied_plain_at .later [] [.data, .data, .data, .sentinel, .sentinel] true (true, "c3111457611dc176b513f584d35333b7184be68d625894162c648ae74407561c") true
    (of_walk walk) (fun _ h => by cases h) (by kernel_rfl) (fun _ h => by cases h) addressTexts_row_tie rfl ⟨rfl, rfl⟩ (by kernel_rfl) rfl
    (fun f fn hf hfn => by
      obtain rfl : f = 3 := (Option.some.inj ((show Tryd.prog.funcNamed "routescope/routescopelaw01.AddressTexts" = some 3 by kernel_rfl).symm.trans hf)).symm
      obtain rfl : fn = Tryd.f3 := (Option.some.inj (Tryd.func3.symm.trans hfn)).symm
      have hall : (Tryd.f3.params.toList.all fun t => !Tryd.prog.wantsStandIn t) = true := by kernel_rfl
      exact ⟨by kernel_rfl, fun j t ht => by
        have hm : t ∈ Tryd.f3.params.toList := by
          rw [← Array.getElem?_toList] at ht
          exact List.mem_of_getElem? ht
        have := List.all_eq_true.1 hall t hm
        have h9 : Tryd.prog.wantsStandIn t = false := by simpa using this
        exact h9⟩)
    (by kernel_rfl)
end Go.Proofs.YtceacooambpkdaaDoor.addressTexts
