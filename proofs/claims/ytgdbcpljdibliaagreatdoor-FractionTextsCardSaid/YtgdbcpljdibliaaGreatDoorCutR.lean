/- strings.Cut at a byte, over law03's texts. -/
import Derived.Test.YtgdbcpljdibliaaGreatDoorPaqR
import Derived.Test.YtgdbcpljdibliaaGreatDoorPk4
set_option linter.unusedSimpArgs false
set_option linter.unusedVariables false
namespace Go.Proofs.YtgdbcpljdibliaaGreatDoor
namespace Tq
open Go.RowKit Eng
theorem mkB_extract (l : List UInt8) (i j : Nat) : (mkB l).extract i j = mkB ((l.drop i).take (j - i)) := mkB_inj (by
  rw [mkB_list, ByteArray.data_extract, Array.toList_extract, List.extract_eq_take_drop]; rfl)
theorem indexOneC (F : Frm) (s : ByteArray) (c : UInt8) : Contract F Tryz.prog 95 [.v (.string s), .v (.string ⟨#[c]⟩)] (fun r => r = .i .i64 (Lib.indexByte s.data.toList c)) := by
  refine ofCalls Tryz.func95 rfl (by kernel_rfl) fun R w hs hR => ?_
  refine (Tryz.stringslite_Index_one s c w).mono ?_
  rintro e w' ⟨rfl, rfl⟩
  exact ⟨_, rfl, rfl, trivial, Below.refl _ _⟩
set_option maxRecDepth 100000 in
theorem slCutC2 (F : Frm) (c : UInt8) (s : ByteArray) (n : Nat) (hn : Lib.indexByte s.data.toList c = (n : Int)) (hs : n < s.size) (hs2 : s.size < 4294967296) : Contract F Tryz.prog 72 [.v (.string s), .v (.string ⟨#[c]⟩)] (fun r => r = tupL [.v (.string (s.extract 0 n)), .v (.string (s.extract (n + 1) s.size)), .b true]) := by
  refine contract_of Tryz.func72 rfl (by kernel_rfl) ?_
  simp only [Tryz.ntmps72, argEnv]
  have e1 : IntKind.i64.wrap ((n : Int) + 1) = ((n + 1 : Nat) : Int) := by rw [w64 (by omega)]; omega
  (repeat refine Sat.seq ?_)
  (refine Sat.region_k fun k hk => ?_; simp -implicitDefEqProofs only [evr, id, reduceCtorEq, reduceIte, Nat.reduceMul, Nat.reduceAdd, Nat.reduceLT, Nat.reduceLeDiff, Nat.reduceEqDiff, Int.reduceLT, Int.reduceBEq, Int.reduceBNe, Nat.reduceBEq, Int.reduceNeg, evn]; refine hk _ ?_; clear hk k; try show Sat _ _ _ _ _)
  (repeat refine Sat.seq ?_)
  (refine Sat.region_k fun k hk => ?_; simp -implicitDefEqProofs only [evr, id, reduceCtorEq, reduceIte, Nat.reduceMul, Nat.reduceAdd, Nat.reduceLT, Nat.reduceLeDiff, Nat.reduceEqDiff, Int.reduceLT, Int.reduceBEq, Int.reduceBNe, Nat.reduceBEq, Int.reduceNeg, evn])
  refine wcall_plain (indexOneC F s c) rfl (by rintro _ rfl; exact ok_plain rfl) ?_
  rintro r rfl
  rw [hn]
  simp -implicitDefEqProofs only [evr, id, reduceCtorEq, reduceIte, Nat.reduceMul, Nat.reduceAdd, Nat.reduceLT, Nat.reduceLeDiff, Nat.reduceEqDiff, Int.reduceLT, Int.reduceBEq, Int.reduceBNe, Nat.reduceBEq, Int.reduceNeg, evn]
  (refine hk _ ?_; clear hk k; try show Sat _ _ _ _ _)
  (repeat refine Sat.seq ?_)
  (refine Sat.region_k fun k hk => ?_; simp -implicitDefEqProofs only [evr, id, reduceCtorEq, reduceIte, Nat.reduceMul, Nat.reduceAdd, Nat.reduceLT, Nat.reduceLeDiff, Nat.reduceEqDiff, Int.reduceLT, Int.reduceBEq, Int.reduceBNe, Nat.reduceBEq, Int.reduceNeg, evn]; refine hk _ ?_; clear hk k; try show Sat _ _ _ _ _)
  refine Sat.cond_b rfl (fun h => ?_) (fun h => absurd h (by decide))
  (repeat refine Sat.seq ?_)
  (refine Sat.region_tree (.keep [0, 1, 3, 4, 5, 6, 7] [] (.alt 2 (.free 9 (.one 8 (.one 10 (.one 11 .done)))) (.alt 8 (.one 2 (.one 9 (.one 10 (.one 11 .done)))) .none))) (by kernel_rfl) (by kernel_rfl) (fun _ _ h => h) fun k hk => ?_; simp only [WOT, List.map_cons, List.map_nil, List.getD_cons_zero, List.getD_cons_succ]; simp -implicitDefEqProofs only [evr, id, reduceCtorEq, reduceIte, Nat.reduceMul, Nat.reduceAdd, Nat.reduceLT, Nat.reduceLeDiff, Nat.reduceEqDiff, Int.reduceLT, Int.reduceBEq, Int.reduceBNe, Nat.reduceBEq, Int.reduceNeg, WOT, evn])
  have es : (((⟨#[c]⟩ : ByteArray).size : Nat) : Int) = 1 := rfl
  simp only [es, e1, Int.toNat_natCast]
  repeat' refine And.intro ?_ ?_
  all_goals first | omega | skip
  all_goals
    refine hk _ ?_
    clear hk
    try simp only [thenK]
    refine Sat.ret ?_
    simp only [Tryz.results72, evr, id, reduceCtorEq, reduceIte, Nat.reduceMul, Nat.reduceAdd, Nat.reduceLT, Nat.reduceLeDiff, Nat.reduceEqDiff, Int.reduceLT, Int.reduceBEq, Int.reduceBNe, Nat.reduceBEq, List.append_nil, Int.toNat_zero, Nat.sub_self, Int.reduceNeg]
set_option maxRecDepth 100000 in
theorem cutC2 (F : Frm) (c : UInt8) (s : ByteArray) (n : Nat) (hn : Lib.indexByte s.data.toList c = (n : Int)) (hs : n < s.size) (hs2 : s.size < 4294967296) : Contract F Tryz.prog 42 [.v (.string s), .v (.string ⟨#[c]⟩)] (fun r => r = tupL [.v (.string (s.extract 0 n)), .v (.string (s.extract (n + 1) s.size)), .b true]) := by
  refine contract_of Tryz.func42 rfl (by kernel_rfl) ?_
  simp only [Tryz.ntmps42, argEnv]
  (repeat refine Sat.seq ?_)
  (refine Sat.region_k fun k hk => ?_; simp -implicitDefEqProofs only [evr, id, reduceCtorEq, reduceIte, Nat.reduceMul, Nat.reduceAdd, Nat.reduceLT, Nat.reduceLeDiff, Nat.reduceEqDiff, Int.reduceLT, Int.reduceBEq, Int.reduceBNe, Nat.reduceBEq, Int.reduceNeg, evn]; refine hk _ ?_; clear hk k; try show Sat _ _ _ _ _)
  (repeat refine Sat.seq ?_)
  (refine Sat.region_k fun k hk => ?_; simp -implicitDefEqProofs only [evr, id, reduceCtorEq, reduceIte, Nat.reduceMul, Nat.reduceAdd, Nat.reduceLT, Nat.reduceLeDiff, Nat.reduceEqDiff, Int.reduceLT, Int.reduceBEq, Int.reduceBNe, Nat.reduceBEq, Int.reduceNeg, evn])
  refine wcall_slice (slCutC2 F c s n hn hs hs2) rfl (by simp -implicitDefEqProofs only [evr, id, reduceCtorEq, reduceIte, Nat.reduceMul, Nat.reduceAdd, Nat.reduceLT, Nat.reduceLeDiff, Nat.reduceEqDiff, Int.reduceLT, Int.reduceBEq, Int.reduceBNe, Nat.reduceBEq, Int.reduceNeg, evn]; try rfl) ?_
  rintro r rfl
  simp -implicitDefEqProofs only [evr, id, reduceCtorEq, reduceIte, Nat.reduceMul, Nat.reduceAdd, Nat.reduceLT, Nat.reduceLeDiff, Nat.reduceEqDiff, Int.reduceLT, Int.reduceBEq, Int.reduceBNe, Nat.reduceBEq, Int.reduceNeg, evn]
  (refine hk _ ?_; clear hk k; try show Sat _ _ _ _ _)
  refine Sat.ret ?_
  simp only [Tryz.results42, evr, id, reduceCtorEq, reduceIte, Nat.reduceMul, Nat.reduceAdd, Nat.reduceLT, Nat.reduceLeDiff, Nat.reduceEqDiff, Int.reduceLT, Int.reduceBEq, Int.reduceBNe, Nat.reduceBEq, List.append_nil, Int.toNat_zero, Nat.sub_self, Int.reduceNeg]
set_option maxRecDepth 100000 in
theorem slCutNoC2 (F : Frm) (c : UInt8) (s : ByteArray) (hn : Lib.indexByte s.data.toList c = -1) : Contract F Tryz.prog 72 [.v (.string s), .v (.string ⟨#[c]⟩)] (fun r => r = tupL [.v (.string s), .v (.string ⟨#[]⟩), .b false]) := by
  refine contract_of Tryz.func72 rfl (by kernel_rfl) ?_
  simp only [Tryz.ntmps72, argEnv]
  (repeat refine Sat.seq ?_)
  (refine Sat.region_k fun k hk => ?_; simp -implicitDefEqProofs only [evr, id, reduceCtorEq, reduceIte, Nat.reduceMul, Nat.reduceAdd, Nat.reduceLT, Nat.reduceLeDiff, Nat.reduceEqDiff, Int.reduceLT, Int.reduceBEq, Int.reduceBNe, Nat.reduceBEq, Int.reduceNeg, evn]; refine hk _ ?_; clear hk k; try show Sat _ _ _ _ _)
  (repeat refine Sat.seq ?_)
  (refine Sat.region_k fun k hk => ?_; simp -implicitDefEqProofs only [evr, id, reduceCtorEq, reduceIte, Nat.reduceMul, Nat.reduceAdd, Nat.reduceLT, Nat.reduceLeDiff, Nat.reduceEqDiff, Int.reduceLT, Int.reduceBEq, Int.reduceBNe, Nat.reduceBEq, Int.reduceNeg, evn])
  refine wcall_plain (indexOneC F s c) rfl (by rintro _ rfl; exact ok_plain rfl) ?_
  rintro r rfl
  rw [hn]
  simp -implicitDefEqProofs only [evr, id, reduceCtorEq, reduceIte, Nat.reduceMul, Nat.reduceAdd, Nat.reduceLT, Nat.reduceLeDiff, Nat.reduceEqDiff, Int.reduceLT, Int.reduceBEq, Int.reduceBNe, Nat.reduceBEq, Int.reduceNeg, evn]
  (refine hk _ ?_; clear hk k; try show Sat _ _ _ _ _)
  (repeat refine Sat.seq ?_)
  (refine Sat.region_k fun k hk => ?_; simp -implicitDefEqProofs only [evr, id, reduceCtorEq, reduceIte, Nat.reduceMul, Nat.reduceAdd, Nat.reduceLT, Nat.reduceLeDiff, Nat.reduceEqDiff, Int.reduceLT, Int.reduceBEq, Int.reduceBNe, Nat.reduceBEq, Int.reduceNeg, evn]; refine hk _ ?_; clear hk k; try show Sat _ _ _ _ _)
  refine Sat.cond_b rfl (fun h => absurd h (by decide)) (fun h => ?_)
  refine Sat.skip ?_
  simp only [thenK]
  (repeat refine Sat.seq ?_)
  (refine Sat.region_k fun k hk => ?_; simp -implicitDefEqProofs only [evr, id, reduceCtorEq, reduceIte, Nat.reduceMul, Nat.reduceAdd, Nat.reduceLT, Nat.reduceLeDiff, Nat.reduceEqDiff, Int.reduceLT, Int.reduceBEq, Int.reduceBNe, Nat.reduceBEq, Int.reduceNeg, evn]; refine hk _ ?_; clear hk k; try show Sat _ _ _ _ _)
  refine Sat.ret ?_
  simp only [Tryz.results72, evr, id, reduceCtorEq, reduceIte, Nat.reduceMul, Nat.reduceAdd, Nat.reduceLT, Nat.reduceLeDiff, Nat.reduceEqDiff, Int.reduceLT, Int.reduceBEq, Int.reduceBNe, Nat.reduceBEq, List.append_nil, Int.toNat_zero, Nat.sub_self, Int.reduceNeg]
set_option maxRecDepth 100000 in
theorem cutNoC2 (F : Frm) (c : UInt8) (s : ByteArray) (hn : Lib.indexByte s.data.toList c = -1) : Contract F Tryz.prog 42 [.v (.string s), .v (.string ⟨#[c]⟩)] (fun r => r = tupL [.v (.string s), .v (.string ⟨#[]⟩), .b false]) := by
  refine contract_of Tryz.func42 rfl (by kernel_rfl) ?_
  simp only [Tryz.ntmps42, argEnv]
  (repeat refine Sat.seq ?_)
  (refine Sat.region_k fun k hk => ?_; simp -implicitDefEqProofs only [evr, id, reduceCtorEq, reduceIte, Nat.reduceMul, Nat.reduceAdd, Nat.reduceLT, Nat.reduceLeDiff, Nat.reduceEqDiff, Int.reduceLT, Int.reduceBEq, Int.reduceBNe, Nat.reduceBEq, Int.reduceNeg, evn]; refine hk _ ?_; clear hk k; try show Sat _ _ _ _ _)
  (repeat refine Sat.seq ?_)
  (refine Sat.region_k fun k hk => ?_; simp -implicitDefEqProofs only [evr, id, reduceCtorEq, reduceIte, Nat.reduceMul, Nat.reduceAdd, Nat.reduceLT, Nat.reduceLeDiff, Nat.reduceEqDiff, Int.reduceLT, Int.reduceBEq, Int.reduceBNe, Nat.reduceBEq, Int.reduceNeg, evn])
  refine wcall_slice (slCutNoC2 F c s hn) rfl (by simp -implicitDefEqProofs only [evr, id, reduceCtorEq, reduceIte, Nat.reduceMul, Nat.reduceAdd, Nat.reduceLT, Nat.reduceLeDiff, Nat.reduceEqDiff, Int.reduceLT, Int.reduceBEq, Int.reduceBNe, Nat.reduceBEq, Int.reduceNeg, evn]; try rfl) ?_
  rintro r rfl
  simp -implicitDefEqProofs only [evr, id, reduceCtorEq, reduceIte, Nat.reduceMul, Nat.reduceAdd, Nat.reduceLT, Nat.reduceLeDiff, Nat.reduceEqDiff, Int.reduceLT, Int.reduceBEq, Int.reduceBNe, Nat.reduceBEq, Int.reduceNeg, evn]
  (refine hk _ ?_; clear hk k; try show Sat _ _ _ _ _)
  refine Sat.ret ?_
  simp only [Tryz.results42, evr, id, reduceCtorEq, reduceIte, Nat.reduceMul, Nat.reduceAdd, Nat.reduceLT, Nat.reduceLeDiff, Nat.reduceEqDiff, Int.reduceLT, Int.reduceBEq, Int.reduceBNe, Nat.reduceBEq, List.append_nil, Int.toNat_zero, Nat.sub_self, Int.reduceNeg]
theorem cutL (F : Frm) (c : UInt8) (l r : List UInt8) (h : ∀ x ∈ l, x ≠ c) (hl : l.length + r.length < 1000000) : Contract F Tryz.prog 42 [sB (l ++ c :: r), .v (.string ⟨#[c]⟩)] (fun x => x = tupL [sB l, sB r, .b true]) := by
  have h9 := cutC2 F c (mkB (l ++ c :: r)) l.length (index_at h) (by rw [mkB_size]; simp) (by rw [mkB_size]; simp; omega)
  rw [mkB_extract, mkB_extract, mkB_size] at h9
  have e1 : ((l ++ c :: r).drop 0).take (l.length - 0) = l := by simp
  have e2 : ((l ++ c :: r).drop (l.length + 1)).take ((l ++ c :: r).length - (l.length + 1)) = r := by
    have : (l ++ c :: r).drop (l.length + 1) = r := by
      rw [← List.drop_drop, List.drop_left]
      rfl
    rw [this]
    exact List.take_of_length_le (by simp only [List.length_append, List.length_cons]; omega)
  rw [e1, e2] at h9
  exact h9
theorem cutNoL (F : Frm) (c : UInt8) (l : List UInt8) (h : ∀ x ∈ l, x ≠ c) : Contract F Tryz.prog 42 [sB l, .v (.string ⟨#[c]⟩)] (fun r => r = tupL [sB l, sB [], .b false]) := cutNoC2 F c (mkB l) (index_no h)
end Tq
end Go.Proofs.YtgdbcpljdibliaaGreatDoor
