/- strings.Split at a byte; a line of a registry's text: registry.entry. -/
import Derived.Test.YtepkbbmjbbnhnaaGreatDoorRxH
import Derived.Shelf.Strings.Split
set_option linter.unusedSimpArgs false
set_option linter.unusedVariables false
namespace Go.Proofs.YtepkbbmjbbnhnaaGreatDoor
open Go.RowKit Eng Go.Sort
theorem splitK_eq (c : UInt8) : ∀ (k : Nat) (l : List UInt8), Lib.count l [c] = k → Lib.splitK [c] 0 k l = splitB c l
  | 0, l, h => by
    have hn : Lib.indexByte l c = -1 := by
      rcases Int.lt_or_le (Lib.indexByte l c) 0 with h1 | h1
      · have := Lib.indexByte_ge l c; omega
      · obtain ⟨n, hn⟩ := Int.eq_ofNat_of_zero_le h1
        have := Lib.count_hit (s := l) (sub := [c]) (i := n) (by simp) (by rw [Lib.index_one]; exact hn)
        omega
    rw [split_index_none hn]
    rfl
  | k + 1, l, h => by
    have hn : Lib.indexByte l c ≠ -1 := fun h1 => by
      have := Lib.count_miss (s := l) (sub := [c]) (by rw [Lib.index_one]; exact h1)
      omega
    obtain ⟨n, hn⟩ := Int.eq_ofNat_of_zero_le (show 0 ≤ Lib.indexByte l c by have := Lib.indexByte_ge l c; omega)
    have hi : Lib.index l [c] = (n : Int) := by rw [Lib.index_one]; exact hn
    have hc := Lib.count_hit (s := l) (sub := [c]) (i := n) (by simp) hi
    rw [split_index_some hn, Lib.splitK, if_neg (by rw [hi]; simp), hi]
    rw [show ((n : Int).toNat + 0) = n by omega, show ((n : Int).toNat + [c].length) = n + 1 by simp]
    rw [splitK_eq c k (l.drop (n + 1)) (by
      have : [c].length = 1 := rfl
      rw [this] at hc
      omega)]
theorem countB_eq (s : ByteArray) (c : UInt8) : Lib.countB s ⟨#[c]⟩ = Lib.count s.data.toList [c] := rfl
theorem split_pieces (c : UInt8) (l : List UInt8) : Lib.splitB ⟨#[c]⟩ 0 (Lib.countB (mkB l) ⟨#[c]⟩) (mkB l) = (splitB c l).map mkB := by
  have h := Lib.splitB_data ⟨#[c]⟩ 0 (Lib.countB (mkB l) ⟨#[c]⟩) (mkB l)
  rw [countB_eq, mkB_list] at h
  have h2 : ([c] : List UInt8) = (⟨#[c]⟩ : ByteArray).data.toList := rfl
  rw [← h2, splitK_eq c _ l rfl] at h
  rw [countB_eq, mkB_list, ← h, List.map_map]
  conv => lhs; rw [← List.map_id (Lib.splitB ⟨#[c]⟩ 0 (Lib.count l [c]) (mkB l))]
  apply List.map_congr_left
  intro x _
  show x = mkB x.data.toList
  exact mkB_of x
theorem genSplitC (F : Frm) (c : UInt8) (l : List UInt8) (hl : l.length ≤ 1000000) : Contract F Tryz.prog 87 [sB l, .v (.string ⟨#[c]⟩), .i .i64 0, .i .i64 (-1)] (fun r => ∃ a cap, r = .sl a (splitB c l).length cap 1 (strsRd (splitB c l))) := by
  refine ofCalls1 Tryz.func87 rfl (by kernel_rfl) fun R w hs hR => ?_
  have hlen := split_len c l
  have hcl := Lib.countB_le ⟨#[c]⟩ (Nat.le_refl 1) (mkB l).size (mkB l) (Nat.le_refl _)
  have hall := Lib.splitB_all ⟨#[c]⟩ (Nat.le_refl 1) 0 _ (mkB l) rfl
  rw [split_pieces, List.length_map] at hall
  have hc := Any.strings_genSplit_core (ρ := Tryz.lays221_ren) Tryz.lays221 (by kernel_rfl) (mkB l) ⟨#[c]⟩ 0 (-1) (Lib.countB (mkB l) ⟨#[c]⟩ + 1) w (by rw [mkB_size]; omega) (Nat.le_refl 1) (Nat.zero_le _)
    (fun x cs hx => by
      refine (Tryz.strings_Index_one x c _).mono ?_
      rintro e w' ⟨rfl, rfl⟩
      refine ⟨?_, rfl⟩
      show _ = Ending.returned (Value.int .i64 (Lib.index x.data.toList [c]))
      rw [Lib.index_one])
    (by
      refine (Tryz.strings_Count_one (mkB l) c w).mono ?_
      rintro e w' ⟨rfl, rfl⟩
      refine ⟨?_, rfl⟩
      show _ = Ending.returned (Value.int .i64 ((Lib.count (mkB l).data.toList [c] : Nat) : Int))
      rw [Lib.count_one]
      rfl) (by decide) (by decide) (by rw [if_pos (by decide)]; omega)
  refine hc.mono ?_
  rintro e w' ⟨rfl, rfl⟩
  rw [Nat.add_sub_cancel, split_pieces, List.length_map]
  have hcells : Lib.cellsOf ((splitB c l).map mkB) (Lib.countB (mkB l) ⟨#[c]⟩ + 1) = (((splitB c l).map mkB).map Value.string).toArray := by
    have h9 := Lib.cellsOf_full ((splitB c l).map mkB)
    rw [List.length_map, hall] at h9
    exact h9
  rw [hcells]
  refine ⟨.sl (some ⟨w.heap.size, 0, none⟩) (splitB c l).length (Lib.countB (mkB l) ⟨#[c]⟩ + 1) 1 (strsRd (splitB c l)), rfl, ⟨_, _, rfl⟩, ⟨by omega, by rw [mkB_size] at hcl; unfold maxLen; omega, .inr ⟨w.heap.size, 0, rfl, .inr ⟨Nat.le_refl _, by simp⟩, fun i j hi hj => ?_⟩⟩, ⟨rfl, rfl, rfl, by simp, fun k hk => heap_alloc_old _ _ hk⟩⟩
  obtain rfl : j = 0 := by omega
  refine ⟨?_, rfl, trivial⟩
  rw [Nat.mul_one, Nat.zero_add, Nat.add_zero]
  unfold World.cell?
  simp only [heap_alloc_new]
  unfold strsRd
  simp [List.getD, hi, sB, SV.den]
set_option maxRecDepth 100000 in
theorem splitC (F : Frm) (c : UInt8) (l : List UInt8) (hl : l.length ≤ 1000000) : Contract F Tryz.prog 61 [sB l, .v (.string ⟨#[c]⟩)] (fun r => ∃ a cap, r = .sl a (splitB c l).length cap 1 (strsRd (splitB c l))) := by
  refine contract_of Tryz.func61 rfl (by kernel_rfl) ?_
  simp only [Tryz.ntmps61, argEnv]
  (repeat refine Sat.seq ?_)
  (refine Sat.region_k fun k hk => ?_; simp -implicitDefEqProofs only [evr, id, reduceCtorEq, reduceIte, Nat.reduceMul, Nat.reduceAdd, Nat.reduceLT, Nat.reduceLeDiff, Nat.reduceEqDiff, Int.reduceLT, Int.reduceBEq, Int.reduceBNe, Nat.reduceBEq, Int.reduceNeg, mkB_size, byteAt_mk, mkB_extract, mkB_append, mkB_toList, strsRd_at, evn]; refine hk _ ?_; clear hk k; try show Sat _ _ _ _ _)
  (repeat refine Sat.seq ?_)
  (refine Sat.region_k fun k hk => ?_; simp -implicitDefEqProofs only [evr, id, reduceCtorEq, reduceIte, Nat.reduceMul, Nat.reduceAdd, Nat.reduceLT, Nat.reduceLeDiff, Nat.reduceEqDiff, Int.reduceLT, Int.reduceBEq, Int.reduceBNe, Nat.reduceBEq, Int.reduceNeg, mkB_size, byteAt_mk, mkB_extract, mkB_append, mkB_toList, strsRd_at, evn])
  refine wcall_slice (genSplitC F c l hl) rfl (by first | rfl | (simp -implicitDefEqProofs only [evr, id, reduceCtorEq, reduceIte, Nat.reduceMul, Nat.reduceAdd, Nat.reduceLT, Nat.reduceLeDiff, Nat.reduceEqDiff, Int.reduceLT, Int.reduceBEq, Int.reduceBNe, Nat.reduceBEq, Int.reduceNeg, mkB_size, byteAt_mk, mkB_extract, mkB_append, mkB_toList, strsRd_at, evn])) ?_
  rintro r ⟨a, cap, rfl⟩
  simp -implicitDefEqProofs only [evr, id, reduceCtorEq, reduceIte, Nat.reduceMul, Nat.reduceAdd, Nat.reduceLT, Nat.reduceLeDiff, Nat.reduceEqDiff, Int.reduceLT, Int.reduceBEq, Int.reduceBNe, Nat.reduceBEq, Int.reduceNeg, mkB_size, byteAt_mk, mkB_extract, mkB_append, mkB_toList, strsRd_at, evn]
  (refine hk _ ?_; clear hk k; try show Sat _ _ _ _ _)
  refine Sat.ret ?_
  simp only [Tryz.results61, evr, id, reduceCtorEq, reduceIte, Nat.reduceMul, Nat.reduceAdd, Nat.reduceLT, Nat.reduceLeDiff, Nat.reduceEqDiff, Int.reduceLT, Int.reduceBEq, Int.reduceBNe, Nat.reduceBEq, List.append_nil, Int.toNat_zero, Nat.sub_self, Int.reduceNeg, mkB_size, byteAt_mk, mkB_extract, mkB_append, mkB_toList, strsRd_at]
  exact ⟨_, _, rfl⟩
end Go.Proofs.YtepkbbmjbbnhnaaGreatDoor
