/- Codes.Spoilt: bytes with one byte changed, left out or added. -/
import Derived.Test.YtceacooambpkdaaDoorRfvE
import Derived.Test.YtceacooambpkdaaDoorCdpE
set_option linter.unusedSimpArgs false
set_option linter.unusedVariables false
namespace Go.Proofs.YtceacooambpkdaaDoor
open Go.RowKit Eng Go.Sort

/-- bytes as they are read -/
def byRd (l : List UInt8) (i j : Nat) : SV := .i .u8 ((l.getD i 0).toNat : Int)
def BysPost (n : Nat) (r : SV) : Prop := ∃ (l : List UInt8) (a : Option Addr) (cap : Nat), r = .sl a l.length cap 1 (byRd l) ∧ l.length ≤ n
theorem u8_some (z : Int) : ∃ c : UInt8, IntKind.u8.wrap z = (c.toNat : Int) := by
  rw [IntKind.wrap_u8]
  refine ⟨UInt8.ofNat (z % 256).toNat, ?_⟩
  rw [UInt8.toNat_ofNat']
  omega
set_option maxRecDepth 100000 in
theorem spoiltC (cb : Nat) (l : List UInt8) (hl : l.length ≤ 1000) (a : Option Addr) (cap : Nat) : Contract (Frm.codes cb) Tryd.prog 14 [ptr cb, .sl a l.length cap 1 (byRd l)] (BysPost (l.length + 1)) := by
  refine contract_of Tryd.func14 rfl (by kernel_rfl) ?_
  simp only [Tryd.ntmps14, argEnv]
  (repeat refine Sat.seq ?_)
  (refine Sat.region_k fun k hk => ?_; simp -implicitDefEqProofs only [evr, id, reduceCtorEq, reduceIte, Nat.reduceMul, Nat.reduceAdd, Nat.reduceLT, Nat.reduceLeDiff, Nat.reduceEqDiff, Int.reduceLT, Int.reduceBEq, Int.reduceBNe, Nat.reduceBEq, List.append_nil, Int.toNat_zero, Nat.sub_self, Int.reduceNeg, ptr]; refine hk _ ?_; clear hk k; try show Sat _ _ _ _ _)
  (repeat refine Sat.seq ?_)
  (refine Sat.region_k fun k hk => ?_; simp -implicitDefEqProofs only [evr, id, reduceCtorEq, reduceIte, Nat.reduceMul, Nat.reduceAdd, Nat.reduceLT, Nat.reduceLeDiff, Nat.reduceEqDiff, Int.reduceLT, Int.reduceBEq, Int.reduceBNe, Nat.reduceBEq, List.append_nil, Int.toNat_zero, Nat.sub_self, Int.reduceNeg, ptr])
  refine ⟨⟨by unfold maxLen; omega, by omega⟩, fun a1 c1 => ?_⟩
  (refine hk _ ?_; clear hk k; try show Sat _ _ _ _ _)
  (repeat refine Sat.seq ?_)
  (refine Sat.region_k fun k hk => ?_; simp -implicitDefEqProofs only [evr, id, reduceCtorEq, reduceIte, Nat.reduceMul, Nat.reduceAdd, Nat.reduceLT, Nat.reduceLeDiff, Nat.reduceEqDiff, Int.reduceLT, Int.reduceBEq, Int.reduceBNe, Nat.reduceBEq, List.append_nil, Int.toNat_zero, Nat.sub_self, Int.reduceNeg, ptr]; refine hk _ ?_; clear hk k; try show Sat _ _ _ _ _)
  (repeat refine Sat.seq ?_)
  refine Sat.cond_b rfl (fun h => ?_) (fun h => ?_)
  · (repeat refine Sat.seq ?_)
    (refine Sat.region_k fun k hk => ?_; simp -implicitDefEqProofs only [evr, id, reduceCtorEq, reduceIte, Nat.reduceMul, Nat.reduceAdd, Nat.reduceLT, Nat.reduceLeDiff, Nat.reduceEqDiff, Int.reduceLT, Int.reduceBEq, Int.reduceBNe, Nat.reduceBEq, List.append_nil, Int.toNat_zero, Nat.sub_self, Int.reduceNeg, ptr])
    refine wcall_plain (nextC cb 256 (by decide) (by decide)) rfl (by rintro _ ⟨x, rfl, _⟩; exact ok_plain rfl) ?_
    rintro r ⟨x, rfl, hx0, hx1⟩
    obtain ⟨c, hc⟩ := u8_some x
    simp -implicitDefEqProofs only [evr, id, reduceCtorEq, reduceIte, Nat.reduceMul, Nat.reduceAdd, Nat.reduceLT, Nat.reduceLeDiff, Nat.reduceEqDiff, Int.reduceLT, Int.reduceBEq, Int.reduceBNe, Nat.reduceBEq, List.append_nil, Int.toNat_zero, Nat.sub_self, Int.reduceNeg, ptr, hc]
    intro blk
    (refine hk _ ?_; clear hk k; try show Sat _ _ _ _ _)
    refine Sat.le (st' := ⟨51, [(4, .os 1 (some ⟨blk, 0, none⟩) [c].length 1)], [.gone, .row (some ⟨blk, 0, none⟩) 5 [c].length 1 1 (byRd [c])]⟩) ?_ (by
      simp -implicitDefEqProofs only [evr, id, reduceCtorEq, reduceIte, Nat.reduceMul, Nat.reduceAdd, Nat.reduceLT, Nat.reduceLeDiff, Nat.reduceEqDiff, Int.reduceLT, Int.reduceBEq, Int.reduceBNe, Nat.reduceBEq, List.append_nil, Int.toNat_zero, Nat.sub_self, Int.reduceNeg, ptr, evl]
      intro i j hi hj
      obtain rfl : i = 0 := by omega
      obtain rfl : j = 0 := by omega
      rfl)
    refine Sat.ret ?_
    simp only [Tryd.results14, evr, id, reduceCtorEq, reduceIte, Nat.reduceMul, Nat.reduceAdd, Nat.reduceLT, Nat.reduceLeDiff, Nat.reduceEqDiff, Int.reduceLT, Int.reduceBEq, Int.reduceBNe, Nat.reduceBEq, List.append_nil, Int.toNat_zero, Nat.sub_self, Int.reduceNeg, ptr]
    exact ⟨[c], _, _, rfl, by simp⟩
  have h0 : 0 < l.length := by
    have : ¬ (l.length : Int) = 0 := by simpa using h
    omega
  refine Sat.skip ?_
  simp only [thenK]
  (repeat refine Sat.seq ?_)
  (refine Sat.region_k fun k hk => ?_; simp -implicitDefEqProofs only [evr, id, reduceCtorEq, reduceIte, Nat.reduceMul, Nat.reduceAdd, Nat.reduceLT, Nat.reduceLeDiff, Nat.reduceEqDiff, Int.reduceLT, Int.reduceBEq, Int.reduceBNe, Nat.reduceBEq, List.append_nil, Int.toNat_zero, Nat.sub_self, Int.reduceNeg, ptr])
  refine wcall_plain (nextC cb l.length (by omega) (by omega)) rfl (by rintro _ ⟨x, rfl, _⟩; exact ok_plain rfl) ?_
  rintro r ⟨x, rfl, hx0, hx1⟩
  obtain ⟨q, rfl⟩ := Int.eq_ofNat_of_zero_le hx0
  have hq : q < l.length := by omega
  have e1 : IntKind.i64.wrap ((q : Int) + 1) = ((q + 1 : Nat) : Int) := by rw [w64 (by omega)]; omega
  simp -implicitDefEqProofs only [evr, id, reduceCtorEq, reduceIte, Nat.reduceMul, Nat.reduceAdd, Nat.reduceLT, Nat.reduceLeDiff, Nat.reduceEqDiff, Int.reduceLT, Int.reduceBEq, Int.reduceBNe, Nat.reduceBEq, List.append_nil, Int.toNat_zero, Nat.sub_self, Int.reduceNeg, ptr]
  (refine hk _ ?_; clear hk k; try show Sat _ _ _ _ _)
  (repeat refine Sat.seq ?_)
  (refine Sat.region_k fun k hk => ?_; simp -implicitDefEqProofs only [evr, id, reduceCtorEq, reduceIte, Nat.reduceMul, Nat.reduceAdd, Nat.reduceLT, Nat.reduceLeDiff, Nat.reduceEqDiff, Int.reduceLT, Int.reduceBEq, Int.reduceBNe, Nat.reduceBEq, List.append_nil, Int.toNat_zero, Nat.sub_self, Int.reduceNeg, ptr])
  refine wcall_plain (nextC cb 4 (by decide) (by decide)) rfl (by rintro _ ⟨x, rfl, _⟩; exact ok_plain rfl) ?_
  rintro r ⟨y, rfl, hy0, hy1⟩
  simp -implicitDefEqProofs only [evr, id, reduceCtorEq, reduceIte, Nat.reduceMul, Nat.reduceAdd, Nat.reduceLT, Nat.reduceLeDiff, Nat.reduceEqDiff, Int.reduceLT, Int.reduceBEq, Int.reduceBNe, Nat.reduceBEq, List.append_nil, Int.toNat_zero, Nat.sub_self, Int.reduceNeg, ptr]
  (refine hk _ ?_; clear hk k; try show Sat _ _ _ _ _)
  (repeat refine Sat.seq ?_)
  refine Sat.block ?_
  (repeat refine Sat.seq ?_)
  (refine Sat.region_k fun k hk => ?_; simp -implicitDefEqProofs only [evr, id, reduceCtorEq, reduceIte, Nat.reduceMul, Nat.reduceAdd, Nat.reduceLT, Nat.reduceLeDiff, Nat.reduceEqDiff, Int.reduceLT, Int.reduceBEq, Int.reduceBNe, Nat.reduceBEq, List.append_nil, Int.toNat_zero, Nat.sub_self, Int.reduceNeg, ptr]; refine hk _ ?_; clear hk k; try show Sat _ _ _ _ _)
  (repeat refine Sat.seq ?_)
  refine Sat.cond_b rfl (fun h => ?_) (fun h => ?_)
  · (repeat refine Sat.seq ?_)
    have hlen : (l.take q ++ l.drop (q + 1)).length = q + (l.length - (q + 1)) := by
      rw [List.length_append, List.length_take, List.length_drop]; omega
    have hrd : rdEq (q + (l.length - (q + 1))) 1 (rdCat q (byRd l) fun i j => byRd l (q + 1 + i) j) (byRd (l.take q ++ l.drop (q + 1))) := by
      intro i j hi hj
      unfold rdCat byRd
      by_cases h9 : i < q
      · rw [if_pos h9]
        congr 3
        rw [List.getD_eq_getElem?_getD, List.getD_eq_getElem?_getD, List.getElem?_append_left (by rw [List.length_take]; omega), List.getElem?_take, if_pos h9]
      · rw [if_neg h9]
        dsimp only
        congr 3
        rw [List.getD_eq_getElem?_getD, List.getD_eq_getElem?_getD, List.getElem?_append_right (by rw [List.length_take]; omega), List.getElem?_drop, List.length_take]
        congr 2
        omega
    refine Sat.join2 (ι := Option Addr × Nat) (fun y => ⟨51, [(4, .os 0 y.1 (q + (l.length - (q + 1))) y.2)], [.row y.1 5 (q + (l.length - (q + 1))) y.2 1 (byRd (l.take q ++ l.drop (q + 1)))]⟩) (fun _ => True) (fun hrest => ?_) ?_
    · (refine Sat.region_tree (.keep [0, 1, 3, 4, 5] [] (.alt 2 (.one 6 (.one 7 (.one 8 .done))) (.alt 6 (.one 2 (.one 7 (.one 8 .done))) .none))) (by kernel_rfl) (by kernel_rfl) (fun _ _ h => h) fun k hk => ?_; simp only [WOT, List.map_cons, List.map_nil, List.getD_cons_zero, List.getD_cons_succ]; simp -implicitDefEqProofs only [evr, id, reduceCtorEq, reduceIte, Nat.reduceMul, Nat.reduceAdd, Nat.reduceLT, Nat.reduceLeDiff, Nat.reduceEqDiff, Int.reduceLT, Int.reduceBEq, Int.reduceBNe, Nat.reduceBEq, List.append_nil, Int.toNat_zero, Nat.sub_self, Int.reduceNeg, ptr, WOT])
      simp only [e1, Int.toNat_natCast]
      repeat' (first
        | (refine And.intro ?_ ?_)
        | rfl
        | omega
        | (unfold maxLen; omega)
        | intro a2 cap2)
      all_goals
        refine hk _ ?_
        clear hk
        simp only [thenK]
        refine Sat.le (hrest (a2, cap2) trivial) ?_
        simp -implicitDefEqProofs only [evr, id, reduceCtorEq, reduceIte, Nat.reduceMul, Nat.reduceAdd, Nat.reduceLT, Nat.reduceLeDiff, Nat.reduceEqDiff, Int.reduceLT, Int.reduceBEq, Int.reduceBNe, Nat.reduceBEq, List.append_nil, Int.toNat_zero, Nat.sub_self, Int.reduceNeg, ptr, evl]
        exact hrd
    rintro ⟨a2, cap2⟩ _
    try simp only [thenK]
    refine Sat.ret ?_
    simp only [Tryd.results14, evr, id, reduceCtorEq, reduceIte, Nat.reduceMul, Nat.reduceAdd, Nat.reduceLT, Nat.reduceLeDiff, Nat.reduceEqDiff, Int.reduceLT, Int.reduceBEq, Int.reduceBNe, Nat.reduceBEq, List.append_nil, Int.toNat_zero, Nat.sub_self, Int.reduceNeg, ptr]
    exact ⟨l.take q ++ l.drop (q + 1), _, _, by rw [hlen], by omega⟩
  · (repeat refine Sat.seq ?_)
    (refine Sat.region_k fun k hk => ?_; simp -implicitDefEqProofs only [evr, id, reduceCtorEq, reduceIte, Nat.reduceMul, Nat.reduceAdd, Nat.reduceLT, Nat.reduceLeDiff, Nat.reduceEqDiff, Int.reduceLT, Int.reduceBEq, Int.reduceBNe, Nat.reduceBEq, List.append_nil, Int.toNat_zero, Nat.sub_self, Int.reduceNeg, ptr]; refine hk _ ?_; clear hk k; try show Sat _ _ _ _ _)
    (repeat refine Sat.seq ?_)
    refine Sat.cond_b rfl (fun h => ?_) (fun h => ?_)
    · (repeat refine Sat.seq ?_)
      (refine Sat.region_k fun k hk => ?_; simp -implicitDefEqProofs only [evr, id, reduceCtorEq, reduceIte, Nat.reduceMul, Nat.reduceAdd, Nat.reduceLT, Nat.reduceLeDiff, Nat.reduceEqDiff, Int.reduceLT, Int.reduceBEq, Int.reduceBNe, Nat.reduceBEq, List.append_nil, Int.toNat_zero, Nat.sub_self, Int.reduceNeg, ptr])
      refine wcall_plain (nextC cb 256 (by decide) (by decide)) rfl (by rintro _ ⟨x, rfl, _⟩; exact ok_plain rfl) ?_
      rintro r ⟨x, rfl, hx0, hx1⟩
      obtain ⟨c, hc⟩ := u8_some x
      simp -implicitDefEqProofs only [evr, id, reduceCtorEq, reduceIte, Nat.reduceMul, Nat.reduceAdd, Nat.reduceLT, Nat.reduceLeDiff, Nat.reduceEqDiff, Int.reduceLT, Int.reduceBEq, Int.reduceBNe, Nat.reduceBEq, List.append_nil, Int.toNat_zero, Nat.sub_self, Int.reduceNeg, ptr, hc]
      intro blk
      refine ⟨⟨by unfold maxLen; omega, by omega⟩, fun a2 cap2 => ?_⟩
      have hlen : (l ++ [c]).length = l.length + 1 := by simp
      (refine hk _ ?_; clear hk k; try show Sat _ _ _ _ _)
      refine Sat.le (st' := ⟨51, [(4, .os 0 a2 (l.length + 1) cap2)], [.row a2 5 (l.length + 1) cap2 1 (byRd (l ++ [c]))]⟩) ?_ (by
        simp -implicitDefEqProofs only [evr, id, reduceCtorEq, reduceIte, Nat.reduceMul, Nat.reduceAdd, Nat.reduceLT, Nat.reduceLeDiff, Nat.reduceEqDiff, Int.reduceLT, Int.reduceBEq, Int.reduceBNe, Nat.reduceBEq, List.append_nil, Int.toNat_zero, Nat.sub_self, Int.reduceNeg, ptr, evl]
        refine rdEq_one (fun i j hi hj => ?_) ?_
        · unfold byRd
          congr 3
          rw [List.getD_eq_getElem?_getD, List.getD_eq_getElem?_getD, List.getElem?_append_left hi]
        · unfold byRd
          congr 3
          simp [List.getD_eq_getElem?_getD])
      refine Sat.ret ?_
      simp only [Tryd.results14, evr, id, reduceCtorEq, reduceIte, Nat.reduceMul, Nat.reduceAdd, Nat.reduceLT, Nat.reduceLeDiff, Nat.reduceEqDiff, Int.reduceLT, Int.reduceBEq, Int.reduceBNe, Nat.reduceBEq, List.append_nil, Int.toNat_zero, Nat.sub_self, Int.reduceNeg, ptr]
      exact ⟨l ++ [c], _, _, by rw [hlen], by omega⟩
    · refine Sat.skip ?_
      simp only [thenK, blockK, reduceIte]
      (repeat refine Sat.seq ?_)
      (refine Sat.region_rows [⟨0, 41, 32, 0⟩, ⟨0, 42, 64, 0⟩, ⟨3, 43, 3298534883328, 0⟩, ⟨4, 44, 4398046511104, 1⟩, ⟨0, 45, 1, 0⟩, ⟨16, 46, 17592186044416, 2⟩, ⟨32, 47, 35184372088832, 0⟩, ⟨64, 48, 70368744177664, 1⟩, ⟨136, 49, 149533581377536, 0⟩, ⟨511, 50, 3298534883328, 0⟩, ⟨1023, 0, 844424930131968, 2⟩] [0, 1, 2, 4, 3] [(5, false), (6, false), (7, false), (8, false), (9, false), (10, false)] [5, 6, 7] (by kernel_rfl) (by kernel_rfl) (fun _ _ h => h) fun k hk => ?_; simp only [List.map_cons, List.map_nil, List.getD_cons_zero, List.getD_cons_succ, btseq_cons, btseq_free, btseq_nil]; simp -implicitDefEqProofs only [evr, id, reduceCtorEq, reduceIte, Nat.reduceMul, Nat.reduceAdd, Nat.reduceLT, Nat.reduceLeDiff, Nat.reduceEqDiff, Int.reduceLT, Int.reduceBEq, Int.reduceBNe, Nat.reduceBEq, List.append_nil, Int.toNat_zero, Nat.sub_self, Int.reduceNeg, ptr])
      refine ⟨by omega, hq, ?_⟩
      refine wcall_plain (nextC cb 255 (by decide) (by decide)) rfl (by rintro _ ⟨x, rfl, _⟩; exact ok_plain rfl) ?_
      rintro r ⟨x, rfl, hx0, hx1⟩
      have hb : byRd l q 0 = .i .u8 ((l.getD q 0).toNat : Int) := rfl
      simp -implicitDefEqProofs only [evr, id, reduceCtorEq, reduceIte, Nat.reduceMul, Nat.reduceAdd, Nat.reduceLT, Nat.reduceLeDiff, Nat.reduceEqDiff, Int.reduceLT, Int.reduceBEq, Int.reduceBNe, Nat.reduceBEq, List.append_nil, Int.toNat_zero, Nat.sub_self, Int.reduceNeg, ptr, hb]
      obtain ⟨c, hc⟩ : ∃ c : UInt8, bits BinOp.xor IntKind.u8 ((l.getD q 0).toNat : Int) (IntKind.u8.wrap (IntKind.i64.wrap (1 + x))) = (c.toNat : Int) := u8_some _
      simp only [hc]
      refine ⟨by omega, hq, ?_⟩
      (refine hk _ ?_; clear hk k; try show Sat _ _ _ _ _)
      (repeat refine Sat.seq ?_)
      (refine Sat.region_k fun k hk => ?_; simp -implicitDefEqProofs only [evr, id, reduceCtorEq, reduceIte, Nat.reduceMul, Nat.reduceAdd, Nat.reduceLT, Nat.reduceLeDiff, Nat.reduceEqDiff, Int.reduceLT, Int.reduceBEq, Int.reduceBNe, Nat.reduceBEq, List.append_nil, Int.toNat_zero, Nat.sub_self, Int.reduceNeg, ptr]; refine hk _ ?_; clear hk k; try show Sat _ _ _ _ _)
      refine Sat.le (st' := ⟨51, [(4, .os 0 a1 l.length c1)], [.row a1 5 l.length c1 1 (byRd (l.set q c))]⟩) ?_ (by
        simp -implicitDefEqProofs only [evr, id, reduceCtorEq, reduceIte, Nat.reduceMul, Nat.reduceAdd, Nat.reduceLT, Nat.reduceLeDiff, Nat.reduceEqDiff, Int.reduceLT, Int.reduceBEq, Int.reduceBNe, Nat.reduceBEq, List.append_nil, Int.toNat_zero, Nat.sub_self, Int.reduceNeg, ptr, evl]
        intro i j hi hj
        obtain rfl : j = 0 := by omega
        unfold rdSet byRd
        by_cases h9 : i = q
        · subst h9
          simp [List.getD_eq_getElem?_getD, List.getElem?_set, hq]
        · simp [List.getD_eq_getElem?_getD, List.getElem?_set, h9, Ne.symm h9])
      refine Sat.ret ?_
      simp only [Tryd.results14, evr, id, reduceCtorEq, reduceIte, Nat.reduceMul, Nat.reduceAdd, Nat.reduceLT, Nat.reduceLeDiff, Nat.reduceEqDiff, Int.reduceLT, Int.reduceBEq, Int.reduceBNe, Nat.reduceBEq, List.append_nil, Int.toNat_zero, Nat.sub_self, Int.reduceNeg, ptr]
      exact ⟨l.set q c, _, _, by rw [List.length_set], by rw [List.length_set]; omega⟩
end Go.Proofs.YtceacooambpkdaaDoor
