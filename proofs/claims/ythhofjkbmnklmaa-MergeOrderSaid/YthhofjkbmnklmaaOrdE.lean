/- It is proved that the statement MergeOrder holds for every input: adding results in any order, in any parts and with repetitions, gives the same ledger. No conditions. -/
import Derived.Test.YthhofjkbmnklmaaChkM
import Derived.Test.YthhofjkbmnklmaaPk1
set_option linter.unusedSimpArgs false
set_option linter.unusedVariables false
namespace Go.Proofs.Ythhofjkbmnklmaa
open Go.Sort Eng

theorem slB_bytesR (a : Option Addr) (cap : Nat) (z : List Int) (hz : ∀ n ∈ z, (Lit.int .u8 n).wf = true) : isBytes (slB a cap z) :=
  ⟨a, z.length, cap, _, rfl, fun i hi => ⟨z.getD i 0, by have := bounds_u8 (hz _ (getD_mem (d := 0) hi)); omega, by have := bounds_u8 (hz _ (getD_mem (d := 0) hi)); omega, rfl⟩⟩
def ledC (p : LedP) : List SV := [.sl p.a0 p.rs.length p.c0 17 (resRd p.rs.toArray), .sl p.a1 p.cs.length p.c1 4 (cftRd p.cs)]
theorem len_flat : ∀ gs : List (List Res), (∀ g ∈ gs, g ≠ []) → gs.length ≤ gs.flatten.length
  | [], _ => Nat.le_refl _
  | g :: gs, h => by
    have h1 := len_flat gs fun g hg => h g (List.mem_cons_of_mem _ hg)
    have h2 := List.length_pos_iff.2 (h g (by simp))
    simp only [List.length_cons, List.flatten_cons, List.length_append]
    omega
theorem IsL.fit {p : LedP} {xs l : List Res} {n m : Nat} (h : IsL p xs n) (hl : ∀ r, r ∈ xs → r ∈ l) (hm : l.length ≤ m) : IsL p xs m := by
  obtain ⟨c, h1, h2, h3, h4⟩ := h
  have hc : c.length ≤ l.length := nodup_sub (canon_nodup h1) fun r hr => hl r ((h1.mem r).1 hr)
  refine ⟨c, h1, h2, by omega, ?_⟩
  have e1 : p.cs.length = (ledOf c).cs.length := by
    rw [← h2]; simp [LedP.led]
  have e2 : (ledOf c).cs.length ≤ (grp c).length := List.length_filterMap_le _ _
  have e3 := len_flat (grp c) (grp_ne c)
  rw [grp_flat] at e3
  omega
theorem mem_parts (left : List Res) (k m : Nat) (r : Res) : r ∈ left ↔ (r ∈ (left.drop k).take m ∨ r ∈ left.take k ++ left.drop (k + m)) := by
  have e : left = left.take k ++ ((left.drop k).take m ++ left.drop (k + m)) := by
    rw [← List.drop_drop, List.take_append_drop, List.take_append_drop]
  constructor
  · intro h
    rw [e] at h
    simp only [List.mem_append] at h ⊢
    rcases h with h | h | h
    · exact .inr (.inl h)
    · exact .inl h
    · exact .inr (.inr h)
  · intro h
    rw [e]
    simp only [List.mem_append] at h ⊢
    rcases h with h | h | h
    · exact .inr (.inl h)
    · exact .inl h
    · exact .inr (.inr h)
theorem addL_part (F : Frm) {p : LedP} {xs : List Res} {n : Nat} (h : IsL p xs n) (a : Option Addr) (cap k m : Nat) (left : List Res) (hk : k + m ≤ left.length) (hn : n + m ≤ 16384) :
    Contract F Try.prog 12 [ledS p, .sl a m cap 17 (fun i j => resRd left.toArray (k + i) j)] (fun r => ∃ s, IsL s (xs ++ (left.drop k).take m) (n + m) ∧ r = tupL [ledS s, .i .i64 0]) := by
  have hlen : ((left.drop k).take m).length = m := by rw [List.length_take, List.length_drop]; omega
  have h1 := addL F h a cap ((left.drop k).take m) (by omega)
  rw [hlen] at h1
  refine Contract.of_sim h1 ⟨sim_refl _, sim_sl (fun i j hi hj => ?_), trivial⟩
  unfold resRd
  have : left.toArray[k + i]! = ((left.drop k).take m).toArray[i]! := by
    simp [getElem!_def, hi]
  rw [this]

theorem res_cut (left : List Res) (k m : Nat) (h : k + m ≤ left.length) : rdEq (k + (left.length - (k + m))) 17 (rdCat k (fun i j => resRd left.toArray i j) fun i j => resRd left.toArray (k + m + i) j) (resRd (left.take k ++ left.drop (k + m)).toArray) := by
  intro i j hi hj
  have hk : min k left.length = k := by omega
  have e : ∀ q, (left.take k ++ left.drop (k + m))[i]? = left[q]? → left.toArray[q]! = (left.take k ++ left.drop (k + m)).toArray[i]! := fun q hq => by
    rw [List.getElem!_toArray, List.getElem!_toArray, List.getElem!_eq_getElem?_getD, List.getElem!_eq_getElem?_getD, hq]
  unfold rdCat resRd
  dsimp only
  split
  · rename_i hlt
    rw [e i (by rw [List.getElem?_append_left (by rw [List.length_take]; omega), List.getElem?_take_of_lt hlt])]
  · rename_i hlt
    rw [e (k + m + (i - k)) (by rw [List.getElem?_append_right (by rw [List.length_take]; omega), List.length_take, hk, List.getElem?_drop])]
set_option maxHeartbeats 1000000 in
set_option maxRecDepth 100000 in
theorem ordersC (a : Option Addr) (cap : Nat) (z : List Int) (hz : ∀ n ∈ z, (Lit.int .u8 n).wf = true) (a2 : Option Addr) (cap2 : Nat) (z2 : List Int) (hz2 : ∀ n ∈ z2, (Lit.int .u8 n).wf = true) : Contract Frm.nil Try.prog 7 [slB a cap z, slB a2 cap2 z2] (fun r => r = .b true) := by
  have hb := slB_bytesR a cap z hz
  have hb2 := slB_bytesR a2 cap2 z2 hz2
  refine contract_of Try.func7 rfl (by kernel_rfl) ?_
  simp only [Try.ntmps7, argEnv]
  (repeat refine Sat.seq ?_)
  (refine Sat.region_k fun k hk => ?_; simp -implicitDefEqProofs only [evr, id, reduceCtorEq, reduceIte, Nat.reduceMul, Nat.reduceAdd, Nat.reduceLT, Nat.reduceLeDiff, Nat.reduceEqDiff, Int.reduceLT, Int.reduceBEq, Int.reduceBNe, Nat.reduceBEq, ptr, res_one, res_ro, List.append_nil, Int.toNat_zero, Nat.sub_self, resRow, ledC, dbox]; refine hk _ ?_; clear hk k; try show Sat _ _ _ _ _)
  (repeat refine Sat.seq ?_)
  (refine Sat.region_k fun k hk => ?_; simp -implicitDefEqProofs only [evr, id, reduceCtorEq, reduceIte, Nat.reduceMul, Nat.reduceAdd, Nat.reduceLT, Nat.reduceLeDiff, Nat.reduceEqDiff, Int.reduceLT, Int.reduceBEq, Int.reduceBNe, Nat.reduceBEq, ptr, res_one, res_ro, List.append_nil, Int.toNat_zero, Nat.sub_self, resRow, ledC, dbox])
  refine wcall_plain (awakeC Frm.nil) rfl (by rintro _ rfl; exact ok_plain rfl) ?_
  rintro r rfl
  simp -implicitDefEqProofs only [evr, id, reduceCtorEq, reduceIte, Nat.reduceMul, Nat.reduceAdd, Nat.reduceLT, Nat.reduceLeDiff, Nat.reduceEqDiff, Int.reduceLT, Int.reduceBEq, Int.reduceBNe, Nat.reduceBEq, ptr, res_one, res_ro, List.append_nil, Int.toNat_zero, Nat.sub_self, resRow, ledC, dbox]
  (refine hk _ ?_; clear hk k; try show Sat _ _ _ _ _)
  (repeat refine Sat.seq ?_)
  refine Sat.cond_b rfl (fun h => absurd h (by decide)) (fun _ => ?_)
  refine Sat.skip ?_
  simp only [thenK]
  refine Sat.seq ?_
  (refine Sat.region_k fun k hk => ?_; simp -implicitDefEqProofs only [evr, id, reduceCtorEq, reduceIte, Nat.reduceMul, Nat.reduceAdd, Nat.reduceLT, Nat.reduceLeDiff, Nat.reduceEqDiff, Int.reduceLT, Int.reduceBEq, Int.reduceBNe, Nat.reduceBEq, ptr, res_one, res_ro, List.append_nil, Int.toNat_zero, Nat.sub_self, resRow, ledC, dbox])
  refine wcall_make (newRC (slB a cap z) hb 600 (by decide)) ?_
  intro cb
  simp -implicitDefEqProofs only [evr, id, reduceCtorEq, reduceIte, Nat.reduceMul, Nat.reduceAdd, Nat.reduceLT, Nat.reduceLeDiff, Nat.reduceEqDiff, Int.reduceLT, Int.reduceBEq, Int.reduceBNe, Nat.reduceBEq, ptr, res_one, res_ro, List.append_nil, Int.toNat_zero, Nat.sub_self, resRow, ledC, dbox]
  (refine hk _ ?_; clear hk k; try show Sat _ _ _ _ _)
  refine Sat.switch (cb := cb) (id := 0) (F' := Frm.codes cb) (fun b => Iff.rfl) rfl ?_
  (repeat refine Sat.seq ?_)
  (refine Sat.region_k fun k hk => ?_; simp -implicitDefEqProofs only [evr, id, reduceCtorEq, reduceIte, Nat.reduceMul, Nat.reduceAdd, Nat.reduceLT, Nat.reduceLeDiff, Nat.reduceEqDiff, Int.reduceLT, Int.reduceBEq, Int.reduceBNe, Nat.reduceBEq, ptr, res_one, res_ro, List.append_nil, Int.toNat_zero, Nat.sub_self, resRow, ledC, dbox])
  refine wcall_new (resultsC cb 14 (by decide)) rfl rfl ?_
  rintro ra ty len rc sz rrd ⟨ra', rc', l, hl, hwl, e⟩
  simp only [resRow, Own.row.injEq] at e
  obtain ⟨rfl, rfl, rfl, rfl, rfl, rfl⟩ := e
  simp -implicitDefEqProofs only [evr, id, reduceCtorEq, reduceIte, Nat.reduceMul, Nat.reduceAdd, Nat.reduceLT, Nat.reduceLeDiff, Nat.reduceEqDiff, Int.reduceLT, Int.reduceBEq, Int.reduceBNe, Nat.reduceBEq, ptr, res_one, res_ro, List.append_nil, Int.toNat_zero, Nat.sub_self, resRow, ledC, dbox]
  (refine hk _ ?_; clear hk k; try show Sat _ _ _ _ _)
  refine Sat.settle2 6 rfl rfl ?_
  simp -implicitDefEqProofs only [evr, id, reduceCtorEq, reduceIte, Nat.reduceMul, Nat.reduceAdd, Nat.reduceLT, Nat.reduceLeDiff, Nat.reduceEqDiff, Int.reduceLT, Int.reduceBEq, Int.reduceBNe, Nat.reduceBEq, ptr, res_one, res_ro, List.append_nil, Int.toNat_zero, Nat.sub_self, resRow, ledC, dbox]
  refine Sat.le (st' := ⟨100, [(6, .sl ra l.length rc 17 (resRd l.toArray)), (1, slB a2 cap2 z2)], []⟩) ?_ (by simp -implicitDefEqProofs only [evr, id, reduceCtorEq, reduceIte, Nat.reduceMul, Nat.reduceAdd, Nat.reduceLT, Nat.reduceLeDiff, Nat.reduceEqDiff, Int.reduceLT, Int.reduceBEq, Int.reduceBNe, Nat.reduceBEq, ptr, res_one, res_ro, List.append_nil, Int.toNat_zero, Nat.sub_self, resRow, ledC, dbox, evl])
  (repeat refine Sat.seq ?_)
  (refine Sat.region_k fun k hk => ?_; simp -implicitDefEqProofs only [evr, id, reduceCtorEq, reduceIte, Nat.reduceMul, Nat.reduceAdd, Nat.reduceLT, Nat.reduceLeDiff, Nat.reduceEqDiff, Int.reduceLT, Int.reduceBEq, Int.reduceBNe, Nat.reduceBEq, ptr, res_one, res_ro, List.append_nil, Int.toNat_zero, Nat.sub_self, resRow, ledC, dbox])
  refine wcall_slice (Contract.of_sim (args := [_, _]) (addL (Frm.codes cb) isL_0 ra rc l (by omega)) ⟨led0_sim _ _, sim_refl _, trivial⟩) rfl (by simp -implicitDefEqProofs only [evr, id, reduceCtorEq, reduceIte, Nat.reduceMul, Nat.reduceAdd, Nat.reduceLT, Nat.reduceLeDiff, Nat.reduceEqDiff, Int.reduceLT, Int.reduceBEq, Int.reduceBNe, Nat.reduceBEq, ptr, res_one, res_ro, List.append_nil, Int.toNat_zero, Nat.sub_self, resRow, ledC, dbox]; rfl) ?_
  rintro r ⟨p0, hp0, rfl⟩
  simp only [List.nil_append, Nat.zero_add] at hp0
  simp -implicitDefEqProofs only [evr, id, reduceCtorEq, reduceIte, Nat.reduceMul, Nat.reduceAdd, Nat.reduceLT, Nat.reduceLeDiff, Nat.reduceEqDiff, Int.reduceLT, Int.reduceBEq, Int.reduceBNe, Nat.reduceBEq, ptr, res_one, res_ro, List.append_nil, Int.toNat_zero, Nat.sub_self, resRow, ledC, dbox, ledS]
  intro blk7
  (refine hk _ ?_; clear hk k; try show Sat _ _ _ _ _)
  (repeat refine Sat.seq ?_)
  (refine Sat.region_k fun k hk => ?_; simp -implicitDefEqProofs only [evr, id, reduceCtorEq, reduceIte, Nat.reduceMul, Nat.reduceAdd, Nat.reduceLT, Nat.reduceLeDiff, Nat.reduceEqDiff, Int.reduceLT, Int.reduceBEq, Int.reduceBNe, Nat.reduceBEq, ptr, res_one, res_ro, List.append_nil, Int.toNat_zero, Nat.sub_self, resRow, ledC, dbox])
  refine wcall_plain (mcheckC (Frm.codes cb) p0 (by have := hp0.size; omega) (by have := hp0.cs; omega)) (by simp -implicitDefEqProofs only [evr, id, reduceCtorEq, reduceIte, Nat.reduceMul, Nat.reduceAdd, Nat.reduceLT, Nat.reduceLeDiff, Nat.reduceEqDiff, Int.reduceLT, Int.reduceBEq, Int.reduceBNe, Nat.reduceBEq, ptr, res_one, res_ro, List.append_nil, Int.toNat_zero, Nat.sub_self, resRow, ledC, dbox]; rfl) (by rintro _ ⟨_, _, rfl⟩; exact ok_plain rfl) ?_
  rintro r ⟨e, he, rfl⟩
  obtain rfl := he.unique (LedErr.ok hp0 (by omega) fun x hx => (hwl x hx).1)
  simp -implicitDefEqProofs only [evr, id, reduceCtorEq, reduceIte, Nat.reduceMul, Nat.reduceAdd, Nat.reduceLT, Nat.reduceLeDiff, Nat.reduceEqDiff, Int.reduceLT, Int.reduceBEq, Int.reduceBNe, Nat.reduceBEq, ptr, res_one, res_ro, List.append_nil, Int.toNat_zero, Nat.sub_self, resRow, ledC, dbox]
  (refine hk _ ?_; clear hk k; try show Sat _ _ _ _ _)
  refine Sat.cond_b rfl (fun h => absurd h (by decide)) (fun _ => ?_)
  refine Sat.skip ?_
  simp only [thenK]
  (repeat refine Sat.seq ?_)
  (refine Sat.region_k fun k hk => ?_; simp -implicitDefEqProofs only [evr, id, reduceCtorEq, reduceIte, Nat.reduceMul, Nat.reduceAdd, Nat.reduceLT, Nat.reduceLeDiff, Nat.reduceEqDiff, Int.reduceLT, Int.reduceBEq, Int.reduceBNe, Nat.reduceBEq, ptr, res_one, res_ro, List.append_nil, Int.toNat_zero, Nat.sub_self, resRow, ledC, dbox])
  intro blk9
  (refine hk _ ?_; clear hk k; try show Sat _ _ _ _ _)
  refine Sat.simBox 1 (ledC led0) rfl ⟨sim_nil _ _ _ _, sim_nil _ _ _ _, trivial⟩ ?_
  simp only [List.set_cons_succ, List.set_cons_zero]
  (repeat refine Sat.seq ?_)
  (refine Sat.region_k fun k hk => ?_; simp -implicitDefEqProofs only [evr, id, reduceCtorEq, reduceIte, Nat.reduceMul, Nat.reduceAdd, Nat.reduceLT, Nat.reduceLeDiff, Nat.reduceEqDiff, Int.reduceLT, Int.reduceBEq, Int.reduceBNe, Nat.reduceBEq, ptr, res_one, res_ro, List.append_nil, Int.toNat_zero, Nat.sub_self, resRow, ledC, dbox])
  refine wcall_box (newB (slB a2 cap2 z2) hb2 60 (by decide)) ?_
  rintro db cs ⟨da, dl, dc, rd, hdl, hdc, hdm, hrd, rfl⟩
  simp -implicitDefEqProofs only [evr, id, reduceCtorEq, reduceIte, Nat.reduceMul, Nat.reduceAdd, Nat.reduceLT, Nat.reduceLeDiff, Nat.reduceEqDiff, Int.reduceLT, Int.reduceBEq, Int.reduceBNe, Nat.reduceBEq, ptr, res_one, res_ro, List.append_nil, Int.toNat_zero, Nat.sub_self, resRow, ledC, dbox]
  (refine hk _ ?_; clear hk k; try show Sat _ _ _ _ _)
  (repeat refine Sat.seq ?_)
  (refine Sat.region_k fun k hk => ?_; simp -implicitDefEqProofs only [evr, id, reduceCtorEq, reduceIte, Nat.reduceMul, Nat.reduceAdd, Nat.reduceLT, Nat.reduceLeDiff, Nat.reduceEqDiff, Int.reduceLT, Int.reduceBEq, Int.reduceBNe, Nat.reduceBEq, ptr, res_one, res_ro, List.append_nil, Int.toNat_zero, Nat.sub_self, resRow, ledC, dbox])
  refine ⟨⟨by unfold maxLen; omega, by omega⟩, ?_⟩
  intro aL0 cL0
  (refine hk _ ?_; clear hk k; try show Sat _ _ _ _ _)
  refine Sat.settle2 11 rfl rfl ?_
  simp -implicitDefEqProofs only [evr, id, reduceCtorEq, reduceIte, Nat.reduceMul, Nat.reduceAdd, Nat.reduceLT, Nat.reduceLeDiff, Nat.reduceEqDiff, Int.reduceLT, Int.reduceBEq, Int.reduceBNe, Nat.reduceBEq, ptr, res_one, res_ro, List.append_nil, Int.toNat_zero, Nat.sub_self, resRow, ledC, dbox]
  refine Sat.seq ?_
  refine Sat.block ?_
  refine Sat.loop (ι := LedP × List Res × Option Addr × Nat × List Res × Nat)
    (fun x => ⟨100, [(11, .sl x.2.2.1 x.2.2.2.2.1.length x.2.2.2.1 17 (resRd x.2.2.2.2.1.toArray)), (10, .op 2 db 0), (9, .op 1 blk9 0), (7, .op 0 blk7 0)],
      [.box blk7 30 (ledC p0), .box blk9 30 (ledC x.1), dbox db da dl dc rd x.2.2.2.2.2]⟩)
    (fun x => IsL x.1 x.2.1 14 ∧ (∀ r, (r ∈ x.2.1 ∨ r ∈ x.2.2.2.2.1) ↔ r ∈ l) ∧ x.2.2.2.2.1.length ≤ 14 ∧ x.2.2.2.2.2 ≤ dl) (fun x => dl - x.2.2.2.2.2) (led0, [], aL0, cL0, l, 0)
    ⟨isL_0.fit (l := []) (fun _ h => h) (Nat.zero_le _), fun r => by simp, hl, Nat.zero_le _⟩ (by simp -implicitDefEqProofs only [evr, id, reduceCtorEq, reduceIte, Nat.reduceMul, Nat.reduceAdd, Nat.reduceLT, Nat.reduceLeDiff, Nat.reduceEqDiff, Int.reduceLT, Int.reduceBEq, Int.reduceBNe, Nat.reduceBEq, ptr, res_one, res_ro, List.append_nil, Int.toNat_zero, Nat.sub_self, resRow, ledC, dbox, evl]; rfl) ?_
  rintro ⟨x, xs, aL, cL, left, p⟩ ⟨hx, hmem, hleft, hp⟩
  simp only at hx hmem hleft hp ⊢
  simp only [ledC, dbox]
  (repeat refine Sat.seq ?_)
  (refine Sat.region_k fun k hk => ?_; simp -implicitDefEqProofs only [evr, id, reduceCtorEq, reduceIte, Nat.reduceMul, Nat.reduceAdd, Nat.reduceLT, Nat.reduceLeDiff, Nat.reduceEqDiff, Int.reduceLT, Int.reduceBEq, Int.reduceBNe, Nat.reduceBEq, ptr, res_one, res_ro, List.append_nil, Int.toNat_zero, Nat.sub_self, resRow, ledC, dbox]; refine hk _ ?_; clear hk k; try show Sat _ _ _ _ _)
  (repeat refine Sat.seq ?_)
  refine Sat.cond_b rfl (fun h => ?_) (fun h => ?_)
  · have hpos : 0 < left.length := by simp only [decide_eq_true_eq] at h; omega
    refine Sat.skip ?_
    simp only [thenK]
    (repeat refine Sat.seq ?_)
    refine Sat.block ?_
    (repeat refine Sat.seq ?_)
    (refine Sat.region_k fun k hk => ?_; simp -implicitDefEqProofs only [evr, id, reduceCtorEq, reduceIte, Nat.reduceMul, Nat.reduceAdd, Nat.reduceLT, Nat.reduceLeDiff, Nat.reduceEqDiff, Int.reduceLT, Int.reduceBEq, Int.reduceBNe, Nat.reduceBEq, ptr, res_one, res_ro, List.append_nil, Int.toNat_zero, Nat.sub_self, resRow, ledC, dbox])
    refine wcall_mut 2 (nextB2 (Frm.codes cb) db da dl dc rd p (by omega) hrd hp left.length (by omega) (by omega)) rfl rfl ?_
    rintro r o1 ⟨kk, p1, rfl, hk0, hk1, hpp1, hp1, hlt, rfl⟩
    obtain ⟨k1, rfl⟩ : ∃ k1 : Nat, kk = (k1 : Int) := ⟨kk.toNat, by omega⟩
    have hk2 : k1 < left.length := by omega
    simp -implicitDefEqProofs only [evr, id, reduceCtorEq, reduceIte, Nat.reduceMul, Nat.reduceAdd, Nat.reduceLT, Nat.reduceLeDiff, Nat.reduceEqDiff, Int.reduceLT, Int.reduceBEq, Int.reduceBNe, Nat.reduceBEq, ptr, res_one, res_ro, List.append_nil, Int.toNat_zero, Nat.sub_self, resRow, ledC, dbox]
    (refine hk _ ?_; clear hk k; try show Sat _ _ _ _ _)
    have e1 : IntKind.i64.wrap ((left.length : Int) - (k1 : Int)) = ((left.length - k1 : Nat) : Int) := by rw [w64 (by omega)]; omega
    have e2 : IntKind.i64.wrap ((k1 : Int) + 1) = ((k1 + 1 : Nat) : Int) := by rw [w64 (by omega)]; omega
    (repeat refine Sat.seq ?_)
    refine Sat.region_k fun k hk => ?_
    simp -implicitDefEqProofs only [evr, id, reduceCtorEq, reduceIte, Nat.reduceMul, Nat.reduceAdd, Nat.reduceLT, Nat.reduceLeDiff, Nat.reduceEqDiff, Int.reduceLT, Int.reduceBEq, Int.reduceBNe, Nat.reduceBEq, ptr, res_one, res_ro, List.append_nil, Int.toNat_zero, Nat.sub_self, resRow, ledC, dbox, e1, e2]
    refine wcall_mut 2 (nextB2 (Frm.codes cb) db da dl dc rd p1 (by omega) hrd hp1 ((left.length - k1 : Nat) : Int) (by omega) (by omega)) rfl rfl ?_
    rintro r o1 ⟨mm, p2, rfl, hm0, hm1, hpp2, hp2, hlt2, rfl⟩
    obtain ⟨m1, rfl⟩ : ∃ m1 : Nat, mm = (m1 : Int) := ⟨mm.toNat, by omega⟩
    have hm2 : k1 + (m1 + 1) ≤ left.length := by omega
    have e3 : IntKind.i64.wrap (((k1 + 1 : Nat) : Int) + (m1 : Int)) = ((k1 + (m1 + 1) : Nat) : Int) := by rw [w64 (by omega)]; omega
    simp -implicitDefEqProofs only [evr, id, reduceCtorEq, reduceIte, Nat.reduceMul, Nat.reduceAdd, Nat.reduceLT, Nat.reduceLeDiff, Nat.reduceEqDiff, Int.reduceLT, Int.reduceBEq, Int.reduceBNe, Nat.reduceBEq, ptr, res_one, res_ro, List.append_nil, Int.toNat_zero, Nat.sub_self, resRow, ledC, dbox, e3, Int.toNat_natCast]
    have e4 : k1 + (m1 + 1) - k1 = m1 + 1 := by omega
    simp only [e4]
    refine ⟨⟨by omega, by omega⟩, ?_⟩
    (refine hk _ ?_; clear hk k; try show Sat _ _ _ _ _)
    (repeat refine Sat.seq ?_)
    (refine Sat.region_k fun k hk => ?_; simp -implicitDefEqProofs only [evr, id, reduceCtorEq, reduceIte, Nat.reduceMul, Nat.reduceAdd, Nat.reduceLT, Nat.reduceLeDiff, Nat.reduceEqDiff, Int.reduceLT, Int.reduceBEq, Int.reduceBNe, Nat.reduceBEq, ptr, res_one, res_ro, List.append_nil, Int.toNat_zero, Nat.sub_self, resRow, ledC, dbox])
    refine wcall_slice (addL_part (Frm.codes cb) hx _ _ k1 (m1 + 1) left hm2 (by omega)) rfl (by simp -implicitDefEqProofs only [evr, id, reduceCtorEq, reduceIte, Nat.reduceMul, Nat.reduceAdd, Nat.reduceLT, Nat.reduceLeDiff, Nat.reduceEqDiff, Int.reduceLT, Int.reduceBEq, Int.reduceBNe, Nat.reduceBEq, ptr, res_one, res_ro, List.append_nil, Int.toNat_zero, Nat.sub_self, resRow, ledC, dbox]; rfl) ?_
    rintro r ⟨y, hy, rfl⟩
    simp -implicitDefEqProofs only [evr, id, reduceCtorEq, reduceIte, Nat.reduceMul, Nat.reduceAdd, Nat.reduceLT, Nat.reduceLeDiff, Nat.reduceEqDiff, Int.reduceLT, Int.reduceBEq, Int.reduceBNe, Nat.reduceBEq, ptr, res_one, res_ro, List.append_nil, Int.toNat_zero, Nat.sub_self, resRow, ledC, dbox, ledS]
    intro blk14
    (refine hk _ ?_; clear hk k; try show Sat _ _ _ _ _)
    have hsub : ∀ r, r ∈ xs ++ (left.drop k1).take (m1 + 1) → r ∈ l := fun r hr => by
      rcases List.mem_append.1 hr with hr | hr
      · exact (hmem r).1 (.inl hr)
      · exact (hmem r).1 (.inr (List.mem_of_mem_drop (List.mem_of_mem_take hr)))
    have hy14 := hy.fit hsub hl
    (repeat refine Sat.seq ?_)
    (refine Sat.region_k fun k hk => ?_; simp -implicitDefEqProofs only [evr, id, reduceCtorEq, reduceIte, Nat.reduceMul, Nat.reduceAdd, Nat.reduceLT, Nat.reduceLeDiff, Nat.reduceEqDiff, Int.reduceLT, Int.reduceBEq, Int.reduceBNe, Nat.reduceBEq, ptr, res_one, res_ro, List.append_nil, Int.toNat_zero, Nat.sub_self, resRow, ledC, dbox]; refine hk _ ?_; clear hk k; try show Sat _ _ _ _ _)
    (repeat refine Sat.seq ?_)
    refine Sat.cond_b rfl (fun h => absurd h (by decide)) (fun _ => ?_)
    refine Sat.skip ?_
    simp only [thenK]
    (repeat refine Sat.seq ?_)
    (refine Sat.region_k fun k hk => ?_; simp -implicitDefEqProofs only [evr, id, reduceCtorEq, reduceIte, Nat.reduceMul, Nat.reduceAdd, Nat.reduceLT, Nat.reduceLeDiff, Nat.reduceEqDiff, Int.reduceLT, Int.reduceBEq, Int.reduceBNe, Nat.reduceBEq, ptr, res_one, res_ro, List.append_nil, Int.toNat_zero, Nat.sub_self, resRow, ledC, dbox]; refine hk _ ?_; clear hk k; try show Sat _ _ _ _ _)
    (repeat refine Sat.seq ?_)
    (refine Sat.region_k fun k hk => ?_; simp -implicitDefEqProofs only [evr, id, reduceCtorEq, reduceIte, Nat.reduceMul, Nat.reduceAdd, Nat.reduceLT, Nat.reduceLeDiff, Nat.reduceEqDiff, Int.reduceLT, Int.reduceBEq, Int.reduceBNe, Nat.reduceBEq, ptr, res_one, res_ro, List.append_nil, Int.toNat_zero, Nat.sub_self, resRow, ledC, dbox])
    refine wcall_mut 2 (nextB2 (Frm.codes cb) db da dl dc rd p2 (by omega) hrd hp2 3 (by omega) (by omega)) rfl rfl ?_
    rintro r o1 ⟨m3, p3, rfl, hm30, hm31, hpp3, hp3, hlt3, rfl⟩
    simp -implicitDefEqProofs only [evr, id, reduceCtorEq, reduceIte, Nat.reduceMul, Nat.reduceAdd, Nat.reduceLT, Nat.reduceLeDiff, Nat.reduceEqDiff, Int.reduceLT, Int.reduceBEq, Int.reduceBNe, Nat.reduceBEq, ptr, res_one, res_ro, List.append_nil, Int.toNat_zero, Nat.sub_self, resRow, ledC, dbox]
    (refine hk _ ?_; clear hk k; try show Sat _ _ _ _ _)
    refine Sat.join2 (ι := Option Addr × Nat × List Res)
      (fun u => ⟨100, [(11, .sl u.1 u.2.2.length u.2.1 17 (resRd u.2.2.toArray)), (10, .op 2 db 0), (9, .op 1 blk9 0), (7, .op 0 blk7 0), (14, .op 3 blk14 0)],
        [.box blk7 30 (ledC p0), .box blk9 30 (ledC y), dbox db da dl dc rd p3, .box blk14 30 (ledC y)]⟩)
      (fun u => (∀ r, (r ∈ xs ++ (left.drop k1).take (m1 + 1) ∨ r ∈ u.2.2) ↔ r ∈ l) ∧ u.2.2.length ≤ 14) (fun hrest => ?_) ?_
    · refine Sat.cond_b rfl (fun _ => ?_) (fun _ => ?_)
      · have e5 : IntKind.i64.wrap ((k1 : Int) + ((m1 + 1 : Nat) : Int)) = ((k1 + (m1 + 1) : Nat) : Int) := by rw [w64 (by omega)]; omega
        have hlen : (left.take k1 ++ left.drop (k1 + (m1 + 1))).length = k1 + (left.length - (k1 + (m1 + 1))) := by rw [List.length_append, List.length_take, List.length_drop]; omega
        have hJ : (∀ r, (r ∈ xs ++ (left.drop k1).take (m1 + 1) ∨ r ∈ left.take k1 ++ left.drop (k1 + (m1 + 1))) ↔ r ∈ l) ∧ (left.take k1 ++ left.drop (k1 + (m1 + 1))).length ≤ 14 := by
          refine ⟨fun r => ?_, by omega⟩
          rw [← hmem r, mem_parts left k1 (m1 + 1) r, List.mem_append, or_assoc]
        (refine Sat.region_tree (.keep [0, 1, 4, 5, 6, 7, 8] [] (.alt 2 (.alt 3 (.one 9 (.one 10 (.one 11 .done))) (.alt 9 (.one 3 (.one 10 (.one 11 .done))) .none)) (.alt 9 (.one 2 (.one 3 (.one 10 (.one 11 .done)))) .none))) (by kernel_rfl) (by kernel_rfl) (fun _ _ h => h) fun k hk => ?_; simp only [WOT, List.map_cons, List.map_nil, List.getD_cons_zero, List.getD_cons_succ]; simp -implicitDefEqProofs only [evr, id, reduceCtorEq, reduceIte, Nat.reduceMul, Nat.reduceAdd, Nat.reduceLT, Nat.reduceLeDiff, Nat.reduceEqDiff, Int.reduceLT, Int.reduceBEq, Int.reduceBNe, Nat.reduceBEq, ptr, res_one, res_ro, List.append_nil, Int.toNat_zero, Nat.sub_self, resRow, ledC, dbox, WOT])
        simp only [e5, Int.toNat_natCast, Nat.sub_zero]
        repeat' (first
          | (refine And.intro ?_ ?_)
          | (intro aX cX)
          | omega
          | (unfold maxLen; omega))
        all_goals
          refine hk _ ?_
          clear hk k
          simp only [thenK]
          refine Sat.le (st' := ⟨100, [(11, .os 4 aX (k1 + (left.length - (k1 + (m1 + 1)))) cX), (10, .op 2 db 0), (9, .op 1 blk9 0), (7, .op 0 blk7 0), (14, .op 3 blk14 0)],
            [.box blk7 30 (ledC p0), .box blk9 30 (ledC y), dbox db da dl dc rd p3, .box blk14 30 (ledC y), .row aX 39 (k1 + (left.length - (k1 + (m1 + 1)))) cX 17 (resRd (left.take k1 ++ left.drop (k1 + (m1 + 1))).toArray)]⟩) ?_ (by simp -implicitDefEqProofs only [evr, id, reduceCtorEq, reduceIte, Nat.reduceMul, Nat.reduceAdd, Nat.reduceLT, Nat.reduceLeDiff, Nat.reduceEqDiff, Int.reduceLT, Int.reduceBEq, Int.reduceBNe, Nat.reduceBEq, ptr, res_one, res_ro, List.append_nil, Int.toNat_zero, Nat.sub_self, resRow, ledC, dbox, evl]; exact res_cut left k1 (m1 + 1) hm2)
          refine Sat.settle2 11 rfl rfl ?_
          refine Sat.le (hrest (aX, cX, left.take k1 ++ left.drop (k1 + (m1 + 1))) hJ) ?_
          simp only [hlen]
          simp -implicitDefEqProofs only [evr, id, reduceCtorEq, reduceIte, Nat.reduceMul, Nat.reduceAdd, Nat.reduceLT, Nat.reduceLeDiff, Nat.reduceEqDiff, Int.reduceLT, Int.reduceBEq, Int.reduceBNe, Nat.reduceBEq, ptr, res_one, res_ro, List.append_nil, Int.toNat_zero, Nat.sub_self, resRow, ledC, dbox, evl]
      · refine Sat.skip ?_
        simp only [thenK]
        refine Sat.le (hrest (aL, cL, left) ⟨fun r => ?_, hleft⟩) ?_
        · rw [← hmem r, List.mem_append]
          constructor
          · rintro ((h | h) | h)
            · exact .inl h
            · exact .inr (List.mem_of_mem_drop (List.mem_of_mem_take h))
            · exact .inr h
          · exact fun h => h.elim (fun h => .inl (.inl h)) .inr
        · simp -implicitDefEqProofs only [evr, id, reduceCtorEq, reduceIte, Nat.reduceMul, Nat.reduceAdd, Nat.reduceLT, Nat.reduceLeDiff, Nat.reduceEqDiff, Int.reduceLT, Int.reduceBEq, Int.reduceBNe, Nat.reduceBEq, ptr, res_one, res_ro, List.append_nil, Int.toNat_zero, Nat.sub_self, resRow, ledC, dbox, evl]
          try exact ⟨rfl, rfl, rfl, rfl⟩
    rintro ⟨aL2, cL2, left2⟩ ⟨hmem2, hleft2⟩
    simp only at hmem2 hleft2 ⊢
    simp only [ledC, dbox]
    (repeat refine Sat.seq ?_)
    (refine Sat.region_k fun k hk => ?_; simp -implicitDefEqProofs only [evr, id, reduceCtorEq, reduceIte, Nat.reduceMul, Nat.reduceAdd, Nat.reduceLT, Nat.reduceLeDiff, Nat.reduceEqDiff, Int.reduceLT, Int.reduceBEq, Int.reduceBNe, Nat.reduceBEq, ptr, res_one, res_ro, List.append_nil, Int.toNat_zero, Nat.sub_self, resRow, ledC, dbox])
    refine wcall_mut 2 (leftB (Frm.codes cb) db da dl dc rd p3 (by omega) hp3) rfl rfl ?_
    rintro r o1 ⟨rfl, rfl⟩
    simp -implicitDefEqProofs only [evr, id, reduceCtorEq, reduceIte, Nat.reduceMul, Nat.reduceAdd, Nat.reduceLT, Nat.reduceLeDiff, Nat.reduceEqDiff, Int.reduceLT, Int.reduceBEq, Int.reduceBNe, Nat.reduceBEq, ptr, res_one, res_ro, List.append_nil, Int.toNat_zero, Nat.sub_self, resRow, ledC, dbox]
    (refine hk _ ?_; clear hk k; try show Sat _ _ _ _ _)
    refine Sat.cond_b rfl (fun h5 => ?_) (fun h5 => ?_)
    · (repeat refine Sat.seq ?_)
      (refine Sat.region_k fun k hk => ?_; simp -implicitDefEqProofs only [evr, id, reduceCtorEq, reduceIte, Nat.reduceMul, Nat.reduceAdd, Nat.reduceLT, Nat.reduceLeDiff, Nat.reduceEqDiff, Int.reduceLT, Int.reduceBEq, Int.reduceBNe, Nat.reduceBEq, ptr, res_one, res_ro, List.append_nil, Int.toNat_zero, Nat.sub_self, resRow, ledC, dbox])
      refine wcall_slice (addL (Frm.codes cb) hy14 aL2 cL2 left2 (by omega)) rfl (by simp -implicitDefEqProofs only [evr, id, reduceCtorEq, reduceIte, Nat.reduceMul, Nat.reduceAdd, Nat.reduceLT, Nat.reduceLeDiff, Nat.reduceEqDiff, Int.reduceLT, Int.reduceBEq, Int.reduceBNe, Nat.reduceBEq, ptr, res_one, res_ro, List.append_nil, Int.toNat_zero, Nat.sub_self, resRow, ledC, dbox]; rfl) ?_
      rintro r ⟨y2, hy2, rfl⟩
      simp -implicitDefEqProofs only [evr, id, reduceCtorEq, reduceIte, Nat.reduceMul, Nat.reduceAdd, Nat.reduceLT, Nat.reduceLeDiff, Nat.reduceEqDiff, Int.reduceLT, Int.reduceBEq, Int.reduceBNe, Nat.reduceBEq, ptr, res_one, res_ro, List.append_nil, Int.toNat_zero, Nat.sub_self, resRow, ledC, dbox, ledS]
      (refine hk _ ?_; clear hk k; try show Sat _ _ _ _ _)
      (repeat refine Sat.seq ?_)
      (refine Sat.region_k fun k hk => ?_; simp -implicitDefEqProofs only [evr, id, reduceCtorEq, reduceIte, Nat.reduceMul, Nat.reduceAdd, Nat.reduceLT, Nat.reduceLeDiff, Nat.reduceEqDiff, Int.reduceLT, Int.reduceBEq, Int.reduceBNe, Nat.reduceBEq, ptr, res_one, res_ro, List.append_nil, Int.toNat_zero, Nat.sub_self, resRow, ledC, dbox])
      refine wcall_plain (sameL (Frm.codes cb) hy2 hp0 (by omega) (by omega) (fun r => by rw [List.mem_append]; exact hmem2 r)) (by simp -implicitDefEqProofs only [evr, id, reduceCtorEq, reduceIte, Nat.reduceMul, Nat.reduceAdd, Nat.reduceLT, Nat.reduceLeDiff, Nat.reduceEqDiff, Int.reduceLT, Int.reduceBEq, Int.reduceBNe, Nat.reduceBEq, ptr, res_one, res_ro, List.append_nil, Int.toNat_zero, Nat.sub_self, resRow, ledC, dbox]; rfl) (by rintro _ rfl; exact ok_plain rfl) ?_
      rintro r rfl
      simp -implicitDefEqProofs only [evr, id, reduceCtorEq, reduceIte, Nat.reduceMul, Nat.reduceAdd, Nat.reduceLT, Nat.reduceLeDiff, Nat.reduceEqDiff, Int.reduceLT, Int.reduceBEq, Int.reduceBNe, Nat.reduceBEq, ptr, res_one, res_ro, List.append_nil, Int.toNat_zero, Nat.sub_self, resRow, ledC, dbox]
      (refine hk _ ?_; clear hk k; try show Sat _ _ _ _ _)
      refine Sat.ret ?_
      simp only [Try.results7, evr, id, reduceCtorEq, reduceIte, Nat.reduceMul, Nat.reduceAdd, Nat.reduceLT, Nat.reduceLeDiff, Nat.reduceEqDiff, Int.reduceLT, Int.reduceBEq, Int.reduceBNe, Nat.reduceBEq, ptr, res_one, res_ro, List.append_nil, Int.toNat_zero, Nat.sub_self, resRow, ledC, dbox]
    · have h6 : p3 < dl := by
        have : ((dl - p3 : Nat) : Int) ≠ 0 := by simpa using h5
        omega
      refine Sat.skip ?_
      simp only [thenK, blockK]
      refine ⟨(y, xs ++ (left.drop k1).take (m1 + 1), aL2, cL2, left2, p3), ⟨hy14, hmem2, hleft2, hp3⟩, by simp only; omega, ?_⟩
      simp -implicitDefEqProofs only [evr, id, reduceCtorEq, reduceIte, Nat.reduceMul, Nat.reduceAdd, Nat.reduceLT, Nat.reduceLeDiff, Nat.reduceEqDiff, Int.reduceLT, Int.reduceBEq, Int.reduceBNe, Nat.reduceBEq, ptr, res_one, res_ro, List.append_nil, Int.toNat_zero, Nat.sub_self, resRow, ledC, dbox, evl]
      try exact ⟨rfl, rfl, rfl⟩
  · have hnil : left = [] := List.eq_nil_of_length_eq_zero (by simp only [decide_eq_false_iff_not] at h; omega)
    subst hnil
    refine Sat.exit ?_
    simp only [thenK, blockK, reduceIte]
    (repeat refine Sat.seq ?_)
    (refine Sat.region_k fun k hk => ?_; simp -implicitDefEqProofs only [evr, id, reduceCtorEq, reduceIte, Nat.reduceMul, Nat.reduceAdd, Nat.reduceLT, Nat.reduceLeDiff, Nat.reduceEqDiff, Int.reduceLT, Int.reduceBEq, Int.reduceBNe, Nat.reduceBEq, ptr, res_one, res_ro, List.append_nil, Int.toNat_zero, Nat.sub_self, resRow, ledC, dbox])
    refine wcall_plain (sameL (Frm.codes cb) hx hp0 (by omega) (by omega) (fun r => by rw [← hmem r]; simp)) (by simp -implicitDefEqProofs only [evr, id, reduceCtorEq, reduceIte, Nat.reduceMul, Nat.reduceAdd, Nat.reduceLT, Nat.reduceLeDiff, Nat.reduceEqDiff, Int.reduceLT, Int.reduceBEq, Int.reduceBNe, Nat.reduceBEq, ptr, res_one, res_ro, List.append_nil, Int.toNat_zero, Nat.sub_self, resRow, ledC, dbox]; rfl) (by rintro _ rfl; exact ok_plain rfl) ?_
    rintro r rfl
    simp -implicitDefEqProofs only [evr, id, reduceCtorEq, reduceIte, Nat.reduceMul, Nat.reduceAdd, Nat.reduceLT, Nat.reduceLeDiff, Nat.reduceEqDiff, Int.reduceLT, Int.reduceBEq, Int.reduceBNe, Nat.reduceBEq, ptr, res_one, res_ro, List.append_nil, Int.toNat_zero, Nat.sub_self, resRow, ledC, dbox]
    (refine hk _ ?_; clear hk k; try show Sat _ _ _ _ _)
    refine Sat.ret ?_
    simp only [Try.results7, evr, id, reduceCtorEq, reduceIte, Nat.reduceMul, Nat.reduceAdd, Nat.reduceLT, Nat.reduceLeDiff, Nat.reduceEqDiff, Int.reduceLT, Int.reduceBEq, Int.reduceBNe, Nat.reduceBEq, ptr, res_one, res_ro, List.append_nil, Int.toNat_zero, Nat.sub_self, resRow, ledC, dbox]

theorem order_holds : Rows.MergeOrderSaid := mergeOrder.of_walk fun a0 z0 a1 z1 w ⟨h, hz⟩ ⟨h1, hz1⟩ => by
  obtain ⟨a, cap, rfl, hok⟩ := slB_of h
  obtain ⟨a1, cap1, rfl, hok1⟩ := slB_of h1
  exact walk_of (ordersC a cap z0 hz a1 cap1 z1 hz1) (fun s hs => by
    simp only [List.mem_cons, List.not_mem_nil, or_false] at hs
    rcases hs with rfl | rfl
    · exact hok
    · exact hok1)
end Go.Proofs.Ythhofjkbmnklmaa
