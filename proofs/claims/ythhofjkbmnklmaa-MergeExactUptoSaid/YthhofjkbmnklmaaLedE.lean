/- Ledgers, by the evaluator: slices.Clone, merge.Size, merge.all. -/
import Derived.Test.YthhofjkbmnklmaaResOrd
import Derived.Test.YthhofjkbmnklmaaResSrt0
import Derived.Test.YthhofjkbmnklmaaEngR
set_option linter.unusedSimpArgs false
set_option linter.unusedVariables false
namespace Go.Proofs.Ythhofjkbmnklmaa
open Go.Sort Eng

theorem res_ro (own : List Own) (d : Array Res) (i j : Nat) (h : j < 17) : roArg own (resRd d i j) = resRd d i j := by
  rcases (show j = 0 ∨ j = 1 ∨ j = 2 ∨ j = 3 ∨ j = 4 ∨ j = 5 ∨ j = 6 ∨ j = 7 ∨ j = 8 ∨ j = 9 ∨ j = 10 ∨ j = 11 ∨ j = 12 ∨ j = 13 ∨ j = 14 ∨ j = 15 ∨ j = 16 by omega) with rfl | rfl | rfl | rfl | rfl | rfl | rfl | rfl | rfl | rfl | rfl | rfl | rfl | rfl | rfl | rfl | rfl <;> rfl
/-- a conflict, with the place of its results -/
structure CftP where
  c : Cft
  a : Option Addr
  cap : Nat
instance : Inhabited CftP := ⟨⟨⟨0, 0, 0, []⟩, none, 0⟩⟩
def cftCs (x : CftP) : List SV := [.i .i64 x.c.vantage, .i .i64 x.c.run, .i .i64 x.c.number, .sl x.a x.c.l.length x.cap 17 (resRd x.c.l.toArray)]
def cftRd (cs : List CftP) : Nat → Nat → SV := fun i j => (cftCs (cs.getD i default)).getD j default
theorem cft_0 (cs : List CftP) (i : Nat) : cftRd cs i 0 = .i .i64 (cs.getD i default).c.vantage := rfl
theorem cft_1 (cs : List CftP) (i : Nat) : cftRd cs i 1 = .i .i64 (cs.getD i default).c.run := rfl
theorem cft_2 (cs : List CftP) (i : Nat) : cftRd cs i 2 = .i .i64 (cs.getD i default).c.number := rfl
theorem cft_3 (cs : List CftP) (i : Nat) : cftRd cs i 3 = .sl (cs.getD i default).a (cs.getD i default).c.l.length (cs.getD i default).cap 17 (resRd (cs.getD i default).c.l.toArray) := rfl
/-- a ledger, with the places of its lists -/
structure LedP where
  a0 : Option Addr
  c0 : Nat
  rs : List Res
  a1 : Option Addr
  c1 : Nat
  cs : List CftP
def LedP.led (p : LedP) : Led := ⟨p.rs, p.cs.map (·.c)⟩
def ledS (p : LedP) : SV := .agg 2 fun j => [SV.sl p.a0 p.rs.length p.c0 17 (resRd p.rs.toArray), SV.sl p.a1 p.cs.length p.c1 4 (cftRd p.cs)].getD j default
def lens (cs : List CftP) : Nat := (cs.map fun x => x.c.l.length).sum
theorem lens_succ (cs : List CftP) (i : Nat) (h : i < cs.length) : lens (cs.take (i + 1)) = lens (cs.take i) + (cs.getD i default).c.l.length := by
  unfold lens
  rw [List.take_succ_eq_append_getElem h, List.map_append, List.sum_append]
  simp only [List.map_cons, List.map_nil, List.sum_cons, List.sum_nil, Nat.add_zero, List.getD, List.getElem?_eq_getElem h, Option.getD_some]
theorem lens_le (cs : List CftP) (i : Nat) : lens (cs.take i) ≤ lens cs := by
  have h : cs = cs.take i ++ cs.drop i := (List.take_append_drop i cs).symm
  have h2 : lens cs = lens (cs.take i) + lens (cs.drop i) := by
    unfold lens
    rw [← List.sum_append, ← List.map_append, List.take_append_drop]
  omega
theorem size_eq (p : LedP) : p.led.size = p.rs.length + lens p.cs := by
  unfold Led.size Led.all LedP.led lens
  simp only [List.length_append, List.length_flatten, List.map_map, Function.comp_def]

theorem cft_one (cs : List CftP) (i j : Nat) (h : j < 4) : oneS (cftRd cs i j) = true := by
  rcases (show j = 0 ∨ j = 1 ∨ j = 2 ∨ j = 3 by omega) with rfl | rfl | rfl | rfl <;> rfl
theorem res_cat (xs ys : List Res) : rdEq (xs.length + ys.length) 17 (rdCat xs.length (resRd xs.toArray) (resRd ys.toArray)) (resRd (xs ++ ys).toArray) := by
  intro p q hp hq
  unfold rdCat resRd
  by_cases h : p < xs.length
  · rw [if_pos h]
    simp [getElem!_def, List.getElem?_append, h]
  · rw [if_neg h]
    simp [getElem!_def, List.getElem?_append, h]

set_option maxRecDepth 100000 in
theorem cloneC (F : Frm) (a : Option Addr) (cap : Nat) (xs : List Res) (hl : xs.length ≤ 1000000000) : ContractN F Try.prog 59 [.sl a xs.length cap 17 (resRd xs.toArray)] (fun o => ∃ a cap, o = resRow a xs.length cap xs.toArray) := by
  refine contractN_of Try.func59 rfl (by kernel_rfl) ?_
  simp only [Try.ntmps59, argEnv]
  refine Sat.know_nil 0 rfl fun hnil => ?_
  (repeat refine Sat.seq ?_)
  (refine Sat.region_k fun k hk => ?_; simp -implicitDefEqProofs only [evr, id, reduceCtorEq, reduceIte, Nat.reduceMul, Nat.reduceAdd, Nat.reduceLT, Nat.reduceLeDiff, Nat.reduceEqDiff, Int.reduceLT, Int.reduceBEq, Int.reduceBNe, Nat.reduceBEq, res_one, List.append_nil, Int.toNat_zero, Nat.sub_self, cft_one, cft_0, cft_1, cft_2, cft_3, resRow]; refine hk _ ?_; clear hk k; try show Sat _ _ _ _ _)
  (repeat refine Sat.seq ?_)
  (refine Sat.region_k fun k hk => ?_; simp -implicitDefEqProofs only [evr, id, reduceCtorEq, reduceIte, Nat.reduceMul, Nat.reduceAdd, Nat.reduceLT, Nat.reduceLeDiff, Nat.reduceEqDiff, Int.reduceLT, Int.reduceBEq, Int.reduceBNe, Nat.reduceBEq, res_one, List.append_nil, Int.toNat_zero, Nat.sub_self, cft_one, cft_0, cft_1, cft_2, cft_3, resRow]; refine hk _ ?_; clear hk k; try show Sat _ _ _ _ _)
  (repeat refine Sat.seq ?_)
  refine Sat.cond_b rfl (fun h => ?_) (fun h => ?_)
  · have h0 : xs = [] := List.eq_nil_of_length_eq_zero (hnil (by simpa using h))
    subst h0
    (repeat refine Sat.seq ?_)
    (refine Sat.region_k fun k hk => ?_; simp -implicitDefEqProofs only [evr, id, reduceCtorEq, reduceIte, Nat.reduceMul, Nat.reduceAdd, Nat.reduceLT, Nat.reduceLeDiff, Nat.reduceEqDiff, Int.reduceLT, Int.reduceBEq, Int.reduceBNe, Nat.reduceBEq, res_one, List.append_nil, Int.toNat_zero, Nat.sub_self, cft_one, cft_0, cft_1, cft_2, cft_3, resRow]; refine hk _ ?_; clear hk k; try show Sat _ _ _ _ _)
    refine Sat.adopt 2 39 17 (resRd #[]) rfl ?_
    refine Sat.ret ?_
    simp only [Try.results59, evr, id, reduceCtorEq, reduceIte, Nat.reduceMul, Nat.reduceAdd, Nat.reduceLT, Nat.reduceLeDiff, Nat.reduceEqDiff, Int.reduceLT, Int.reduceBEq, Int.reduceBNe, Nat.reduceBEq, res_one, List.append_nil, Int.toNat_zero, Nat.sub_self, cft_one, cft_0, cft_1, cft_2, cft_3, resRow, retN, retNK, newRow]
    exact ⟨⟨rfl, rfl, rfl⟩, _, _, rfl⟩
  · refine Sat.skip ?_
    simp only [thenK]
    (repeat refine Sat.seq ?_)
    (refine Sat.region_k fun k hk => ?_; simp -implicitDefEqProofs only [evr, id, reduceCtorEq, reduceIte, Nat.reduceMul, Nat.reduceAdd, Nat.reduceLT, Nat.reduceLeDiff, Nat.reduceEqDiff, Int.reduceLT, Int.reduceBEq, Int.reduceBNe, Nat.reduceBEq, res_one, List.append_nil, Int.toNat_zero, Nat.sub_self, cft_one, cft_0, cft_1, cft_2, cft_3, resRow])
    intro blk
    refine ⟨⟨by unfold maxLen; omega, by omega⟩, fun a2 cap2 => ?_⟩
    (refine hk _ ?_; clear hk k; try show Sat _ _ _ _ _)
    refine Sat.le (st' := ⟨8, [(2, .os 0 a2 xs.length cap2)], [resRow a2 xs.length cap2 xs.toArray]⟩) ?_ ?_
    · refine Sat.ret ?_
      simp only [Try.results59, evr, id, reduceCtorEq, reduceIte, Nat.reduceMul, Nat.reduceAdd, Nat.reduceLT, Nat.reduceLeDiff, Nat.reduceEqDiff, Int.reduceLT, Int.reduceBEq, Int.reduceBNe, Nat.reduceBEq, res_one, List.append_nil, Int.toNat_zero, Nat.sub_self, cft_one, cft_0, cft_1, cft_2, cft_3, resRow, retN, retNK, newRow]
      exact ⟨⟨rfl, rfl, rfl⟩, _, _, rfl⟩
    · simp -implicitDefEqProofs only [evr, id, reduceCtorEq, reduceIte, Nat.reduceMul, Nat.reduceAdd, Nat.reduceLT, Nat.reduceLeDiff, Nat.reduceEqDiff, Int.reduceLT, Int.reduceBEq, Int.reduceBNe, Nat.reduceBEq, res_one, List.append_nil, Int.toNat_zero, Nat.sub_self, cft_one, cft_0, cft_1, cft_2, cft_3, resRow, evl]
      intro p q hp hq
      simp [rdCat]

set_option maxRecDepth 100000 in
theorem sizeC (F : Frm) (p : LedP) (hp : p.led.size ≤ 1000000000000) (hcl : p.cs.length ≤ 1000000000000) : Contract F Try.prog 19 [ledS p] (fun r => r = .i .i64 p.led.size) := by
  rw [size_eq] at hp
  refine contract_of Try.func19 rfl (by kernel_rfl) ?_
  simp only [Try.ntmps19, argEnv, ledS]
  (repeat refine Sat.seq ?_)
  (refine Sat.region_k fun k hk => ?_; simp -implicitDefEqProofs only [evr, id, reduceCtorEq, reduceIte, Nat.reduceMul, Nat.reduceAdd, Nat.reduceLT, Nat.reduceLeDiff, Nat.reduceEqDiff, Int.reduceLT, Int.reduceBEq, Int.reduceBNe, Nat.reduceBEq, res_one, List.append_nil, Int.toNat_zero, Nat.sub_self, cft_one, cft_0, cft_1, cft_2, cft_3, resRow])
  intro blk1
  (refine hk _ ?_; clear hk k; try show Sat _ _ _ _ _)
  (repeat refine Sat.seq ?_)
  (refine Sat.region_k fun k hk => ?_; simp -implicitDefEqProofs only [evr, id, reduceCtorEq, reduceIte, Nat.reduceMul, Nat.reduceAdd, Nat.reduceLT, Nat.reduceLeDiff, Nat.reduceEqDiff, Int.reduceLT, Int.reduceBEq, Int.reduceBNe, Nat.reduceBEq, res_one, List.append_nil, Int.toNat_zero, Nat.sub_self, cft_one, cft_0, cft_1, cft_2, cft_3, resRow]; refine hk _ ?_; clear hk k; try show Sat _ _ _ _ _)
  (repeat refine Sat.seq ?_)
  (refine Sat.region_k fun k hk => ?_; simp -implicitDefEqProofs only [evr, id, reduceCtorEq, reduceIte, Nat.reduceMul, Nat.reduceAdd, Nat.reduceLT, Nat.reduceLeDiff, Nat.reduceEqDiff, Int.reduceLT, Int.reduceBEq, Int.reduceBNe, Nat.reduceBEq, res_one, List.append_nil, Int.toNat_zero, Nat.sub_self, cft_one, cft_0, cft_1, cft_2, cft_3, resRow]; refine hk _ ?_; clear hk k; try show Sat _ _ _ _ _)
  (repeat refine Sat.seq ?_)
  refine Sat.block ?_
  refine Sat.loop (ι := Nat) (fun i => ⟨23, [(3, .i .i64 ((p.rs.length + lens (p.cs.take i) : Nat) : Int)), (12, .i .i64 i), (10, .sl p.a1 p.cs.length p.c1 4 (cftRd p.cs)), (11, .i .i64 p.cs.length)], []⟩)
    (fun i => i ≤ p.cs.length) (fun i => p.cs.length - i) 0 (Nat.zero_le _) (by simp -implicitDefEqProofs only [evr, id, reduceCtorEq, reduceIte, Nat.reduceMul, Nat.reduceAdd, Nat.reduceLT, Nat.reduceLeDiff, Nat.reduceEqDiff, Int.reduceLT, Int.reduceBEq, Int.reduceBNe, Nat.reduceBEq, res_one, List.append_nil, Int.toNat_zero, Nat.sub_self, cft_one, cft_0, cft_1, cft_2, cft_3, resRow, evl]; exact ⟨by simp [lens], rfl⟩) ?_
  intro i hi
  (repeat refine Sat.seq ?_)
  (refine Sat.region_k fun k hk => ?_; simp -implicitDefEqProofs only [evr, id, reduceCtorEq, reduceIte, Nat.reduceMul, Nat.reduceAdd, Nat.reduceLT, Nat.reduceLeDiff, Nat.reduceEqDiff, Int.reduceLT, Int.reduceBEq, Int.reduceBNe, Nat.reduceBEq, res_one, List.append_nil, Int.toNat_zero, Nat.sub_self, cft_one, cft_0, cft_1, cft_2, cft_3, resRow]; refine hk _ ?_; clear hk k; try show Sat _ _ _ _ _)
  (repeat refine Sat.seq ?_)
  refine Sat.cond_b rfl (fun h => ?_) (fun h => ?_)
  · have h1 : i < p.cs.length := by simp only [decide_eq_true_eq] at h; omega
    have e1 := lens_succ p.cs i h1
    have e2 := lens_le p.cs (i + 1)
    have e3 : IntKind.i64.wrap ((i : Int) + 1) = ((i + 1 : Nat) : Int) := by rw [w64 (by omega)]; omega
    have e4 : IntKind.i64.wrap (((p.rs.length + lens (p.cs.take i) : Nat) : Int) + ((p.cs.getD i default).c.l.length : Int)) = ((p.rs.length + lens (p.cs.take (i + 1)) : Nat) : Int) := by rw [w64 (by omega)]; omega
    refine Sat.skip ?_
    simp only [thenK]
    (repeat refine Sat.seq ?_)
    refine Sat.block ?_
    (repeat refine Sat.seq ?_)
    (refine Sat.region_k fun k hk => ?_; simp -implicitDefEqProofs only [evr, id, reduceCtorEq, reduceIte, Nat.reduceMul, Nat.reduceAdd, Nat.reduceLT, Nat.reduceLeDiff, Nat.reduceEqDiff, Int.reduceLT, Int.reduceBEq, Int.reduceBNe, Nat.reduceBEq, res_one, List.append_nil, Int.toNat_zero, Nat.sub_self, cft_one, cft_0, cft_1, cft_2, cft_3, resRow])
    refine ⟨by omega, ?_⟩
    intro blk2
    (refine hk _ ?_; clear hk k; try show Sat _ _ _ _ _)
    (repeat refine Sat.seq ?_)
    refine Sat.region_k fun k hk => ?_
    simp -implicitDefEqProofs only [evr, id, reduceCtorEq, reduceIte, Nat.reduceMul, Nat.reduceAdd, Nat.reduceLT, Nat.reduceLeDiff, Nat.reduceEqDiff, Int.reduceLT, Int.reduceBEq, Int.reduceBNe, Nat.reduceBEq, res_one, List.append_nil, Int.toNat_zero, Nat.sub_self, cft_one, cft_0, cft_1, cft_2, cft_3, resRow, e4]
    refine hk _ ?_
    simp only [thenK, blockK]
    (repeat refine Sat.seq ?_)
    refine Sat.region_k fun k hk => ?_
    simp -implicitDefEqProofs only [evr, id, reduceCtorEq, reduceIte, Nat.reduceMul, Nat.reduceAdd, Nat.reduceLT, Nat.reduceLeDiff, Nat.reduceEqDiff, Int.reduceLT, Int.reduceBEq, Int.reduceBNe, Nat.reduceBEq, res_one, List.append_nil, Int.toNat_zero, Nat.sub_self, cft_one, cft_0, cft_1, cft_2, cft_3, resRow, e3]
    refine hk _ ?_
    simp only [thenK, blockK]
    refine ⟨i + 1, by omega, by omega, ?_⟩
    simp -implicitDefEqProofs only [evr, id, reduceCtorEq, reduceIte, Nat.reduceMul, Nat.reduceAdd, Nat.reduceLT, Nat.reduceLeDiff, Nat.reduceEqDiff, Int.reduceLT, Int.reduceBEq, Int.reduceBNe, Nat.reduceBEq, res_one, List.append_nil, Int.toNat_zero, Nat.sub_self, cft_one, cft_0, cft_1, cft_2, cft_3, resRow, evl]
  · have h1 : ¬ i < p.cs.length := by simp only [decide_eq_false_iff_not] at h; omega
    refine Sat.exit ?_
    simp only [thenK, blockK, reduceIte]
    (repeat refine Sat.seq ?_)
    (refine Sat.region_k fun k hk => ?_; simp -implicitDefEqProofs only [evr, id, reduceCtorEq, reduceIte, Nat.reduceMul, Nat.reduceAdd, Nat.reduceLT, Nat.reduceLeDiff, Nat.reduceEqDiff, Int.reduceLT, Int.reduceBEq, Int.reduceBNe, Nat.reduceBEq, res_one, List.append_nil, Int.toNat_zero, Nat.sub_self, cft_one, cft_0, cft_1, cft_2, cft_3, resRow]; refine hk _ ?_; clear hk k; try show Sat _ _ _ _ _)
    refine Sat.ret ?_
    simp only [Try.results19, evr, id, reduceCtorEq, reduceIte, Nat.reduceMul, Nat.reduceAdd, Nat.reduceLT, Nat.reduceLeDiff, Nat.reduceEqDiff, Int.reduceLT, Int.reduceBEq, Int.reduceBNe, Nat.reduceBEq, res_one, List.append_nil, Int.toNat_zero, Nat.sub_self, cft_one, cft_0, cft_1, cft_2, cft_3, resRow]
    rw [size_eq, List.take_of_length_le (by omega)]

/-- the results of the first conflicts -/
def flatC (cs : List CftP) : List Res := (cs.map fun x => x.c.l).flatten
theorem flatC_len (cs : List CftP) : (flatC cs).length = lens cs := by simp [flatC, lens, List.length_flatten, Function.comp_def]
theorem flatC_succ (cs : List CftP) (i : Nat) (h : i < cs.length) : flatC (cs.take (i + 1)) = flatC (cs.take i) ++ (cs.getD i default).c.l := by
  unfold flatC
  rw [List.take_succ_eq_append_getElem h, List.map_append, List.flatten_append]
  simp [List.getD, List.getElem?_eq_getElem h]
theorem all_eq (p : LedP) : p.led.all = p.rs ++ flatC p.cs := by
  unfold Led.all LedP.led flatC
  simp only [List.map_map, Function.comp_def]

set_option maxRecDepth 100000 in
theorem allC (F : Frm) (p : LedP) (hp : p.led.size ≤ 1000000000) (hcl : p.cs.length ≤ 1000000000000) : ContractN F Try.prog 35 [ledS p] (fun o => ∃ a cap, o = resRow a p.led.all.length cap p.led.all.toArray) := by
  rw [size_eq] at hp
  refine contractN_of Try.func35 rfl (by kernel_rfl) ?_
  simp only [Try.ntmps35, argEnv, ledS]
  (repeat refine Sat.seq ?_)
  (refine Sat.region_k fun k hk => ?_; simp -implicitDefEqProofs only [evr, id, reduceCtorEq, reduceIte, Nat.reduceMul, Nat.reduceAdd, Nat.reduceLT, Nat.reduceLeDiff, Nat.reduceEqDiff, Int.reduceLT, Int.reduceBEq, Int.reduceBNe, Nat.reduceBEq, res_one, List.append_nil, Int.toNat_zero, Nat.sub_self, cft_one, cft_0, cft_1, cft_2, cft_3, resRow])
  intro blk1
  (refine hk _ ?_; clear hk k; try show Sat _ _ _ _ _)
  (repeat refine Sat.seq ?_)
  (refine Sat.region_k fun k hk => ?_; simp -implicitDefEqProofs only [evr, id, reduceCtorEq, reduceIte, Nat.reduceMul, Nat.reduceAdd, Nat.reduceLT, Nat.reduceLeDiff, Nat.reduceEqDiff, Int.reduceLT, Int.reduceBEq, Int.reduceBNe, Nat.reduceBEq, res_one, List.append_nil, Int.toNat_zero, Nat.sub_self, cft_one, cft_0, cft_1, cft_2, cft_3, resRow])
  refine wcall_new (cloneC F p.a0 p.c0 p.rs (by omega)) rfl rfl ?_
  rintro ra ty len rc sz rrd ⟨ra', rc', e⟩
  simp only [resRow, Own.row.injEq] at e
  obtain ⟨rfl, rfl, rfl, rfl, rfl, rfl⟩ := e
  simp -implicitDefEqProofs only [evr, id, reduceCtorEq, reduceIte, Nat.reduceMul, Nat.reduceAdd, Nat.reduceLT, Nat.reduceLeDiff, Nat.reduceEqDiff, Int.reduceLT, Int.reduceBEq, Int.reduceBNe, Nat.reduceBEq, res_one, List.append_nil, Int.toNat_zero, Nat.sub_self, cft_one, cft_0, cft_1, cft_2, cft_3, resRow]
  (refine hk _ ?_; clear hk k; try show Sat _ _ _ _ _)
  (repeat refine Sat.seq ?_)
  (refine Sat.region_k fun k hk => ?_; simp -implicitDefEqProofs only [evr, id, reduceCtorEq, reduceIte, Nat.reduceMul, Nat.reduceAdd, Nat.reduceLT, Nat.reduceLeDiff, Nat.reduceEqDiff, Int.reduceLT, Int.reduceBEq, Int.reduceBNe, Nat.reduceBEq, res_one, List.append_nil, Int.toNat_zero, Nat.sub_self, cft_one, cft_0, cft_1, cft_2, cft_3, resRow]; refine hk _ ?_; clear hk k; try show Sat _ _ _ _ _)
  (repeat refine Sat.seq ?_)
  refine Sat.block ?_
  refine Sat.loop (ι := Nat × Option Addr × Nat) (fun x => ⟨22, [(3, .os 1 x.2.1 (p.rs ++ flatC (p.cs.take x.1)).length x.2.2), (12, .i .i64 x.1), (10, .sl p.a1 p.cs.length p.c1 4 (cftRd p.cs)), (11, .i .i64 p.cs.length)], [.gone, resRow x.2.1 (p.rs ++ flatC (p.cs.take x.1)).length x.2.2 (p.rs ++ flatC (p.cs.take x.1)).toArray]⟩)
    (fun x => x.1 ≤ p.cs.length) (fun x => p.cs.length - x.1) (0, ra, rc) (Nat.zero_le _) (by
      simp only [List.take_zero, flatC, List.map_nil, List.flatten_nil, List.append_nil]
      simp -implicitDefEqProofs only [evr, id, reduceCtorEq, reduceIte, Nat.reduceMul, Nat.reduceAdd, Nat.reduceLT, Nat.reduceLeDiff, Nat.reduceEqDiff, Int.reduceLT, Int.reduceBEq, Int.reduceBNe, Nat.reduceBEq, res_one, List.append_nil, Int.toNat_zero, Nat.sub_self, cft_one, cft_0, cft_1, cft_2, cft_3, resRow, evl]
      rfl) ?_
  rintro ⟨i, xa, xc⟩ hi
  simp only at hi ⊢
  (repeat refine Sat.seq ?_)
  (refine Sat.region_k fun k hk => ?_; simp -implicitDefEqProofs only [evr, id, reduceCtorEq, reduceIte, Nat.reduceMul, Nat.reduceAdd, Nat.reduceLT, Nat.reduceLeDiff, Nat.reduceEqDiff, Int.reduceLT, Int.reduceBEq, Int.reduceBNe, Nat.reduceBEq, res_one, List.append_nil, Int.toNat_zero, Nat.sub_self, cft_one, cft_0, cft_1, cft_2, cft_3, resRow]; refine hk _ ?_; clear hk k; try show Sat _ _ _ _ _)
  (repeat refine Sat.seq ?_)
  refine Sat.cond_b rfl (fun h => ?_) (fun h => ?_)
  · have h1 : i < p.cs.length := by simp only [decide_eq_true_eq] at h; omega
    have e1 := lens_succ p.cs i h1
    have e2 := lens_le p.cs (i + 1)
    have e5 := flatC_succ p.cs i h1
    have e6 : (p.rs ++ flatC (p.cs.take i)).length = p.rs.length + lens (p.cs.take i) := by rw [List.length_append, flatC_len]
    have e3 : IntKind.i64.wrap ((i : Int) + 1) = ((i + 1 : Nat) : Int) := by rw [w64 (by omega)]; omega
    refine Sat.skip ?_
    simp only [thenK]
    (repeat refine Sat.seq ?_)
    refine Sat.block ?_
    (repeat refine Sat.seq ?_)
    (refine Sat.region_k fun k hk => ?_; simp -implicitDefEqProofs only [evr, id, reduceCtorEq, reduceIte, Nat.reduceMul, Nat.reduceAdd, Nat.reduceLT, Nat.reduceLeDiff, Nat.reduceEqDiff, Int.reduceLT, Int.reduceBEq, Int.reduceBNe, Nat.reduceBEq, res_one, List.append_nil, Int.toNat_zero, Nat.sub_self, cft_one, cft_0, cft_1, cft_2, cft_3, resRow])
    refine ⟨by omega, ?_⟩
    intro blk2
    (refine hk _ ?_; clear hk k; try show Sat _ _ _ _ _)
    (repeat refine Sat.seq ?_)
    (refine Sat.region_k fun k hk => ?_; simp -implicitDefEqProofs only [evr, id, reduceCtorEq, reduceIte, Nat.reduceMul, Nat.reduceAdd, Nat.reduceLT, Nat.reduceLeDiff, Nat.reduceEqDiff, Int.reduceLT, Int.reduceBEq, Int.reduceBNe, Nat.reduceBEq, res_one, List.append_nil, Int.toNat_zero, Nat.sub_self, cft_one, cft_0, cft_1, cft_2, cft_3, resRow])
    refine ⟨⟨by unfold maxLen; omega, by omega⟩, fun a2 cap2 => ?_⟩
    refine hk _ ?_
    simp only [thenK, blockK]
    (repeat refine Sat.seq ?_)
    refine Sat.region_k fun k hk => ?_
    simp -implicitDefEqProofs only [evr, id, reduceCtorEq, reduceIte, Nat.reduceMul, Nat.reduceAdd, Nat.reduceLT, Nat.reduceLeDiff, Nat.reduceEqDiff, Int.reduceLT, Int.reduceBEq, Int.reduceBNe, Nat.reduceBEq, res_one, List.append_nil, Int.toNat_zero, Nat.sub_self, cft_one, cft_0, cft_1, cft_2, cft_3, resRow, e3]
    refine hk _ ?_
    simp only [thenK, blockK]
    refine ⟨(i + 1, a2, cap2), by omega, by show p.cs.length - (i + 1) < p.cs.length - i; omega, ?_⟩
    simp only [e5, ← List.append_assoc]
    have ec := res_cat (p.rs ++ flatC (p.cs.take i)) (p.cs.getD i default).c.l
    generalize p.rs ++ flatC (p.cs.take i) = xs at ec ⊢
    rw [List.length_append]
    simp -implicitDefEqProofs only [evr, id, reduceCtorEq, reduceIte, Nat.reduceMul, Nat.reduceAdd, Nat.reduceLT, Nat.reduceLeDiff, Nat.reduceEqDiff, Int.reduceLT, Int.reduceBEq, Int.reduceBNe, Nat.reduceBEq, res_one, List.append_nil, Int.toNat_zero, Nat.sub_self, cft_one, cft_0, cft_1, cft_2, cft_3, resRow, evl]
    exact ec
  · have h1 : i = p.cs.length := by simp only [decide_eq_false_iff_not] at h; omega
    subst h1
    refine Sat.exit ?_
    simp only [thenK, blockK, reduceIte]
    (repeat refine Sat.seq ?_)
    (refine Sat.region_k fun k hk => ?_; simp -implicitDefEqProofs only [evr, id, reduceCtorEq, reduceIte, Nat.reduceMul, Nat.reduceAdd, Nat.reduceLT, Nat.reduceLeDiff, Nat.reduceEqDiff, Int.reduceLT, Int.reduceBEq, Int.reduceBNe, Nat.reduceBEq, res_one, List.append_nil, Int.toNat_zero, Nat.sub_self, cft_one, cft_0, cft_1, cft_2, cft_3, resRow]; refine hk _ ?_; clear hk k; try show Sat _ _ _ _ _)
    refine Sat.ret ?_
    rw [all_eq]
    simp only [List.take_length]
    simp only [Try.results35, evr, id, reduceCtorEq, reduceIte, Nat.reduceMul, Nat.reduceAdd, Nat.reduceLT, Nat.reduceLeDiff, Nat.reduceEqDiff, Int.reduceLT, Int.reduceBEq, Int.reduceBNe, Nat.reduceBEq, res_one, List.append_nil, Int.toNat_zero, Nat.sub_self, cft_one, cft_0, cft_1, cft_2, cft_3, resRow, retN, retNK, newRow]
    exact ⟨⟨rfl, rfl, rfl⟩, _, _, rfl⟩
end Go.Proofs.Ythhofjkbmnklmaa
