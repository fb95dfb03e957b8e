/- Ledgers, by the evaluator: merge.limited, merge.Add, merge.Union; a ledger has all results. -/
import Derived.Test.YthhofjkbmnklmaaLedG
set_option linter.unusedSimpArgs false
set_option linter.unusedVariables false
namespace Go.Proofs.Ythhofjkbmnklmaa
open Go.Sort Eng

theorem perm_ledG : ∀ gs : List (List Res), (∀ g ∈ gs, g ≠ []) → (ledG gs).all.Perm gs.flatten
  | [], _ => by simp [ledG, Led.all]
  | g :: gs, h => by
    have ih := perm_ledG gs fun x hx => h x (List.mem_cons_of_mem _ hx)
    unfold ledG Led.all at ih ⊢
    match g, h g (by simp) with
    | [r], _ =>
      simp only [List.filterMap_cons, single, several, List.flatten_cons, List.cons_append, List.nil_append]
      exact List.Perm.cons _ ih
    | r :: s :: t, _ =>
      simp only [List.filterMap_cons, single, several, List.flatten_cons, List.map_cons]
      refine List.Perm.trans ?_ (List.Perm.append_left _ ih)
      rw [← List.append_assoc, ← List.append_assoc]
      exact List.Perm.append_right _ List.perm_append_comm
theorem ledOf_perm (c : List Res) : (ledOf c).all.Perm c := by
  have := perm_ledG (grp c) (grp_ne c)
  rwa [grp_flat] at this
theorem ledOf_size (c : List Res) : (ledOf c).size = c.length := (ledOf_perm c).length_eq
theorem ledOf_mem (c : List Res) (r : Res) : r ∈ (ledOf c).all ↔ r ∈ c := (ledOf_perm c).mem_iff

/-- the ledger that is given back, and the error -/
def LimP (c : List Res) (p : LedP) (e : Int) : Prop := (c.length ≤ 16384 ∧ e = 0 ∧ p.led = ledOf c) ∨ (16384 < c.length ∧ e = 5 ∧ p.led = ⟨[], []⟩)
/-- such a result, of the results xs -/
def limR (xs : List Res) (r : SV) : Prop := ∃ (p : LedP) (c : List Res) (e : Int), Canon c xs ∧ c.length ≤ xs.length ∧ LimP c p e ∧ p.cs.length ≤ c.length ∧ r = tupL [ledS p, .i .i64 e]

set_option maxRecDepth 100000 in
theorem limitedC0 (F : Frm) (a : Option Addr) (cap : Nat) (xs : List Res) (hl : xs.length ≤ 1000000000) :
    Contract F Try.prog 34 [.sl a xs.length cap 17 (resRd xs.toArray)] (fun r => ∃ (p : LedP) (c : List Res) (e : Int) (f : Nat → SV), Canon c xs ∧ c.length ≤ xs.length ∧ LimP c p e ∧ p.cs.length ≤ c.length ∧ r = tupL [.agg 2 f, .i .i64 e] ∧ sim (f 0) (SV.sl p.a0 p.rs.length p.c0 17 (resRd p.rs.toArray)) ∧ sim (f 1) (SV.sl p.a1 p.cs.length p.c1 4 (cftRd p.cs))) := by
  refine contract_of Try.func34 rfl (by kernel_rfl) ?_
  simp only [Try.ntmps34, argEnv]
  (repeat refine Sat.seq ?_)
  (refine Sat.region_k fun k hk => ?_; simp -implicitDefEqProofs only [evr, id, reduceCtorEq, reduceIte, Nat.reduceMul, Nat.reduceAdd, Nat.reduceLT, Nat.reduceLeDiff, Nat.reduceEqDiff, Int.reduceLT, Int.reduceBEq, Int.reduceBNe, Nat.reduceBEq, res_one, List.append_nil, Int.toNat_zero, Nat.sub_self, resRow])
  intro blk2
  (refine hk _ ?_; clear hk k; try show Sat _ _ _ _ _)
  (repeat refine Sat.seq ?_)
  (refine Sat.region_k fun k hk => ?_; simp -implicitDefEqProofs only [evr, id, reduceCtorEq, reduceIte, Nat.reduceMul, Nat.reduceAdd, Nat.reduceLT, Nat.reduceLeDiff, Nat.reduceEqDiff, Int.reduceLT, Int.reduceBEq, Int.reduceBNe, Nat.reduceBEq, res_one, List.append_nil, Int.toNat_zero, Nat.sub_self, resRow])
  refine wcall_slice (ledgerC F a cap xs hl) rfl rfl ?_
  rintro r ⟨p, c, hc1, hc2, hc3, hc4, rfl⟩
  have hsz : p.led.size = c.length := by rw [hc2, ledOf_size]
  simp -implicitDefEqProofs only [evr, id, reduceCtorEq, reduceIte, Nat.reduceMul, Nat.reduceAdd, Nat.reduceLT, Nat.reduceLeDiff, Nat.reduceEqDiff, Int.reduceLT, Int.reduceBEq, Int.reduceBNe, Nat.reduceBEq, res_one, List.append_nil, Int.toNat_zero, Nat.sub_self, resRow, ledS]
  intro blk4
  (refine hk _ ?_; clear hk k; try show Sat _ _ _ _ _)
  (repeat refine Sat.seq ?_)
  (refine Sat.region_k fun k hk => ?_; simp -implicitDefEqProofs only [evr, id, reduceCtorEq, reduceIte, Nat.reduceMul, Nat.reduceAdd, Nat.reduceLT, Nat.reduceLeDiff, Nat.reduceEqDiff, Int.reduceLT, Int.reduceBEq, Int.reduceBNe, Nat.reduceBEq, res_one, List.append_nil, Int.toNat_zero, Nat.sub_self, resRow])
  refine wcall_plain (sizeC F p (by omega) (by omega)) rfl (by rintro _ rfl; exact ok_plain rfl) ?_
  rintro r rfl
  simp -implicitDefEqProofs only [evr, id, reduceCtorEq, reduceIte, Nat.reduceMul, Nat.reduceAdd, Nat.reduceLT, Nat.reduceLeDiff, Nat.reduceEqDiff, Int.reduceLT, Int.reduceBEq, Int.reduceBNe, Nat.reduceBEq, res_one, List.append_nil, Int.toNat_zero, Nat.sub_self, resRow]
  (refine hk _ ?_; clear hk k; try show Sat _ _ _ _ _)
  (repeat refine Sat.seq ?_)
  refine Sat.cond_b rfl (fun h => ?_) (fun h => ?_)
  · have hgt : 16384 < c.length := by simp only [decide_eq_true_eq] at h; omega
    (repeat refine Sat.seq ?_)
    (refine Sat.region_k fun k hk => ?_; simp -implicitDefEqProofs only [evr, id, reduceCtorEq, reduceIte, Nat.reduceMul, Nat.reduceAdd, Nat.reduceLT, Nat.reduceLeDiff, Nat.reduceEqDiff, Int.reduceLT, Int.reduceBEq, Int.reduceBNe, Nat.reduceBEq, res_one, List.append_nil, Int.toNat_zero, Nat.sub_self, resRow]; refine hk _ ?_; clear hk k; try show Sat _ _ _ _ _)
    refine Sat.ret ?_
    simp only [Try.results34, evr, id, reduceCtorEq, reduceIte, Nat.reduceMul, Nat.reduceAdd, Nat.reduceLT, Nat.reduceLeDiff, Nat.reduceEqDiff, Int.reduceLT, Int.reduceBEq, Int.reduceBNe, Nat.reduceBEq, res_one, List.append_nil, Int.toNat_zero, Nat.sub_self, resRow]
    refine ⟨⟨none, 0, [], none, 0, []⟩, c, _, _, hc1, hc4, .inr ⟨hgt, rfl, rfl⟩, Nat.zero_le _, rfl, ?_, ?_⟩
    · simp -implicitDefEqProofs only [evr, id, reduceCtorEq, reduceIte, Nat.reduceMul, Nat.reduceAdd, Nat.reduceLT, Nat.reduceLeDiff, Nat.reduceEqDiff, Int.reduceLT, Int.reduceBEq, Int.reduceBNe, Nat.reduceBEq, res_one, List.append_nil, Int.toNat_zero, Nat.sub_self, resRow]
      exact sim_nil _ _ _ _
    · simp -implicitDefEqProofs only [evr, id, reduceCtorEq, reduceIte, Nat.reduceMul, Nat.reduceAdd, Nat.reduceLT, Nat.reduceLeDiff, Nat.reduceEqDiff, Int.reduceLT, Int.reduceBEq, Int.reduceBNe, Nat.reduceBEq, res_one, List.append_nil, Int.toNat_zero, Nat.sub_self, resRow]
      exact sim_nil _ _ _ _
  · have hle : c.length ≤ 16384 := by simp only [decide_eq_false_iff_not] at h; omega
    refine Sat.skip ?_
    simp only [thenK]
    (repeat refine Sat.seq ?_)
    (refine Sat.region_k fun k hk => ?_; simp -implicitDefEqProofs only [evr, id, reduceCtorEq, reduceIte, Nat.reduceMul, Nat.reduceAdd, Nat.reduceLT, Nat.reduceLeDiff, Nat.reduceEqDiff, Int.reduceLT, Int.reduceBEq, Int.reduceBNe, Nat.reduceBEq, res_one, List.append_nil, Int.toNat_zero, Nat.sub_self, resRow]; refine hk _ ?_; clear hk k; try show Sat _ _ _ _ _)
    refine Sat.ret ?_
    simp only [Try.results34, evr, id, reduceCtorEq, reduceIte, Nat.reduceMul, Nat.reduceAdd, Nat.reduceLT, Nat.reduceLeDiff, Nat.reduceEqDiff, Int.reduceLT, Int.reduceBEq, Int.reduceBNe, Nat.reduceBEq, res_one, List.append_nil, Int.toNat_zero, Nat.sub_self, resRow]
    refine ⟨p, c, _, _, hc1, hc4, .inl ⟨hle, rfl, hc2⟩, hc3, rfl, ?_, ?_⟩
    · simp -implicitDefEqProofs only [evr, id, reduceCtorEq, reduceIte, Nat.reduceMul, Nat.reduceAdd, Nat.reduceLT, Nat.reduceLeDiff, Nat.reduceEqDiff, Int.reduceLT, Int.reduceBEq, Int.reduceBNe, Nat.reduceBEq, res_one, List.append_nil, Int.toNat_zero, Nat.sub_self, resRow]
      exact sim_refl _
    · simp -implicitDefEqProofs only [evr, id, reduceCtorEq, reduceIte, Nat.reduceMul, Nat.reduceAdd, Nat.reduceLT, Nat.reduceLeDiff, Nat.reduceEqDiff, Int.reduceLT, Int.reduceBEq, Int.reduceBNe, Nat.reduceBEq, res_one, List.append_nil, Int.toNat_zero, Nat.sub_self, resRow]
      exact sim_refl _

theorem limR_of {F : Frm} {f : FuncId} {args : List SV} {xs : List Res} (h : Contract F Try.prog f args (fun r => ∃ (p : LedP) (c : List Res) (e : Int) (f : Nat → SV), Canon c xs ∧ c.length ≤ xs.length ∧ LimP c p e ∧ p.cs.length ≤ c.length ∧ r = tupL [.agg 2 f, .i .i64 e] ∧ sim (f 0) (SV.sl p.a0 p.rs.length p.c0 17 (resRd p.rs.toArray)) ∧ sim (f 1) (SV.sl p.a1 p.cs.length p.c1 4 (cftRd p.cs)))) : Contract F Try.prog f args (limR xs) :=
  h.same fun r ⟨p, c, e, f, h1, h2, h3, h4, h5, h6, h7⟩ => ⟨tupL [ledS p, .i .i64 e], by
    rw [h5]
    exact sim_tup2 (sim_agg2 h6 h7) (sim_refl _), p, c, e, h1, h2, h3, h4, rfl⟩
theorem limitedC (F : Frm) (a : Option Addr) (cap : Nat) (xs : List Res) (hl : xs.length ≤ 1000000000) : Contract F Try.prog 34 [.sl a xs.length cap 17 (resRd xs.toArray)] (limR xs) := limR_of (limitedC0 F a cap xs hl)

theorem limCat (F : Frm) (a : Option Addr) (cap : Nat) (xs ys : List Res) (hl : xs.length + ys.length ≤ 1000000000) :
    Contract F Try.prog 34 [.sl a (xs.length + ys.length) cap 17 (rdCat xs.length (resRd xs.toArray) (resRd ys.toArray))] (limR (xs ++ ys)) := by
  have h := limitedC F a cap (xs ++ ys) (by rw [List.length_append]; omega)
  rw [List.length_append] at h
  exact Contract.of_sim h ⟨sim_sl (res_cat xs ys), trivial⟩

set_option maxRecDepth 100000 in
theorem addC (F : Frm) (p : LedP) (hcl : p.cs.length ≤ 1000000000000) (a : Option Addr) (cap : Nat) (xs : List Res) (hl : p.led.size + xs.length ≤ 1000000000) :
    Contract F Try.prog 12 [ledS p, .sl a xs.length cap 17 (resRd xs.toArray)] (limR (p.led.all ++ xs)) := by
  refine limR_of ?_
  have hsz : p.led.all.length = p.led.size := rfl
  refine contract_of Try.func12 rfl (by kernel_rfl) ?_
  simp only [Try.ntmps12, argEnv, ledS]
  (repeat refine Sat.seq ?_)
  (refine Sat.region_k fun k hk => ?_; simp -implicitDefEqProofs only [evr, id, reduceCtorEq, reduceIte, Nat.reduceMul, Nat.reduceAdd, Nat.reduceLT, Nat.reduceLeDiff, Nat.reduceEqDiff, Int.reduceLT, Int.reduceBEq, Int.reduceBNe, Nat.reduceBEq, res_one, List.append_nil, Int.toNat_zero, Nat.sub_self, resRow])
  intro blk2 blk4
  (refine hk _ ?_; clear hk k; try show Sat _ _ _ _ _)
  (repeat refine Sat.seq ?_)
  (refine Sat.region_k fun k hk => ?_; simp -implicitDefEqProofs only [evr, id, reduceCtorEq, reduceIte, Nat.reduceMul, Nat.reduceAdd, Nat.reduceLT, Nat.reduceLeDiff, Nat.reduceEqDiff, Int.reduceLT, Int.reduceBEq, Int.reduceBNe, Nat.reduceBEq, res_one, List.append_nil, Int.toNat_zero, Nat.sub_self, resRow])
  refine wcall_new (allC F p (by omega) hcl) rfl rfl ?_
  rintro ra ty len rc sz rrd ⟨ra', rc', e⟩
  simp only [resRow, Own.row.injEq] at e
  obtain ⟨rfl, rfl, rfl, rfl, rfl, rfl⟩ := e
  simp -implicitDefEqProofs only [evr, id, reduceCtorEq, reduceIte, Nat.reduceMul, Nat.reduceAdd, Nat.reduceLT, Nat.reduceLeDiff, Nat.reduceEqDiff, Int.reduceLT, Int.reduceBEq, Int.reduceBNe, Nat.reduceBEq, res_one, List.append_nil, Int.toNat_zero, Nat.sub_self, resRow]
  refine ⟨⟨by unfold maxLen; omega, by omega⟩, fun a2 cap2 => ?_⟩
  refine wcall_slice (limCat F a2 cap2 p.led.all xs (by omega)) rfl (by simp -implicitDefEqProofs only [evr, id, reduceCtorEq, reduceIte, Nat.reduceMul, Nat.reduceAdd, Nat.reduceLT, Nat.reduceLeDiff, Nat.reduceEqDiff, Int.reduceLT, Int.reduceBEq, Int.reduceBNe, Nat.reduceBEq, res_one, List.append_nil, Int.toNat_zero, Nat.sub_self, resRow]) ?_
  rintro r ⟨p', c, e, h1, h2, h3, h4, rfl⟩
  simp -implicitDefEqProofs only [evr, id, reduceCtorEq, reduceIte, Nat.reduceMul, Nat.reduceAdd, Nat.reduceLT, Nat.reduceLeDiff, Nat.reduceEqDiff, Int.reduceLT, Int.reduceBEq, Int.reduceBNe, Nat.reduceBEq, res_one, List.append_nil, Int.toNat_zero, Nat.sub_self, resRow, ledS]
  (refine hk _ ?_; clear hk k; try show Sat _ _ _ _ _)
  refine Sat.ret ?_
  simp only [Try.results12, evr, id, reduceCtorEq, reduceIte, Nat.reduceMul, Nat.reduceAdd, Nat.reduceLT, Nat.reduceLeDiff, Nat.reduceEqDiff, Int.reduceLT, Int.reduceBEq, Int.reduceBNe, Nat.reduceBEq, res_one, List.append_nil, Int.toNat_zero, Nat.sub_self, resRow]
  refine ⟨p', c, e, _, h1, h2, h3, h4, rfl, ?_, ?_⟩
  · simp -implicitDefEqProofs only [evr, id, reduceCtorEq, reduceIte, Nat.reduceMul, Nat.reduceAdd, Nat.reduceLT, Nat.reduceLeDiff, Nat.reduceEqDiff, Int.reduceLT, Int.reduceBEq, Int.reduceBNe, Nat.reduceBEq, res_one, List.append_nil, Int.toNat_zero, Nat.sub_self, resRow]
    exact sim_refl _
  · simp -implicitDefEqProofs only [evr, id, reduceCtorEq, reduceIte, Nat.reduceMul, Nat.reduceAdd, Nat.reduceLT, Nat.reduceLeDiff, Nat.reduceEqDiff, Int.reduceLT, Int.reduceBEq, Int.reduceBNe, Nat.reduceBEq, res_one, List.append_nil, Int.toNat_zero, Nat.sub_self, resRow]
    exact sim_refl _

set_option maxRecDepth 100000 in
theorem unionC (F : Frm) (p q : LedP) (hcl : p.cs.length ≤ 1000000000000) (hcl2 : q.cs.length ≤ 1000000000000) (hl : p.led.size + q.led.size ≤ 1000000000) :
    Contract F Try.prog 18 [ledS p, ledS q] (limR (p.led.all ++ q.led.all)) := by
  refine limR_of ?_
  have hsz : p.led.all.length = p.led.size := rfl
  have hsz2 : q.led.all.length = q.led.size := rfl
  refine contract_of Try.func18 rfl (by kernel_rfl) ?_
  simp only [Try.ntmps18, argEnv, ledS]
  (repeat refine Sat.seq ?_)
  (refine Sat.region_k fun k hk => ?_; simp -implicitDefEqProofs only [evr, id, reduceCtorEq, reduceIte, Nat.reduceMul, Nat.reduceAdd, Nat.reduceLT, Nat.reduceLeDiff, Nat.reduceEqDiff, Int.reduceLT, Int.reduceBEq, Int.reduceBNe, Nat.reduceBEq, res_one, List.append_nil, Int.toNat_zero, Nat.sub_self, resRow])
  intro blk2 blk3 blk4
  (refine hk _ ?_; clear hk k; try show Sat _ _ _ _ _)
  (repeat refine Sat.seq ?_)
  (refine Sat.region_rows [⟨0, 7, 4, 1⟩, ⟨1, 8, 64, 2⟩, ⟨0, 9, 8, 1⟩, ⟨6, 10, 256, 2⟩, ⟨10, 11, 640, 2⟩, ⟨16, 12, 1024, 2⟩, ⟨32, 13, 2048, 0⟩, ⟨32, 14, 2048, 0⟩, ⟨255, 0, 4112, 2⟩, ⟨511, 6, 8192, 0⟩] [0, 2] [(1, false), (3, false), (4, false), (5, false), (6, true), (7, false), (8, false), (9, false)] [1] (by kernel_rfl) (by kernel_rfl) (fun _ _ h => h) fun k hk => ?_; simp only [List.map_cons, List.map_nil, List.getD_cons_zero, List.getD_cons_succ, btseq_cons, btseq_free, btseq_nil]; simp -implicitDefEqProofs only [evr, id, reduceCtorEq, reduceIte, Nat.reduceMul, Nat.reduceAdd, Nat.reduceLT, Nat.reduceLeDiff, Nat.reduceEqDiff, Int.reduceLT, Int.reduceBEq, Int.reduceBNe, Nat.reduceBEq, res_one, List.append_nil, Int.toNat_zero, Nat.sub_self, resRow])
  refine wcall_new (allC F p (by omega) hcl) rfl rfl ?_
  rintro ra ty len rc sz rrd ⟨ra', rc', e⟩
  simp only [resRow, Own.row.injEq] at e
  obtain ⟨rfl, rfl, rfl, rfl, rfl, rfl⟩ := e
  simp -implicitDefEqProofs only [evr, id, reduceCtorEq, reduceIte, Nat.reduceMul, Nat.reduceAdd, Nat.reduceLT, Nat.reduceLeDiff, Nat.reduceEqDiff, Int.reduceLT, Int.reduceBEq, Int.reduceBNe, Nat.reduceBEq, res_one, List.append_nil, Int.toNat_zero, Nat.sub_self, resRow]
  refine wcall_new (allC F q (by omega) hcl2) rfl rfl ?_
  rintro ra2 ty len rc2 sz rrd ⟨ra', rc', e⟩
  simp only [resRow, Own.row.injEq] at e
  obtain ⟨rfl, rfl, rfl, rfl, rfl, rfl⟩ := e
  simp -implicitDefEqProofs only [evr, id, reduceCtorEq, reduceIte, Nat.reduceMul, Nat.reduceAdd, Nat.reduceLT, Nat.reduceLeDiff, Nat.reduceEqDiff, Int.reduceLT, Int.reduceBEq, Int.reduceBNe, Nat.reduceBEq, res_one, List.append_nil, Int.toNat_zero, Nat.sub_self, resRow]
  refine ⟨⟨by unfold maxLen; omega, by omega⟩, fun a2 cap2 => ?_⟩
  refine wcall_slice (limCat F a2 cap2 p.led.all q.led.all (by omega)) rfl (by simp -implicitDefEqProofs only [evr, id, reduceCtorEq, reduceIte, Nat.reduceMul, Nat.reduceAdd, Nat.reduceLT, Nat.reduceLeDiff, Nat.reduceEqDiff, Int.reduceLT, Int.reduceBEq, Int.reduceBNe, Nat.reduceBEq, res_one, List.append_nil, Int.toNat_zero, Nat.sub_self, resRow]) ?_
  rintro r ⟨p', c, e, h1, h2, h3, h4, rfl⟩
  simp -implicitDefEqProofs only [evr, id, reduceCtorEq, reduceIte, Nat.reduceMul, Nat.reduceAdd, Nat.reduceLT, Nat.reduceLeDiff, Nat.reduceEqDiff, Int.reduceLT, Int.reduceBEq, Int.reduceBNe, Nat.reduceBEq, res_one, List.append_nil, Int.toNat_zero, Nat.sub_self, resRow, ledS]
  (refine hk _ ?_; clear hk k; try show Sat _ _ _ _ _)
  refine Sat.ret ?_
  simp only [Try.results18, evr, id, reduceCtorEq, reduceIte, Nat.reduceMul, Nat.reduceAdd, Nat.reduceLT, Nat.reduceLeDiff, Nat.reduceEqDiff, Int.reduceLT, Int.reduceBEq, Int.reduceBNe, Nat.reduceBEq, res_one, List.append_nil, Int.toNat_zero, Nat.sub_self, resRow]
  refine ⟨p', c, e, _, h1, h2, h3, h4, rfl, ?_, ?_⟩
  · simp -implicitDefEqProofs only [evr, id, reduceCtorEq, reduceIte, Nat.reduceMul, Nat.reduceAdd, Nat.reduceLT, Nat.reduceLeDiff, Nat.reduceEqDiff, Int.reduceLT, Int.reduceBEq, Int.reduceBNe, Nat.reduceBEq, res_one, List.append_nil, Int.toNat_zero, Nat.sub_self, resRow]
    exact sim_refl _
  · simp -implicitDefEqProofs only [evr, id, reduceCtorEq, reduceIte, Nat.reduceMul, Nat.reduceAdd, Nat.reduceLT, Nat.reduceLeDiff, Nat.reduceEqDiff, Int.reduceLT, Int.reduceBEq, Int.reduceBNe, Nat.reduceBEq, res_one, List.append_nil, Int.toNat_zero, Nat.sub_self, resRow]
    exact sim_refl _
end Go.Proofs.Ythhofjkbmnklmaa
