/- CommonOrders: Compare and CompareID are total orders, and equal evidence is the same. The law holds of every input. -/
import Derived.Test.YtepbdjpcoleegaaPk4
import Derived.Test.YtepbdjpcoleegaaWalkE
import Derived.Test.YtepbdjpcoleegaaOpenE
import Derived.Test.YtepbdjpcoleegaaShCommonOrders
set_option linter.unusedSimpArgs false
set_option linter.unusedVariables false
namespace Go.Proofs.Ytepbdjpcoleegaa
open Go.Sort Eng
theorem orI_eq (i j : Idn) : IntKind.i64.wrap (0 - idnCmpI j i) = idnCmpI i j := by
  have h := idnCmp_vals i j
  rw [idnCmp_neg i j, Int.zero_sub, Int.neg_neg]
  exact w64 (by omega)
theorem or_same (i j : Idn) : (idnCmpI i j == 0) = decide ((⟨i.van, i.run, i.num⟩ : Idn) = ⟨j.van, j.run, j.num⟩) := by
  have : ((⟨i.van, i.run, i.num⟩ : Idn) = ⟨j.van, j.run, j.num⟩) ↔ idnCmpI i j = 0 := idnCmpI_zero.symm
  rw [Bool.eq_iff_iff]
  simp only [beq_iff_eq, decide_eq_true_eq]
  exact this.symm
theorem evCmp_vals (e f : Evd) : -1 ≤ evCmp e f ∧ evCmp e f ≤ 1 := by
  rw [evCmp_lex]
  have h4 : ∀ l m, -1 ≤ cmpIds l m ∧ cmpIds l m ≤ 1 := fun l m => by
    induction l generalizing m with
    | nil => cases m <;> simp [cmpIds]
    | cons x l ih =>
      cases m with
      | nil => simp [cmpIds]
      | cons y m =>
        unfold cmpIds
        have := idnCmp_vals x y
        split
        · omega
        · exact ih m
  have h5 := h4 e.ids f.ids
  unfold lex3
  rcases ordI_cases e.kind f.kind with ⟨_, h1⟩ | ⟨_, h1⟩ | ⟨_, h1⟩ <;> rcases ordI_cases e.a f.a with ⟨_, h2⟩ | ⟨_, h2⟩ | ⟨_, h2⟩ <;> rcases ordI_cases e.b f.b with ⟨_, h3⟩ | ⟨_, h3⟩ | ⟨_, h3⟩ <;> rw [h1, h2, h3] <;> simp <;> omega
theorem evI_eq (e f : Evd) : IntKind.i64.wrap (0 - evCmp f e) = evCmp e f := by
  have h := evCmp_vals e f
  rw [evCmp_neg e f, Int.zero_sub, Int.neg_neg]
  exact w64 (by omega)
theorem evSame (A B : Evd) : ((evCmp A B == 0) == decide (evCmp A B = 0)) = true := by
  by_cases h : evCmp A B = 0 <;> simp [h]
set_option maxHeartbeats 2000000 in
set_option maxRecDepth 100000 in
theorem ordersC (a : Option Addr) (cap : Nat) (z : List Int) (hz : ∀ n ∈ z, (Lit.int .u8 n).wf = true) (i j l : Idn) : Contract Frm.nil Try.prog 6 [slB a cap z, idnAg i, idnAg j, idnAg l] (fun r => r = .b true) := by
  have hb : isBytes (slB a cap z) := ⟨a, z.length, cap, _, rfl, fun i hi => ⟨z.getD i 0, by have := bounds_u8 (hz _ (getD_mem (d := 0) hi)); omega, by have := bounds_u8 (hz _ (getD_mem (d := 0) hi)); omega, rfl⟩⟩
  refine contract_of Try.func6 rfl (by kernel_rfl) ?_
  simp only [Try.ntmps6, argEnv, idnAg, Idn.cs]
  (repeat refine Sat.seq ?_)
  (refine Sat.region_k fun k hk => ?_; simp -implicitDefEqProofs only [evr, id, seval, ptr, res_one, par_one, idn_one, idn_0, idn_1, idn_2, resRow, res_ro, rExtract_tup, id_eq, evn])
  intro b5 b6 b7
  (refine hk _ ?_; clear hk k; try show Sat _ _ _ _ _)
  (repeat refine Sat.seq ?_)
  (refine Sat.region_k fun k hk => ?_; simp -implicitDefEqProofs only [evr, id, seval, ptr, res_one, par_one, idn_one, idn_0, idn_1, idn_2, resRow, res_ro, rExtract_tup, id_eq, evn])
  refine wcall_plain (awakeC Frm.nil) rfl (by rintro _ rfl; exact ok_plain rfl) ?_
  rintro r rfl
  simp -implicitDefEqProofs only [evr, id, seval, ptr, res_one, par_one, idn_one, idn_0, idn_1, idn_2, resRow, res_ro, rExtract_tup, id_eq, evn]
  (refine hk _ ?_; clear hk k; try show Sat _ _ _ _ _)
  (repeat refine Sat.seq ?_)
  refine Sat.cond_b rfl (fun h => absurd h (by decide)) (fun _ => ?_)
  refine Sat.skip ?_
  simp only [thenK]
  (repeat refine Sat.seq ?_)
  refine Sat.settleBoxG 5 rfl rfl ?_
  refine Sat.settleBoxG 6 rfl rfl ?_
  refine Sat.settleBoxG 7 rfl rfl ?_
  (refine Sat.region_k fun k hk => ?_; simp -implicitDefEqProofs only [evr, id, seval, ptr, res_one, par_one, idn_one, idn_0, idn_1, idn_2, resRow, res_ro, rExtract_tup, id_eq, evn])
  refine wcall_make (rollC (slB a cap z) hb) ?_
  intro cb
  simp -implicitDefEqProofs only [evr, id, seval, ptr, res_one, par_one, idn_one, idn_0, idn_1, idn_2, resRow, res_ro, rExtract_tup, id_eq, evn]
  (refine hk _ ?_; clear hk k; try show Sat _ _ _ _ _)
  refine Sat.switch (cb := cb) (id := 3) (F' := Frm.codes cb) (fun b => Iff.rfl) (fun _ h => h) rfl ?_
  (repeat refine Sat.seq ?_)
  have hij := or_same i j
  refine Sat.joinK (ι := Bool) (fun q => ⟨132, [(53, .b q), (9, .v (.pointer (some ⟨cb, 0, none⟩))), (8, .ff)], []⟩) (fun q => q = false) (fun hrest => ?_) ?_
  · refine Sat.region_qk (by kernel_rfl) (by kernel_rfl) fun k hk => ?_
    simp -implicitDefEqProofs only [evr, id, seval, ptr, res_one, par_one, idn_one, idn_0, idn_1, idn_2, resRow, res_ro, rExtract_tup, id_eq, evn]
    repeat' (first
      | (with_reducible refine And.intro ?_ ?_)
      | (refine qcall (compareIdC Frm.nil i j) (by first | done | rfl) (ok_plain rfl) ?_
         simp -implicitDefEqProofs only [evr, id, seval, ptr, res_one, par_one, idn_one, idn_0, idn_1, idn_2, resRow, res_ro, rExtract_tup, id_eq, orI_eq, bne_self_eq_false, hij, evn])
      | (refine qcall (compareIdC Frm.nil j i) (by first | done | rfl) (ok_plain rfl) ?_
         simp -implicitDefEqProofs only [evr, id, seval, ptr, res_one, par_one, idn_one, idn_0, idn_1, idn_2, resRow, res_ro, rExtract_tup, id_eq, orI_eq, bne_self_eq_false, hij, evn])
      | (refine qcall (compareIdC Frm.nil j l) (by first | done | rfl) (ok_plain rfl) ?_
         simp -implicitDefEqProofs only [evr, id, seval, ptr, res_one, par_one, idn_one, idn_0, idn_1, idn_2, resRow, res_ro, rExtract_tup, id_eq, evn])
      | (refine qcall (compareIdC Frm.nil i l) (by first | done | rfl) (ok_plain rfl) ?_
         simp -implicitDefEqProofs only [evr, id, seval, ptr, res_one, par_one, idn_one, idn_0, idn_1, idn_2, resRow, res_ro, rExtract_tup, id_eq, evn])
      | (with_reducible intro _)
      | (refine hk _ ?_
         simp only [thenK]
         first
         | (refine (hrest false rfl).le ?_
            simp -implicitDefEqProofs only [evr, id, seval, ptr, res_one, par_one, idn_one, idn_0, idn_1, idn_2, resRow, res_ro, rExtract_tup, id_eq, evl, evn]
            done)
         | (refine (hrest (decide (0 < idnCmpI i l)) (decide_eq_false (by have := idn_trans i j l (by assumption) (by assumption); omega))).le ?_
            simp -implicitDefEqProofs only [evr, id, seval, ptr, res_one, par_one, idn_one, idn_0, idn_1, idn_2, resRow, res_ro, rExtract_tup, id_eq, evl, evn]
            done)))
  rintro q rfl
  refine Sat.cond_b rfl (fun h => absurd h (by decide)) (fun _ => ?_)
  refine Sat.skip ?_
  simp only [thenK]
  (repeat refine Sat.seq ?_)
  (refine Sat.region_k fun k hk => ?_; simp -implicitDefEqProofs only [evr, id, seval, ptr, res_one, par_one, idn_one, idn_0, idn_1, idn_2, resRow, res_ro, rExtract_tup, id_eq, evn])
  refine wcall_slice (diceEvC cb) rfl rfl ?_
  rintro r ⟨A, hA, rfl⟩
  simp only [evAg, Evd.cs, evr, id, seval, ptr, res_one, par_one, idn_one, idn_0, idn_1, idn_2, List.append_nil, Int.toNat_zero, Nat.sub_self, Int.reduceToNat, resRow, res_ro, rExtract_tup, id_eq]
  refine wcall_slice (diceEvC cb) rfl rfl ?_
  rintro r ⟨B0, hB0, rfl⟩
  simp only [evAg, Evd.cs, evr, id, seval, ptr, res_one, par_one, idn_one, idn_0, idn_1, idn_2, List.append_nil, Int.toNat_zero, Nat.sub_self, Int.reduceToNat, resRow, res_ro, rExtract_tup, id_eq]
  refine wcall_slice (diceEvC cb) rfl rfl ?_
  rintro r ⟨D, hD, rfl⟩
  simp only [evAg, Evd.cs, evr, id, seval, ptr, res_one, par_one, idn_one, idn_0, idn_1, idn_2, List.append_nil, Int.toNat_zero, Nat.sub_self, Int.reduceToNat, resRow, res_ro, rExtract_tup, id_eq]
  intro b10 b11 b12
  (refine hk _ ?_; clear hk k; try show Sat _ _ _ _ _)
  (repeat refine Sat.seq ?_)
  (refine Sat.region_k fun k hk => ?_; simp -implicitDefEqProofs only [evr, id, seval, ptr, res_one, par_one, idn_one, idn_0, idn_1, idn_2, resRow, res_ro, rExtract_tup, id_eq, evn])
  refine wcall_plain (boolC cb 2 (by decide) (by decide)) rfl plain_bool ?_
  rintro r ⟨q2, rfl⟩
  simp -implicitDefEqProofs only [evr, id, seval, ptr, res_one, par_one, idn_one, idn_0, idn_1, idn_2, resRow, res_ro, rExtract_tup, id_eq, evn]
  (refine hk _ ?_; clear hk k; try show Sat _ _ _ _ _)
  (repeat refine Sat.seq ?_)
  refine Sat.atF (ι := Evd) (fun z => ⟨132, [(12, .op 2 b12 0), (11, .op 1 b11 0), (10, .op 0 b10 0), (8, .ff)], [.box b10 37 (Evd.cs A), .box b11 37 (Evd.cs z), .box b12 37 (Evd.cs D)]⟩) (fun z => z.ids.length ≤ 3) ?_ ?_
  · refine Sat.cond_b rfl (fun h => ?_) (fun h => ?_)
    · (refine Sat.region_tree (.keep [0, 2, 4, 1, 6] [3, 5] (.alt 3 (.alt 5 (.one 7 (.one 8 (.one 9 (.one 10 (.one 11 .done))))) (.alt 7 (.free 8 (.alt 5 (.one 9 (.one 10 (.one 11 .done))) (.alt 9 (.one 5 (.one 10 (.one 11 .done))) .none))) .none)) (.alt 5 (.alt 3 (.one 7 (.one 8 (.one 9 (.one 10 (.one 11 .done))))) (.alt 7 (.one 3 (.one 8 (.one 9 (.one 10 (.one 11 .done))))) .none)) (.alt 7 (.alt 3 (.free 8 (.alt 5 (.one 9 (.one 10 (.one 11 .done))) (.alt 9 (.one 5 (.one 10 (.one 11 .done))) .none))) (.alt 5 (.one 3 (.one 8 (.one 9 (.one 10 (.one 11 .done))))) .none)) .none)))) (by kernel_rfl) (by kernel_rfl) (fun _ _ h => h) fun k hk => ?_; simp only [WOT, List.map_cons, List.map_nil, List.getD_cons_zero, List.getD_cons_succ]; simp -implicitDefEqProofs only [evr, id, seval, ptr, res_one, par_one, idn_one, idn_0, idn_1, idn_2, resRow, res_ro, rExtract_tup, id_eq, WOT, evn])
      repeat' (first
        | (with_reducible refine And.intro ?_ ?_)
        | (refine hk _ ?_
           simp only [thenK]
           refine ⟨⟨A.kind, A.a, A.b, B0.ids, B0.ad, B0.cap⟩, hB0, ?_⟩
           simp only [Evd.cs]
           simp -implicitDefEqProofs only [evr, id, seval, ptr, res_one, par_one, idn_one, idn_0, idn_1, idn_2, resRow, res_ro, rExtract_tup, id_eq, evl, evn]
           done))
    · refine Sat.skip ?_
      simp only [thenK]
      refine ⟨B0, hB0, ?_⟩
      simp only [Evd.cs]
      simp -implicitDefEqProofs only [evr, id, seval, ptr, res_one, par_one, idn_one, idn_0, idn_1, idn_2, resRow, res_ro, rExtract_tup, id_eq, evl, evn]
  rintro B hB
  simp only [thenK, Evd.cs]
  (repeat refine Sat.seq ?_)
  refine Sat.atF (ι := Bool) (fun q => ⟨132, [(13, .b q), (12, .op 2 b12 0), (11, .op 1 b11 0), (10, .op 0 b10 0), (8, .ff)], [.box b10 37 (Evd.cs A), .box b11 37 (Evd.cs B), .box b12 37 (Evd.cs D)]⟩) (fun q => q = decide (evCmp A B = 0)) ?_ ?_
  · (refine Sat.region_k fun k hk => ?_; simp -implicitDefEqProofs only [evr, id, seval, ptr, res_one, par_one, idn_one, idn_0, idn_1, idn_2, resRow, res_ro, rExtract_tup, id_eq, evn])
    refine ⟨fun h1 => ⟨fun h2 => ⟨fun h3 => ?_, fun h3 => ?_⟩, fun h2 => ?_⟩, fun h1 => ?_⟩
    · refine wcall_plain (sameIdsC (Frm.codes cb) A.ad B.ad A.cap B.cap A.ids B.ids (by omega) (by omega)) (by first | rfl | (simp -implicitDefEqProofs only [evr, id, seval, ptr, res_one, par_one, idn_one, idn_0, idn_1, idn_2, resRow, res_ro, rExtract_tup, id_eq, evn]; rfl)) (by rintro _ rfl; exact ok_plain rfl) ?_
      rintro _ rfl
      simp -implicitDefEqProofs only [evr, id, seval, ptr, res_one, par_one, idn_one, idn_0, idn_1, idn_2, resRow, res_ro, rExtract_tup, id_eq, evn]
      have e9 : decide (A.ids = B.ids) = decide (evCmp A B = 0) := by
        rw [beq_iff_eq] at h1 h2 h3
        rw [Bool.eq_iff_iff, decide_eq_true_eq, decide_eq_true_eq, evCmp_zero]
        exact ⟨fun h => ⟨h1, h2, h3, h⟩, fun h => h.2.2.2⟩
      refine hk _ ?_
      simp only [thenK]
      refine ⟨_, e9, ?_⟩
      simp only [Evd.cs]
      simp -implicitDefEqProofs only [evr, id, seval, ptr, res_one, par_one, idn_one, idn_0, idn_1, idn_2, resRow, res_ro, rExtract_tup, id_eq, evl, evn]
    · have e9 : false = decide (evCmp A B = 0) := (decide_eq_false fun h => by have := (evCmp_zero A B).1 h; simp_all).symm
      refine hk _ ?_
      simp only [thenK]
      refine ⟨false, e9, ?_⟩
      simp only [Evd.cs]
      simp -implicitDefEqProofs only [evr, id, seval, ptr, res_one, par_one, idn_one, idn_0, idn_1, idn_2, resRow, res_ro, rExtract_tup, id_eq, evl, evn]
    · have e9 : false = decide (evCmp A B = 0) := (decide_eq_false fun h => by have := (evCmp_zero A B).1 h; simp_all).symm
      refine hk _ ?_
      simp only [thenK]
      refine ⟨false, e9, ?_⟩
      simp only [Evd.cs]
      simp -implicitDefEqProofs only [evr, id, seval, ptr, res_one, par_one, idn_one, idn_0, idn_1, idn_2, resRow, res_ro, rExtract_tup, id_eq, evl, evn]
    · have e9 : false = decide (evCmp A B = 0) := (decide_eq_false fun h => by have := (evCmp_zero A B).1 h; simp_all).symm
      refine hk _ ?_
      simp only [thenK]
      refine ⟨false, e9, ?_⟩
      simp only [Evd.cs]
      simp -implicitDefEqProofs only [evr, id, seval, ptr, res_one, par_one, idn_one, idn_0, idn_1, idn_2, resRow, res_ro, rExtract_tup, id_eq, evl, evn]
  rintro q rfl
  simp only [thenK, Evd.cs]
  (repeat refine Sat.seq ?_)
  refine Sat.joinK (ι := Unit) (fun _ => ⟨132, [(8, .b true)], []⟩) (fun _ => True) (fun hrest => ?_) ?_
  · refine Sat.region_qk (by kernel_rfl) (by kernel_rfl) fun k hk => ?_
    simp -implicitDefEqProofs only [evr, id, seval, ptr, res_one, par_one, idn_one, idn_0, idn_1, idn_2, resRow, res_ro, rExtract_tup, id_eq, evn]
    repeat' (first
      | (with_reducible refine And.intro ?_ ?_)
      | (refine qcall (compareEvC Frm.nil A B (by omega) (by omega)) (by first | done | rfl) (ok_plain rfl) ?_
         simp -implicitDefEqProofs only [evr, id, seval, ptr, res_one, par_one, idn_one, idn_0, idn_1, idn_2, resRow, res_ro, rExtract_tup, id_eq, evI_eq, beq_self_eq_true, evSame, evn])
      | (refine qcall (compareEvC Frm.nil B A (by omega) (by omega)) (by first | done | rfl) (ok_plain rfl) ?_
         simp -implicitDefEqProofs only [evr, id, seval, ptr, res_one, par_one, idn_one, idn_0, idn_1, idn_2, resRow, res_ro, rExtract_tup, id_eq, evI_eq, beq_self_eq_true, evSame, evn])
      | (refine qcall (compareEvC Frm.nil B D (by omega) (by omega)) (by first | done | rfl) (ok_plain rfl) ?_
         simp -implicitDefEqProofs only [evr, id, seval, ptr, res_one, par_one, idn_one, idn_0, idn_1, idn_2, resRow, res_ro, rExtract_tup, id_eq, evn])
      | (refine qcall (compareEvC Frm.nil A D (by omega) (by omega)) (by first | done | rfl) (ok_plain rfl) ?_
         simp -implicitDefEqProofs only [evr, id, seval, ptr, res_one, par_one, idn_one, idn_0, idn_1, idn_2, resRow, res_ro, rExtract_tup, id_eq, evn])
      | (with_reducible intro _)
      | (refine hk _ ?_
         simp only [thenK]
         refine (hrest () trivial).le ?_
         simp -implicitDefEqProofs only [evr, id, seval, ptr, res_one, par_one, idn_one, idn_0, idn_1, idn_2, resRow, res_ro, rExtract_tup, id_eq, evl, evn]
         done)
      | (have e9 : decide (0 < evCmp A D) = false := decide_eq_false (by have := evCmp_trans A B D (by assumption) (by assumption); omega)
         refine hk _ ?_
         simp only [thenK, e9, Bool.not_false]
         refine (hrest () trivial).le ?_
         simp -implicitDefEqProofs only [evr, id, seval, ptr, res_one, par_one, idn_one, idn_0, idn_1, idn_2, resRow, res_ro, rExtract_tup, id_eq, evl, evn]
         done))
  rintro ⟨⟩ -
  refine Sat.ret ?_
  simp only [Try.results6, evr, id, seval, ptr, res_one, par_one, idn_one, idn_0, idn_1, idn_2, List.append_nil, Int.toNat_zero, Nat.sub_self, Int.reduceToNat, resRow, res_ro, rExtract_tup, id_eq]
theorem sh_fields {P : Program} {D : Nat} {t : TypeId} {ps : List (Nat × TypeId)} {l : List SV} (hu : P.underlying t = some (.struct (P.fieldsOf t))) (hm : (P.fieldsOf t).toList.map (fun f => (f.offset, f.type)) = ps) (h : Sh P (D + 1) t l) :
    l.length = P.cellsOf t ∧ ∀ p ∈ ps, Sh P D p.2 ((l.drop p.1).take (P.cellsOf p.2)) := by
  obtain ⟨h1, h2⟩ := sh_struct hu h
  refine ⟨h1, fun p hp => ?_⟩
  rw [← hm] at hp
  obtain ⟨f, hf, rfl⟩ := List.mem_map.1 hp
  exact h2 f hf
set_option maxRecDepth 100000 in
theorem id_of_sh {D : Nat} {l : List SV} (h : Sh Try.prog (D + 2) 56 l) : ∃ d : Idn, l = Idn.cs d := by
  obtain ⟨h1, h2⟩ := sh_fields (ps := [(0, 3), (1, 3), (2, 3)]) (by kernel_rfl) (by kernel_rfl) h
  have hc : Try.prog.cellsOf 56 = 3 := by kernel_rfl
  have c1 : Try.prog.cellsOf 3 = 1 := by kernel_rfl
  rw [hc] at h1
  match l, h1 with
  | [x0, x1, x2], _ =>
    have g0 := h2 (0, 3) (by simp)
    have g1 := h2 (1, 3) (by simp)
    have g2 := h2 (2, 3) (by simp)
    simp only [c1] at g0 g1 g2
    obtain ⟨n0, e0, _⟩ := sh_int (k := .i64) (by kernel_rfl) g0
    obtain ⟨n1, e1, _⟩ := sh_int (k := .i64) (by kernel_rfl) g1
    obtain ⟨n2, e2, _⟩ := sh_int (k := .i64) (by kernel_rfl) g2
    simp at e0 e1 e2
    subst e0 e1 e2
    exact ⟨⟨n0, n1, n2⟩, rfl⟩
theorem valS_id (d : Idn) : valS Try.prog 56 (Idn.cs d) = idnAg d := by
  have : ∀ x0 x1 x2 : SV, valS Try.prog 56 [x0, x1, x2] = .agg 3 fun j => [x0, x1, x2].getD j default := fun _ _ _ => by kernel_rfl
  exact this _ _ _
open Go.RowKit Go.WideShapes Go.ChangeShapes in
set_option maxRecDepth 100000 in
theorem orders_walk : commonOrders.Walk := by
  intro w l0 l1 l2 l3 c0 s0 o0 c1 s1 o1 c2 s2 o2 c3 s3 o3
  obtain ⟨a, cap, z, rd, rfl, hz, hrd⟩ := sh_ints (e := 5) (k := .u8) (by kernel_rfl) (by kernel_rfl) (by kernel_rfl) s0
  obtain ⟨i, rfl⟩ := id_of_sh s1
  obtain ⟨j, rfl⟩ := id_of_sh s2
  obtain ⟨l, rfl⟩ := id_of_sh s3
  rw [valS_one (by kernel_rfl)] at o0
  rw [valS_id] at o1 o2 o3
  rw [valS_one (t := 22) (by kernel_rfl), valS_id, valS_id, valS_id]
  have hc' : Contract Frm.nil Try.prog 6 [.sl a z.length cap 1 rd, idnAg i, idnAg j, idnAg l] (fun r => r = .b true) :=
    Contract.of_sim (ordersC a cap z hz i j l) ⟨sim_sl hrd, sim_refl _, sim_refl _, sim_refl _, trivial⟩
  exact walk_of hc' (by
    intro s hs
    simp only [List.mem_cons, List.mem_singleton, List.not_mem_nil, or_false] at hs
    rcases hs with rfl | rfl | rfl | rfl <;> assumption)
theorem orders_holds : Rows.CommonOrdersSaid := commonOrders.of_walk orders_walk
#print axioms orders_holds
end Go.Proofs.Ytepbdjpcoleegaa
