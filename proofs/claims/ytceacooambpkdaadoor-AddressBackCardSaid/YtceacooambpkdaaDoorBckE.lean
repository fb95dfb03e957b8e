/- AddressBack: addresses and valid prefixes come back from their texts: for every input, with no condition. -/
import Derived.Test.YtceacooambpkdaaDoorTxpE
import Derived.Test.YtceacooambpkdaaDoorParE
import Derived.Test.YtceacooambpkdaaDoorCdpE
import Derived.Test.YtceacooambpkdaaDoorShAddressBack
set_option linter.unusedSimpArgs false
set_option linter.unusedVariables false
namespace Go.Proofs.YtceacooambpkdaaDoor
open Go.RowKit Eng

theorem pr_same2 (a b : Int) : aggEq Tryd.prog 25 2 (fun j => [SV.i .u32 a, SV.i .i64 b].getD j default) 2 (fun j => [SV.i .u32 a, SV.i .i64 b].getD j default) = some true := by
  have h : aggEq Tryd.prog 25 2 (fun j => [SV.i .u32 a, SV.i .i64 b].getD j default) 2 (fun j => [SV.i .u32 a, SV.i .i64 b].getD j default) = some ([a == a, b == b].all id) := by kernel_rfl
  rw [h]; simp
set_option maxRecDepth 100000 in
theorem mod33C (F : Frm) (n : Int) (h0 : -9223372036854775808 ≤ n) (h1 : n ≤ 9223372036854775807) : Contract F Tryd.prog 21 [.i .i64 n, .i .i64 33] (fun r => ∃ l : Nat, r = .i .i64 l ∧ l ≤ 32) := by
  refine contract_of Tryd.func21 rfl (by kernel_rfl) ?_
  simp only [Tryd.ntmps21, argEnv]
  have b1 := Int.tmod_lt_of_pos n (show (0 : Int) < 33 by decide)
  have b2 : -33 < Int.tmod n 33 := by
    have := Int.tmod_lt_of_pos (-n) (show (0 : Int) < 33 by decide)
    rw [Int.neg_tmod] at this
    omega
  have e1 : IntKind.i64.wrap (Int.tmod n 33 + 33) = Int.tmod n 33 + 33 := w64 (by omega)
  (repeat refine Sat.seq ?_)
  (refine Sat.region_k fun k hk => ?_; simp -implicitDefEqProofs only [evr, id, reduceCtorEq, reduceIte, Nat.reduceMul, Nat.reduceAdd, Nat.reduceLT, Nat.reduceLeDiff, Nat.reduceEqDiff, Int.reduceLT, Int.reduceBEq, Int.reduceBNe, Nat.reduceBEq, List.append_nil, Int.toNat_zero, Nat.sub_self, Int.reduceNeg, pr_same2]; refine hk _ ?_; clear hk k; try show Sat _ _ _ _ _)
  refine Sat.seq ?_
  refine Sat.region_k fun k hk => ?_
  simp -implicitDefEqProofs only [evr, id, reduceCtorEq, reduceIte, Nat.reduceMul, Nat.reduceAdd, Nat.reduceLT, Nat.reduceLeDiff, Nat.reduceEqDiff, Int.reduceLT, Int.reduceBEq, Int.reduceBNe, Nat.reduceBEq, List.append_nil, Int.toNat_zero, Nat.sub_self, Int.reduceNeg, pr_same2, e1]
  refine ⟨by decide, by decide, ?_⟩
  (refine hk _ ?_; clear hk k; try show Sat _ _ _ _ _)
  refine Sat.ret ?_
  simp only [Tryd.results21, evr, id, reduceCtorEq, reduceIte, Nat.reduceMul, Nat.reduceAdd, Nat.reduceLT, Nat.reduceLeDiff, Nat.reduceEqDiff, Int.reduceLT, Int.reduceBEq, Int.reduceBNe, Nat.reduceBEq, List.append_nil, Int.toNat_zero, Nat.sub_self, Int.reduceNeg, pr_same2]
  have b3 := Int.tmod_lt_of_pos (Int.tmod n 33 + 33) (show (0 : Int) < 33 by decide)
  have b4 : 0 ≤ Int.tmod (Int.tmod n 33 + 33) 33 := Int.tmod_nonneg _ (by omega)
  obtain ⟨l, hl⟩ := Int.eq_ofNat_of_zero_le b4
  exact ⟨l, by rw [hl], by omega⟩
theorem cut_u64 {a l : Nat} (ha : a < 2 ^ 32) (hl : l ≤ 32) : IntKind.u32.wrap (IntKind.u64.wrap ((a : Int).fdiv (2 ^ min (32 - l) IntKind.u64.bits) * 2 ^ min (32 - l) IntKind.u64.bits)) = ((cutP a l).addr : Int) := by
  have e1 : min (32 - l) IntKind.u64.bits = 32 - l := by show min (32 - l) 64 = _; omega
  have e2 : (2 : Int) ^ (32 - l) = ((2 ^ (32 - l) : Nat) : Int) := by simp
  have h := (cutP_ok ha hl).1
  have h2 : (cutP a l).addr < 18446744073709551616 := Nat.lt_trans h (by decide)
  rw [e1, e2, Int.fdiv_eq_ediv_of_nonneg _ (Int.natCast_nonneg _), ← Int.natCast_ediv, ← Int.natCast_mul]
  show IntKind.u32.wrap (IntKind.u64.wrap (((cutP a l).addr : Nat) : Int)) = _
  have e3 : IntKind.u64.wrap (((cutP a l).addr : Nat) : Int) = (((cutP a l).addr : Nat) : Int) := by rw [IntKind.wrap_u64]; omega
  rw [e3]
  exact w32u _ (Int.natCast_nonneg _) (by exact_mod_cast h)
set_option maxHeartbeats 2000000 in
set_option maxRecDepth 100000 in
theorem backC (a : Nat) (ha : a < 2 ^ 32) (n : Int) (h0 : -9223372036854775808 ≤ n) (h1 : n ≤ 9223372036854775807) : Contract FrA Tryd.prog 4 [.i .u32 a, .i .i64 n] (fun r => r = .b true) := by
  refine contract_of Tryd.func4 rfl (by kernel_rfl) ?_
  simp only [Tryd.ntmps4, argEnv]
  (repeat refine Sat.seq ?_)
  (refine Sat.region_k fun k hk => ?_; simp -implicitDefEqProofs only [evr, id, reduceCtorEq, reduceIte, Nat.reduceMul, Nat.reduceAdd, Nat.reduceLT, Nat.reduceLeDiff, Nat.reduceEqDiff, Int.reduceLT, Int.reduceBEq, Int.reduceBNe, Nat.reduceBEq, List.append_nil, Int.toNat_zero, Nat.sub_self, Int.reduceNeg, pr_same2]; refine hk _ ?_; clear hk k; try show Sat _ _ _ _ _)
  (repeat refine Sat.seq ?_)
  (refine Sat.region_k fun k hk => ?_; simp -implicitDefEqProofs only [evr, id, reduceCtorEq, reduceIte, Nat.reduceMul, Nat.reduceAdd, Nat.reduceLT, Nat.reduceLeDiff, Nat.reduceEqDiff, Int.reduceLT, Int.reduceBEq, Int.reduceBNe, Nat.reduceBEq, List.append_nil, Int.toNat_zero, Nat.sub_self, Int.reduceNeg, pr_same2])
  refine wcall_plain (awakeC FrA) rfl (by rintro _ rfl; exact ok_plain rfl) ?_
  rintro r rfl
  simp -implicitDefEqProofs only [evr, id, reduceCtorEq, reduceIte, Nat.reduceMul, Nat.reduceAdd, Nat.reduceLT, Nat.reduceLeDiff, Nat.reduceEqDiff, Int.reduceLT, Int.reduceBEq, Int.reduceBNe, Nat.reduceBEq, List.append_nil, Int.toNat_zero, Nat.sub_self, Int.reduceNeg, pr_same2]
  (refine hk _ ?_; clear hk k; try show Sat _ _ _ _ _)
  (repeat refine Sat.seq ?_)
  refine Sat.cond_b rfl (fun h => absurd h (by decide)) (fun _ => ?_)
  refine Sat.skip ?_
  simp only [thenK]
  (repeat refine Sat.seq ?_)
  (refine Sat.region_k fun k hk => ?_; simp -implicitDefEqProofs only [evr, id, reduceCtorEq, reduceIte, Nat.reduceMul, Nat.reduceAdd, Nat.reduceLT, Nat.reduceLeDiff, Nat.reduceEqDiff, Int.reduceLT, Int.reduceBEq, Int.reduceBNe, Nat.reduceBEq, List.append_nil, Int.toNat_zero, Nat.sub_self, Int.reduceNeg, pr_same2])
  refine wcall_plain (mod33C FrA n h0 h1) rfl (by rintro _ ⟨l, rfl, _⟩; exact ok_plain rfl) ?_
  rintro r ⟨l, rfl, hl⟩
  simp -implicitDefEqProofs only [evr, id, reduceCtorEq, reduceIte, Nat.reduceMul, Nat.reduceAdd, Nat.reduceLT, Nat.reduceLeDiff, Nat.reduceEqDiff, Int.reduceLT, Int.reduceBEq, Int.reduceBNe, Nat.reduceBEq, List.append_nil, Int.toNat_zero, Nat.sub_self, Int.reduceNeg, pr_same2]
  intro b1
  (refine hk _ ?_; clear hk k; try show Sat _ _ _ _ _)
  have e1 : IntKind.u64.wrap (a : Int) = (a : Int) := by rw [IntKind.wrap_u64]; omega
  have e2 : IntKind.i64.wrap (32 - (l : Int)) = ((32 - l : Nat) : Int) := by rw [w64 (by omega)]; omega
  have e3 := cut_u64 ha hl
  obtain ⟨hpo, hpv⟩ := cutP_ok ha hl
  have hcont : cont (cutP a l) a = true := by
    unfold cont
    rw [hpv, Bool.true_and, decide_eq_true_eq]
    have hk : (cutP a l).k = 32 - l := by unfold cutP Prf.k; simp only; omega
    rw [hk]
    rfl
  have hlen : (cutP a l).len = (l : Int) := rfl
  (repeat refine Sat.seq ?_)
  (refine Sat.region_rows [⟨0, 16, 1, 0⟩, ⟨1, 17, 32768, 1⟩, ⟨0, 18, 32, 0⟩, ⟨4, 19, 131072, 1⟩, ⟨8, 20, 262144, 0⟩, ⟨18, 21, 589824, 0⟩, ⟨0, 22, 32, 0⟩, ⟨64, 23, 2097152, 1⟩, ⟨128, 24, 4194304, 0⟩, ⟨288, 25, 9437184, 0⟩, ⟨512, 26, 16777216, 1⟩, ⟨2047, 27, 32, 0⟩, ⟨4095, 0, 100663296, 2⟩] [0, 2, 6, 1, 3, 7, 4, 5, 8, 9, 10, 11] [(12, false)] [] (by kernel_rfl) (by kernel_rfl) (fun _ _ h => h) fun k hk => ?_; simp only [List.map_cons, List.map_nil, List.getD_cons_zero, List.getD_cons_succ, btseq_cons, btseq_free, btseq_nil]; simp -implicitDefEqProofs only [evr, id, reduceCtorEq, reduceIte, Nat.reduceMul, Nat.reduceAdd, Nat.reduceLT, Nat.reduceLeDiff, Nat.reduceEqDiff, Int.reduceLT, Int.reduceBEq, Int.reduceBNe, Nat.reduceBEq, List.append_nil, Int.toNat_zero, Nat.sub_self, Int.reduceNeg, pr_same2])
  simp only [e1, e2, Int.toNat_natCast, e3]
  refine ⟨by omega, by omega, ?_⟩
  (refine hk _ ?_; clear hk k; try show Sat _ _ _ _ _)
  have kP := parseC (fmtB a) (Nat.lt_of_le_of_lt (fmt_short a) (by decide))
  have hps : parS (fmtB a) = tupL [.i .u32 (a : Nat), .i .i64 0] := by unfold parS; rw [par_fmt ha]
  rw [hps] at kP
  have kF := formatPrefixC (cutP a l) hpo
  have hshort : (fmtP (cutP a l)).length < 4294967296 := by
    unfold fmtP
    rw [if_pos hpv, List.length_append, List.length_cons]
    have h5 := fmt_short (cutP a l).addr
    have h6 := dig_len ⟨(cutP a l).len.toNat, by rw [hlen]; simp; omega⟩
    simp only at h6
    omega
  have kQ := parsePrefixC (fmtP (cutP a l)) hshort
  have hqs : parPS (fmtP (cutP a l)) = tupL [prS (cutP a l), .i .i64 0] := by unfold parPS; rw [parP_fmtP hpo hpv]
  rw [hqs] at kQ
  have kV := validC FrA (cutP a l) hpo
  rw [hpv] at kV
  have kC := containsC FrA (cutP a l) hpo a ha
  rw [hcont] at kC
  unfold prS prC at kF kQ kV kC
  rw [hlen] at kF kQ kV kC
  generalize (cutP a l).addr = P at *
  generalize fmtP (cutP a l) = tx at *
  (repeat refine Sat.seq ?_)
  (refine Sat.region_k fun k hk => ?_; simp -implicitDefEqProofs only [evr, id, reduceCtorEq, reduceIte, Nat.reduceMul, Nat.reduceAdd, Nat.reduceLT, Nat.reduceLeDiff, Nat.reduceEqDiff, Int.reduceLT, Int.reduceBEq, Int.reduceBNe, Nat.reduceBEq, List.append_nil, Int.toNat_zero, Nat.sub_self, Int.reduceNeg, pr_same2])
  refine wcall_slice (formatC a ha) rfl (by simp -implicitDefEqProofs only [evr, id, reduceCtorEq, reduceIte, Nat.reduceMul, Nat.reduceAdd, Nat.reduceLT, Nat.reduceLeDiff, Nat.reduceEqDiff, Int.reduceLT, Int.reduceBEq, Int.reduceBNe, Nat.reduceBEq, List.append_nil, Int.toNat_zero, Nat.sub_self, Int.reduceNeg, pr_same2]; try rfl) ?_
  rintro r rfl
  simp -implicitDefEqProofs only [evr, id, reduceCtorEq, reduceIte, Nat.reduceMul, Nat.reduceAdd, Nat.reduceLT, Nat.reduceLeDiff, Nat.reduceEqDiff, Int.reduceLT, Int.reduceBEq, Int.reduceBNe, Nat.reduceBEq, List.append_nil, Int.toNat_zero, Nat.sub_self, Int.reduceNeg, pr_same2]
  refine wcall_slice kP rfl (by simp -implicitDefEqProofs only [evr, id, reduceCtorEq, reduceIte, Nat.reduceMul, Nat.reduceAdd, Nat.reduceLT, Nat.reduceLeDiff, Nat.reduceEqDiff, Int.reduceLT, Int.reduceBEq, Int.reduceBNe, Nat.reduceBEq, List.append_nil, Int.toNat_zero, Nat.sub_self, Int.reduceNeg, pr_same2]; try rfl) ?_
  rintro r rfl
  simp -implicitDefEqProofs only [evr, id, reduceCtorEq, reduceIte, Nat.reduceMul, Nat.reduceAdd, Nat.reduceLT, Nat.reduceLeDiff, Nat.reduceEqDiff, Int.reduceLT, Int.reduceBEq, Int.reduceBNe, Nat.reduceBEq, List.append_nil, Int.toNat_zero, Nat.sub_self, Int.reduceNeg, pr_same2]
  (refine hk _ ?_; clear hk k; try show Sat _ _ _ _ _)
  (repeat refine Sat.seq ?_)
  (refine Sat.region_k fun k hk => ?_; simp -implicitDefEqProofs only [evr, id, reduceCtorEq, reduceIte, Nat.reduceMul, Nat.reduceAdd, Nat.reduceLT, Nat.reduceLeDiff, Nat.reduceEqDiff, Int.reduceLT, Int.reduceBEq, Int.reduceBNe, Nat.reduceBEq, List.append_nil, Int.toNat_zero, Nat.sub_self, Int.reduceNeg, pr_same2])
  refine wcall_slice kF rfl (by simp -implicitDefEqProofs only [evr, id, reduceCtorEq, reduceIte, Nat.reduceMul, Nat.reduceAdd, Nat.reduceLT, Nat.reduceLeDiff, Nat.reduceEqDiff, Int.reduceLT, Int.reduceBEq, Int.reduceBNe, Nat.reduceBEq, List.append_nil, Int.toNat_zero, Nat.sub_self, Int.reduceNeg, pr_same2]; try rfl) ?_
  rintro r rfl
  simp -implicitDefEqProofs only [evr, id, reduceCtorEq, reduceIte, Nat.reduceMul, Nat.reduceAdd, Nat.reduceLT, Nat.reduceLeDiff, Nat.reduceEqDiff, Int.reduceLT, Int.reduceBEq, Int.reduceBNe, Nat.reduceBEq, List.append_nil, Int.toNat_zero, Nat.sub_self, Int.reduceNeg, pr_same2]
  refine wcall_slice kQ rfl (by simp -implicitDefEqProofs only [evr, id, reduceCtorEq, reduceIte, Nat.reduceMul, Nat.reduceAdd, Nat.reduceLT, Nat.reduceLeDiff, Nat.reduceEqDiff, Int.reduceLT, Int.reduceBEq, Int.reduceBNe, Nat.reduceBEq, List.append_nil, Int.toNat_zero, Nat.sub_self, Int.reduceNeg, pr_same2]; try rfl) ?_
  rintro r rfl
  simp -implicitDefEqProofs only [evr, id, reduceCtorEq, reduceIte, Nat.reduceMul, Nat.reduceAdd, Nat.reduceLT, Nat.reduceLeDiff, Nat.reduceEqDiff, Int.reduceLT, Int.reduceBEq, Int.reduceBNe, Nat.reduceBEq, List.append_nil, Int.toNat_zero, Nat.sub_self, Int.reduceNeg, pr_same2]
  intro b2
  (refine hk _ ?_; clear hk k; try show Sat _ _ _ _ _)
  (repeat refine Sat.seq ?_)
  refine Sat.region_k fun k hk => ?_
  simp -implicitDefEqProofs only [evr, id, reduceCtorEq, reduceIte, Nat.reduceMul, Nat.reduceAdd, Nat.reduceLT, Nat.reduceLeDiff, Nat.reduceEqDiff, Int.reduceLT, Int.reduceBEq, Int.reduceBNe, Nat.reduceBEq, List.append_nil, Int.toNat_zero, Nat.sub_self, Int.reduceNeg, pr_same2, beq_self_eq_true]
  refine wcall_plain kV (by simp -implicitDefEqProofs only [evr, id, reduceCtorEq, reduceIte, Nat.reduceMul, Nat.reduceAdd, Nat.reduceLT, Nat.reduceLeDiff, Nat.reduceEqDiff, Int.reduceLT, Int.reduceBEq, Int.reduceBNe, Nat.reduceBEq, List.append_nil, Int.toNat_zero, Nat.sub_self, Int.reduceNeg, pr_same2]; try rfl) (by rintro _ rfl; exact ok_plain rfl) ?_
  rintro r rfl
  simp -implicitDefEqProofs only [evr, id, reduceCtorEq, reduceIte, Nat.reduceMul, Nat.reduceAdd, Nat.reduceLT, Nat.reduceLeDiff, Nat.reduceEqDiff, Int.reduceLT, Int.reduceBEq, Int.reduceBNe, Nat.reduceBEq, List.append_nil, Int.toNat_zero, Nat.sub_self, Int.reduceNeg, pr_same2]
  refine wcall_plain kC (by simp -implicitDefEqProofs only [evr, id, reduceCtorEq, reduceIte, Nat.reduceMul, Nat.reduceAdd, Nat.reduceLT, Nat.reduceLeDiff, Nat.reduceEqDiff, Int.reduceLT, Int.reduceBEq, Int.reduceBNe, Nat.reduceBEq, List.append_nil, Int.toNat_zero, Nat.sub_self, Int.reduceNeg, pr_same2]; try rfl) (by rintro _ rfl; exact ok_plain rfl) ?_
  rintro r rfl
  simp -implicitDefEqProofs only [evr, id, reduceCtorEq, reduceIte, Nat.reduceMul, Nat.reduceAdd, Nat.reduceLT, Nat.reduceLeDiff, Nat.reduceEqDiff, Int.reduceLT, Int.reduceBEq, Int.reduceBNe, Nat.reduceBEq, List.append_nil, Int.toNat_zero, Nat.sub_self, Int.reduceNeg, pr_same2]
  (refine hk _ ?_; clear hk k; try show Sat _ _ _ _ _)
  refine Sat.ret ?_
  simp only [Tryd.results4, evr, id, reduceCtorEq, reduceIte, Nat.reduceMul, Nat.reduceAdd, Nat.reduceLT, Nat.reduceLeDiff, Nat.reduceEqDiff, Int.reduceLT, Int.reduceBEq, Int.reduceBNe, Nat.reduceBEq, List.append_nil, Int.toNat_zero, Nat.sub_self, Int.reduceNeg, pr_same2]
/-- what the card says of the variables that texts read -/
theorem ifc_of_laid {P : Program} {w : World} {l : List (String × DataW Unit)} (h : laidMetH P l w) (hp : (l.all fun x => x.2.handleName?.isNone) = true) {n nm : String} (hm : ∃ d, (n, DataW.iface nm d) ∈ l) {g : Nat} {t : TypeId}
    (hg : P.globalNamed n = some g) (hty : (P.globals[g]?).map (·.type) = some t) (hti : isIf P t = true) : IfcAt g w := by
  obtain ⟨ms, ht⟩ : ∃ ms, P.underlying t = some (.interface ms) := by
    unfold isIf at hti
    split at hti
    · rename_i ms hu; exact ⟨ms, hu⟩
    · cases hti
  rw [MakeChecks.laidMetH_plain _ _ _ hp] at h
  obtain ⟨d, hm⟩ := hm
  obtain ⟨ps, hl, _, _⟩ := h
  obtain ⟨g', t', cs, fuel, p, hg', ht', hvar, hd⟩ := laid_mem hl hm
  obtain rfl := Option.some.inj (hg.symm.trans hg')
  obtain rfl := Option.some.inj (hty.symm.trans ht')
  have hcell := World.var?_cell hg hvar 0
  cases fuel with
  | zero => simp [DataW.trod] at hd
  | succ m =>
    unfold DataW.trod at hd
    rw [ht] at hd
    split at hd <;> first | (cases hd; done) | skip
    all_goals first
      | (rename_i u v h1 h2
         refine ⟨u, v, hcell.trans ?_⟩
         rw [← Array.getElem?_toList, h2]; rfl)
      | simp_all
theorem back_holds : Rows.AddressBackCardSaid := addressBack.card_of_walk fun a0 a1 w hL h0 h1 => by
  have k0 := bounds_u32 h0
  have k1 := bounds_i64 h1
  obtain ⟨x0, rfl⟩ := Int.eq_ofNat_of_zero_le (show 0 ≤ a0 by omega)
  have hp : (Rows.addressBackRow.laid.all fun x => x.2.handleName?.isNone) = true := by decide +kernel
  have hT : TxT w := ⟨laid_tab hL hp (by simp [Rows.addressBackRow]; rfl) (g := 3) (t := 117) (e := 42) (m := 20) (by kernel_rfl) (by kernel_rfl) (by kernel_rfl) (by kernel_rfl) (by kernel_rfl) (by kernel_rfl),
    ifc_of_laid hL hp ⟨_, .tail _ (.tail _ (.tail _ (.tail _ (.head _))))⟩ (g := 4) (t := 90) (by kernel_rfl) (by kernel_rfl) (by kernel_rfl),
    ifc_of_laid hL hp ⟨_, .tail _ (.tail _ (.tail _ (.head _)))⟩ (g := 5) (t := 90) (by kernel_rfl) (by kernel_rfl) (by kernel_rfl)⟩
  exact walk_ofT (backC x0 (by omega) a1 (by omega) (by omega)) (tx_lt hT) hT (fun s hs => by
    simp only [List.mem_cons, List.mem_singleton, List.not_mem_nil, or_false] at hs
    rcases hs with rfl | rfl <;> trivial)
end Go.Proofs.YtceacooambpkdaaDoor
