/- EpisodeWhole: episodes are consecutive parts of all results, each one consistent, and not with the first result of the next one. The law holds of every input. -/
import Derived.Test.YtkpmihaaijiihaaPk2
set_option linter.unusedSimpArgs false
set_option linter.unusedVariables false
namespace Go.Proofs.Ytkpmihaaijiihaa
open Go.Sort Eng
theorem partL_nat (ys : List Res) {a b : Nat} (hab : a ≤ b) (hb : b ≤ ys.length) : partL ys a b = (ys.take b).drop a := by
  unfold partL
  rw [if_pos ⟨by omega, by omega, by omega⟩]
  rfl
theorem part_seg {ys zs : List Res} (h : OneOk ys) {a b : Nat} (hab : a ≤ b) (hb : b ≤ ys.length) {v : Bool} (ho : OrdOf (partL ys a b) zs) (hv : v = true ↔ consR zs) : v = true ↔ Seg (gOf ys) a b := by
  rw [partL_nat ys hab hb] at ho
  rw [ho.unique (h.sub (part_sub ys a b)).ord] at hv
  exact hv.trans (part_cons hab hb)
theorem part_inr {ys : List Res} (h : OneOk ys) {a b : Nat} (hab : a ≤ b) (hb : b ≤ ys.length) : ∀ r ∈ partL ys a b, RgR r := by
  rw [partL_nat ys hab hb]
  exact (h.sub (part_sub ys a b)).inr
theorem part_le (ys : List Res) {a b : Nat} (hab : a ≤ b) (hb : b ≤ ys.length) : (partL ys a b).length ≤ ys.length := by
  rw [partL_nat ys hab hb, List.length_drop, List.length_take]
  omega
theorem ep_0 (l : List (Nat × Nat)) (i : Nat) : epRd l i 0 = .i .i64 ((l.getD i (0, 0)).1 : Nat) := rfl
theorem ep_1 (l : List (Nat × Nat)) (i : Nat) : epRd l i 1 = .i .i64 ((l.getD i (0, 0)).2 : Nat) := rfl
set_option maxRecDepth 100000 in
theorem whoWC (a : Option Addr) (cap : Nat) (z : List Int) (hz : ∀ n ∈ z, (Lit.int .u8 n).wf = true) : Contract Frm.nil Try.prog 6 [slB a cap z] (fun r => r = .b true) := by
  have hb := slB_bytes1 a cap z hz
  refine contract_of Try.func6 rfl (by kernel_rfl) ?_
  simp only [Try.ntmps6, argEnv]
  (repeat refine Sat.seq ?_)
  (refine Sat.region_k fun k hk => ?_; simp -implicitDefEqProofs only [evr, id, reduceCtorEq, reduceIte, Nat.reduceMul, Nat.reduceAdd, Nat.reduceLT, Nat.reduceLeDiff, Nat.reduceEqDiff, Int.reduceLT, Int.reduceBEq, Int.reduceBNe, Nat.reduceBEq, ptr, Bool.not_true, Bool.not_false, res_one, res_ro, List.append_nil, Int.toNat_zero, Nat.sub_self, Int.reduceToNat, resRow, ep_one, ep_0, ep_1]; refine hk _ ?_; clear hk k; try show Sat _ _ _ _ _)
  (repeat refine Sat.seq ?_)
  (refine Sat.region_k fun k hk => ?_; simp -implicitDefEqProofs only [evr, id, reduceCtorEq, reduceIte, Nat.reduceMul, Nat.reduceAdd, Nat.reduceLT, Nat.reduceLeDiff, Nat.reduceEqDiff, Int.reduceLT, Int.reduceBEq, Int.reduceBNe, Nat.reduceBEq, ptr, Bool.not_true, Bool.not_false, res_one, res_ro, List.append_nil, Int.toNat_zero, Nat.sub_self, Int.reduceToNat, resRow, ep_one, ep_0, ep_1])
  refine wcall_plain (awakeC Frm.nil) rfl (by rintro _ rfl; exact ok_plain rfl) ?_
  rintro r rfl
  simp -implicitDefEqProofs only [evr, id, reduceCtorEq, reduceIte, Nat.reduceMul, Nat.reduceAdd, Nat.reduceLT, Nat.reduceLeDiff, Nat.reduceEqDiff, Int.reduceLT, Int.reduceBEq, Int.reduceBNe, Nat.reduceBEq, ptr, Bool.not_true, Bool.not_false, res_one, res_ro, List.append_nil, Int.toNat_zero, Nat.sub_self, Int.reduceToNat, resRow, ep_one, ep_0, ep_1]
  (refine hk _ ?_; clear hk k; try show Sat _ _ _ _ _)
  refine Sat.cond_b rfl (fun h => absurd h (by decide)) (fun _ => ?_)
  refine Sat.skip ?_
  simp only [thenK]
  refine Sat.seq ?_
  (refine Sat.region_k fun k hk => ?_; simp -implicitDefEqProofs only [evr, id, reduceCtorEq, reduceIte, Nat.reduceMul, Nat.reduceAdd, Nat.reduceLT, Nat.reduceLeDiff, Nat.reduceEqDiff, Int.reduceLT, Int.reduceBEq, Int.reduceBNe, Nat.reduceBEq, ptr, Bool.not_true, Bool.not_false, res_one, res_ro, List.append_nil, Int.toNat_zero, Nat.sub_self, Int.reduceToNat, resRow, ep_one, ep_0, ep_1])
  refine wcall_make (rollC (slB a cap z) hb) ?_
  intro cb
  simp -implicitDefEqProofs only [evr, id, reduceCtorEq, reduceIte, Nat.reduceMul, Nat.reduceAdd, Nat.reduceLT, Nat.reduceLeDiff, Nat.reduceEqDiff, Int.reduceLT, Int.reduceBEq, Int.reduceBNe, Nat.reduceBEq, ptr, Bool.not_true, Bool.not_false, res_one, res_ro, List.append_nil, Int.toNat_zero, Nat.sub_self, Int.reduceToNat, resRow, ep_one, ep_0, ep_1]
  (refine hk _ ?_; clear hk k; try show Sat _ _ _ _ _)
  refine Sat.switch (cb := cb) (id := 0) (F' := Frm.codes cb) (fun b => Iff.rfl) (fun _ h => h) rfl ?_
  (repeat refine Sat.seq ?_)
  (refine Sat.region_k fun k hk => ?_; simp -implicitDefEqProofs only [evr, id, reduceCtorEq, reduceIte, Nat.reduceMul, Nat.reduceAdd, Nat.reduceLT, Nat.reduceLeDiff, Nat.reduceEqDiff, Int.reduceLT, Int.reduceBEq, Int.reduceBNe, Nat.reduceBEq, ptr, Bool.not_true, Bool.not_false, res_one, res_ro, List.append_nil, Int.toNat_zero, Nat.sub_self, Int.reduceToNat, resRow, ep_one, ep_0, ep_1])
  refine wcall_new (oneC cb 30 (by omega)) rfl (by simp -implicitDefEqProofs only [evr, id, reduceCtorEq, reduceIte, Nat.reduceMul, Nat.reduceAdd, Nat.reduceLT, Nat.reduceLeDiff, Nat.reduceEqDiff, Int.reduceLT, Int.reduceBEq, Int.reduceBNe, Nat.reduceBEq, ptr, Bool.not_true, Bool.not_false, res_one, res_ro, List.append_nil, Int.toNat_zero, Nat.sub_self, Int.reduceToNat, resRow, ep_one, ep_0, ep_1]; rfl) ?_
  rintro ya ty len yc sz rrd ⟨a1, c1, y, hy, hyl, e⟩
  simp only [resRow, Own.row.injEq] at e
  obtain ⟨rfl, rfl, rfl, rfl, rfl, rfl⟩ := e
  simp -implicitDefEqProofs only [evr, id, reduceCtorEq, reduceIte, Nat.reduceMul, Nat.reduceAdd, Nat.reduceLT, Nat.reduceLeDiff, Nat.reduceEqDiff, Int.reduceLT, Int.reduceBEq, Int.reduceBNe, Nat.reduceBEq, ptr, Bool.not_true, Bool.not_false, res_one, res_ro, List.append_nil, Int.toNat_zero, Nat.sub_self, Int.reduceToNat, resRow, ep_one, ep_0, ep_1]
  (refine hk _ ?_; clear hk k; try show Sat _ _ _ _ _)
  refine Sat.settle2 4 rfl rfl ?_
  simp -implicitDefEqProofs only [evr, id, reduceCtorEq, reduceIte, Nat.reduceMul, Nat.reduceAdd, Nat.reduceLT, Nat.reduceLeDiff, Nat.reduceEqDiff, Int.reduceLT, Int.reduceBEq, Int.reduceBNe, Nat.reduceBEq, ptr, Bool.not_true, Bool.not_false, res_one, res_ro, List.append_nil, Int.toNat_zero, Nat.sub_self, Int.reduceToNat, resRow, ep_one, ep_0, ep_1]
  (repeat refine Sat.seq ?_)
  (refine Sat.region_k fun k hk => ?_; simp -implicitDefEqProofs only [evr, id, reduceCtorEq, reduceIte, Nat.reduceMul, Nat.reduceAdd, Nat.reduceLT, Nat.reduceLeDiff, Nat.reduceEqDiff, Int.reduceLT, Int.reduceBEq, Int.reduceBNe, Nat.reduceBEq, ptr, Bool.not_true, Bool.not_false, res_one, res_ro, List.append_nil, Int.toNat_zero, Nat.sub_self, Int.reduceToNat, resRow, ep_one, ep_0, ep_1])
  refine wcall_slice (cutC (Frm.codes cb) ya yc y (by omega) hy.inr) rfl (by simp -implicitDefEqProofs only [evr, id, reduceCtorEq, reduceIte, Nat.reduceMul, Nat.reduceAdd, Nat.reduceLT, Nat.reduceLeDiff, Nat.reduceEqDiff, Int.reduceLT, Int.reduceBEq, Int.reduceBNe, Nat.reduceBEq, ptr, Bool.not_true, Bool.not_false, res_one, res_ro, List.append_nil, Int.toNat_zero, Nat.sub_self, Int.reduceToNat, resRow, ep_one, ep_0, ep_1]) ?_
  rintro r ⟨ca, cc, l, e, hcr, hll, rfl⟩
  obtain ⟨rfl, hcuts⟩ := one_cut hy (by omega) hcr
  simp -implicitDefEqProofs only [evr, id, reduceCtorEq, reduceIte, Nat.reduceMul, Nat.reduceAdd, Nat.reduceLT, Nat.reduceLeDiff, Nat.reduceEqDiff, Int.reduceLT, Int.reduceBEq, Int.reduceBNe, Nat.reduceBEq, ptr, Bool.not_true, Bool.not_false, res_one, res_ro, List.append_nil, Int.toNat_zero, Nat.sub_self, Int.reduceToNat, resRow, ep_one, ep_0, ep_1]
  (refine hk _ ?_; clear hk k; try show Sat _ _ _ _ _)
  (repeat refine Sat.seq ?_)
  obtain ⟨hend, hpart⟩ := hcuts.spec
  by_cases hy0 : y.length = 0
  · have hl0 : l.length = 0 := by
      rcases hcuts with ⟨_, rfl⟩ | ⟨l', a', _, h4, _⟩
      · rfl
      · omega
    simp only [hy0, hl0]
    (refine Sat.region_k fun k hk => ?_; simp -implicitDefEqProofs only [evr, id, reduceCtorEq, reduceIte, Nat.reduceMul, Nat.reduceAdd, Nat.reduceLT, Nat.reduceLeDiff, Nat.reduceEqDiff, Int.reduceLT, Int.reduceBEq, Int.reduceBNe, Nat.reduceBEq, ptr, Bool.not_true, Bool.not_false, res_one, res_ro, List.append_nil, Int.toNat_zero, Nat.sub_self, Int.reduceToNat, resRow, ep_one, ep_0, ep_1]; refine hk _ ?_; clear hk k; try show Sat _ _ _ _ _)
    (repeat refine Sat.seq ?_)
    refine Sat.cond_b rfl (fun _ => ?_) (fun h => absurd h (by decide))
    (repeat refine Sat.seq ?_)
    (refine Sat.region_k fun k hk => ?_; simp -implicitDefEqProofs only [evr, id, reduceCtorEq, reduceIte, Nat.reduceMul, Nat.reduceAdd, Nat.reduceLT, Nat.reduceLeDiff, Nat.reduceEqDiff, Int.reduceLT, Int.reduceBEq, Int.reduceBNe, Nat.reduceBEq, ptr, Bool.not_true, Bool.not_false, res_one, res_ro, List.append_nil, Int.toNat_zero, Nat.sub_self, Int.reduceToNat, resRow, ep_one, ep_0, ep_1]; refine hk _ ?_; clear hk k; try show Sat _ _ _ _ _)
    refine Sat.ret ?_
    simp only [Try.results6, evr, id, reduceCtorEq, reduceIte, Nat.reduceMul, Nat.reduceAdd, Nat.reduceLT, Nat.reduceLeDiff, Nat.reduceEqDiff, Int.reduceLT, Int.reduceBEq, Int.reduceBNe, Nat.reduceBEq, ptr, Bool.not_true, Bool.not_false, res_one, res_ro, List.append_nil, Int.toNat_zero, Nat.sub_self, Int.reduceToNat, resRow, ep_one, ep_0, ep_1]
    first | rfl | trace_state
  have ey : decide ((y.length : Int) = 0) = false := decide_eq_false (by omega)
  (refine Sat.region_k fun k hk => ?_; simp -implicitDefEqProofs only [evr, id, reduceCtorEq, reduceIte, Nat.reduceMul, Nat.reduceAdd, Nat.reduceLT, Nat.reduceLeDiff, Nat.reduceEqDiff, Int.reduceLT, Int.reduceBEq, Int.reduceBNe, Nat.reduceBEq, ptr, Bool.not_true, Bool.not_false, res_one, res_ro, List.append_nil, Int.toNat_zero, Nat.sub_self, Int.reduceToNat, resRow, ep_one, ep_0, ep_1])
  (refine hk _ ?_; clear hk k; try show Sat _ _ _ _ _)
  (repeat refine Sat.seq ?_)
  refine Sat.cond_b rfl (fun h => ?_) (fun _ => ?_)
  · exact absurd h (by simpa using hy0)
  refine Sat.skip ?_
  simp only [thenK]
  (repeat refine Sat.seq ?_)
  (refine Sat.region_k fun k hk => ?_; simp -implicitDefEqProofs only [evr, id, reduceCtorEq, reduceIte, Nat.reduceMul, Nat.reduceAdd, Nat.reduceLT, Nat.reduceLeDiff, Nat.reduceEqDiff, Int.reduceLT, Int.reduceBEq, Int.reduceBNe, Nat.reduceBEq, ptr, Bool.not_true, Bool.not_false, res_one, res_ro, List.append_nil, Int.toNat_zero, Nat.sub_self, Int.reduceToNat, resRow, ep_one, ep_0, ep_1]; refine hk _ ?_; clear hk k; try show Sat _ _ _ _ _)
  (repeat refine Sat.seq ?_)
  (refine Sat.region_k fun k hk => ?_; simp -implicitDefEqProofs only [evr, id, reduceCtorEq, reduceIte, Nat.reduceMul, Nat.reduceAdd, Nat.reduceLT, Nat.reduceLeDiff, Nat.reduceEqDiff, Int.reduceLT, Int.reduceBEq, Int.reduceBNe, Nat.reduceBEq, ptr, Bool.not_true, Bool.not_false, res_one, res_ro, List.append_nil, Int.toNat_zero, Nat.sub_self, Int.reduceToNat, resRow, ep_one, ep_0, ep_1]; refine hk _ ?_; clear hk k; try show Sat _ _ _ _ _)
  (repeat refine Sat.seq ?_)
  refine Sat.block ?_
  refine Sat.loop (ι := Nat) (fun m => ⟨101, [(36, .i .i64 m), (7, .i .i64 (endOf l m : Nat)), (35, .i .i64 l.length), (5, .sl ca l.length cc 2 (epRd l)), (4, .sl ya y.length yc 17 (resRd y.toArray)), (3, .v (.pointer (some ⟨cb, 0, none⟩)))], []⟩)
    (fun m => m ≤ l.length) (fun m => l.length - m) 0 (Nat.zero_le _) (by simp -implicitDefEqProofs only [evr, id, reduceCtorEq, reduceIte, Nat.reduceMul, Nat.reduceAdd, Nat.reduceLT, Nat.reduceLeDiff, Nat.reduceEqDiff, Int.reduceLT, Int.reduceBEq, Int.reduceBNe, Nat.reduceBEq, ptr, Bool.not_true, Bool.not_false, res_one, res_ro, List.append_nil, Int.toNat_zero, Nat.sub_self, Int.reduceToNat, resRow, ep_one, ep_0, ep_1, evl]; first | rfl | exact ⟨rfl, rfl⟩ | trace_state) ?_
  intro m hm
  (repeat refine Sat.seq ?_)
  (refine Sat.region_k fun k hk => ?_; simp -implicitDefEqProofs only [evr, id, reduceCtorEq, reduceIte, Nat.reduceMul, Nat.reduceAdd, Nat.reduceLT, Nat.reduceLeDiff, Nat.reduceEqDiff, Int.reduceLT, Int.reduceBEq, Int.reduceBNe, Nat.reduceBEq, ptr, Bool.not_true, Bool.not_false, res_one, res_ro, List.append_nil, Int.toNat_zero, Nat.sub_self, Int.reduceToNat, resRow, ep_one, ep_0, ep_1]; refine hk _ ?_; clear hk k; try show Sat _ _ _ _ _)
  (repeat refine Sat.seq ?_)
  refine Sat.cond_b rfl (fun h => ?_) (fun h => ?_)
  · have h1 : m < l.length := by simp only [decide_eq_true_eq] at h; omega
    have e2 : IntKind.i64.wrap ((m : Int) + 1) = ((m + 1 : Nat) : Int) := by rw [w64 (by omega)]; omega
    obtain ⟨p1, p2, p3, p4, p5⟩ := hpart m h1
    have e3 : IntKind.i64.wrap (((l.getD m (0, 0)).2 : Nat) + 1) = (((l.getD m (0, 0)).2 + 1 : Nat) : Int) := by rw [w64 (by omega)]; omega
    have e4 : endOf l (m + 1) = (l.getD m (0, 0)).2 := by unfold endOf; rw [if_neg (by omega)]; rfl
    refine Sat.skip ?_
    simp only [thenK]
    (repeat refine Sat.seq ?_)
    refine Sat.block ?_
    (repeat refine Sat.seq ?_)
    (refine Sat.region_k fun k hk => ?_; simp -implicitDefEqProofs only [evr, id, reduceCtorEq, reduceIte, Nat.reduceMul, Nat.reduceAdd, Nat.reduceLT, Nat.reduceLeDiff, Nat.reduceEqDiff, Int.reduceLT, Int.reduceBEq, Int.reduceBNe, Nat.reduceBEq, ptr, Bool.not_true, Bool.not_false, res_one, res_ro, List.append_nil, Int.toNat_zero, Nat.sub_self, Int.reduceToNat, resRow, ep_one, ep_0, ep_1]; refine hk _ ?_; clear hk k; try show Sat _ _ _ _ _)
    (repeat refine Sat.seq ?_)
    have c0 : ((l.getD m (0, 0)).1 : Int) = (endOf l m : Int) := by omega
    have c3 : decide ((y.length : Int) < ((l.getD m (0, 0)).2 : Int)) = false := decide_eq_false (by omega)
    (refine Sat.region_k fun k hk => ?_; simp -implicitDefEqProofs only [evr, id, reduceCtorEq, reduceIte, Nat.reduceMul, Nat.reduceAdd, Nat.reduceLT, Nat.reduceLeDiff, Nat.reduceEqDiff, Int.reduceLT, Int.reduceBEq, Int.reduceBNe, Nat.reduceBEq, ptr, Bool.not_true, Bool.not_false, res_one, res_ro, List.append_nil, Int.toNat_zero, Nat.sub_self, Int.reduceToNat, resRow, ep_one, ep_0, ep_1])
    refine ⟨by omega, fun h => absurd c0 (by simpa only [bne_iff_ne] using h), fun _ => ⟨by omega, fun h => absurd h (by omega), fun _ => ⟨by omega, ?_⟩⟩⟩
    simp only [c3]
    (refine hk _ ?_; clear hk k; try show Sat _ _ _ _ _)
    first
      | refine Sat.cond_ff rfl ?_
      | refine Sat.cond_b rfl (fun h => absurd h (by decide)) (fun _ => ?_)
    refine Sat.skip ?_
    simp only [thenK]
    (repeat refine Sat.seq ?_)
    (refine Sat.region_k fun k hk => ?_; simp -implicitDefEqProofs only [evr, id, reduceCtorEq, reduceIte, Nat.reduceMul, Nat.reduceAdd, Nat.reduceLT, Nat.reduceLeDiff, Nat.reduceEqDiff, Int.reduceLT, Int.reduceBEq, Int.reduceBNe, Nat.reduceBEq, ptr, Bool.not_true, Bool.not_false, res_one, res_ro, List.append_nil, Int.toNat_zero, Nat.sub_self, Int.reduceToNat, resRow, ep_one, ep_0, ep_1])
    refine ⟨by omega, ?_⟩
    (refine hk _ ?_; clear hk k; try show Sat _ _ _ _ _)
    (repeat refine Sat.seq ?_)
    (refine Sat.region_k fun k hk => ?_; simp -implicitDefEqProofs only [evr, id, reduceCtorEq, reduceIte, Nat.reduceMul, Nat.reduceAdd, Nat.reduceLT, Nat.reduceLeDiff, Nat.reduceEqDiff, Int.reduceLT, Int.reduceBEq, Int.reduceBNe, Nat.reduceBEq, ptr, Bool.not_true, Bool.not_false, res_one, res_ro, List.append_nil, Int.toNat_zero, Nat.sub_self, Int.reduceToNat, resRow, ep_one, ep_0, ep_1])
    refine ⟨by omega, ?_⟩
    refine wcall_new (partC (Frm.codes cb) ya yc y (by omega) hy.inr (l.getD m (0, 0)).1 (l.getD m (0, 0)).2) rfl (by simp -implicitDefEqProofs only [evr, id, reduceCtorEq, reduceIte, Nat.reduceMul, Nat.reduceAdd, Nat.reduceLT, Nat.reduceLeDiff, Nat.reduceEqDiff, Int.reduceLT, Int.reduceBEq, Int.reduceBNe, Nat.reduceBEq, ptr, Bool.not_true, Bool.not_false, res_one, res_ro, List.append_nil, Int.toNat_zero, Nat.sub_self, Int.reduceToNat, resRow, ep_one, ep_0, ep_1]; rfl) ?_
    rintro pa ty len pc sz rrd ⟨a1, c1, qs, ho, e⟩
    simp only [resRow, Own.row.injEq] at e
    obtain ⟨rfl, rfl, rfl, rfl, rfl, rfl⟩ := e
    obtain rfl := ho.unique hy.ord
    simp -implicitDefEqProofs only [evr, id, reduceCtorEq, reduceIte, Nat.reduceMul, Nat.reduceAdd, Nat.reduceLT, Nat.reduceLeDiff, Nat.reduceEqDiff, Int.reduceLT, Int.reduceBEq, Int.reduceBNe, Nat.reduceBEq, ptr, Bool.not_true, Bool.not_false, res_one, res_ro, List.append_nil, Int.toNat_zero, Nat.sub_self, Int.reduceToNat, resRow, ep_one, ep_0, ep_1]
    refine wcall_plain (consistentC (Frm.codes cb) pa pc (partL qs (l.getD m (0, 0)).1 (l.getD m (0, 0)).2) (Nat.le_trans (part_le qs (by omega) p3) (by omega)) (part_inr hy (by omega) p3)) (by simp -implicitDefEqProofs only [evr, id, reduceCtorEq, reduceIte, Nat.reduceMul, Nat.reduceAdd, Nat.reduceLT, Nat.reduceLeDiff, Nat.reduceEqDiff, Int.reduceLT, Int.reduceBEq, Int.reduceBNe, Nat.reduceBEq, ptr, Bool.not_true, Bool.not_false, res_one, res_ro, List.append_nil, Int.toNat_zero, Nat.sub_self, Int.reduceToNat, resRow, ep_one, ep_0, ep_1]) (by rintro _ ⟨ys, b, _, _, rfl⟩; exact ok_plain rfl) ?_
    rintro r ⟨zs, v, ho2, hv, rfl⟩
    obtain rfl : v = true := (part_seg hy (by omega) p3 ho2 hv).2 p4
    simp -implicitDefEqProofs only [evr, id, reduceCtorEq, reduceIte, Nat.reduceMul, Nat.reduceAdd, Nat.reduceLT, Nat.reduceLeDiff, Nat.reduceEqDiff, Int.reduceLT, Int.reduceBEq, Int.reduceBNe, Nat.reduceBEq, ptr, Bool.not_true, Bool.not_false, res_one, res_ro, List.append_nil, Int.toNat_zero, Nat.sub_self, Int.reduceToNat, resRow, ep_one, ep_0, ep_1]
    (refine hk _ ?_; clear hk k; try show Sat _ _ _ _ _)
    first
      | refine Sat.cond_ff rfl ?_
      | refine Sat.cond_b rfl (fun h => absurd h (by decide)) (fun _ => ?_)
    refine Sat.skip ?_
    simp only [thenK]
    (repeat refine Sat.seq ?_)
    refine Sat.at ⟨101, [(95, .b false), (36, .i .i64 m), (7, .i .i64 (endOf l (m + 1) : Nat)), (35, .i .i64 l.length), (5, .sl ca l.length cc 2 (epRd l)), (4, .sl ya qs.length yc 17 (resRd qs.toArray)), (3, .v (.pointer (some ⟨cb, 0, none⟩)))], []⟩ ?_ ?_
    · (refine Sat.region_k fun k hk => ?_; simp -implicitDefEqProofs only [evr, id, reduceCtorEq, reduceIte, Nat.reduceMul, Nat.reduceAdd, Nat.reduceLT, Nat.reduceLeDiff, Nat.reduceEqDiff, Int.reduceLT, Int.reduceBEq, Int.reduceBNe, Nat.reduceBEq, ptr, Bool.not_true, Bool.not_false, res_one, res_ro, List.append_nil, Int.toNat_zero, Nat.sub_self, Int.reduceToNat, resRow, ep_one, ep_0, ep_1])
      simp only [e2, e3]
      refine ⟨fun q => ⟨by omega, ?_⟩, fun q => hk _ ?_⟩
      · have h2 : m + 1 < l.length := by omega
        obtain ⟨r1, r2, r3, _, _⟩ := hpart (m + 1) h2
        rw [e4] at r1
        have hp : (l.getD m (0, 0)).2 + 1 ≤ qs.length := by omega
        refine wcall_new (partC (Frm.codes cb) ya yc qs (by omega) hy.inr (l.getD m (0, 0)).1 ((l.getD m (0, 0)).2 + 1 : Nat)) rfl (by simp -implicitDefEqProofs only [evr, id, reduceCtorEq, reduceIte, Nat.reduceMul, Nat.reduceAdd, Nat.reduceLT, Nat.reduceLeDiff, Nat.reduceEqDiff, Int.reduceLT, Int.reduceBEq, Int.reduceBNe, Nat.reduceBEq, ptr, Bool.not_true, Bool.not_false, res_one, res_ro, List.append_nil, Int.toNat_zero, Nat.sub_self, Int.reduceToNat, resRow, ep_one, ep_0, ep_1]) ?_
        rintro pa2 ty len pc2 sz rrd ⟨a2, c2, qs2, ho3, e⟩
        simp only [resRow, Own.row.injEq] at e
        obtain ⟨rfl, rfl, rfl, rfl, rfl, rfl⟩ := e
        obtain rfl := ho3.unique hy.ord
        simp -implicitDefEqProofs only [evr, id, reduceCtorEq, reduceIte, Nat.reduceMul, Nat.reduceAdd, Nat.reduceLT, Nat.reduceLeDiff, Nat.reduceEqDiff, Int.reduceLT, Int.reduceBEq, Int.reduceBNe, Nat.reduceBEq, ptr, Bool.not_true, Bool.not_false, res_one, res_ro, List.append_nil, Int.toNat_zero, Nat.sub_self, Int.reduceToNat, resRow, ep_one, ep_0, ep_1]
        refine wcall_plain (consistentC (Frm.codes cb) pa2 pc2 (partL qs2 (l.getD m (0, 0)).1 ((l.getD m (0, 0)).2 + 1 : Nat)) (Nat.le_trans (part_le qs2 (by omega) hp) (by omega)) (part_inr hy (by omega) hp)) (by simp -implicitDefEqProofs only [evr, id, reduceCtorEq, reduceIte, Nat.reduceMul, Nat.reduceAdd, Nat.reduceLT, Nat.reduceLeDiff, Nat.reduceEqDiff, Int.reduceLT, Int.reduceBEq, Int.reduceBNe, Nat.reduceBEq, ptr, Bool.not_true, Bool.not_false, res_one, res_ro, List.append_nil, Int.toNat_zero, Nat.sub_self, Int.reduceToNat, resRow, ep_one, ep_0, ep_1]) (by rintro _ ⟨ys, b, _, _, rfl⟩; exact ok_plain rfl) ?_
        rintro r ⟨zs2, v, ho4, hv2, rfl⟩
        obtain rfl : v = false := by
          cases v with
          | false => rfl
          | true => exact absurd (p5 h2) ((part_seg hy (by omega) hp ho4 hv2).1 rfl _ (by omega) (by omega))
        simp -implicitDefEqProofs only [evr, id, reduceCtorEq, reduceIte, Nat.reduceMul, Nat.reduceAdd, Nat.reduceLT, Nat.reduceLeDiff, Nat.reduceEqDiff, Int.reduceLT, Int.reduceBEq, Int.reduceBNe, Nat.reduceBEq, ptr, Bool.not_true, Bool.not_false, res_one, res_ro, List.append_nil, Int.toNat_zero, Nat.sub_self, Int.reduceToNat, resRow, ep_one, ep_0, ep_1]
        refine hk _ ?_
        simp only [thenK, e4]
        simp -implicitDefEqProofs only [evr, id, reduceCtorEq, reduceIte, Nat.reduceMul, Nat.reduceAdd, Nat.reduceLT, Nat.reduceLeDiff, Nat.reduceEqDiff, Int.reduceLT, Int.reduceBEq, Int.reduceBNe, Nat.reduceBEq, ptr, Bool.not_true, Bool.not_false, res_one, res_ro, List.append_nil, Int.toNat_zero, Nat.sub_self, Int.reduceToNat, resRow, ep_one, ep_0, ep_1, evl]
      · simp only [thenK, e4]
        simp -implicitDefEqProofs only [evr, id, reduceCtorEq, reduceIte, Nat.reduceMul, Nat.reduceAdd, Nat.reduceLT, Nat.reduceLeDiff, Nat.reduceEqDiff, Int.reduceLT, Int.reduceBEq, Int.reduceBNe, Nat.reduceBEq, ptr, Bool.not_true, Bool.not_false, res_one, res_ro, List.append_nil, Int.toNat_zero, Nat.sub_self, Int.reduceToNat, resRow, ep_one, ep_0, ep_1, evl]
    simp only [thenK]
    (repeat refine Sat.seq ?_)
    refine Sat.cond_b rfl (fun h => absurd h (by decide)) (fun _ => ?_)
    refine Sat.skip ?_
    simp only [thenK, blockK, reduceIte]
    (repeat refine Sat.seq ?_)
    refine Sat.region_k fun k hk => ?_
    simp -implicitDefEqProofs only [evr, id, reduceCtorEq, reduceIte, Nat.reduceMul, Nat.reduceAdd, Nat.reduceLT, Nat.reduceLeDiff, Nat.reduceEqDiff, Int.reduceLT, Int.reduceBEq, Int.reduceBNe, Nat.reduceBEq, ptr, Bool.not_true, Bool.not_false, res_one, res_ro, List.append_nil, Int.toNat_zero, Nat.sub_self, Int.reduceToNat, resRow, ep_one, ep_0, ep_1, e2]
    refine hk _ ?_
    simp only [thenK, blockK]
    refine ⟨m + 1, by omega, by omega, ?_⟩
    simp -implicitDefEqProofs only [evr, id, reduceCtorEq, reduceIte, Nat.reduceMul, Nat.reduceAdd, Nat.reduceLT, Nat.reduceLeDiff, Nat.reduceEqDiff, Int.reduceLT, Int.reduceBEq, Int.reduceBNe, Nat.reduceBEq, ptr, Bool.not_true, Bool.not_false, res_one, res_ro, List.append_nil, Int.toNat_zero, Nat.sub_self, Int.reduceToNat, resRow, ep_one, ep_0, ep_1, evl]
  · obtain rfl : m = l.length := by simp only [decide_eq_false_iff_not] at h; omega
    refine Sat.exit ?_
    simp only [thenK, blockK, reduceIte, hend]
    (repeat refine Sat.seq ?_)
    (refine Sat.region_k fun k hk => ?_; simp -implicitDefEqProofs only [evr, id, reduceCtorEq, reduceIte, Nat.reduceMul, Nat.reduceAdd, Nat.reduceLT, Nat.reduceLeDiff, Nat.reduceEqDiff, Int.reduceLT, Int.reduceBEq, Int.reduceBNe, Nat.reduceBEq, ptr, Bool.not_true, Bool.not_false, res_one, res_ro, List.append_nil, Int.toNat_zero, Nat.sub_self, Int.reduceToNat, resRow, ep_one, ep_0, ep_1]; refine hk _ ?_; clear hk k; try show Sat _ _ _ _ _)
    refine Sat.ret ?_
    simp only [Try.results6, evr, id, reduceCtorEq, reduceIte, Nat.reduceMul, Nat.reduceAdd, Nat.reduceLT, Nat.reduceLeDiff, Nat.reduceEqDiff, Int.reduceLT, Int.reduceBEq, Int.reduceBNe, Nat.reduceBEq, ptr, Bool.not_true, Bool.not_false, res_one, res_ro, List.append_nil, Int.toNat_zero, Nat.sub_self, Int.reduceToNat, resRow, ep_one, ep_0, ep_1]
theorem whole_holds : Rows.EpisodeWholeSaid := episodeWhole.of_walk fun a0 z0 w ⟨h, hz⟩ => by
  obtain ⟨a, cap, rfl, hok⟩ := slB_of h
  exact walk_of (whoWC a cap z0 hz) (fun s hs => by
    rw [List.mem_singleton.1 hs]; exact hok)
#print axioms whole_holds
end Go.Proofs.Ytkpmihaaijiihaa
