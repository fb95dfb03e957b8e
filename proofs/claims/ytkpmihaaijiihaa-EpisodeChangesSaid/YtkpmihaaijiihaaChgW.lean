/- EpisodeChanges: results of a network whose paths change some times have at most one more episode. The law holds of every input. -/
import Derived.Test.YtkpmihaaijiihaaPk1
set_option linter.unusedSimpArgs false
set_option linter.unusedVariables false
namespace Go.Proofs.Ytkpmihaaijiihaa
open Go.Sort Eng

theorem slB_bytes (a : Option Addr) (cap : Nat) (z : List Int) (hz : ∀ n ∈ z, (Lit.int .u8 n).wf = true) : isBytes (slB a cap z) :=
  ⟨a, z.length, cap, _, rfl, fun i hi => ⟨z.getD i 0, by have := bounds_u8 (hz _ (getD_mem (d := 0) hi)); omega, by have := bounds_u8 (hz _ (getD_mem (d := 0) hi)); omega, rfl⟩⟩
theorem ChI.turn {y : List Res} {i : Nat} {l l' : List PthP} (h : ChI y y.length i l) : ChI y y.length i l' :=
  ⟨h.le, h.steps, fun j hj => by
    obtain ⟨f, ttl, ans, fr, kind, c1, c2, c3, c4, _⟩ := h.each j hj
    exact ⟨f, ttl, ans, fr, kind, c1, c2, c3, c4, fun hb => by omega⟩⟩

set_option maxRecDepth 100000 in
theorem changesC (a : Option Addr) (cap : Nat) (z : List Int) (ch : Int) (hch : 0 ≤ ch ∧ ch ≤ 255) (hz : ∀ n ∈ z, (Lit.int .u8 n).wf = true) : Contract Frm.nil Try.prog 5 [slB a cap z, .i .u8 ch] (fun r => r = .b true) := by
  have hb := slB_bytes a cap z hz
  refine contract_of Try.func5 rfl (by kernel_rfl) ?_
  simp only [Try.ntmps5, argEnv]
  (repeat refine Sat.seq ?_)
  (refine Sat.region_k fun k hk => ?_; simp -implicitDefEqProofs only [evr, id, reduceCtorEq, reduceIte, Nat.reduceMul, Nat.reduceAdd, Nat.reduceLT, Nat.reduceLeDiff, Nat.reduceEqDiff, Int.reduceLT, Int.reduceBEq, Int.reduceBNe, Nat.reduceBEq, ptr, Bool.not_true, Bool.not_false, res_one, res_ro, List.append_nil, Int.toNat_zero, Nat.sub_self, Int.reduceToNat, resRow]; refine hk _ ?_; clear hk k; try show Sat _ _ _ _ _)
  (repeat refine Sat.seq ?_)
  (refine Sat.region_k fun k hk => ?_; simp -implicitDefEqProofs only [evr, id, reduceCtorEq, reduceIte, Nat.reduceMul, Nat.reduceAdd, Nat.reduceLT, Nat.reduceLeDiff, Nat.reduceEqDiff, Int.reduceLT, Int.reduceBEq, Int.reduceBNe, Nat.reduceBEq, ptr, Bool.not_true, Bool.not_false, res_one, res_ro, List.append_nil, Int.toNat_zero, Nat.sub_self, Int.reduceToNat, resRow])
  refine wcall_plain (awakeC Frm.nil) rfl (by rintro _ rfl; exact ok_plain rfl) ?_
  rintro r rfl
  simp -implicitDefEqProofs only [evr, id, reduceCtorEq, reduceIte, Nat.reduceMul, Nat.reduceAdd, Nat.reduceLT, Nat.reduceLeDiff, Nat.reduceEqDiff, Int.reduceLT, Int.reduceBEq, Int.reduceBNe, Nat.reduceBEq, ptr, Bool.not_true, Bool.not_false, res_one, res_ro, List.append_nil, Int.toNat_zero, Nat.sub_self, Int.reduceToNat, resRow]
  (refine hk _ ?_; clear hk k; try show Sat _ _ _ _ _)
  refine Sat.cond_b rfl (fun h => absurd h (by decide)) (fun _ => ?_)
  refine Sat.skip ?_
  simp only [thenK]
  refine Sat.seq ?_
  (refine Sat.region_k fun k hk => ?_; simp -implicitDefEqProofs only [evr, id, reduceCtorEq, reduceIte, Nat.reduceMul, Nat.reduceAdd, Nat.reduceLT, Nat.reduceLeDiff, Nat.reduceEqDiff, Int.reduceLT, Int.reduceBEq, Int.reduceBNe, Nat.reduceBEq, ptr, Bool.not_true, Bool.not_false, res_one, res_ro, List.append_nil, Int.toNat_zero, Nat.sub_self, Int.reduceToNat, resRow])
  refine wcall_make (rollC (slB a cap z) hb) ?_
  intro cb
  simp -implicitDefEqProofs only [evr, id, reduceCtorEq, reduceIte, Nat.reduceMul, Nat.reduceAdd, Nat.reduceLT, Nat.reduceLeDiff, Nat.reduceEqDiff, Int.reduceLT, Int.reduceBEq, Int.reduceBNe, Nat.reduceBEq, ptr, Bool.not_true, Bool.not_false, res_one, res_ro, List.append_nil, Int.toNat_zero, Nat.sub_self, Int.reduceToNat, resRow]
  (refine hk _ ?_; clear hk k; try show Sat _ _ _ _ _)
  refine Sat.switch (cb := cb) (id := 0) (F' := Frm.codes cb) (fun b => Iff.rfl) (fun _ h => h) rfl ?_
  (repeat refine Sat.seq ?_)
  have hn0 : 0 ≤ ch.tmod 5 ∧ ch.tmod 5 ≤ 4 := by
    rw [Int.tmod_eq_emod_of_nonneg hch.1]
    omega
  have e0 : IntKind.i64.wrap ch = ch := w64 (by omega)
  obtain ⟨n, hn⟩ : ∃ n : Nat, ch.tmod 5 = n := ⟨(ch.tmod 5).toNat, by omega⟩
  have hn4 : n ≤ 4 := by omega
  have e1 : IntKind.i64.wrap (ch.tmod 5) = (n : Int) := by rw [w64 (by omega), hn]
  (refine Sat.region_k fun k hk => ?_; simp -implicitDefEqProofs only [evr, id, reduceCtorEq, reduceIte, Nat.reduceMul, Nat.reduceAdd, Nat.reduceLT, Nat.reduceLeDiff, Nat.reduceEqDiff, Int.reduceLT, Int.reduceBEq, Int.reduceBNe, Nat.reduceBEq, ptr, Bool.not_true, Bool.not_false, res_one, res_ro, List.append_nil, Int.toNat_zero, Nat.sub_self, Int.reduceToNat, resRow])
  simp only [e0, e1, hn, evr, id, reduceCtorEq, reduceIte, Nat.reduceMul, Nat.reduceAdd, Nat.reduceLT, Nat.reduceLeDiff, Nat.reduceEqDiff, Int.reduceLT, Int.reduceBEq, Int.reduceBNe, Nat.reduceBEq, ptr, Bool.not_true, Bool.not_false, res_one, res_ro, List.append_nil, Int.toNat_zero, Nat.sub_self, Int.reduceToNat, resRow]
  refine ⟨by omega, ?_⟩
  (refine hk _ ?_; clear hk k; try show Sat _ _ _ _ _)
  (repeat refine Sat.seq ?_)
  (refine Sat.region_k fun k hk => ?_; simp -implicitDefEqProofs only [evr, id, reduceCtorEq, reduceIte, Nat.reduceMul, Nat.reduceAdd, Nat.reduceLT, Nat.reduceLeDiff, Nat.reduceEqDiff, Int.reduceLT, Int.reduceBEq, Int.reduceBNe, Nat.reduceBEq, ptr, Bool.not_true, Bool.not_false, res_one, res_ro, List.append_nil, Int.toNat_zero, Nat.sub_self, Int.reduceToNat, resRow]; refine hk _ ?_; clear hk k; try show Sat _ _ _ _ _)
  (repeat refine Sat.seq ?_)
  (refine Sat.region_k fun k hk => ?_; simp -implicitDefEqProofs only [evr, id, reduceCtorEq, reduceIte, Nat.reduceMul, Nat.reduceAdd, Nat.reduceLT, Nat.reduceLeDiff, Nat.reduceEqDiff, Int.reduceLT, Int.reduceBEq, Int.reduceBNe, Nat.reduceBEq, ptr, Bool.not_true, Bool.not_false, res_one, res_ro, List.append_nil, Int.toNat_zero, Nat.sub_self, Int.reduceToNat, resRow]; refine hk _ ?_; clear hk k; try show Sat _ _ _ _ _)
  refine Sat.adopt 7 39 17 (resRd #[]) rfl ?_
  (repeat refine Sat.seq ?_)
  refine Sat.block ?_
  refine Sat.loop (ι := Nat × Option Addr × Nat × List Res) (fun z => ⟨105, [(8, .i .i64 z.1), (7, .os 0 z.2.1 z.2.2.2.length z.2.2.1), (6, .i .i64 n), (5, .v (.pointer (some ⟨cb, 0, none⟩)))], [resRow z.2.1 z.2.2.2.length z.2.2.1 z.2.2.2.toArray]⟩)
    (fun z => z.1 ≤ n + 1 ∧ z.2.2.2.length ≤ 7 * z.1 ∧ ∃ l, ChI z.2.2.2 z.2.2.2.length z.1 l) (fun z => n + 1 - z.1) (0, none, 0, []) ⟨by simp, by simp, [], ChI.init []⟩ (by simp -implicitDefEqProofs only [evr, id, reduceCtorEq, reduceIte, Nat.reduceMul, Nat.reduceAdd, Nat.reduceLT, Nat.reduceLeDiff, Nat.reduceEqDiff, Int.reduceLT, Int.reduceBEq, Int.reduceBNe, Nat.reduceBEq, ptr, Bool.not_true, Bool.not_false, res_one, res_ro, List.append_nil, Int.toNat_zero, Nat.sub_self, Int.reduceToNat, resRow, evl]; first | rfl | trace_state) ?_
  rintro ⟨i, a, c, y⟩ ⟨hi, hyl, l0, hy⟩
  simp only [resRow] at hi hyl hy ⊢
  (repeat refine Sat.seq ?_)
  (refine Sat.region_k fun k hk => ?_; simp -implicitDefEqProofs only [evr, id, reduceCtorEq, reduceIte, Nat.reduceMul, Nat.reduceAdd, Nat.reduceLT, Nat.reduceLeDiff, Nat.reduceEqDiff, Int.reduceLT, Int.reduceBEq, Int.reduceBNe, Nat.reduceBEq, ptr, Bool.not_true, Bool.not_false, res_one, res_ro, List.append_nil, Int.toNat_zero, Nat.sub_self, Int.reduceToNat, resRow]; refine hk _ ?_; clear hk k; try show Sat _ _ _ _ _)
  (repeat refine Sat.seq ?_)
  refine Sat.cond_b rfl (fun h => ?_) (fun h => ?_)
  · have h1 : i ≤ n := by simp only [decide_eq_true_eq] at h; omega
    have e2 : IntKind.i64.wrap ((i : Int) + 1) = ((i + 1 : Nat) : Int) := by rw [w64 (by omega)]; omega
    refine Sat.skip ?_
    simp only [thenK]
    (repeat refine Sat.seq ?_)
    refine Sat.block ?_
    (repeat refine Sat.seq ?_)
    (refine Sat.region_k fun k hk => ?_; simp -implicitDefEqProofs only [evr, id, reduceCtorEq, reduceIte, Nat.reduceMul, Nat.reduceAdd, Nat.reduceLT, Nat.reduceLeDiff, Nat.reduceEqDiff, Int.reduceLT, Int.reduceBEq, Int.reduceBNe, Nat.reduceBEq, ptr, Bool.not_true, Bool.not_false, res_one, res_ro, List.append_nil, Int.toNat_zero, Nat.sub_self, Int.reduceToNat, resRow])
    refine wcall_slice (oracleC cb 3 2 (by omega) (by omega) (by omega)) rfl rfl ?_
    rintro r ⟨oa, oc, l, f, hl1, hl2, hps, rfl, f0, f1⟩
    simp -implicitDefEqProofs only [evr, id, reduceCtorEq, reduceIte, Nat.reduceMul, Nat.reduceAdd, Nat.reduceLT, Nat.reduceLeDiff, Nat.reduceEqDiff, Int.reduceLT, Int.reduceBEq, Int.reduceBNe, Nat.reduceBEq, ptr, Bool.not_true, Bool.not_false, res_one, res_ro, List.append_nil, Int.toNat_zero, Nat.sub_self, Int.reduceToNat, resRow, f0, f1]
    intro b9
    (refine hk _ ?_; clear hk k; try show Sat _ _ _ _ _)
    (repeat refine Sat.seq ?_)
    (refine Sat.region_k fun k hk => ?_; simp -implicitDefEqProofs only [evr, id, reduceCtorEq, reduceIte, Nat.reduceMul, Nat.reduceAdd, Nat.reduceLT, Nat.reduceLeDiff, Nat.reduceEqDiff, Int.reduceLT, Int.reduceBEq, Int.reduceBNe, Nat.reduceBEq, ptr, Bool.not_true, Bool.not_false, res_one, res_ro, List.append_nil, Int.toNat_zero, Nat.sub_self, Int.reduceToNat, resRow])
    refine wcall_plain (nextC cb 8 (by omega) (by omega)) rfl (by rintro _ ⟨x, rfl, _⟩; exact ok_plain rfl) ?_
    rintro r ⟨x, rfl, hx0, hx1⟩
    obtain ⟨k0, rfl⟩ := Int.eq_ofNat_of_zero_le hx0
    simp -implicitDefEqProofs only [evr, id, reduceCtorEq, reduceIte, Nat.reduceMul, Nat.reduceAdd, Nat.reduceLT, Nat.reduceLeDiff, Nat.reduceEqDiff, Int.reduceLT, Int.reduceBEq, Int.reduceBNe, Nat.reduceBEq, ptr, Bool.not_true, Bool.not_false, res_one, res_ro, List.append_nil, Int.toNat_zero, Nat.sub_self, Int.reduceToNat, resRow]
    (refine hk _ ?_; clear hk k; try show Sat _ _ _ _ _)
    (repeat refine Sat.seq ?_)
    refine Sat.block ?_
    refine Sat.loop (ι := Nat × Option Addr × Nat × List Res) (fun z => ⟨105, [(10, .i .i64 z.1), (9, .op 1 b9 0), (8, .i .i64 i), (7, .os 0 z.2.1 z.2.2.2.length z.2.2.1), (6, .i .i64 n), (5, .v (.pointer (some ⟨cb, 0, none⟩)))], [resRow z.2.1 z.2.2.2.length z.2.2.1 z.2.2.2.toArray, .box b9 48 [.i .u32 167774464, .sl oa l.length oc 1 (psRd l)]]⟩)
      (fun z => z.2.2.2.length + z.1 ≤ 7 * i + 7 ∧ ChI z.2.2.2 y.length i l) (fun z => z.1) (k0, a, c, y) ⟨by simp only; omega, hy.turn⟩ (by simp -implicitDefEqProofs only [evr, id, reduceCtorEq, reduceIte, Nat.reduceMul, Nat.reduceAdd, Nat.reduceLT, Nat.reduceLeDiff, Nat.reduceEqDiff, Int.reduceLT, Int.reduceBEq, Int.reduceBNe, Nat.reduceBEq, ptr, Bool.not_true, Bool.not_false, res_one, res_ro, List.append_nil, Int.toNat_zero, Nat.sub_self, Int.reduceToNat, resRow, evl]; first | rfl | trace_state) ?_
    rintro ⟨k1, a, c, y'⟩ ⟨hk1, hy'⟩
    simp only [resRow] at hk1 hy' ⊢
    (repeat refine Sat.seq ?_)
    (refine Sat.region_k fun k hk => ?_; simp -implicitDefEqProofs only [evr, id, reduceCtorEq, reduceIte, Nat.reduceMul, Nat.reduceAdd, Nat.reduceLT, Nat.reduceLeDiff, Nat.reduceEqDiff, Int.reduceLT, Int.reduceBEq, Int.reduceBNe, Nat.reduceBEq, ptr, Bool.not_true, Bool.not_false, res_one, res_ro, List.append_nil, Int.toNat_zero, Nat.sub_self, Int.reduceToNat, resRow]; refine hk _ ?_; clear hk k; try show Sat _ _ _ _ _)
    (repeat refine Sat.seq ?_)
    refine Sat.cond_b rfl (fun h => ?_) (fun h => ?_)
    · have h0 : 0 < k1 := by simp only [decide_eq_true_eq] at h; omega
      have e3 : IntKind.i64.wrap ((k1 : Int) - 1) = ((k1 - 1 : Nat) : Int) := by rw [w64 (by omega)]; omega
      refine Sat.skip ?_
      simp only [thenK]
      (repeat refine Sat.seq ?_)
      refine Sat.block ?_
      (repeat refine Sat.seq ?_)
      (refine Sat.region_k fun k hk => ?_; simp -implicitDefEqProofs only [evr, id, reduceCtorEq, reduceIte, Nat.reduceMul, Nat.reduceAdd, Nat.reduceLT, Nat.reduceLeDiff, Nat.reduceEqDiff, Int.reduceLT, Int.reduceBEq, Int.reduceBNe, Nat.reduceBEq, ptr, Bool.not_true, Bool.not_false, res_one, res_ro, List.append_nil, Int.toNat_zero, Nat.sub_self, Int.reduceToNat, resRow])
      refine wcall_plain (nextC cb 2 (by omega) (by omega)) rfl (by rintro _ ⟨x, rfl, _⟩; exact ok_plain rfl) ?_
      rintro r ⟨fl, rfl, hf0, hf1⟩
      simp -implicitDefEqProofs only [evr, id, reduceCtorEq, reduceIte, Nat.reduceMul, Nat.reduceAdd, Nat.reduceLT, Nat.reduceLeDiff, Nat.reduceEqDiff, Int.reduceLT, Int.reduceBEq, Int.reduceBNe, Nat.reduceBEq, ptr, Bool.not_true, Bool.not_false, res_one, res_ro, List.append_nil, Int.toNat_zero, Nat.sub_self, Int.reduceToNat, resRow]
      refine wcall_plain (nextC cb 4 (by omega) (by omega)) rfl (by rintro _ ⟨x, rfl, _⟩; exact ok_plain rfl) ?_
      rintro r ⟨t0, rfl, ht0, ht1⟩
      obtain ⟨ttl, htt⟩ : ∃ ttl : Int, ttl = 1 + t0 := ⟨_, rfl⟩
      have e4 : IntKind.i64.wrap (1 + t0) = ttl := by rw [w64 (by omega), htt]
      have hfl : 0 ≤ fl ∧ fl ≤ 1 := by omega
      have httl : 1 ≤ ttl ∧ ttl ≤ 4 := by omega
      simp -implicitDefEqProofs only [evr, id, reduceCtorEq, reduceIte, Nat.reduceMul, Nat.reduceAdd, Nat.reduceLT, Nat.reduceLeDiff, Nat.reduceEqDiff, Int.reduceLT, Int.reduceBEq, Int.reduceBNe, Nat.reduceBEq, ptr, Bool.not_true, Bool.not_false, res_one, res_ro, List.append_nil, Int.toNat_zero, Nat.sub_self, Int.reduceToNat, resRow, e4]
      (refine hk _ ?_; clear hk k; try show Sat _ _ _ _ _)
      (repeat refine Sat.seq ?_)
      have e5 : IntKind.i64.wrap (100 * (y'.length : Int)) = 100 * (y'.length : Int) := w64 (by omega)
      have e6 : IntKind.i64.wrap (100 * (y'.length : Int) + 50) = 100 * (y'.length : Int) + 50 := w64 (by omega)
      (refine Sat.region_k fun k hk => ?_; simp -implicitDefEqProofs only [evr, id, reduceCtorEq, reduceIte, Nat.reduceMul, Nat.reduceAdd, Nat.reduceLT, Nat.reduceLeDiff, Nat.reduceEqDiff, Int.reduceLT, Int.reduceBEq, Int.reduceBNe, Nat.reduceBEq, ptr, Bool.not_true, Bool.not_false, res_one, res_ro, List.append_nil, Int.toNat_zero, Nat.sub_self, Int.reduceToNat, resRow])
      simp -implicitDefEqProofs only [evr, id, reduceCtorEq, reduceIte, Nat.reduceMul, Nat.reduceAdd, Nat.reduceLT, Nat.reduceLeDiff, Nat.reduceEqDiff, Int.reduceLT, Int.reduceBEq, Int.reduceBNe, Nat.reduceBEq, ptr, Bool.not_true, Bool.not_false, res_one, res_ro, List.append_nil, Int.toNat_zero, Nat.sub_self, Int.reduceToNat, resRow, e5, e6]
      intro b13
      (refine hk _ ?_; clear hk k; try show Sat _ _ _ _ _)
      (repeat refine Sat.seq ?_)
      (refine Sat.region_qk (by kernel_rfl) (by kernel_rfl) fun k hk => ?_; simp -implicitDefEqProofs only [evr, id, reduceCtorEq, reduceIte, Nat.reduceMul, Nat.reduceAdd, Nat.reduceLT, Nat.reduceLeDiff, Nat.reduceEqDiff, Int.reduceLT, Int.reduceBEq, Int.reduceBNe, Nat.reduceBEq, ptr, Bool.not_true, Bool.not_false, res_one, res_ro, List.append_nil, Int.toNat_zero, Nat.sub_self, Int.reduceToNat, resRow])
      have hmod : fl.tmod l.length = fl % l.length := Int.tmod_eq_emod_of_nonneg hfl.1
      have hm1 : 0 ≤ fl % l.length ∧ fl % l.length < l.length := ⟨Int.emod_nonneg _ (by omega), Int.emod_lt_of_pos _ (by omega)⟩
      obtain ⟨q, hq⟩ : ∃ q, q = l.getD (fl % l.length).toNat default := ⟨_, rfl⟩
      have hqs : psRd l (fl.tmod l.length).toNat 0 = .sl q.a q.p.length q.cap 1 (adRd q.p) := by rw [hmod, hq]; rfl
      have hqok := hps q (by rw [hq]; exact getD_mem (by omega))
      have hans : ansF l fl ttl = if (q.p.length : Int) < ttl then 167774464 else q.p.getD (ttl - 1).toNat 0 := by unfold ansF; rw [← hq]
      rw [hqs]
      refine ⟨by omega, by rw [hmod]; exact hm1, ?_⟩
      (refine hk _ ?_; clear hk k; try show Sat _ _ _ _ _)
      (repeat refine Sat.seq ?_)
      (refine Sat.region_k fun k hk => ?_; simp -implicitDefEqProofs only [evr, id, reduceCtorEq, reduceIte, Nat.reduceMul, Nat.reduceAdd, Nat.reduceLT, Nat.reduceLeDiff, Nat.reduceEqDiff, Int.reduceLT, Int.reduceBEq, Int.reduceBNe, Nat.reduceBEq, ptr, Bool.not_true, Bool.not_false, res_one, res_ro, List.append_nil, Int.toNat_zero, Nat.sub_self, Int.reduceToNat, resRow]; refine hk _ ?_; clear hk k; try show Sat _ _ _ _ _)
      (repeat refine Sat.seq ?_)
      refine Sat.atF (ι := Bool × Int × Int × SV) (fun v => ⟨105, [(13, .op 2 b13 0), (10, .i .i64 k1), (9, .op 1 b9 0), (8, .i .i64 i), (7, .os 0 a y'.length c), (6, .i .i64 n), (5, .v (.pointer (some ⟨cb, 0, none⟩)))], [.row a 39 y'.length c 17 (resRd y'.toArray), .box b9 48 [.i .u32 167774464, .sl oa l.length oc 1 (psRd l)], .box b13 39 [.i .i64 0, .i .i64 0, .i .i64 y'.length, .i .i64 (100 * y'.length), .i .u32 167774464, .i .i64 17, .i .i64 fl, .i .i64 ttl, v.2.2.2, .b false, .i .i64 (100 * y'.length + 50), .i .u32 v.2.1, .i .i64 v.2.2.1, .i .i64 0, .i .i64 0, .i .i64 0, .i .i64 0]]⟩)
        (fun v => ChAns v.1 v.2.1 v.2.2.1 ∧ (v.1 = true → v.2.1 = ansF l fl ttl) ∧ (v.2.2.2 = .b v.1 ∨ (v.2.2.2 = .tt ∧ v.1 = true))) ?_ ?_
      · refine Sat.cond_b rfl (fun h2 => ?_) (fun h2 => ?_)
        · have h3 : (q.p.length : Int) < ttl := by simpa using h2
          (refine Sat.region_tree (.keep [0, 3] [] (.alt 1 (.free 2 (.one 4 (.one 5 (.one 6 .done)))) (.alt 4 (.one 1 (.one 2 (.one 5 (.one 6 .done)))) .none))) (by kernel_rfl) (by kernel_rfl) (fun _ _ h => h) fun k hk => ?_; simp only [WOT, List.map_cons, List.map_nil, List.getD_cons_zero, List.getD_cons_succ]; simp -implicitDefEqProofs only [evr, id, reduceCtorEq, reduceIte, Nat.reduceMul, Nat.reduceAdd, Nat.reduceLT, Nat.reduceLeDiff, Nat.reduceEqDiff, Int.reduceLT, Int.reduceBEq, Int.reduceBNe, Nat.reduceBEq, ptr, Bool.not_true, Bool.not_false, res_one, res_ro, List.append_nil, Int.toNat_zero, Nat.sub_self, Int.reduceToNat, resRow, WOT])
          refine hk _ ?_
          simp only [thenK]
          refine ⟨(true, 167774464, 3, .tt), ⟨.inr ⟨rfl, ⟨by decide, by decide⟩, by decide, .inr rfl⟩, fun _ => by rw [hans, if_pos h3], .inr ⟨rfl, rfl⟩⟩, ?_⟩
          simp -implicitDefEqProofs only [evr, id, reduceCtorEq, reduceIte, Nat.reduceMul, Nat.reduceAdd, Nat.reduceLT, Nat.reduceLeDiff, Nat.reduceEqDiff, Int.reduceLT, Int.reduceBEq, Int.reduceBNe, Nat.reduceBEq, ptr, Bool.not_true, Bool.not_false, res_one, res_ro, List.append_nil, Int.toNat_zero, Nat.sub_self, Int.reduceToNat, resRow, evl]
        · have h3 : ¬ (q.p.length : Int) < ttl := by simpa using h2
          have e7 : IntKind.i64.wrap (ttl - 1) = ttl - 1 := w64 (by omega)
          (repeat refine Sat.seq ?_)
          (refine Sat.region_k fun k hk => ?_; simp -implicitDefEqProofs only [evr, id, reduceCtorEq, reduceIte, Nat.reduceMul, Nat.reduceAdd, Nat.reduceLT, Nat.reduceLeDiff, Nat.reduceEqDiff, Int.reduceLT, Int.reduceBEq, Int.reduceBNe, Nat.reduceBEq, ptr, Bool.not_true, Bool.not_false, res_one, res_ro, List.append_nil, Int.toNat_zero, Nat.sub_self, Int.reduceToNat, resRow])
          simp -implicitDefEqProofs only [evr, id, reduceCtorEq, reduceIte, Nat.reduceMul, Nat.reduceAdd, Nat.reduceLT, Nat.reduceLeDiff, Nat.reduceEqDiff, Int.reduceLT, Int.reduceBEq, Int.reduceBNe, Nat.reduceBEq, ptr, Bool.not_true, Bool.not_false, res_one, res_ro, List.append_nil, Int.toNat_zero, Nat.sub_self, Int.reduceToNat, resRow, e7]
          obtain ⟨x, hx⟩ : ∃ x, x = q.p.getD (ttl - 1).toNat 0 := ⟨_, rfl⟩
          have hxs : adRd q.p (ttl - 1).toNat 0 = .i .u32 x := by rw [hx]; rfl
          have hxi : InA x := by rw [hx]; exact hqok.2 _ (getD_mem (by omega))
          have hax : ansF l fl ttl = x := by rw [hans, if_neg h3, hx]
          simp only [hxs, evr, id, reduceCtorEq, reduceIte, Nat.reduceMul, Nat.reduceAdd, Nat.reduceLT, Nat.reduceLeDiff, Nat.reduceEqDiff, Int.reduceLT, Int.reduceBEq, Int.reduceBNe, Nat.reduceBEq, ptr, Bool.not_true, Bool.not_false, res_one, res_ro, List.append_nil, Int.toNat_zero, Nat.sub_self, Int.reduceToNat, resRow]
          refine ⟨by omega, ?_⟩
          (refine hk _ ?_; clear hk k; try show Sat _ _ _ _ _)
          (repeat refine Sat.seq ?_)
          refine Sat.cond_b rfl (fun h4 => ?_) (fun h4 => ?_)
          · have h5 : x ≠ 0 := by simpa using h4
            (refine Sat.region_tree (.keep [0, 1, 2, 3, 6] [] (.alt 4 (.free 5 (.one 7 (.one 8 (.one 9 .done)))) (.alt 7 (.one 4 (.one 5 (.one 8 (.one 9 .done)))) .none))) (by kernel_rfl) (by kernel_rfl) (fun _ _ h => h) fun k hk => ?_; simp only [WOT, List.map_cons, List.map_nil, List.getD_cons_zero, List.getD_cons_succ]; simp -implicitDefEqProofs only [evr, id, reduceCtorEq, reduceIte, Nat.reduceMul, Nat.reduceAdd, Nat.reduceLT, Nat.reduceLeDiff, Nat.reduceEqDiff, Int.reduceLT, Int.reduceBEq, Int.reduceBNe, Nat.reduceBEq, ptr, Bool.not_true, Bool.not_false, res_one, res_ro, List.append_nil, Int.toNat_zero, Nat.sub_self, Int.reduceToNat, resRow, WOT])
            simp -implicitDefEqProofs only [evr, id, reduceCtorEq, reduceIte, Nat.reduceMul, Nat.reduceAdd, Nat.reduceLT, Nat.reduceLeDiff, Nat.reduceEqDiff, Int.reduceLT, Int.reduceBEq, Int.reduceBNe, Nat.reduceBEq, ptr, Bool.not_true, Bool.not_false, res_one, res_ro, List.append_nil, Int.toNat_zero, Nat.sub_self, Int.reduceToNat, resRow, e7, hxs]
            repeat' (with_reducible refine And.intro ?_ ?_)
            all_goals first | omega | skip
            all_goals
              refine hk _ ?_
              simp only [thenK]
              refine ⟨(true, x, 1, .tt), ⟨.inr ⟨rfl, hxi, h5, .inl rfl⟩, fun _ => hax.symm, .inr ⟨rfl, rfl⟩⟩, ?_⟩
              simp -implicitDefEqProofs only [evr, id, reduceCtorEq, reduceIte, Nat.reduceMul, Nat.reduceAdd, Nat.reduceLT, Nat.reduceLeDiff, Nat.reduceEqDiff, Int.reduceLT, Int.reduceBEq, Int.reduceBNe, Nat.reduceBEq, ptr, Bool.not_true, Bool.not_false, res_one, res_ro, List.append_nil, Int.toNat_zero, Nat.sub_self, Int.reduceToNat, resRow, evl]
          · refine Sat.skip ?_
            simp only [thenK]
            refine ⟨(false, 0, 0, .b false), ⟨.inl ⟨rfl, rfl, rfl⟩, fun h => (by cases h), .inl rfl⟩, ?_⟩
            simp -implicitDefEqProofs only [evr, id, reduceCtorEq, reduceIte, Nat.reduceMul, Nat.reduceAdd, Nat.reduceLT, Nat.reduceLeDiff, Nat.reduceEqDiff, Int.reduceLT, Int.reduceBEq, Int.reduceBNe, Nat.reduceBEq, ptr, Bool.not_true, Bool.not_false, res_one, res_ro, List.append_nil, Int.toNat_zero, Nat.sub_self, Int.reduceToNat, resRow, evl]
      rintro ⟨ans, fr, kind, s8⟩ ⟨hA, hE, hS⟩
      simp only [thenK] at hA hE hS ⊢
      have hsim : sim s8 (.b ans) := by
        rcases hS with rfl | ⟨rfl, rfl⟩
        · exact sim_refl _
        · exact sim_tt
      have hone8 : oneS s8 = true := by
        rcases hS with rfl | ⟨rfl, rfl⟩ <;> rfl
      (repeat refine Sat.seq ?_)
      (refine Sat.region_k fun k hk => ?_; simp -implicitDefEqProofs only [evr, id, reduceCtorEq, reduceIte, Nat.reduceMul, Nat.reduceAdd, Nat.reduceLT, Nat.reduceLeDiff, Nat.reduceEqDiff, Int.reduceLT, Int.reduceBEq, Int.reduceBNe, Nat.reduceBEq, ptr, Bool.not_true, Bool.not_false, res_one, res_ro, List.append_nil, Int.toNat_zero, Nat.sub_self, Int.reduceToNat, resRow])
      simp -implicitDefEqProofs only [evr, id, reduceCtorEq, reduceIte, Nat.reduceMul, Nat.reduceAdd, Nat.reduceLT, Nat.reduceLeDiff, Nat.reduceEqDiff, Int.reduceLT, Int.reduceBEq, Int.reduceBNe, Nat.reduceBEq, ptr, Bool.not_true, Bool.not_false, res_one, res_ro, List.append_nil, Int.toNat_zero, Nat.sub_self, Int.reduceToNat, resRow, hone8]
      intro b14
      refine ⟨⟨by unfold maxLen; omega, by omega⟩, fun a2 cap2 => ?_⟩
      (refine hk _ ?_; clear hk k; try show Sat _ _ _ _ _)
      refine Sat.reread 0 (resRd (y' ++ [chR y'.length fl ttl ans fr kind]).toArray) rfl ?_ ?_
      · refine res_appS ?_
        simp only [chR, Res.cs, simA]
        refine ⟨?_, ?_, ?_, ?_, ?_, ?_, ?_, ?_, ?_, ?_, ?_, ?_, ?_, ?_, ?_, ?_, ?_, trivial⟩ <;> first | exact sim_refl _ | exact hsim
      simp -implicitDefEqProofs only [evr, id, reduceCtorEq, reduceIte, Nat.reduceMul, Nat.reduceAdd, Nat.reduceLT, Nat.reduceLeDiff, Nat.reduceEqDiff, Int.reduceLT, Int.reduceBEq, Int.reduceBNe, Nat.reduceBEq, ptr, Bool.not_true, Bool.not_false, res_one, res_ro, List.append_nil, Int.toNat_zero, Nat.sub_self, Int.reduceToNat, resRow]
      refine Sat.region_k fun k hk => ?_
      simp -implicitDefEqProofs only [evr, id, reduceCtorEq, reduceIte, Nat.reduceMul, Nat.reduceAdd, Nat.reduceLT, Nat.reduceLeDiff, Nat.reduceEqDiff, Int.reduceLT, Int.reduceBEq, Int.reduceBNe, Nat.reduceBEq, ptr, Bool.not_true, Bool.not_false, res_one, res_ro, List.append_nil, Int.toNat_zero, Nat.sub_self, Int.reduceToNat, resRow, e3]
      refine hk _ ?_
      simp only [thenK, blockK]
      refine ⟨(k1 - 1, a2, cap2, y' ++ [chR y'.length fl ttl ans fr kind]), ⟨by simp; omega, hy'.snoc hfl httl hA hE⟩, by simp only; omega, ?_⟩
      simp only [List.length_append, List.length_singleton]
      simp -implicitDefEqProofs only [evr, id, reduceCtorEq, reduceIte, Nat.reduceMul, Nat.reduceAdd, Nat.reduceLT, Nat.reduceLeDiff, Nat.reduceEqDiff, Int.reduceLT, Int.reduceBEq, Int.reduceBNe, Nat.reduceBEq, ptr, Bool.not_true, Bool.not_false, res_one, res_ro, List.append_nil, Int.toNat_zero, Nat.sub_self, Int.reduceToNat, resRow, evl]
    · have h0 : k1 = 0 := by simp only [decide_eq_false_iff_not] at h; omega
      refine Sat.exit ?_
      simp only [thenK, blockK, reduceIte]
      refine Sat.region_k fun k hk => ?_
      simp -implicitDefEqProofs only [evr, id, reduceCtorEq, reduceIte, Nat.reduceMul, Nat.reduceAdd, Nat.reduceLT, Nat.reduceLeDiff, Nat.reduceEqDiff, Int.reduceLT, Int.reduceBEq, Int.reduceBNe, Nat.reduceBEq, ptr, Bool.not_true, Bool.not_false, res_one, res_ro, List.append_nil, Int.toNat_zero, Nat.sub_self, Int.reduceToNat, resRow, e2]
      refine hk _ ?_
      simp only [thenK, blockK]
      refine ⟨(i + 1, a, c, y'), ⟨by simp only; omega, by simp only; omega, l, hy'.next⟩, by simp only; omega, ?_⟩
      simp -implicitDefEqProofs only [evr, id, reduceCtorEq, reduceIte, Nat.reduceMul, Nat.reduceAdd, Nat.reduceLT, Nat.reduceLeDiff, Nat.reduceEqDiff, Int.reduceLT, Int.reduceBEq, Int.reduceBNe, Nat.reduceBEq, ptr, Bool.not_true, Bool.not_false, res_one, res_ro, List.append_nil, Int.toNat_zero, Nat.sub_self, Int.reduceToNat, resRow, evl]
  · have h1 : i = n + 1 := by simp only [decide_eq_false_iff_not] at h; omega
    refine Sat.exit ?_
    simp only [thenK, blockK, reduceIte]
    refine Sat.settle2 7 rfl rfl ?_
    simp -implicitDefEqProofs only [evr, id, reduceCtorEq, reduceIte, Nat.reduceMul, Nat.reduceAdd, Nat.reduceLT, Nat.reduceLeDiff, Nat.reduceEqDiff, Int.reduceLT, Int.reduceBEq, Int.reduceBNe, Nat.reduceBEq, ptr, Bool.not_true, Bool.not_false, res_one, res_ro, List.append_nil, Int.toNat_zero, Nat.sub_self, Int.reduceToNat, resRow]
    (repeat refine Sat.seq ?_)
    (refine Sat.region_k fun k hk => ?_; simp -implicitDefEqProofs only [evr, id, reduceCtorEq, reduceIte, Nat.reduceMul, Nat.reduceAdd, Nat.reduceLT, Nat.reduceLeDiff, Nat.reduceEqDiff, Int.reduceLT, Int.reduceBEq, Int.reduceBNe, Nat.reduceBEq, ptr, Bool.not_true, Bool.not_false, res_one, res_ro, List.append_nil, Int.toNat_zero, Nat.sub_self, Int.reduceToNat, resRow])
    refine wcall_plain (fewestC (Frm.codes cb) a c y (by omega) hy.inr) rfl (by rintro _ ⟨l, e, _, _, rfl⟩; exact ok_tupL rfl) ?_
    rintro r ⟨cl, e, hcr, hcl, rfl⟩
    obtain ⟨rfl, hle⟩ := hy.fin (by omega) hcr
    simp -implicitDefEqProofs only [evr, id, reduceCtorEq, reduceIte, Nat.reduceMul, Nat.reduceAdd, Nat.reduceLT, Nat.reduceLeDiff, Nat.reduceEqDiff, Int.reduceLT, Int.reduceBEq, Int.reduceBNe, Nat.reduceBEq, ptr, Bool.not_true, Bool.not_false, res_one, res_ro, List.append_nil, Int.toNat_zero, Nat.sub_self, Int.reduceToNat, resRow]
    (refine hk _ ?_; clear hk k; try show Sat _ _ _ _ _)
    have e8 : IntKind.i64.wrap ((n : Int) + 1) = ((n : Int) + 1) := w64 (by omega)
    (repeat refine Sat.seq ?_)
    (refine Sat.region_k fun k hk => ?_; simp -implicitDefEqProofs only [evr, id, reduceCtorEq, reduceIte, Nat.reduceMul, Nat.reduceAdd, Nat.reduceLT, Nat.reduceLeDiff, Nat.reduceEqDiff, Int.reduceLT, Int.reduceBEq, Int.reduceBNe, Nat.reduceBEq, ptr, Bool.not_true, Bool.not_false, res_one, res_ro, List.append_nil, Int.toNat_zero, Nat.sub_self, Int.reduceToNat, resRow])
    simp -implicitDefEqProofs only [evr, id, reduceCtorEq, reduceIte, Nat.reduceMul, Nat.reduceAdd, Nat.reduceLT, Nat.reduceLeDiff, Nat.reduceEqDiff, Int.reduceLT, Int.reduceBEq, Int.reduceBNe, Nat.reduceBEq, ptr, Bool.not_true, Bool.not_false, res_one, res_ro, List.append_nil, Int.toNat_zero, Nat.sub_self, Int.reduceToNat, resRow, e8]
    refine hk _ ?_
    refine Sat.ret ?_
    simp only [Try.results5, evr, id, reduceCtorEq, reduceIte, Nat.reduceMul, Nat.reduceAdd, Nat.reduceLT, Nat.reduceLeDiff, Nat.reduceEqDiff, Int.reduceLT, Int.reduceBEq, Int.reduceBNe, Nat.reduceBEq, ptr, Bool.not_true, Bool.not_false, res_one, res_ro, List.append_nil, Int.toNat_zero, Nat.sub_self, Int.reduceToNat, resRow]
    rw [decide_eq_true (by omega)]

theorem changes_holds : Rows.EpisodeChangesSaid := episodeChanges.of_walk fun a0 z0 a1 w ⟨h, hz⟩ h1 => by
  obtain ⟨a, cap, rfl, hok⟩ := slB_of h
  exact walk_of (changesC a cap z0 a1 (bounds_u8 h1) hz) (fun s hs => by
    rcases List.mem_cons.1 hs with rfl | hs
    · exact hok
    · rw [List.mem_singleton.1 hs]; trivial)
#print axioms changes_holds
end Go.Proofs.Ytkpmihaaijiihaa
