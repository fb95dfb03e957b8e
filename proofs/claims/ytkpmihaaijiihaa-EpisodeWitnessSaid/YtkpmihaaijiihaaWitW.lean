/- EpisodeWitness: a witness is a pair that contradicts, and the results ahead of its second one are consistent. The law holds of every input. -/
import Derived.Test.YtkpmihaaijiihaaPk2
set_option linter.unusedSimpArgs false
set_option linter.unusedVariables false
namespace Go.Proofs.Ytkpmihaaijiihaa
open Go.Sort Eng
theorem OneOk.idx {ys : List Res} (h : OneOk ys) {i j : Nat} (hi : i < ys.length) (hj : j < ys.length) (hv : ys.toArray[i]!.vantage = ys.toArray[j]!.vantage) (hn : ys.toArray[i]!.number = ys.toArray[j]!.number) : i = j := by
  rw [getB hi, getB hj] at hv hn
  have e := h.own _ (List.getElem_mem hi) _ (List.getElem_mem hj) hv hn
  have key : ∀ a b, (ha : a < ys.length) → (hb : b < ys.length) → a < b → ys[a] = ys[b] → False := fun a b ha hb hab e => by
    have := List.pairwise_iff_getElem.1 h.asc a b ha hb hab
    rw [e, pthLt_irrefl] at this
    cases this
  rcases Nat.lt_trichotomy i j with h1 | h1 | h1
  · exact (key i j hi hj h1 e).elim
  · exact h1
  · exact (key j i hj hi h1 e.symm).elim
theorem id_eq (a b c d e f : Int) : aggEq Try.prog 29 3 (fun j => [SV.i .i64 a, SV.i .i64 b, SV.i .i64 c].getD j default) 3 (fun j => [SV.i .i64 d, SV.i .i64 e, SV.i .i64 f].getD j default) = some (decide (a = d ∧ b = e ∧ c = f)) := by
  rw [aw_idE]
  show some ((decide (a = d) && (decide (b = e) && (decide (c = f) && true)))) = _
  rw [Bool.and_true, Bool.decide_and, Bool.decide_and]
theorem id_idx {ys : List Res} (h : OneOk ys) {m i : Nat} (hm : m < ys.length) (hi : i < ys.length) : decide (ys.toArray[m]!.vantage = ys.toArray[i]!.vantage ∧ ys.toArray[m]!.run = ys.toArray[i]!.run ∧ ys.toArray[m]!.number = ys.toArray[i]!.number) = decide (m = i) := by
  by_cases e : m = i
  · subst e; rw [decide_eq_true ⟨rfl, rfl, rfl⟩, decide_eq_true rfl]
  · rw [decide_eq_false e, decide_eq_false fun g => e (h.idx hm hi g.1 g.2.2)]
def spotI (i m : Nat) : Int := if i < m then i else -1
theorem spotI_zero (i : Nat) : spotI i 0 = -1 := rfl
theorem spotI_hit (m : Nat) : spotI m (m + 1) = (m : Int) := if_pos (Nat.lt_succ_self m)
theorem spotI_miss {i m : Nat} (h : m ≠ i) : spotI i (m + 1) = spotI i m := by
  unfold spotI
  by_cases e : i < m
  · rw [if_pos e, if_pos (by omega)]
  · rw [if_neg e, if_neg (by omega)]
theorem spotI_end {i n : Nat} (h : i < n) : spotI i n = (i : Int) := if_pos h
set_option maxRecDepth 100000 in
theorem witWC (a : Option Addr) (cap : Nat) (z : List Int) (hz : ∀ n ∈ z, (Lit.int .u8 n).wf = true) : Contract Frm.nil Try.prog 3 [slB a cap z] (fun r => r = .b true) := by
  have hb := slB_bytes1 a cap z hz
  refine contract_of Try.func3 rfl (by kernel_rfl) ?_
  simp only [Try.ntmps3, argEnv]
  (repeat refine Sat.seq ?_)
  (refine Sat.region_k fun k hk => ?_; simp -implicitDefEqProofs only [evr, id, seval, ptr, Bool.not_true, Bool.not_false, res_one, res_ro, List.append_nil, Int.toNat_zero, Nat.sub_self, Int.reduceToNat, resRow, id_eq]; refine hk _ ?_; clear hk k; try show Sat _ _ _ _ _)
  (repeat refine Sat.seq ?_)
  (refine Sat.region_k fun k hk => ?_; simp -implicitDefEqProofs only [evr, id, seval, ptr, Bool.not_true, Bool.not_false, res_one, res_ro, List.append_nil, Int.toNat_zero, Nat.sub_self, Int.reduceToNat, resRow, id_eq])
  refine wcall_plain (awakeC Frm.nil) rfl (by rintro _ rfl; exact ok_plain rfl) ?_
  rintro r rfl
  simp -implicitDefEqProofs only [evr, id, seval, ptr, Bool.not_true, Bool.not_false, res_one, res_ro, List.append_nil, Int.toNat_zero, Nat.sub_self, Int.reduceToNat, resRow, id_eq]
  (refine hk _ ?_; clear hk k; try show Sat _ _ _ _ _)
  refine Sat.cond_b rfl (fun h => absurd h (by decide)) (fun _ => ?_)
  refine Sat.skip ?_
  simp only [thenK]
  refine Sat.seq ?_
  (refine Sat.region_k fun k hk => ?_; simp -implicitDefEqProofs only [evr, id, seval, ptr, Bool.not_true, Bool.not_false, res_one, res_ro, List.append_nil, Int.toNat_zero, Nat.sub_self, Int.reduceToNat, resRow, id_eq])
  refine wcall_make (rollC (slB a cap z) hb) ?_
  intro cb
  simp -implicitDefEqProofs only [evr, id, seval, ptr, Bool.not_true, Bool.not_false, res_one, res_ro, List.append_nil, Int.toNat_zero, Nat.sub_self, Int.reduceToNat, resRow, id_eq]
  (refine hk _ ?_; clear hk k; try show Sat _ _ _ _ _)
  refine Sat.switch (cb := cb) (id := 0) (F' := Frm.codes cb) (fun b => Iff.rfl) (fun _ h => h) rfl ?_
  (repeat refine Sat.seq ?_)
  (refine Sat.region_k fun k hk => ?_; simp -implicitDefEqProofs only [evr, id, seval, ptr, Bool.not_true, Bool.not_false, res_one, res_ro, List.append_nil, Int.toNat_zero, Nat.sub_self, Int.reduceToNat, resRow, id_eq])
  refine wcall_new (oneC cb 24 (by omega)) rfl (by simp -implicitDefEqProofs only [evr, id, seval, ptr, Bool.not_true, Bool.not_false, res_one, res_ro, List.append_nil, Int.toNat_zero, Nat.sub_self, Int.reduceToNat, resRow, id_eq]; try rfl) ?_
  rintro ya ty len yc sz rrd ⟨a1, c1, y, hy, hyl, e⟩
  simp only [resRow, Own.row.injEq] at e
  obtain ⟨rfl, rfl, rfl, rfl, rfl, rfl⟩ := e
  simp -implicitDefEqProofs only [evr, id, seval, ptr, Bool.not_true, Bool.not_false, res_one, res_ro, List.append_nil, Int.toNat_zero, Nat.sub_self, Int.reduceToNat, resRow, id_eq]
  (refine hk _ ?_; clear hk k; try show Sat _ _ _ _ _)
  refine Sat.settle2 4 rfl rfl ?_
  simp -implicitDefEqProofs only [evr, id, seval, ptr, Bool.not_true, Bool.not_false, res_one, res_ro, List.append_nil, Int.toNat_zero, Nat.sub_self, Int.reduceToNat, resRow, id_eq]
  (repeat refine Sat.seq ?_)
  (refine Sat.region_k fun k hk => ?_; simp -implicitDefEqProofs only [evr, id, seval, ptr, Bool.not_true, Bool.not_false, res_one, res_ro, List.append_nil, Int.toNat_zero, Nat.sub_self, Int.reduceToNat, resRow, id_eq])
  refine wcall_plain (witnessC (Frm.codes cb) ya yc y (by omega) hy.inr) rfl (by rintro _ ⟨ys, f, _, hf, rfl⟩; exact hf.ok) ?_
  rintro r ⟨ys, f, ho, hf, rfl⟩
  obtain rfl := ho.unique hy.ord
  simp -implicitDefEqProofs only [evr, id, seval, ptr, Bool.not_true, Bool.not_false, res_one, res_ro, List.append_nil, Int.toNat_zero, Nat.sub_self, Int.reduceToNat, resRow, id_eq]
  rcases hf with ⟨hs, e0, e1, e2⟩ | ⟨i0, k0, hw, e0, e1, e2⟩ <;> rw [e0, e1, e2] <;> simp only [idL, idAg, evr, id, seval, ptr, Bool.not_true, Bool.not_false, res_one, res_ro, List.append_nil, Int.toNat_zero, Nat.sub_self, Int.reduceToNat, resRow, id_eq] <;> intro b1 b2
  · (refine hk _ ?_; clear hk k; try show Sat _ _ _ _ _)
    (repeat refine Sat.seq ?_)
    (refine Sat.region_k fun k hk => ?_; simp -implicitDefEqProofs only [evr, id, seval, ptr, Bool.not_true, Bool.not_false, res_one, res_ro, List.append_nil, Int.toNat_zero, Nat.sub_self, Int.reduceToNat, resRow, id_eq])
    refine wcall_plain (consistentC (Frm.codes cb) ya yc ys (by omega) hy.inr) (by simp -implicitDefEqProofs only [evr, id, seval, ptr, Bool.not_true, Bool.not_false, res_one, res_ro, List.append_nil, Int.toNat_zero, Nat.sub_self, Int.reduceToNat, resRow, id_eq]) (by rintro _ ⟨ys, b, _, _, rfl⟩; exact ok_plain rfl) ?_
    rintro r ⟨zs, v, ho2, hv, rfl⟩
    obtain rfl := ho2.unique hy.ord
    obtain rfl : v = true := hv.2 hs
    simp -implicitDefEqProofs only [evr, id, seval, ptr, Bool.not_true, Bool.not_false, res_one, res_ro, List.append_nil, Int.toNat_zero, Nat.sub_self, Int.reduceToNat, resRow, id_eq]
    (refine hk _ ?_; clear hk k; try show Sat _ _ _ _ _)
    (repeat refine Sat.seq ?_)
    first
      | refine Sat.cond_ff rfl ?_
      | refine Sat.cond_b rfl (fun h => absurd h (by decide)) (fun _ => ?_)
    refine Sat.skip ?_
    simp only [thenK]
    (repeat refine Sat.seq ?_)
    (refine Sat.region_k fun k hk => ?_; simp -implicitDefEqProofs only [evr, id, seval, ptr, Bool.not_true, Bool.not_false, res_one, res_ro, List.append_nil, Int.toNat_zero, Nat.sub_self, Int.reduceToNat, resRow, id_eq]; refine hk _ ?_; clear hk k; try show Sat _ _ _ _ _)
    (repeat refine Sat.seq ?_)
    first
      | refine Sat.cond_tt rfl ?_
      | refine Sat.cond_b rfl (fun _ => ?_) (fun h => absurd h (by decide))
    (repeat refine Sat.seq ?_)
    (refine Sat.region_k fun k hk => ?_; simp -implicitDefEqProofs only [evr, id, seval, ptr, Bool.not_true, Bool.not_false, res_one, res_ro, List.append_nil, Int.toNat_zero, Nat.sub_self, Int.reduceToNat, resRow, id_eq]; refine hk _ ?_; clear hk k; try show Sat _ _ _ _ _)
    refine Sat.ret ?_
    simp only [Try.results3, evr, id, seval, ptr, Bool.not_true, Bool.not_false, res_one, res_ro, List.append_nil, Int.toNat_zero, Nat.sub_self, Int.reduceToNat, resRow, id_eq]
  · obtain ⟨hik, hkn, hcl, hct, _⟩ := hw
    (refine hk _ ?_; clear hk k; try show Sat _ _ _ _ _)
    (repeat refine Sat.seq ?_)
    (refine Sat.region_k fun k hk => ?_; simp -implicitDefEqProofs only [evr, id, seval, ptr, Bool.not_true, Bool.not_false, res_one, res_ro, List.append_nil, Int.toNat_zero, Nat.sub_self, Int.reduceToNat, resRow, id_eq])
    refine wcall_plain (consistentC (Frm.codes cb) ya yc ys (by omega) hy.inr) (by simp -implicitDefEqProofs only [evr, id, seval, ptr, Bool.not_true, Bool.not_false, res_one, res_ro, List.append_nil, Int.toNat_zero, Nat.sub_self, Int.reduceToNat, resRow, id_eq]) (by rintro _ ⟨ys, b, _, _, rfl⟩; exact ok_plain rfl) ?_
    rintro r ⟨zs, v, ho2, hv, rfl⟩
    obtain rfl := ho2.unique hy.ord
    obtain rfl : v = false := by
      cases v with
      | false => rfl
      | true => exact absurd (hcl.2.2 hkn) (hv.1 rfl k0 (Nat.zero_le _) hkn)
    simp -implicitDefEqProofs only [evr, id, seval, ptr, Bool.not_true, Bool.not_false, res_one, res_ro, List.append_nil, Int.toNat_zero, Nat.sub_self, Int.reduceToNat, resRow, id_eq]
    (refine hk _ ?_; clear hk k; try show Sat _ _ _ _ _)
    (repeat refine Sat.seq ?_)
    first
      | refine Sat.cond_ff rfl ?_
      | refine Sat.cond_b rfl (fun h => absurd h (by decide)) (fun _ => ?_)
    refine Sat.skip ?_
    simp only [thenK]
    (repeat refine Sat.seq ?_)
    (refine Sat.region_k fun k hk => ?_; simp -implicitDefEqProofs only [evr, id, seval, ptr, Bool.not_true, Bool.not_false, res_one, res_ro, List.append_nil, Int.toNat_zero, Nat.sub_self, Int.reduceToNat, resRow, id_eq]; refine hk _ ?_; clear hk k; try show Sat _ _ _ _ _)
    (repeat refine Sat.seq ?_)
    first
      | refine Sat.cond_ff rfl ?_
      | refine Sat.cond_b rfl (fun h => absurd h (by decide)) (fun _ => ?_)
    refine Sat.skip ?_
    simp only [thenK]
    (repeat refine Sat.seq ?_)
    (refine Sat.region_k fun k hk => ?_; simp -implicitDefEqProofs only [evr, id, seval, ptr, Bool.not_true, Bool.not_false, res_one, res_ro, List.append_nil, Int.toNat_zero, Nat.sub_self, Int.reduceToNat, resRow, id_eq]; refine hk _ ?_; clear hk k; try show Sat _ _ _ _ _)
    (repeat refine Sat.seq ?_)
    (refine Sat.region_k fun k hk => ?_; simp -implicitDefEqProofs only [evr, id, seval, ptr, Bool.not_true, Bool.not_false, res_one, res_ro, List.append_nil, Int.toNat_zero, Nat.sub_self, Int.reduceToNat, resRow, id_eq]; refine hk _ ?_; clear hk k; try show Sat _ _ _ _ _)
    refine Sat.block ?_
    refine Sat.loop (ι := Nat) (fun m => ⟨75, [(31, .i .i64 m), (30, .i .i64 zs.length), (9, .i .i64 (spotI k0 m)), (8, .i .i64 (spotI i0 m)), (6, .op 2 b2 0), (5, .op 1 b1 0), (4, .sl ya zs.length yc 17 (resRd zs.toArray)), (3, .v (.pointer (some ⟨cb, 0, none⟩)))], [.gone, .box b1 29 [.i .i64 zs.toArray[i0]!.vantage, .i .i64 zs.toArray[i0]!.run, .i .i64 zs.toArray[i0]!.number], .box b2 29 [.i .i64 zs.toArray[k0]!.vantage, .i .i64 zs.toArray[k0]!.run, .i .i64 zs.toArray[k0]!.number]]⟩)
      (fun m => m ≤ zs.length) (fun m => zs.length - m) 0 (Nat.zero_le _) (by simp -implicitDefEqProofs only [evr, id, seval, ptr, Bool.not_true, Bool.not_false, res_one, res_ro, List.append_nil, Int.toNat_zero, Nat.sub_self, Int.reduceToNat, resRow, id_eq, evl]; first | exact ⟨rfl, rfl, rfl⟩ | exact ⟨rfl, rfl⟩ | rfl) ?_
    intro m hm
    have hi0 : i0 < zs.length := by omega
    (repeat refine Sat.seq ?_)
    (refine Sat.region_k fun k hk => ?_; simp -implicitDefEqProofs only [evr, id, seval, ptr, Bool.not_true, Bool.not_false, res_one, res_ro, List.append_nil, Int.toNat_zero, Nat.sub_self, Int.reduceToNat, resRow, id_eq]; refine hk _ ?_; clear hk k; try show Sat _ _ _ _ _)
    (repeat refine Sat.seq ?_)
    refine Sat.cond_b rfl (fun h => ?_) (fun h => ?_)
    · have h1 : m < zs.length := by simp only [decide_eq_true_eq] at h; omega
      have e2 : IntKind.i64.wrap ((m : Int) + 1) = ((m + 1 : Nat) : Int) := by rw [w64 (by omega)]; omega
      refine Sat.skip ?_
      simp only [thenK]
      (repeat refine Sat.seq ?_)
      refine Sat.block ?_
      (repeat refine Sat.seq ?_)
      (refine Sat.region_k fun k hk => ?_; simp -implicitDefEqProofs only [evr, id, seval, ptr, Bool.not_true, Bool.not_false, res_one, res_ro, List.append_nil, Int.toNat_zero, Nat.sub_self, Int.reduceToNat, resRow, id_eq]; refine hk _ ?_; clear hk k; try show Sat _ _ _ _ _)
      (repeat refine Sat.seq ?_)
      (repeat refine Sat.seq ?_)
      (refine Sat.region_qk (by kernel_rfl) (by kernel_rfl) fun k hk => ?_; simp -implicitDefEqProofs only [evr, id, seval, ptr, Bool.not_true, Bool.not_false, res_one, res_ro, List.append_nil, Int.toNat_zero, Nat.sub_self, Int.reduceToNat, resRow, id_eq])
      refine ⟨by omega, ?_⟩
      refine qcall (identG Frm.nil zs.toArray[m]!) rfl (idAg_ok _) ?_
      simp only [idAg, evr, id, seval, ptr, Bool.not_true, Bool.not_false, res_one, res_ro, List.append_nil, Int.toNat_zero, Nat.sub_self, Int.reduceToNat, resRow, id_eq, id_idx hy h1 hi0]
      (refine hk _ ?_; clear hk k; try show Sat _ _ _ _ _)
      refine Sat.at ⟨75, [(31, .i .i64 m), (30, .i .i64 zs.length), (10, .i .i64 m), (9, .i .i64 (spotI k0 m)), (8, .i .i64 (spotI i0 (m + 1))), (6, .op 2 b2 0), (5, .op 1 b1 0), (4, .sl ya zs.length yc 17 (resRd zs.toArray)), (3, .v (.pointer (some ⟨cb, 0, none⟩)))], [.gone, .box b1 29 [.i .i64 zs.toArray[i0]!.vantage, .i .i64 zs.toArray[i0]!.run, .i .i64 zs.toArray[i0]!.number], .box b2 29 [.i .i64 zs.toArray[k0]!.vantage, .i .i64 zs.toArray[k0]!.run, .i .i64 zs.toArray[k0]!.number]]⟩ ?_ ?_
      · refine Sat.cond_b rfl (fun h => ?_) (fun h => ?_)
        · obtain rfl : m = i0 := by simpa using h
          (repeat refine Sat.seq ?_)
          refine Sat.region_k fun k hk => ?_
          simp -implicitDefEqProofs only [evr, id, seval, ptr, Bool.not_true, Bool.not_false, res_one, res_ro, List.append_nil, Int.toNat_zero, Nat.sub_self, Int.reduceToNat, resRow, id_eq]
          refine hk _ ?_
          simp only [thenK, spotI_hit]
          simp -implicitDefEqProofs only [evr, id, seval, ptr, Bool.not_true, Bool.not_false, res_one, res_ro, List.append_nil, Int.toNat_zero, Nat.sub_self, Int.reduceToNat, resRow, id_eq, evl]
        · have hne : m ≠ i0 := by simpa using h
          refine Sat.skip ?_
          simp only [thenK, spotI_miss hne]
          simp -implicitDefEqProofs only [evr, id, seval, ptr, Bool.not_true, Bool.not_false, res_one, res_ro, List.append_nil, Int.toNat_zero, Nat.sub_self, Int.reduceToNat, resRow, id_eq, evl]
      simp only [thenK]
      (repeat refine Sat.seq ?_)
      (repeat refine Sat.seq ?_)
      (refine Sat.region_qk (by kernel_rfl) (by kernel_rfl) fun k hk => ?_; simp -implicitDefEqProofs only [evr, id, seval, ptr, Bool.not_true, Bool.not_false, res_one, res_ro, List.append_nil, Int.toNat_zero, Nat.sub_self, Int.reduceToNat, resRow, id_eq])
      refine ⟨by omega, ?_⟩
      refine qcall (identG Frm.nil zs.toArray[m]!) rfl (idAg_ok _) ?_
      simp only [idAg, evr, id, seval, ptr, Bool.not_true, Bool.not_false, res_one, res_ro, List.append_nil, Int.toNat_zero, Nat.sub_self, Int.reduceToNat, resRow, id_eq, id_idx hy h1 hkn]
      (refine hk _ ?_; clear hk k; try show Sat _ _ _ _ _)
      refine Sat.at ⟨75, [(31, .i .i64 m), (30, .i .i64 zs.length), (9, .i .i64 (spotI k0 (m + 1))), (8, .i .i64 (spotI i0 (m + 1))), (6, .op 2 b2 0), (5, .op 1 b1 0), (4, .sl ya zs.length yc 17 (resRd zs.toArray)), (3, .v (.pointer (some ⟨cb, 0, none⟩)))], [.gone, .box b1 29 [.i .i64 zs.toArray[i0]!.vantage, .i .i64 zs.toArray[i0]!.run, .i .i64 zs.toArray[i0]!.number], .box b2 29 [.i .i64 zs.toArray[k0]!.vantage, .i .i64 zs.toArray[k0]!.run, .i .i64 zs.toArray[k0]!.number]]⟩ ?_ ?_
      · refine Sat.cond_b rfl (fun h => ?_) (fun h => ?_)
        · obtain rfl : m = k0 := by simpa using h
          (repeat refine Sat.seq ?_)
          refine Sat.region_k fun k hk => ?_
          simp -implicitDefEqProofs only [evr, id, seval, ptr, Bool.not_true, Bool.not_false, res_one, res_ro, List.append_nil, Int.toNat_zero, Nat.sub_self, Int.reduceToNat, resRow, id_eq]
          refine hk _ ?_
          simp only [thenK, spotI_hit]
          simp -implicitDefEqProofs only [evr, id, seval, ptr, Bool.not_true, Bool.not_false, res_one, res_ro, List.append_nil, Int.toNat_zero, Nat.sub_self, Int.reduceToNat, resRow, id_eq, evl]
        · have hne : m ≠ k0 := by simpa using h
          refine Sat.skip ?_
          simp only [thenK, spotI_miss hne]
          simp -implicitDefEqProofs only [evr, id, seval, ptr, Bool.not_true, Bool.not_false, res_one, res_ro, List.append_nil, Int.toNat_zero, Nat.sub_self, Int.reduceToNat, resRow, id_eq, evl]
      simp only [thenK, blockK, reduceIte]
      (repeat refine Sat.seq ?_)
      refine Sat.region_k fun k hk => ?_
      simp -implicitDefEqProofs only [evr, id, seval, ptr, Bool.not_true, Bool.not_false, res_one, res_ro, List.append_nil, Int.toNat_zero, Nat.sub_self, Int.reduceToNat, resRow, id_eq, e2]
      refine hk _ ?_
      simp only [thenK, blockK]
      refine ⟨m + 1, by omega, by omega, ?_⟩
      simp -implicitDefEqProofs only [evr, id, seval, ptr, Bool.not_true, Bool.not_false, res_one, res_ro, List.append_nil, Int.toNat_zero, Nat.sub_self, Int.reduceToNat, resRow, id_eq, evl]
    · obtain rfl : m = zs.length := by simp only [decide_eq_false_iff_not] at h; omega
      rw [spotI_end hi0, spotI_end hkn]
      refine Sat.exit ?_
      simp only [thenK, blockK, reduceIte]
      (repeat refine Sat.seq ?_)
      (refine Sat.region_tree (.keep [0, 1, 2, 3, 4, 5, 6, 7, 8, 9, 10, 12, 13, 14, 11, 15] [] (.one 16 (.one 17 (.one 18 (.free 19 (.one 20 (.one 21 (.one 22 (.one 23 (.one 24 .done)))))))))) (by kernel_rfl) (by kernel_rfl) (fun _ _ h => h) fun k hk => ?_; simp only [WOT, List.map_cons, List.map_nil, List.getD_cons_zero, List.getD_cons_succ]; simp -implicitDefEqProofs only [evr, id, seval, ptr, Bool.not_true, Bool.not_false, res_one, res_ro, List.append_nil, Int.toNat_zero, Nat.sub_self, Int.reduceToNat, resRow, id_eq, WOT])
      refine ⟨fun _ => ⟨by omega, by omega, ?_⟩, fun h => absurd hik (by omega)⟩
      refine wcall_plain (contradictC (Frm.codes cb) zs.toArray[i0]! zs.toArray[k0]!) rfl (by rintro _ rfl; exact ok_plain rfl) ?_
      rintro r rfl
      simp only [hct, evr, id, seval, ptr, Bool.not_true, Bool.not_false, res_one, res_ro, List.append_nil, Int.toNat_zero, Nat.sub_self, Int.reduceToNat, resRow, id_eq]
      refine ⟨by omega, ?_⟩
      refine wcall_plain (winC (Frm.codes cb) hy (by omega) (show 0 ≤ k0 by omega) (by omega) _ _ rfl (fun _ _ _ _ => rfl)) (by simp -implicitDefEqProofs only [evr, id, seval, ptr, Bool.not_true, Bool.not_false, res_one, res_ro, List.append_nil, Int.toNat_zero, Nat.sub_self, Int.reduceToNat, resRow, id_eq]; rfl) (by rintro _ ⟨v, _, rfl⟩; exact ok_plain rfl) ?_
      rintro r ⟨v, hv2, rfl⟩
      obtain rfl : v = true := hv2.2 hcl.2.1
      simp -implicitDefEqProofs only [evr, id, seval, ptr, Bool.not_true, Bool.not_false, res_one, res_ro, List.append_nil, Int.toNat_zero, Nat.sub_self, Int.reduceToNat, resRow, id_eq]
      refine hk _ ?_
      clear hk k
      refine Sat.ret ?_
      simp only [Try.results3, evr, id, seval, ptr, Bool.not_true, Bool.not_false, res_one, res_ro, List.append_nil, Int.toNat_zero, Nat.sub_self, Int.reduceToNat, resRow, id_eq]
theorem witness_holds : Rows.EpisodeWitnessSaid := episodeWitness.of_walk fun a0 z0 w ⟨h, hz⟩ => by
  obtain ⟨a, cap, rfl, hok⟩ := slB_of h
  exact walk_of (witWC a cap z0 hz) (fun s hs => by
    rw [List.mem_singleton.1 hs]; exact hok)
#print axioms witness_holds
end Go.Proofs.Ytkpmihaaijiihaa
