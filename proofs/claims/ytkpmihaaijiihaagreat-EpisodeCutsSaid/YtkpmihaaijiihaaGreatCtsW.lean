/- EpisodeCuts: what all functions of the package return for any results, or which error. The law holds of every input. -/
import Derived.Test.YtkpmihaaijiihaaGreatAwkT
import Derived.Test.YtkpmihaaijiihaaGreatWalkE
import Derived.Test.YtkpmihaaijiihaaGreatPk4
import Derived.Test.YtkpmihaaijiihaaGreatPk3
import Derived.Test.YtkpmihaaijiihaaGreatShEpisodeCuts
set_option linter.unusedSimpArgs false
set_option linter.unusedVariables false
namespace Go.Proofs.YtkpmihaaijiihaaGreat
open Go.Sort Eng
theorem id_eqs (a b c : Int) : aggEq Tryz.prog 41 3 (fun j => [SV.i .i64 a, SV.i .i64 b, SV.i .i64 c].getD j default) 3 (fun j => [SV.i .i64 a, SV.i .i64 b, SV.i .i64 c].getD j default) = some true := by
  rw [aw_idE]
  simp
structure YP where
  a : Option Addr
  c : Nat
  l : List Res
instance : Inhabited YP := ⟨⟨none, 0, []⟩⟩
def YP.sv (e : YP) : SV := .sl e.a e.l.length e.c 17 (resRd e.l.toArray)
structure YOk (e : YP) : Prop where
  rg : ∀ r ∈ e.l, RgR r
  len : e.l.length ≤ 1000
theorem wit_shape {ys : List Res} {f : Nat → SV} (h : WitPost ys f) : ∃ (a b c d e g : Int) (o : Bool), f 0 = idL a b c ∧ f 1 = idL d e g ∧ f 2 = .b o := by
  rcases h with ⟨_, e0, e1, e2⟩ | ⟨i, k, _, e0, e1, e2⟩
  · exact ⟨0, 0, 0, 0, 0, 0, false, e0, e1, e2⟩
  · exact ⟨_, _, _, _, _, _, true, e0, e1, e2⟩
theorem pick2 (a b c d : Int) {j : Nat} (h : j < 2) : ∃ p q : Int, rdL [SV.i .i64 a, .i .i64 b, .i .i64 c, .i .i64 d] 2 j 0 = .i .i64 p ∧ rdL [SV.i .i64 a, .i .i64 b, .i .i64 c, .i .i64 d] 2 j 1 = .i .i64 q := by
  rcases (show j = 0 ∨ j = 1 by omega) with rfl | rfl
  · exact ⟨a, b, rfl, rfl⟩
  · exact ⟨c, d, rfl, rfl⟩
set_option maxHeartbeats 4000000 in
set_option maxRecDepth 100000 in
theorem cutsC (a : Option Addr) (cap : Nat) (z : List Int) (hz : ∀ n ∈ z, (Lit.int .u8 n).wf = true) (ra : Option Addr) (rc : Nat) (raw : List Res) (hraw : ∀ r ∈ raw, RgR r) (hrl : raw.length ≤ maxLen) (ea eb : Int) :
    Contract Frm.nil Tryz.prog 3 [slB a cap z, .sl ra raw.length rc 17 (resRd raw.toArray), .agg 2 fun j => [SV.i .i64 ea, .i .i64 eb].getD j default] (fun r => r = .b true) := by
  have hb := slB_bytes1 a cap z hz
  refine contract_of Tryz.func3 rfl (by kernel_rfl) ?_
  simp only [Tryz.ntmps3, argEnv]
  (repeat refine Sat.seq ?_)
  (refine Sat.region_k fun k hk => ?_; simp -implicitDefEqProofs only [evr, id, seval, ptr, Bool.not_true, Bool.not_false, res_one, res_ro, resRow, bne_self_eq_false, id_eqs, idL, evn])
  intro b5
  (refine hk _ ?_; clear hk k; try show Sat _ _ _ _ _)
  (repeat refine Sat.seq ?_)
  (refine Sat.region_k fun k hk => ?_; simp -implicitDefEqProofs only [evr, id, seval, ptr, Bool.not_true, Bool.not_false, res_one, res_ro, resRow, bne_self_eq_false, id_eqs, idL, evn])
  refine wcall_plain (awakeC Frm.nil) rfl (by rintro _ rfl; exact ok_plain rfl) ?_
  rintro r rfl
  simp -implicitDefEqProofs only [evr, id, seval, ptr, Bool.not_true, Bool.not_false, res_one, res_ro, resRow, bne_self_eq_false, id_eqs, idL, evn]
  (refine hk _ ?_; clear hk k; try show Sat _ _ _ _ _)
  refine Sat.cond_b rfl (fun h => ?_) (fun h => ?_)
  · (repeat refine Sat.seq ?_)
    (refine Sat.region_k fun k hk => ?_; simp -implicitDefEqProofs only [evr, id, seval, ptr, Bool.not_true, Bool.not_false, res_one, res_ro, resRow, bne_self_eq_false, id_eqs, idL, evn])
    refine wcall_plain (awakeC Frm.nil) rfl (by rintro _ rfl; exact ok_plain rfl) ?_
    rintro r rfl
    simp -implicitDefEqProofs only [evr, id, seval, ptr, Bool.not_true, Bool.not_false, res_one, res_ro, resRow, bne_self_eq_false, id_eqs, idL, evn]
    (refine hk _ ?_; clear hk k; try show Sat _ _ _ _ _)
    refine Sat.ret ?_
    simp only [Tryz.results3, evr, id, reduceCtorEq, reduceIte, Nat.reduceMul, Nat.reduceAdd, Nat.reduceLT, Nat.reduceLeDiff, Nat.reduceEqDiff, Int.reduceLT, Int.reduceBEq, Int.reduceBNe, Nat.reduceBEq, ptr, Bool.not_true, Bool.not_false, res_one, res_ro, List.append_nil, Int.toNat_zero, Nat.sub_self, Int.reduceToNat, resRow, bne_self_eq_false, id_eqs, idL]
  have hr12 : raw.length ≤ 12 := by simp only [decide_eq_false_iff_not] at h; omega
  refine Sat.skip ?_
  simp only [thenK]
  refine Sat.settleBoxG 5 rfl rfl ?_
  simp -implicitDefEqProofs only [evr, id, seval, ptr, Bool.not_true, Bool.not_false, res_one, res_ro, resRow, bne_self_eq_false, id_eqs, idL, evn]
  refine Sat.seq ?_
  (refine Sat.region_k fun k hk => ?_; simp -implicitDefEqProofs only [evr, id, seval, ptr, Bool.not_true, Bool.not_false, res_one, res_ro, resRow, bne_self_eq_false, id_eqs, idL, evn])
  refine wcall_make (rollC (slB a cap z) hb) ?_
  intro cb
  simp -implicitDefEqProofs only [evr, id, seval, ptr, Bool.not_true, Bool.not_false, res_one, res_ro, resRow, bne_self_eq_false, id_eqs, idL, evn]
  (refine hk _ ?_; clear hk k; try show Sat _ _ _ _ _)
  refine Sat.switch (cb := cb) (id := 1) (F' := Frm.codes cb) (fun b => Iff.rfl) (fun _ h => h) rfl ?_
  (repeat refine Sat.seq ?_)
  (refine Sat.region_k fun k hk => ?_; simp -implicitDefEqProofs only [evr, id, seval, ptr, Bool.not_true, Bool.not_false, res_one, res_ro, resRow, bne_self_eq_false, id_eqs, idL, evn])
  refine wcall_new (oneC cb 24 (by omega)) rfl (by simp -implicitDefEqProofs only [evr, id, seval, ptr, Bool.not_true, Bool.not_false, res_one, res_ro, resRow, bne_self_eq_false, id_eqs, idL, evn]; try rfl) ?_
  rintro ya ty len yc sz rrd ⟨a1, c1, y, hy, hyl, e⟩
  simp only [resRow, Own.row.injEq] at e
  obtain ⟨rfl, rfl, rfl, rfl, rfl, rfl⟩ := e
  simp -implicitDefEqProofs only [evr, id, seval, ptr, Bool.not_true, Bool.not_false, res_one, res_ro, resRow, bne_self_eq_false, id_eqs, idL, evn]
  (refine hk _ ?_; clear hk k; try show Sat _ _ _ _ _)
  refine Sat.settle2 8 rfl rfl ?_
  simp -implicitDefEqProofs only [evr, id, seval, ptr, Bool.not_true, Bool.not_false, res_one, res_ro, resRow, bne_self_eq_false, id_eqs, idL, evn]
  (repeat refine Sat.seq ?_)
  (refine Sat.region_k fun k hk => ?_; simp -implicitDefEqProofs only [evr, id, seval, ptr, Bool.not_true, Bool.not_false, res_one, res_ro, resRow, bne_self_eq_false, id_eqs, idL, evn])
  refine wcall_new (oddC cb ya yc y (by omega) hy.inr) rfl (by simp -implicitDefEqProofs only [evr, id, seval, ptr, Bool.not_true, Bool.not_false, res_one, res_ro, resRow, bne_self_eq_false, id_eqs, idL, evn]; try rfl) ?_
  rintro oa ty len oc sz rrd ⟨a1, c1, os, hos, hol, e⟩
  simp only [resRow, Own.row.injEq] at e
  obtain ⟨rfl, rfl, rfl, rfl, rfl, rfl⟩ := e
  simp -implicitDefEqProofs only [evr, id, seval, ptr, Bool.not_true, Bool.not_false, res_one, res_ro, resRow, bne_self_eq_false, id_eqs, idL, evn]
  refine wcall_new (shuffledC cb oa oc os (by omega)) rfl (by simp -implicitDefEqProofs only [evr, id, seval, ptr, Bool.not_true, Bool.not_false, res_one, res_ro, resRow, bne_self_eq_false, id_eqs, idL, evn]; try rfl) ?_
  rintro sa ty len sc sz rrd ⟨a1, c1, ss, hss, hsl, e⟩
  simp only [resRow, Own.row.injEq] at e
  obtain ⟨rfl, rfl, rfl, rfl, rfl, rfl⟩ := e
  simp -implicitDefEqProofs only [evr, id, seval, ptr, Bool.not_true, Bool.not_false, res_one, res_ro, resRow, bne_self_eq_false, id_eqs, idL, evn]
  refine wcall_new (ContractN.of_sim (args := [ptr cb, .i .i64 12, .b false]) (resultsC cb 12 (by omega)) ⟨sim_refl _, sim_refl _, sim_f, trivial⟩) rfl (by simp -implicitDefEqProofs only [evr, id, seval, ptr, Bool.not_true, Bool.not_false, res_one, res_ro, resRow, bne_self_eq_false, id_eqs, idL, evn]; try rfl) ?_
  rintro ta ty len tc sz rrd ⟨a1, c1, ts, n0, n1, hI, htl, e⟩
  simp only [resRow, Own.row.injEq] at e
  obtain ⟨rfl, rfl, rfl, rfl, rfl, rfl⟩ := e
  simp -implicitDefEqProofs only [evr, id, seval, ptr, Bool.not_true, Bool.not_false, res_one, res_ro, resRow, bne_self_eq_false, id_eqs, idL, evn]
  intro blk
  (refine hk _ ?_; clear hk k; try show Sat _ _ _ _ _)
  obtain ⟨es, hes⟩ : ∃ es : List YP, es = [⟨ya, yc, y⟩, ⟨ra, rc, raw⟩, ⟨sa, sc, ss⟩, ⟨ta, tc, ts⟩] := ⟨_, rfl⟩
  refine Sat.settleCell 4 2 (rdL [SV.sl ya y.length yc 17 (resRd y.toArray), .sl ra raw.length rc 17 (resRd raw.toArray), .sl sa ss.length sc 17 (resRd ss.toArray), .os 3 ta ts.length tc] 1) rfl rfl (by decide) (fun i c hi hc => ?_) ?_
  · obtain rfl : c = 0 := by omega
    rcases (show i = 0 ∨ i = 1 ∨ i = 2 ∨ i = 3 by omega) with rfl | rfl | rfl | rfl
    · exact .inl (sim_refl _)
    · exact .inl (sim_refl _)
    · exact .inr ⟨rfl, rfl⟩
    · exact .inl (sim_refl _)
  simp -implicitDefEqProofs only [evr, id, seval, ptr, Bool.not_true, Bool.not_false, res_one, res_ro, resRow, bne_self_eq_false, id_eqs, idL, evn]
  refine Sat.settleCell 4 3 (fun i _ => (es.getD i default).sv) rfl rfl (by decide) (fun i c hi hc => ?_) ?_
  · obtain rfl : c = 0 := by omega
    subst hes
    rcases (show i = 0 ∨ i = 1 ∨ i = 2 ∨ i = 3 by omega) with rfl | rfl | rfl | rfl
    · exact .inl (sim_refl _)
    · exact .inl (sim_refl _)
    · exact .inl (sim_refl _)
    · exact .inr ⟨rfl, rfl⟩
  simp -implicitDefEqProofs only [evr, id, seval, ptr, Bool.not_true, Bool.not_false, res_one, res_ro, resRow, bne_self_eq_false, id_eqs, idL, evn]
  refine Sat.settle2 54 rfl rfl ?_
  simp -implicitDefEqProofs only [evr, id, seval, ptr, Bool.not_true, Bool.not_false, res_one, res_ro, resRow, bne_self_eq_false, id_eqs, idL, evn]
  have hok : ∀ i, i < 4 → YOk (es.getD i default) := by
    intro i hi
    subst hes
    rcases (show i = 0 ∨ i = 1 ∨ i = 2 ∨ i = 3 by omega) with rfl | rfl | rfl | rfl
    · exact ⟨hy.inr, by show y.length ≤ 1000; omega⟩
    · exact ⟨hraw, by show raw.length ≤ 1000; omega⟩
    · exact ⟨fun r hr => hos r (hss r hr), by show ss.length ≤ 1000; omega⟩
    · exact ⟨hI.inr, by show ts.length ≤ 1000; omega⟩
  clear hes
  (repeat refine Sat.seq ?_)
  refine Sat.block ?_
  refine Sat.loop (ι := Nat) (fun i => ⟨202, [(7, ptr cb), (5, .el ⟨b5, 0, none⟩ 2 fun j => [SV.i .i64 ea, .i .i64 eb].getD j default), (56, .i .i64 i), (55, .i .i64 4), (54, .sl (some ⟨blk, 0, none⟩) 4 4 1 (fun i _ => (es.getD i default).sv))], []⟩)
    (fun i => i ≤ 4) (fun i => 4 - i) 0 (Nat.zero_le _) (by simp -implicitDefEqProofs only [evr, id, seval, ptr, Bool.not_true, Bool.not_false, res_one, res_ro, resRow, bne_self_eq_false, id_eqs, idL, evl, evn]; first | rfl | exact ⟨rfl, rfl⟩ | trace_state) ?_
  intro i hi
  (repeat refine Sat.seq ?_)
  (refine Sat.region_k fun k hk => ?_; simp -implicitDefEqProofs only [evr, id, seval, ptr, Bool.not_true, Bool.not_false, res_one, res_ro, resRow, bne_self_eq_false, id_eqs, idL, evn]; refine hk _ ?_; clear hk k; try show Sat _ _ _ _ _)
  (repeat refine Sat.seq ?_)
  refine Sat.cond_b rfl (fun h => ?_) (fun h => ?_)
  · have h1 : i < 4 := by simp only [decide_eq_true_eq] at h; omega
    have e2 : IntKind.i64.wrap ((i : Int) + 1) = ((i + 1 : Nat) : Int) := by rw [w64 (by omega)]; omega
    obtain ⟨e, he⟩ : ∃ e, es.getD i default = e := ⟨_, rfl⟩
    have hek := hok i h1
    rw [he] at hek
    obtain ⟨hrg, hlen⟩ := hek
    refine Sat.skip ?_
    simp only [thenK]
    (repeat refine Sat.seq ?_)
    refine Sat.block ?_
    (repeat refine Sat.seq ?_)
    (refine Sat.region_k fun k hk => ?_; simp -implicitDefEqProofs only [evr, id, seval, ptr, Bool.not_true, Bool.not_false, res_one, res_ro, resRow, bne_self_eq_false, id_eqs, idL, evn])
    refine ⟨by omega, ?_⟩
    simp only [he, YP.sv]
    (refine hk _ ?_; clear hk k; try show Sat _ _ _ _ _)
    (repeat refine Sat.seq ?_)
    (refine Sat.region_k fun k hk => ?_; simp -implicitDefEqProofs only [evr, id, seval, ptr, Bool.not_true, Bool.not_false, res_one, res_ro, resRow, bne_self_eq_false, id_eqs, idL, evn])
    refine wcall_slice (cutC (Frm.codes cb) e.a e.c e.l (by omega) hrg) rfl (by simp -implicitDefEqProofs only [evr, id, seval, ptr, Bool.not_true, Bool.not_false, res_one, res_ro, resRow, bne_self_eq_false, id_eqs, idL, evn]) ?_
    rintro r ⟨ca, cc, l, er, hcr, hll, rfl⟩
    simp -implicitDefEqProofs only [evr, id, seval, ptr, Bool.not_true, Bool.not_false, res_one, res_ro, resRow, bne_self_eq_false, id_eqs, idL, evn]
    (refine hk _ ?_; clear hk k; try show Sat _ _ _ _ _)
    (repeat refine Sat.seq ?_)
    (refine Sat.region_k fun k hk => ?_; simp -implicitDefEqProofs only [evr, id, seval, ptr, Bool.not_true, Bool.not_false, res_one, res_ro, resRow, bne_self_eq_false, id_eqs, idL, evn])
    refine wcall_slice (cutG (Frm.codes cb) e.a e.c e.l (by omega) hrg) rfl (by simp -implicitDefEqProofs only [evr, id, seval, ptr, Bool.not_true, Bool.not_false, res_one, res_ro, resRow, bne_self_eq_false, id_eqs, idL, evn]) ?_
    rintro r ⟨ga, gc, l2, er2, hcr2, _, rfl⟩
    obtain ⟨rfl, rfl⟩ := cutRes_eq hcr hcr2
    simp -implicitDefEqProofs only [evr, id, seval, ptr, Bool.not_true, Bool.not_false, res_one, res_ro, resRow, bne_self_eq_false, id_eqs, idL, evn]
    (refine hk _ ?_; clear hk k; try show Sat _ _ _ _ _)
    (repeat refine Sat.seq ?_)
    (refine Sat.region_k fun k hk => ?_; simp -implicitDefEqProofs only [evr, id, seval, ptr, Bool.not_true, Bool.not_false, res_one, res_ro, resRow, bne_self_eq_false, id_eqs, idL, evn])
    refine wcall_slice (latestC (Frm.codes cb) e.a e.c e.l (by omega) hrg) rfl (by simp -implicitDefEqProofs only [evr, id, seval, ptr, Bool.not_true, Bool.not_false, res_one, res_ro, resRow, bne_self_eq_false, id_eqs, idL, evn]) ?_
    rintro r ⟨la, lc, zs, el, hla, hzl, rfl⟩
    simp -implicitDefEqProofs only [evr, id, seval, ptr, Bool.not_true, Bool.not_false, res_one, res_ro, resRow, bne_self_eq_false, id_eqs, idL, evn]
    (refine hk _ ?_; clear hk k; try show Sat _ _ _ _ _)
    (repeat refine Sat.seq ?_)
    (refine Sat.region_k fun k hk => ?_; simp -implicitDefEqProofs only [evr, id, seval, ptr, Bool.not_true, Bool.not_false, res_one, res_ro, resRow, bne_self_eq_false, id_eqs, idL, evn])
    refine wcall_slice (latestG (Frm.codes cb) e.a e.c e.l (by omega) hrg) rfl (by simp -implicitDefEqProofs only [evr, id, seval, ptr, Bool.not_true, Bool.not_false, res_one, res_ro, resRow, bne_self_eq_false, id_eqs, idL, evn]) ?_
    rintro r ⟨ma, mc, zs2, el2, hla2, _, rfl⟩
    obtain ⟨rfl, rfl⟩ := latRes_eq hla hla2
    simp -implicitDefEqProofs only [evr, id, seval, ptr, Bool.not_true, Bool.not_false, res_one, res_ro, resRow, bne_self_eq_false, id_eqs, idL, evn]
    (refine hk _ ?_; clear hk k; try show Sat _ _ _ _ _)
    (repeat refine Sat.seq ?_)
    (refine Sat.region_k fun k hk => ?_; simp -implicitDefEqProofs only [evr, id, seval, ptr, Bool.not_true, Bool.not_false, res_one, res_ro, resRow, bne_self_eq_false, id_eqs, idL, evn])
    refine wcall_plain (fewestC (Frm.codes cb) e.a e.c e.l (by omega) hrg) (by simp -implicitDefEqProofs only [evr, id, seval, ptr, Bool.not_true, Bool.not_false, res_one, res_ro, resRow, bne_self_eq_false, id_eqs, idL, evn]) (by rintro _ ⟨l, e, _, _, rfl⟩; exact ok_tupL rfl) ?_
    rintro r ⟨fl, fe, hf1, _, rfl⟩
    obtain ⟨rfl, rfl⟩ := cutRes_eq hf1 hcr2
    simp -implicitDefEqProofs only [evr, id, seval, ptr, Bool.not_true, Bool.not_false, res_one, res_ro, resRow, bne_self_eq_false, id_eqs, idL, evn]
    (refine hk _ ?_; clear hk k; try show Sat _ _ _ _ _)
    (repeat refine Sat.seq ?_)
    (refine Sat.region_k fun k hk => ?_; simp -implicitDefEqProofs only [evr, id, seval, ptr, Bool.not_true, Bool.not_false, res_one, res_ro, resRow, bne_self_eq_false, id_eqs, idL, evn])
    refine wcall_plain (fewestG (Frm.codes cb) e.a e.c e.l (by omega) hrg) (by simp -implicitDefEqProofs only [evr, id, seval, ptr, Bool.not_true, Bool.not_false, res_one, res_ro, resRow, bne_self_eq_false, id_eqs, idL, evn]) (by rintro _ ⟨l, e, _, _, rfl⟩; exact ok_tupL rfl) ?_
    rintro r ⟨fl2, fe2, hf2, _, rfl⟩
    obtain ⟨rfl, rfl⟩ := cutRes_eq hf1 hf2
    simp -implicitDefEqProofs only [evr, id, seval, ptr, Bool.not_true, Bool.not_false, res_one, res_ro, resRow, bne_self_eq_false, id_eqs, idL, evn]
    (refine hk _ ?_; clear hk k; try show Sat _ _ _ _ _)
    (repeat refine Sat.seq ?_)
    (refine Sat.region_k fun k hk => ?_; simp -implicitDefEqProofs only [evr, id, seval, ptr, Bool.not_true, Bool.not_false, res_one, res_ro, resRow, bne_self_eq_false, id_eqs, idL, evn])
    refine wcall_plain (witnessC (Frm.codes cb) e.a e.c e.l (by omega) hrg) (by simp -implicitDefEqProofs only [evr, id, seval, ptr, Bool.not_true, Bool.not_false, res_one, res_ro, resRow, bne_self_eq_false, id_eqs, idL, evn]) (by rintro _ ⟨ys, f, _, hf, rfl⟩; exact hf.ok) ?_
    rintro r ⟨ws, f, ho, hf, rfl⟩
    obtain ⟨w1, w2, w3, w4, w5, w6, wb, g0, g1, g2⟩ := wit_shape hf
    rw [g0, g1, g2]
    simp only [idL, evr, id, reduceCtorEq, reduceIte, Nat.reduceMul, Nat.reduceAdd, Nat.reduceLT, Nat.reduceLeDiff, Nat.reduceEqDiff, Int.reduceLT, Int.reduceBEq, Int.reduceBNe, Nat.reduceBEq, ptr, Bool.not_true, Bool.not_false, res_one, res_ro, List.append_nil, Int.toNat_zero, Nat.sub_self, Int.reduceToNat, resRow, bne_self_eq_false, id_eqs, idL]
    intro b23 b24
    (refine hk _ ?_; clear hk k; try show Sat _ _ _ _ _)
    (repeat refine Sat.seq ?_)
    (refine Sat.region_k fun k hk => ?_; simp -implicitDefEqProofs only [evr, id, seval, ptr, Bool.not_true, Bool.not_false, res_one, res_ro, resRow, bne_self_eq_false, id_eqs, idL, evn])
    refine wcall_plain (witnessG (Frm.codes cb) e.a e.c e.l (by omega) hrg) (by simp -implicitDefEqProofs only [evr, id, seval, ptr, Bool.not_true, Bool.not_false, res_one, res_ro, resRow, bne_self_eq_false, id_eqs, idL, evn]) (by rintro _ ⟨ys, f, _, hf, rfl⟩; exact hf.ok) ?_
    rintro r ⟨ws2, f2, ho2, hf2', rfl⟩
    obtain rfl := ho2.unique ho
    obtain ⟨k0, k1, k2⟩ := witPost_eq hf hf2'
    rw [k0, k1, k2, g0, g1, g2]
    simp only [idL, evr, id, reduceCtorEq, reduceIte, Nat.reduceMul, Nat.reduceAdd, Nat.reduceLT, Nat.reduceLeDiff, Nat.reduceEqDiff, Int.reduceLT, Int.reduceBEq, Int.reduceBNe, Nat.reduceBEq, ptr, Bool.not_true, Bool.not_false, res_one, res_ro, List.append_nil, Int.toNat_zero, Nat.sub_self, Int.reduceToNat, resRow, bne_self_eq_false, id_eqs, idL]
    intro b26 b27
    (refine hk _ ?_; clear hk k; try show Sat _ _ _ _ _)
    (repeat refine Sat.seq ?_)
    (refine Sat.region_k fun k hk => ?_; simp -implicitDefEqProofs only [evr, id, seval, ptr, Bool.not_true, Bool.not_false, res_one, res_ro, resRow, bne_self_eq_false, id_eqs, idL, evn])
    refine wcall_plain (sameEpG (Frm.codes cb) ca ga cc gc fl2 (by omega)) (by simp -implicitDefEqProofs only [evr, id, seval, ptr, Bool.not_true, Bool.not_false, res_one, res_ro, resRow, bne_self_eq_false, id_eqs, idL, evn]) (by rintro _ rfl; exact ok_plain rfl) ?_
    rintro r rfl
    simp -implicitDefEqProofs only [evr, id, seval, ptr, Bool.not_true, Bool.not_false, res_one, res_ro, resRow, bne_self_eq_false, id_eqs, idL, evn]
    refine wcall_plain (sameResG (Frm.codes cb) la ma lc mc zs2 (by omega)) (by simp -implicitDefEqProofs only [evr, id, seval, ptr, Bool.not_true, Bool.not_false, res_one, res_ro, resRow, bne_self_eq_false, id_eqs, idL, evn]) (by rintro _ rfl; exact ok_plain rfl) ?_
    rintro r rfl
    simp -implicitDefEqProofs only [evr, id, seval, ptr, Bool.not_true, Bool.not_false, res_one, res_ro, resRow, bne_self_eq_false, id_eqs, idL, evn]
    refine wcall_plain (consistentC (Frm.codes cb) e.a e.c e.l (by omega) hrg) (by simp -implicitDefEqProofs only [evr, id, seval, ptr, Bool.not_true, Bool.not_false, res_one, res_ro, resRow, bne_self_eq_false, id_eqs, idL, evn]) (by rintro _ ⟨ys, b, _, _, rfl⟩; exact ok_plain rfl) ?_
    rintro r ⟨vs, v, hov, hv, rfl⟩
    simp -implicitDefEqProofs only [evr, id, seval, ptr, Bool.not_true, Bool.not_false, res_one, res_ro, resRow, bne_self_eq_false, id_eqs, idL, evn]
    refine wcall_plain (consistentG (Frm.codes cb) e.a e.c e.l (by omega)) (by simp -implicitDefEqProofs only [evr, id, seval, ptr, Bool.not_true, Bool.not_false, res_one, res_ro, resRow, bne_self_eq_false, id_eqs, idL, evn]) (by rintro _ ⟨b, _, rfl⟩; exact ok_plain rfl) ?_
    rintro r ⟨v2, hv2, rfl⟩
    obtain rfl : v2 = v := Bool.eq_iff_iff.2 (hv2.trans ((consR_pairs hov).symm.trans hv.symm))
    simp -implicitDefEqProofs only [evr, id, seval, ptr, Bool.not_true, Bool.not_false, res_one, res_ro, resRow, bne_self_eq_false, id_eqs, idL, evn]
    (refine hk _ ?_; clear hk k; try show Sat _ _ _ _ _)
    first
      | refine Sat.cond_ff rfl ?_
      | refine Sat.cond_b rfl (fun h => by simp at h) (fun _ => ?_)
    refine Sat.skip ?_
    simp only [thenK]
    (repeat refine Sat.seq ?_)
    refine Sat.joinG (ι := Nat × Int × Int) (fun x => ⟨202, [(162, .i .i64 0), (161, .i .i64 2), (160, .os 4 (some ⟨x.1, 0, none⟩) 2 2), (10, .sl e.a e.l.length e.c 17 (resRd e.l.toArray)), (7, ptr cb), (5, .el ⟨b5, 0, none⟩ 2 fun j => [SV.i .i64 ea, .i .i64 eb].getD j default), (56, .i .i64 i), (55, .i .i64 4), (54, .sl (some ⟨blk, 0, none⟩) 4 4 1 (fun i _ => (es.getD i default).sv))], [.gone, .gone, .gone, .gone, .row (some ⟨x.1, 0, none⟩) 25 2 2 2 (rdL [SV.i .i64 ea, .i .i64 eb, .i .i64 x.2.1, .i .i64 x.2.2] 2)]⟩) (fun _ => True) (fun hrest => ?_) ?_
    · (refine Sat.region_tree (.keep [1, 3, 8, 0] [2, 4, 5] (.one 2 (.one 4 (.one 5 (.one 6 (.one 7 .done)))))) (by kernel_rfl) (by kernel_rfl) (fun _ _ h => h) fun k hk => ?_; simp only [WOT, List.map_cons, List.map_nil, List.getD_cons_zero, List.getD_cons_succ]; simp -implicitDefEqProofs only [evr, id, seval, ptr, Bool.not_true, Bool.not_false, res_one, res_ro, resRow, bne_self_eq_false, id_eqs, idL, WOT, evn])
      repeat' (first
        | (refine wcall_plain (nextC cb 5 (by decide) (by decide)) rfl (by rintro _ ⟨x, rfl, _⟩; exact ok_plain rfl) ?_; rintro r ⟨u, rfl, hu0, hu1⟩; simp -implicitDefEqProofs only [evr, id, seval, ptr, Bool.not_true, Bool.not_false, res_one, res_ro, resRow, bne_self_eq_false, id_eqs, idL, evn])
        | (refine wcall_plain (nextC cb 9 (by decide) (by decide)) rfl (by rintro _ ⟨x, rfl, _⟩; exact ok_plain rfl) ?_; rintro r ⟨v, rfl, hv0, hv1⟩; simp -implicitDefEqProofs only [evr, id, seval, ptr, Bool.not_true, Bool.not_false, res_one, res_ro, resRow, bne_self_eq_false, id_eqs, idL, evn])
        | omega
        | (with_reducible refine And.intro ?_ ?_)
        | (with_reducible intro bq))
      all_goals
        refine hk _ ?_
        clear hk
        simp only [thenK]
        refine Sat.le (hrest (bq, u, v) trivial) ?_
        simp -implicitDefEqProofs only [evr, id, seval, ptr, Bool.not_true, Bool.not_false, res_one, res_ro, resRow, bne_self_eq_false, id_eqs, idL, evl, evn]
        first | exact ⟨rfl, rfl⟩ | rfl
    rintro ⟨bq, u, v⟩ _
    simp only
    refine Sat.settle2 160 rfl rfl ?_
    simp -implicitDefEqProofs only [evr, id, seval, ptr, Bool.not_true, Bool.not_false, res_one, res_ro, resRow, bne_self_eq_false, id_eqs, idL, evn]
    (repeat refine Sat.seq ?_)
    refine Sat.block ?_
    refine Sat.loop (ι := Nat) (fun j => ⟨202, [(162, .i .i64 j), (161, .i .i64 2), (160, .sl (some ⟨bq, 0, none⟩) 2 2 2 (rdL [SV.i .i64 ea, .i .i64 eb, .i .i64 u, .i .i64 v] 2)), (10, .sl e.a e.l.length e.c 17 (resRd e.l.toArray)), (7, ptr cb), (5, .el ⟨b5, 0, none⟩ 2 fun j => [SV.i .i64 ea, .i .i64 eb].getD j default), (56, .i .i64 i), (55, .i .i64 4), (54, .sl (some ⟨blk, 0, none⟩) 4 4 1 (fun i _ => (es.getD i default).sv))], []⟩)
      (fun j => j ≤ 2) (fun j => 2 - j) 0 (Nat.zero_le _) (by simp -implicitDefEqProofs only [evr, id, seval, ptr, Bool.not_true, Bool.not_false, res_one, res_ro, resRow, bne_self_eq_false, id_eqs, idL, evl, evn]; first | rfl | exact ⟨rfl, rfl⟩ | trace_state) ?_
    intro j hj
    (repeat refine Sat.seq ?_)
    (refine Sat.region_k fun k hk => ?_; simp -implicitDefEqProofs only [evr, id, seval, ptr, Bool.not_true, Bool.not_false, res_one, res_ro, resRow, bne_self_eq_false, id_eqs, idL, evn]; refine hk _ ?_; clear hk k; try show Sat _ _ _ _ _)
    (repeat refine Sat.seq ?_)
    refine Sat.cond_b rfl (fun h => ?_) (fun h => ?_)
    · have hj2 : j < 2 := by simp only [decide_eq_true_eq] at h; omega
      have e3 : IntKind.i64.wrap ((j : Int) + 1) = ((j + 1 : Nat) : Int) := by rw [w64 (by omega)]; omega
      obtain ⟨p, q, hp, hq⟩ := pick2 ea eb u v hj2
      refine Sat.skip ?_
      simp only [thenK]
      (repeat refine Sat.seq ?_)
      refine Sat.block ?_
      (repeat refine Sat.seq ?_)
      (refine Sat.region_k fun k hk => ?_; simp -implicitDefEqProofs only [evr, id, seval, ptr, Bool.not_true, Bool.not_false, res_one, res_ro, resRow, bne_self_eq_false, id_eqs, idL, evn])
      simp only [hp, hq, evr, id, reduceCtorEq, reduceIte, Nat.reduceMul, Nat.reduceAdd, Nat.reduceLT, Nat.reduceLeDiff, Nat.reduceEqDiff, Int.reduceLT, Int.reduceBEq, Int.reduceBNe, Nat.reduceBEq, ptr, Bool.not_true, Bool.not_false, res_one, res_ro, List.append_nil, Int.toNat_zero, Nat.sub_self, Int.reduceToNat, resRow, bne_self_eq_false, id_eqs, idL]
      refine ⟨by omega, ?_⟩
      intro b30
      (refine hk _ ?_; clear hk k; try show Sat _ _ _ _ _)
      (repeat refine Sat.seq ?_)
      (refine Sat.region_tree (.keep [0, 3, 1, 4] [2] (.one 2 (.one 5 (.one 6 (.one 7 .done))))) (by kernel_rfl) (by kernel_rfl) (fun _ _ h => h) fun k hk => ?_; simp only [WOT, List.map_cons, List.map_nil, List.getD_cons_zero, List.getD_cons_succ]; simp -implicitDefEqProofs only [evr, id, seval, ptr, Bool.not_true, Bool.not_false, res_one, res_ro, resRow, bne_self_eq_false, id_eqs, idL, WOT, evn])
      repeat' (first
        | (refine wcall_new (partC (Frm.codes cb) e.a e.c e.l (by omega) hrg p q) rfl (by simp -implicitDefEqProofs only [evr, id, seval, ptr, Bool.not_true, Bool.not_false, res_one, res_ro, resRow, bne_self_eq_false, id_eqs, idL, evn]; try rfl) ?_; rintro pa ty len pc sz rrd ⟨a1, c1, ps, hops, ee⟩; simp only [resRow, Own.row.injEq] at ee; obtain ⟨rfl, rfl, rfl, rfl, rfl, rfl⟩ := ee; simp -implicitDefEqProofs only [evr, id, seval, ptr, Bool.not_true, Bool.not_false, res_one, res_ro, resRow, bne_self_eq_false, id_eqs, idL, evn])
        | (refine wcall_new (partG (Frm.codes cb) e.a e.c e.l (by omega) hrg p q) rfl (by simp -implicitDefEqProofs only [evr, id, seval, ptr, Bool.not_true, Bool.not_false, res_one, res_ro, resRow, bne_self_eq_false, id_eqs, idL, evn]; try rfl) ?_; rintro pa2 ty len pc2 sz rrd ⟨a1, c1, ps2, hops2, ee⟩; simp only [resRow, Own.row.injEq] at ee; obtain ⟨rfl, rfl, rfl, rfl, rfl, rfl⟩ := ee; obtain rfl := hops2.unique hops; simp -implicitDefEqProofs only [evr, id, seval, ptr, Bool.not_true, Bool.not_false, res_one, res_ro, resRow, bne_self_eq_false, id_eqs, idL, evn])
        | (refine wcall_plain (sameResG (Frm.codes cb) pa pa2 pc pc2 (partL ps2 p q) (Nat.le_trans (partL_le _ _ _) (Nat.le_trans (ord_len hops2) (by omega)))) (by simp -implicitDefEqProofs only [evr, id, seval, ptr, Bool.not_true, Bool.not_false, res_one, res_ro, resRow, bne_self_eq_false, id_eqs, idL, evn]) (by rintro _ rfl; exact ok_plain rfl) ?_; rintro r rfl; simp -implicitDefEqProofs only [evr, id, seval, ptr, Bool.not_true, Bool.not_false, res_one, res_ro, resRow, bne_self_eq_false, id_eqs, idL, evn])
        | omega
        | (with_reducible refine And.intro ?_ ?_))
      all_goals
        refine hk _ ?_
        clear hk
        try show Sat _ _ _ _ _
        first
          | refine Sat.cond_ff rfl ?_
          | refine Sat.cond_b rfl (fun h => by simp at h) (fun _ => ?_)
        refine Sat.skip ?_
        simp only [thenK, blockK, reduceIte]
        (repeat refine Sat.seq ?_)
        refine Sat.region_k fun k2 hk2 => ?_
        simp -implicitDefEqProofs only [evr, id, seval, ptr, Bool.not_true, Bool.not_false, res_one, res_ro, resRow, bne_self_eq_false, id_eqs, idL, e3, evn]
        refine hk2 _ ?_
        simp only [thenK, blockK]
        refine ⟨j + 1, by omega, by omega, ?_⟩
        simp -implicitDefEqProofs only [evr, id, seval, ptr, Bool.not_true, Bool.not_false, res_one, res_ro, resRow, bne_self_eq_false, id_eqs, idL, evl, evn]
    · refine Sat.exit ?_
      simp only [thenK, blockK, reduceIte]
      (repeat refine Sat.seq ?_)
      (refine Sat.region_k fun k hk => ?_; simp -implicitDefEqProofs only [evr, id, seval, ptr, Bool.not_true, Bool.not_false, res_one, res_ro, resRow, bne_self_eq_false, id_eqs, idL, evn]; refine hk _ ?_; clear hk k; try show Sat _ _ _ _ _)
      (repeat refine Sat.seq ?_)
      refine Sat.block ?_
      refine Sat.loop (ι := Nat) (fun q => ⟨202, [(177, .i .i64 q), (176, .i .i64 e.l.length), (10, .sl e.a e.l.length e.c 17 (resRd e.l.toArray)), (7, ptr cb), (5, .el ⟨b5, 0, none⟩ 2 fun j => [SV.i .i64 ea, .i .i64 eb].getD j default), (56, .i .i64 i), (55, .i .i64 4), (54, .sl (some ⟨blk, 0, none⟩) 4 4 1 (fun i _ => (es.getD i default).sv))], []⟩)
        (fun q => q ≤ e.l.length) (fun q => e.l.length - q) 0 (Nat.zero_le _) (by simp -implicitDefEqProofs only [evr, id, seval, ptr, Bool.not_true, Bool.not_false, res_one, res_ro, resRow, bne_self_eq_false, id_eqs, idL, evl, evn]; first | rfl | exact ⟨rfl, rfl⟩ | trace_state) ?_
      intro q hq
      (repeat refine Sat.seq ?_)
      (refine Sat.region_k fun k hk => ?_; simp -implicitDefEqProofs only [evr, id, seval, ptr, Bool.not_true, Bool.not_false, res_one, res_ro, resRow, bne_self_eq_false, id_eqs, idL, evn]; refine hk _ ?_; clear hk k; try show Sat _ _ _ _ _)
      (repeat refine Sat.seq ?_)
      refine Sat.cond_b rfl (fun h => ?_) (fun h => ?_)
      · have hq2 : q < e.l.length := by simp only [decide_eq_true_eq] at h; omega
        have e3 : IntKind.i64.wrap ((q : Int) + 1) = ((q + 1 : Nat) : Int) := by rw [w64 (by omega)]; omega
        refine Sat.skip ?_
        simp only [thenK]
        (repeat refine Sat.seq ?_)
        refine Sat.block ?_
        (repeat refine Sat.seq ?_)
        (refine Sat.region_k fun k hk => ?_; simp -implicitDefEqProofs only [evr, id, seval, ptr, Bool.not_true, Bool.not_false, res_one, res_ro, resRow, bne_self_eq_false, id_eqs, idL, evn]; refine hk _ ?_; clear hk k; try show Sat _ _ _ _ _)
        (repeat refine Sat.seq ?_)
        (refine Sat.region_k fun k hk => ?_; simp -implicitDefEqProofs only [evr, id, seval, ptr, Bool.not_true, Bool.not_false, res_one, res_ro, resRow, bne_self_eq_false, id_eqs, idL, evn])
        refine wcall_plain (nextC cb e.l.length (by omega) (by omega)) rfl (by rintro _ ⟨x, rfl, _⟩; exact ok_plain rfl) ?_
        rintro r ⟨x, rfl, hx0, hx1⟩
        obtain ⟨x, rfl⟩ := Int.eq_ofNat_of_zero_le hx0
        have hxl : x < e.l.length := by omega
        simp -implicitDefEqProofs only [evr, id, seval, ptr, Bool.not_true, Bool.not_false, res_one, res_ro, resRow, bne_self_eq_false, id_eqs, idL, evn]
        refine ⟨by omega, ?_⟩
        intro b32
        (refine hk _ ?_; clear hk k; try show Sat _ _ _ _ _)
        (repeat refine Sat.seq ?_)
        (refine Sat.region_qk (by kernel_rfl) (by kernel_rfl) fun k hk => ?_; simp -implicitDefEqProofs only [evr, id, seval, ptr, Bool.not_true, Bool.not_false, res_one, res_ro, resRow, bne_self_eq_false, id_eqs, idL, evn])
        refine ⟨by omega, ?_⟩
        refine qcall (contradictC Frm.nil e.l.toArray[q]! e.l.toArray[x]!) rfl (ok_plain rfl) ?_
        simp -implicitDefEqProofs only [evr, id, seval, ptr, Bool.not_true, Bool.not_false, res_one, res_ro, resRow, bne_self_eq_false, id_eqs, idL, evn]
        refine ⟨by omega, ?_⟩
        refine qcall (contradictG Frm.nil e.l.toArray[q]! e.l.toArray[x]!) rfl (ok_plain rfl) ?_
        simp -implicitDefEqProofs only [evr, id, seval, ptr, Bool.not_true, Bool.not_false, res_one, res_ro, resRow, bne_self_eq_false, id_eqs, idL, evn]
        (refine hk _ ?_; clear hk k; try show Sat _ _ _ _ _)
        first
          | refine Sat.cond_ff rfl ?_
          | refine Sat.cond_b rfl (fun h => by simp at h) (fun _ => ?_)
        refine Sat.skip ?_
        simp only [thenK, blockK, reduceIte]
        (repeat refine Sat.seq ?_)
        refine Sat.region_k fun k2 hk2 => ?_
        simp -implicitDefEqProofs only [evr, id, seval, ptr, Bool.not_true, Bool.not_false, res_one, res_ro, resRow, bne_self_eq_false, id_eqs, idL, e3, evn]
        refine hk2 _ ?_
        simp only [thenK, blockK]
        refine ⟨q + 1, by omega, by omega, ?_⟩
        simp -implicitDefEqProofs only [evr, id, seval, ptr, Bool.not_true, Bool.not_false, res_one, res_ro, resRow, bne_self_eq_false, id_eqs, idL, evl, evn]
      · refine Sat.exit ?_
        simp only [thenK, blockK, reduceIte]
        (repeat refine Sat.seq ?_)
        refine Sat.region_k fun k2 hk2 => ?_
        simp -implicitDefEqProofs only [evr, id, seval, ptr, Bool.not_true, Bool.not_false, res_one, res_ro, resRow, bne_self_eq_false, id_eqs, idL, e2, evn]
        refine hk2 _ ?_
        simp only [thenK, blockK]
        refine ⟨i + 1, by omega, by omega, ?_⟩
        simp -implicitDefEqProofs only [evr, id, seval, ptr, Bool.not_true, Bool.not_false, res_one, res_ro, resRow, bne_self_eq_false, id_eqs, idL, evl, evn]
        try rfl
  · obtain rfl : i = 4 := by simp only [decide_eq_false_iff_not] at h; omega
    refine Sat.exit ?_
    simp only [thenK, blockK, reduceIte]
    (repeat refine Sat.seq ?_)
    (refine Sat.region_k fun k hk => ?_; simp -implicitDefEqProofs only [evr, id, seval, ptr, Bool.not_true, Bool.not_false, res_one, res_ro, resRow, bne_self_eq_false, id_eqs, idL, evn]; refine hk _ ?_; clear hk k; try show Sat _ _ _ _ _)
    refine Sat.ret ?_
    simp only [Tryz.results3, evr, id, reduceCtorEq, reduceIte, Nat.reduceMul, Nat.reduceAdd, Nat.reduceLT, Nat.reduceLeDiff, Nat.reduceEqDiff, Int.reduceLT, Int.reduceBEq, Int.reduceBNe, Nat.reduceBEq, ptr, Bool.not_true, Bool.not_false, res_one, res_ro, List.append_nil, Int.toNat_zero, Nat.sub_self, Int.reduceToNat, resRow, bne_self_eq_false, id_eqs, idL]
open Go.RowKit Go.WideShapes Go.ChangeShapes in
set_option maxRecDepth 100000 in
theorem cuts_walk : episodeCuts.Walk := by
  intro w l0 l1 l2 c0 s0 o0 c1 s1 o1 c2 s2 o2
  obtain ⟨a, cap, z, rd, rfl, hz, hrd⟩ := sh_ints (e := 5) (k := .u8) (by kernel_rfl) (by kernel_rfl) (by kernel_rfl) s0
  obtain ⟨ra, rc, raw, rrd, rfl, hraw, hrr⟩ := sh_slice Res.cs wfR (sz := 17) (e := 54) (by kernel_rfl) (by kernel_rfl) (fun l h => res_of_sh h) s1
  obtain ⟨ea, eb, rfl⟩ : ∃ ea eb : Int, l2 = [.i .i64 ea, .i .i64 eb] := by
    obtain ⟨h1, h2⟩ := sh_fields (ps := [(0, 3), (1, 3)]) (by kernel_rfl) (by kernel_rfl) s2
    have hc : Tryz.prog.cellsOf 25 = 2 := by kernel_rfl
    have c1 : Tryz.prog.cellsOf 3 = 1 := by kernel_rfl
    rw [hc] at h1
    match l2, h1 with
    | [x0, x1], _ =>
      have g0 := h2 (0, 3) (by simp)
      have g1 := h2 (1, 3) (by simp)
      simp only [c1] at g0 g1
      obtain ⟨n0, e0, _⟩ := sh_int (k := .i64) (by kernel_rfl) g0
      obtain ⟨n1, e1, _⟩ := sh_int (k := .i64) (by kernel_rfl) g1
      simp at e0 e1
      subst e0 e1
      exact ⟨n0, n1, rfl⟩
  rw [valS_one (by kernel_rfl)] at o0 o1
  rw [valS_one (by kernel_rfl), valS_one (by kernel_rfl)]
  have hl : raw.length ≤ maxLen := by
    obtain ⟨h1, h2, _⟩ := o1
    omega
  have e2 : valS Tryz.prog 25 [.i .i64 ea, .i .i64 eb] = .agg 2 fun j => [SV.i .i64 ea, .i .i64 eb].getD j default := by kernel_rfl
  rw [e2] at o2 ⊢
  have hc := cutsC a cap z hz ra rc raw (fun r hr => wf_rg (hraw r hr)) hl ea eb
  have hc' : Contract Frm.nil Tryz.prog 3 [.sl a z.length cap 1 rd, .sl ra raw.length rc 17 rrd, .agg 2 fun j => [SV.i .i64 ea, .i .i64 eb].getD j default] (fun r => r = .b true) :=
    Contract.of_sim hc ⟨sim_sl hrd, sim_sl (res_rd (n := raw.length) raw hrr), sim_refl _, trivial⟩
  exact walk_of hc' (by
    intro s hs
    simp only [List.mem_cons, List.mem_singleton, List.not_mem_nil, or_false] at hs
    rcases hs with rfl | rfl | rfl <;> assumption)
theorem cuts_holds : Rows.EpisodeCutsSaid := episodeCuts.of_walk cuts_walk
#print axioms cuts_holds
end Go.Proofs.YtkpmihaaijiihaaGreat
