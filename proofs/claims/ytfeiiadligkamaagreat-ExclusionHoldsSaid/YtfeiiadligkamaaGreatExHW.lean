/- ExclusionHolds: what Pairs and Mates return holds, depends on the set of results alone, and is ascending. The law holds of every input. -/
import Derived.Test.YtfeiiadligkamaaGreatPk6
import Derived.Test.YtfeiiadligkamaaGreatWalkE
import Derived.Test.YtfeiiadligkamaaGreatShExclusionHolds
set_option linter.unusedSimpArgs false
set_option linter.unusedVariables false
namespace Go.Proofs.YtfeiiadligkamaaGreat
open Go.Sort Eng
theorem exc_0 (d : Array Exc) (i : Nat) : excRd d i 0 = .i .u32 d[i]!.a := rfl
theorem exc_1 (d : Array Exc) (i : Nat) : excRd d i 1 = .i .u32 d[i]!.b := rfl
theorem evx_1 (es : List Evd) (i : Nat) : evRd es i 1 = .i .u32 (es.getD i default).a := rfl
theorem evx_2 (es : List Evd) (i : Nat) : evRd es i 2 = .i .u32 (es.getD i default).b := rfl
theorem RltI.one {xs : List Res} {n0 n1 : Nat} (h : RltI xs n0 n1) : OneEach xs := fun r hr s hs e => by
 simp only [Res.idn, Idn.mk.injEq] at e
 exact h.own r hr s hs e.1 e.2.2
theorem RltI.bad {xs : List Res} {n0 n1 : Nat} (h : RltI xs n0 n1) : xs.any (fun x => !validR x) = false := by
 rw [List.any_eq_false]
 intro x hx
 rw [h.val x hx]
 decide
theorem mat_in {xs : List Res} {es : List Evd} (h : MatOf xs es) (hr : ∀ r ∈ xs, RgR r) : ∀ e ∈ es, EvIn e := fun e he => by
 obtain ⟨p, hp, a, ha, b, hb, _, c, hc, _, _, _, hE⟩ := (h.best.each e he).1
 obtain ⟨_, g1, g2, _⟩ := hE
 have k1 : IntKind.i64.wrap a.from_ = a.from_ := (hr a (hp.sub a ha).1).2
 have k2 : IntKind.i64.wrap c.from_ = c.from_ := (hr c hc).2
 refine ⟨?_, ?_, by have := h.len e he; omega⟩
 ·rw [g1]; rcases Int.le_total a.from_ c.from_ with h5 | h5
  ·rw [Int.min_eq_left h5]; exact k1
  ·rw [Int.min_eq_right h5]; exact k2
 ·rw [g2]; rcases Int.le_total a.from_ c.from_ with h5 | h5
  ·rw [Int.max_eq_right h5]; exact k2
  ·rw [Int.max_eq_left h5]; exact k1
theorem par_asc {p q : Par} (h : parLt p q = true) : p.a < q.a ∨ (p.a = q.a ∧ p.b < q.b) := by
 unfold parLt parCmpI cmpL Par.keys at h
 have h2 : orL [ordI p.a q.a, ordI p.b q.b] < 0 := of_decide_eq_true h
 unfold orL orL orL at h2
 rcases ordI_cases p.a q.a with ⟨k1, h3⟩ | ⟨k1, h3⟩ | ⟨k1, h3⟩ <;> rcases ordI_cases p.b q.b with ⟨k2, h4⟩ | ⟨k2, h4⟩ | ⟨k2, h4⟩ <;> simp [h3, h4] at h2 ⊢ <;> omega
set_option maxHeartbeats 2000000 in
set_option maxRecDepth 100000 in
theorem holdC (a : Option Addr) (cap : Nat) (z : List Int) (hz : ∀ n ∈ z, (Lit.int .u8 n).wf = true) : Contract Frm.nil Tryz.prog 4 [slB a cap z] (fun r => r = .b true) := by
 have hb : isBytes (slB a cap z) := ⟨a, z.length, cap, _, rfl, fun i hi => ⟨z.getD i 0, by have := bounds_u8 (hz _ (getD_mem (d := 0) hi)); omega, by have := bounds_u8 (hz _ (getD_mem (d := 0) hi)); omega, rfl⟩⟩
 refine contract_of Tryz.func4 rfl (by kernel_rfl) ?_
 simp only [Tryz.ntmps4, argEnv]
 (repeat refine Sat.seq ?_)
 (refine Sat.region_k fun k hk => ?_; simp -implicitDefEqProofs only [evr, id, reduceCtorEq, reduceIte, Nat.reduceMul, Nat.reduceAdd, Nat.reduceLT, Nat.reduceLeDiff, Nat.reduceEqDiff, Int.reduceLT, Int.reduceBEq, Int.reduceBNe, Nat.reduceBEq, exc_0, exc_1, evx_1, evx_2, ptr, ev_one, exc_one, res_one, par_one, idn_one, idn_0, idn_1, idn_2, Int.reduceToNat, resRow, res_ro, rExtract_tup, evn]; refine hk _ ?_; clear hk k; try show Sat _ _ _ _ _)
 (repeat refine Sat.seq ?_)
 (refine Sat.region_k fun k hk => ?_; simp -implicitDefEqProofs only [evr, id, reduceCtorEq, reduceIte, Nat.reduceMul, Nat.reduceAdd, Nat.reduceLT, Nat.reduceLeDiff, Nat.reduceEqDiff, Int.reduceLT, Int.reduceBEq, Int.reduceBNe, Nat.reduceBEq, exc_0, exc_1, evx_1, evx_2, ptr, ev_one, exc_one, res_one, par_one, idn_one, idn_0, idn_1, idn_2, Int.reduceToNat, resRow, res_ro, rExtract_tup, evn])
 refine wcall_plain (awakeC Frm.nil) rfl (by rintro _ rfl; exact ok_plain rfl) ?_
 rintro r rfl
 simp -implicitDefEqProofs only [evr, id, reduceCtorEq, reduceIte, Nat.reduceMul, Nat.reduceAdd, Nat.reduceLT, Nat.reduceLeDiff, Nat.reduceEqDiff, Int.reduceLT, Int.reduceBEq, Int.reduceBNe, Nat.reduceBEq, exc_0, exc_1, evx_1, evx_2, ptr, ev_one, exc_one, res_one, par_one, idn_one, idn_0, idn_1, idn_2, Int.reduceToNat, resRow, res_ro, rExtract_tup, evn]
 (refine hk _ ?_; clear hk k; try show Sat _ _ _ _ _)
 refine Sat.cond_b rfl (fun h => absurd h (by decide)) (fun _ => ?_)
 refine Sat.skip ?_
 simp only [thenK]
 refine Sat.seq ?_
 (refine Sat.region_k fun k hk => ?_; simp -implicitDefEqProofs only [evr, id, reduceCtorEq, reduceIte, Nat.reduceMul, Nat.reduceAdd, Nat.reduceLT, Nat.reduceLeDiff, Nat.reduceEqDiff, Int.reduceLT, Int.reduceBEq, Int.reduceBNe, Nat.reduceBEq, exc_0, exc_1, evx_1, evx_2, ptr, ev_one, exc_one, res_one, par_one, idn_one, idn_0, idn_1, idn_2, Int.reduceToNat, resRow, res_ro, rExtract_tup, evn])
 refine wcall_make (rollC (slB a cap z) hb) ?_
 intro cb
 simp -implicitDefEqProofs only [evr, id, reduceCtorEq, reduceIte, Nat.reduceMul, Nat.reduceAdd, Nat.reduceLT, Nat.reduceLeDiff, Nat.reduceEqDiff, Int.reduceLT, Int.reduceBEq, Int.reduceBNe, Nat.reduceBEq, exc_0, exc_1, evx_1, evx_2, ptr, ev_one, exc_one, res_one, par_one, idn_one, idn_0, idn_1, idn_2, Int.reduceToNat, resRow, res_ro, rExtract_tup, evn]
 (refine hk _ ?_; clear hk k; try show Sat _ _ _ _ _)
 refine Sat.switch (cb := cb) (id := 0) (F' := Frm.codes cb) (fun b => Iff.rfl) (fun _ h => h) rfl ?_
 (repeat refine Sat.seq ?_)
 (refine Sat.region_k fun k hk => ?_; simp -implicitDefEqProofs only [evr, id, reduceCtorEq, reduceIte, Nat.reduceMul, Nat.reduceAdd, Nat.reduceLT, Nat.reduceLeDiff, Nat.reduceEqDiff, Int.reduceLT, Int.reduceBEq, Int.reduceBNe, Nat.reduceBEq, exc_0, exc_1, evx_1, evx_2, ptr, ev_one, exc_one, res_one, par_one, idn_one, idn_0, idn_1, idn_2, Int.reduceToNat, resRow, res_ro, rExtract_tup, evn])
 refine wcall_plain (boolC cb 3 (by decide) (by decide)) rfl (by rintro _ ⟨b, rfl⟩; exact ok_plain rfl) ?_
 rintro _ ⟨b0, rfl⟩
 simp -implicitDefEqProofs only [evr, id, reduceCtorEq, reduceIte, Nat.reduceMul, Nat.reduceAdd, Nat.reduceLT, Nat.reduceLeDiff, Nat.reduceEqDiff, Int.reduceLT, Int.reduceBEq, Int.reduceBNe, Nat.reduceBEq, exc_0, exc_1, evx_1, evx_2, ptr, ev_one, exc_one, res_one, par_one, idn_one, idn_0, idn_1, idn_2, Int.reduceToNat, resRow, res_ro, rExtract_tup, evn]
 refine wcall_new (resultsC (!b0) cb 24 (by omega)) rfl (by simp -implicitDefEqProofs only [evr, id, reduceCtorEq, reduceIte, Nat.reduceMul, Nat.reduceAdd, Nat.reduceLT, Nat.reduceLeDiff, Nat.reduceEqDiff, Int.reduceLT, Int.reduceBEq, Int.reduceBNe, Nat.reduceBEq, exc_0, exc_1, evx_1, evx_2, ptr, ev_one, exc_one, res_one, par_one, idn_one, idn_0, idn_1, idn_2, Int.reduceToNat, resRow, res_ro, rExtract_tup, evn]; try rfl) ?_
 rintro xa ty len xc sz rrd ⟨a1, c1, xs, n0, n1, hI, hxl, e⟩
 simp only [resRow, Own.row.injEq] at e
 obtain ⟨rfl, rfl, rfl, rfl, rfl, rfl⟩ := e
 simp -implicitDefEqProofs only [evr, id, reduceCtorEq, reduceIte, Nat.reduceMul, Nat.reduceAdd, Nat.reduceLT, Nat.reduceLeDiff, Nat.reduceEqDiff, Int.reduceLT, Int.reduceBEq, Int.reduceBNe, Nat.reduceBEq, exc_0, exc_1, evx_1, evx_2, ptr, ev_one, exc_one, res_one, par_one, idn_one, idn_0, idn_1, idn_2, Int.reduceToNat, resRow, res_ro, rExtract_tup, evn]
 (refine hk _ ?_; clear hk k; try show Sat _ _ _ _ _)
 refine Sat.settleLastRow [] 4 rfl ?_
 (repeat refine Sat.seq ?_)
 (refine Sat.region_k fun k hk => ?_; simp -implicitDefEqProofs only [evr, id, reduceCtorEq, reduceIte, Nat.reduceMul, Nat.reduceAdd, Nat.reduceLT, Nat.reduceLeDiff, Nat.reduceEqDiff, Int.reduceLT, Int.reduceBEq, Int.reduceBNe, Nat.reduceBEq, exc_0, exc_1, evx_1, evx_2, ptr, ev_one, exc_one, res_one, par_one, idn_one, idn_0, idn_1, idn_2, Int.reduceToNat, resRow, res_ro, rExtract_tup, evn])
 refine wcall_new (shuffledC cb xa xc xs (by omega)) rfl (by simp -implicitDefEqProofs only [evr, id, reduceCtorEq, reduceIte, Nat.reduceMul, Nat.reduceAdd, Nat.reduceLT, Nat.reduceLeDiff, Nat.reduceEqDiff, Int.reduceLT, Int.reduceBEq, Int.reduceBNe, Nat.reduceBEq, exc_0, exc_1, evx_1, evx_2, ptr, ev_one, exc_one, res_one, par_one, idn_one, idn_0, idn_1, idn_2, Int.reduceToNat, resRow, res_ro, rExtract_tup, evn]; try rfl) ?_
 rintro ya ty len yc sz rrd ⟨a1, c1, ys, hys, hyl, e⟩
 simp only [resRow, Own.row.injEq] at e
 obtain ⟨rfl, rfl, rfl, rfl, rfl, rfl⟩ := e
 simp -implicitDefEqProofs only [evr, id, reduceCtorEq, reduceIte, Nat.reduceMul, Nat.reduceAdd, Nat.reduceLT, Nat.reduceLeDiff, Nat.reduceEqDiff, Int.reduceLT, Int.reduceBEq, Int.reduceBNe, Nat.reduceBEq, exc_0, exc_1, evx_1, evx_2, ptr, ev_one, exc_one, res_one, par_one, idn_one, idn_0, idn_1, idn_2, Int.reduceToNat, resRow, res_ro, rExtract_tup, evn]
 (refine hk _ ?_; clear hk k; try show Sat _ _ _ _ _)
 refine Sat.settleLastRow [] 5 rfl ?_
 have hbad := hI.bad
 have hrg := hI.inr
 have hrg2 : ∀ r ∈ ys, RgR r := fun r hr => hrg r ((hys r).1 hr)
 have hbad2 : ys.any (fun x => !validR x) = false := by
  rw [List.any_eq_false]
  intro x hx
  rw [hI.val x ((hys x).1 hx)]
  decide
 have hu := hI.one
 (repeat refine Sat.seq ?_)
 (refine Sat.region_k fun k hk => ?_; simp -implicitDefEqProofs only [evr, id, reduceCtorEq, reduceIte, Nat.reduceMul, Nat.reduceAdd, Nat.reduceLT, Nat.reduceLeDiff, Nat.reduceEqDiff, Int.reduceLT, Int.reduceBEq, Int.reduceBNe, Nat.reduceBEq, exc_0, exc_1, evx_1, evx_2, ptr, ev_one, exc_one, res_one, par_one, idn_one, idn_0, idn_1, idn_2, Int.reduceToNat, resRow, res_ro, rExtract_tup, evn])
 refine wcall_slice (exPairsC (Frm.codes cb) xa xc xs (by omega) hrg) rfl rfl ?_
 rintro r (⟨h9, _⟩ | ⟨_, a2, c2, es, hes, hel, rfl⟩)
 ·rw [hbad] at h9; cases h9
 simp -implicitDefEqProofs only [evr, id, reduceCtorEq, reduceIte, Nat.reduceMul, Nat.reduceAdd, Nat.reduceLT, Nat.reduceLeDiff, Nat.reduceEqDiff, Int.reduceLT, Int.reduceBEq, Int.reduceBNe, Nat.reduceBEq, exc_0, exc_1, evx_1, evx_2, ptr, ev_one, exc_one, res_one, par_one, idn_one, idn_0, idn_1, idn_2, Int.reduceToNat, resRow, res_ro, rExtract_tup, evn]
 (refine hk _ ?_; clear hk k; try show Sat _ _ _ _ _)
 (repeat refine Sat.seq ?_)
 (refine Sat.region_k fun k hk => ?_; simp -implicitDefEqProofs only [evr, id, reduceCtorEq, reduceIte, Nat.reduceMul, Nat.reduceAdd, Nat.reduceLT, Nat.reduceLeDiff, Nat.reduceEqDiff, Int.reduceLT, Int.reduceBEq, Int.reduceBNe, Nat.reduceBEq, exc_0, exc_1, evx_1, evx_2, ptr, ev_one, exc_one, res_one, par_one, idn_one, idn_0, idn_1, idn_2, Int.reduceToNat, resRow, res_ro, rExtract_tup, evn])
 refine wcall_slice (exPairsC (Frm.codes cb) ya yc ys (by omega) hrg2) rfl rfl ?_
 rintro r (⟨h9, _⟩ | ⟨_, a3, c3, fs, hfs, hfl, rfl⟩)
 ·rw [hbad2] at h9; cases h9
 obtain rfl : es = fs := hes.unique hfs (excC_congr hys)
 simp -implicitDefEqProofs only [evr, id, reduceCtorEq, reduceIte, Nat.reduceMul, Nat.reduceAdd, Nat.reduceLT, Nat.reduceLeDiff, Nat.reduceEqDiff, Int.reduceLT, Int.reduceBEq, Int.reduceBNe, Nat.reduceBEq, exc_0, exc_1, evx_1, evx_2, ptr, ev_one, exc_one, res_one, par_one, idn_one, idn_0, idn_1, idn_2, Int.reduceToNat, resRow, res_ro, rExtract_tup, evn]
 (refine hk _ ?_; clear hk k; try show Sat _ _ _ _ _)
 (repeat refine Sat.seq ?_)
 (refine Sat.region_k fun k hk => ?_; simp -implicitDefEqProofs only [evr, id, reduceCtorEq, reduceIte, Nat.reduceMul, Nat.reduceAdd, Nat.reduceLT, Nat.reduceLeDiff, Nat.reduceEqDiff, Int.reduceLT, Int.reduceBEq, Int.reduceBNe, Nat.reduceBEq, exc_0, exc_1, evx_1, evx_2, ptr, ev_one, exc_one, res_one, par_one, idn_one, idn_0, idn_1, idn_2, Int.reduceToNat, resRow, res_ro, rExtract_tup, evn])
 refine wcall_slice (exMatesC (Frm.codes cb) xa xc xs (by omega) hrg) rfl rfl ?_
 rintro r (⟨h9, _⟩ | ⟨_, a4, c4, us, hus, hul, rfl⟩)
 ·rw [hbad] at h9; cases h9
 simp -implicitDefEqProofs only [evr, id, reduceCtorEq, reduceIte, Nat.reduceMul, Nat.reduceAdd, Nat.reduceLT, Nat.reduceLeDiff, Nat.reduceEqDiff, Int.reduceLT, Int.reduceBEq, Int.reduceBNe, Nat.reduceBEq, exc_0, exc_1, evx_1, evx_2, ptr, ev_one, exc_one, res_one, par_one, idn_one, idn_0, idn_1, idn_2, Int.reduceToNat, resRow, res_ro, rExtract_tup, evn]
 (refine hk _ ?_; clear hk k; try show Sat _ _ _ _ _)
 (repeat refine Sat.seq ?_)
 (refine Sat.region_k fun k hk => ?_; simp -implicitDefEqProofs only [evr, id, reduceCtorEq, reduceIte, Nat.reduceMul, Nat.reduceAdd, Nat.reduceLT, Nat.reduceLeDiff, Nat.reduceEqDiff, Int.reduceLT, Int.reduceBEq, Int.reduceBNe, Nat.reduceBEq, exc_0, exc_1, evx_1, evx_2, ptr, ev_one, exc_one, res_one, par_one, idn_one, idn_0, idn_1, idn_2, Int.reduceToNat, resRow, res_ro, rExtract_tup, evn])
 refine wcall_slice (exMatesC (Frm.codes cb) ya yc ys (by omega) hrg2) rfl rfl ?_
 rintro r (⟨h9, _⟩ | ⟨_, a5, c5, vs, hvs, hvl, rfl⟩)
 ·rw [hbad2] at h9; cases h9
 simp -implicitDefEqProofs only [evr, id, reduceCtorEq, reduceIte, Nat.reduceMul, Nat.reduceAdd, Nat.reduceLT, Nat.reduceLeDiff, Nat.reduceEqDiff, Int.reduceLT, Int.reduceBEq, Int.reduceBNe, Nat.reduceBEq, exc_0, exc_1, evx_1, evx_2, ptr, ev_one, exc_one, res_one, par_one, idn_one, idn_0, idn_1, idn_2, Int.reduceToNat, resRow, res_ro, rExtract_tup, evn]
 (refine hk _ ?_; clear hk k; try show Sat _ _ _ _ _)
 have hsame : decide (us.map Evd.say = vs.map Evd.say) = true := decide_eq_true (hus.same hvs hys)
 (repeat refine Sat.seq ?_)
 (refine Sat.region_k fun k hk => ?_; simp -implicitDefEqProofs only [evr, id, reduceCtorEq, reduceIte, Nat.reduceMul, Nat.reduceAdd, Nat.reduceLT, Nat.reduceLeDiff, Nat.reduceEqDiff, Int.reduceLT, Int.reduceBEq, Int.reduceBNe, Nat.reduceBEq, exc_0, exc_1, evx_1, evx_2, ptr, ev_one, exc_one, res_one, par_one, idn_one, idn_0, idn_1, idn_2, Int.reduceToNat, resRow, res_ro, rExtract_tup, evn])
 refine wcall_plain (sameExC (Frm.codes cb) a2 a3 c2 c3 es es (by omega)) rfl (by rintro _ rfl; exact ok_plain rfl) ?_
 rintro _ rfl
 rw [decide_eq_true rfl]
 simp -implicitDefEqProofs only [evr, id, reduceCtorEq, reduceIte, Nat.reduceMul, Nat.reduceAdd, Nat.reduceLT, Nat.reduceLeDiff, Nat.reduceEqDiff, Int.reduceLT, Int.reduceBEq, Int.reduceBNe, Nat.reduceBEq, exc_0, exc_1, evx_1, evx_2, ptr, ev_one, exc_one, res_one, par_one, idn_one, idn_0, idn_1, idn_2, Int.reduceToNat, resRow, res_ro, rExtract_tup, evn]
 refine wcall_plain (sameEvC (Frm.codes cb) a4 a5 c4 c5 us vs (by omega) (mat_in hus hrg) (mat_in hvs hrg2)) rfl (by rintro _ rfl; exact ok_plain rfl) ?_
 rintro _ rfl
 rw [hsame]
 simp -implicitDefEqProofs only [evr, id, reduceCtorEq, reduceIte, Nat.reduceMul, Nat.reduceAdd, Nat.reduceLT, Nat.reduceLeDiff, Nat.reduceEqDiff, Int.reduceLT, Int.reduceBEq, Int.reduceBNe, Nat.reduceBEq, exc_0, exc_1, evx_1, evx_2, ptr, ev_one, exc_one, res_one, par_one, idn_one, idn_0, idn_1, idn_2, Int.reduceToNat, resRow, res_ro, rExtract_tup, evn]
 (refine hk _ ?_; clear hk k; try show Sat _ _ _ _ _)
 (repeat refine Sat.seq ?_)
 refine Sat.cond_b rfl (fun h => absurd h (by decide)) (fun _ => ?_)
 refine Sat.skip ?_
 simp only [thenK]
 (repeat refine Sat.seq ?_)
 (refine Sat.region_k fun k hk => ?_; simp -implicitDefEqProofs only [evr, id, reduceCtorEq, reduceIte, Nat.reduceMul, Nat.reduceAdd, Nat.reduceLT, Nat.reduceLeDiff, Nat.reduceEqDiff, Int.reduceLT, Int.reduceBEq, Int.reduceBNe, Nat.reduceBEq, exc_0, exc_1, evx_1, evx_2, ptr, ev_one, exc_one, res_one, par_one, idn_one, idn_0, idn_1, idn_2, Int.reduceToNat, resRow, res_ro, rExtract_tup, evn]; refine hk _ ?_; clear hk k; try show Sat _ _ _ _ _)
 (repeat refine Sat.seq ?_)
 refine Sat.block ?_
 refine Sat.loop (ι := Nat) (fun i => ⟨200, [(76, .i .i64 i), (75, .i .i64 es.length), (6, .sl a2 es.length c2 8 (excRd es.toArray)), (4, .sl xa xs.length xc 17 (resRd xs.toArray)), (10, .sl a4 us.length c4 4 (evRd us))], []⟩)
  (fun i => i ≤ es.length) (fun i => es.length - i) 0 (Nat.zero_le _) (by simp -implicitDefEqProofs only [evr, id, reduceCtorEq, reduceIte, Nat.reduceMul, Nat.reduceAdd, Nat.reduceLT, Nat.reduceLeDiff, Nat.reduceEqDiff, Int.reduceLT, Int.reduceBEq, Int.reduceBNe, Nat.reduceBEq, exc_0, exc_1, evx_1, evx_2, ptr, ev_one, exc_one, res_one, par_one, idn_one, idn_0, idn_1, idn_2, Int.reduceToNat, resRow, res_ro, rExtract_tup, evl, evn]; first | done | rfl | exact ⟨rfl, rfl⟩ | trace_state) ?_
 rintro i hi
 (repeat refine Sat.seq ?_)
 (refine Sat.region_k fun k hk => ?_; simp -implicitDefEqProofs only [evr, id, reduceCtorEq, reduceIte, Nat.reduceMul, Nat.reduceAdd, Nat.reduceLT, Nat.reduceLeDiff, Nat.reduceEqDiff, Int.reduceLT, Int.reduceBEq, Int.reduceBNe, Nat.reduceBEq, exc_0, exc_1, evx_1, evx_2, ptr, ev_one, exc_one, res_one, par_one, idn_one, idn_0, idn_1, idn_2, Int.reduceToNat, resRow, res_ro, rExtract_tup, evn]; refine hk _ ?_; clear hk k; try show Sat _ _ _ _ _)
 (repeat refine Sat.seq ?_)
 refine Sat.cond_b rfl (fun h => ?_) (fun h => ?_)
 ·have h1 : i < es.length := by simp only [decide_eq_true_eq] at h; omega
  have e2 : IntKind.i64.wrap ((i : Int) + 1) = ((i + 1 : Nat) : Int) := by rw [w64 (by omega)]; omega
  have hg1 : es.toArray[i]! = es[i] := by simp [getElem!_def, h1]
  have hc1 : Contract Frm.nil Tryz.prog 21 [.sl xa xs.length xc 17 (resRd xs.toArray), .agg 8 fun j => excRd es.toArray i j] (fun r => r = .b true) := by
   have h9 := exHoldsC Frm.nil xa xc xs es[i] (by omega)
   rw [exc_holds hu (hes.each _ (List.getElem_mem h1)).1] at h9
   refine Contract.of_sim h9 ⟨sim_refl _, ?_, trivial⟩
   unfold excRd excAg
   rw [hg1]
   exact sim_refl _
  refine Sat.skip ?_
  simp only [thenK]
  (repeat refine Sat.seq ?_)
  refine Sat.block ?_
  (repeat refine Sat.seq ?_)
  (refine Sat.region_k fun k hk => ?_; simp -implicitDefEqProofs only [evr, id, reduceCtorEq, reduceIte, Nat.reduceMul, Nat.reduceAdd, Nat.reduceLT, Nat.reduceLeDiff, Nat.reduceEqDiff, Int.reduceLT, Int.reduceBEq, Int.reduceBNe, Nat.reduceBEq, exc_0, exc_1, evx_1, evx_2, ptr, ev_one, exc_one, res_one, par_one, idn_one, idn_0, idn_1, idn_2, Int.reduceToNat, resRow, res_ro, rExtract_tup, evn]; refine hk _ ?_; clear hk k; try show Sat _ _ _ _ _)
  (repeat refine Sat.seq ?_)
  refine Sat.at ⟨200, [(131, .b false), (76, .i .i64 i), (75, .i .i64 es.length), (6, .sl a2 es.length c2 8 (excRd es.toArray)), (4, .sl xa xs.length xc 17 (resRd xs.toArray)), (10, .sl a4 us.length c4 4 (evRd us))], []⟩ ?_ ?_
  ·(refine Sat.region_qk (by kernel_rfl) (by kernel_rfl) fun k hk => ?_; simp -implicitDefEqProofs only [evr, id, reduceCtorEq, reduceIte, Nat.reduceMul, Nat.reduceAdd, Nat.reduceLT, Nat.reduceLeDiff, Nat.reduceEqDiff, Int.reduceLT, Int.reduceBEq, Int.reduceBNe, Nat.reduceBEq, exc_0, exc_1, evx_1, evx_2, ptr, ev_one, exc_one, res_one, par_one, idn_one, idn_0, idn_1, idn_2, Int.reduceToNat, resRow, res_ro, rExtract_tup, evn])
   refine ⟨by omega, ?_⟩
   refine qcall hc1 rfl (ok_plain rfl) ?_
   simp -implicitDefEqProofs only [evr, id, reduceCtorEq, reduceIte, Nat.reduceMul, Nat.reduceAdd, Nat.reduceLT, Nat.reduceLeDiff, Nat.reduceEqDiff, Int.reduceLT, Int.reduceBEq, Int.reduceBNe, Nat.reduceBEq, exc_0, exc_1, evx_1, evx_2, ptr, ev_one, exc_one, res_one, par_one, idn_one, idn_0, idn_1, idn_2, Int.reduceToNat, resRow, res_ro, rExtract_tup, evn]
   refine ⟨fun g1 => ?_, fun g1 => ?_⟩
   ·have e9 : IntKind.i64.wrap ((i : Int) - 1) = ((i - 1 : Nat) : Int) := by rw [w64 (by omega)]; omega
    have hi1 : i - 1 < es.length := by omega
    have hasc : es[i - 1].a < es[i].a ∨ (es[i - 1].a = es[i].a ∧ es[i - 1].b < es[i].b) := par_asc (List.pairwise_iff_getElem.1 hes.asc (i - 1) i hi1 h1 (by omega))
    have f1 : es.toArray[i - 1]! = es[i - 1] := by simp [getElem!_def, show i - 1 < es.length by omega]
    have f2 : es.toArray[i]! = es[i] := hg1
    simp only [e9, Int.toNat_natCast]
    refine ⟨⟨by omega, by omega⟩, by omega, fun g2 => ?_, fun g2 => ⟨⟨by omega, by omega⟩, by omega, fun g3 => ⟨⟨by omega, by omega⟩, by omega, hk _ ?_⟩, fun g3 => hk _ ?_⟩⟩
    ·exfalso
     rcases hasc with h9 | ⟨h9, _⟩ <;> rw [f1, f2] at g2 <;> omega
    ·have hd : decide (es.toArray[i]!.b ≤ es.toArray[i - 1]!.b) = false := by
      refine decide_eq_false fun h9 => ?_
      rw [beq_iff_eq, f1, f2] at g3
      rw [f1, f2] at h9
      rcases hasc with h8 | ⟨_, h8⟩ <;> omega
     simp only [thenK, hd]
     simp -implicitDefEqProofs only [evr, id, reduceCtorEq, reduceIte, Nat.reduceMul, Nat.reduceAdd, Nat.reduceLT, Nat.reduceLeDiff, Nat.reduceEqDiff, Int.reduceLT, Int.reduceBEq, Int.reduceBNe, Nat.reduceBEq, exc_0, exc_1, evx_1, evx_2, ptr, ev_one, exc_one, res_one, par_one, idn_one, idn_0, idn_1, idn_2, Int.reduceToNat, resRow, res_ro, rExtract_tup, evl, evn]
    ·simp only [thenK]
     simp -implicitDefEqProofs only [evr, id, reduceCtorEq, reduceIte, Nat.reduceMul, Nat.reduceAdd, Nat.reduceLT, Nat.reduceLeDiff, Nat.reduceEqDiff, Int.reduceLT, Int.reduceBEq, Int.reduceBNe, Nat.reduceBEq, exc_0, exc_1, evx_1, evx_2, ptr, ev_one, exc_one, res_one, par_one, idn_one, idn_0, idn_1, idn_2, Int.reduceToNat, resRow, res_ro, rExtract_tup, evl, evn]
   ·refine hk _ ?_
    simp only [thenK]
    simp -implicitDefEqProofs only [evr, id, reduceCtorEq, reduceIte, Nat.reduceMul, Nat.reduceAdd, Nat.reduceLT, Nat.reduceLeDiff, Nat.reduceEqDiff, Int.reduceLT, Int.reduceBEq, Int.reduceBNe, Nat.reduceBEq, exc_0, exc_1, evx_1, evx_2, ptr, ev_one, exc_one, res_one, par_one, idn_one, idn_0, idn_1, idn_2, Int.reduceToNat, resRow, res_ro, rExtract_tup, evl, evn]
  simp only [thenK]
  (repeat refine Sat.seq ?_)
  refine Sat.cond_b rfl (fun h => absurd h (by decide)) (fun _ => ?_)
  refine Sat.skip ?_
  simp only [thenK, blockK, reduceIte]
  refine Sat.region_k fun k hk => ?_
  simp -implicitDefEqProofs only [evr, id, reduceCtorEq, reduceIte, Nat.reduceMul, Nat.reduceAdd, Nat.reduceLT, Nat.reduceLeDiff, Nat.reduceEqDiff, Int.reduceLT, Int.reduceBEq, Int.reduceBNe, Nat.reduceBEq, exc_0, exc_1, evx_1, evx_2, ptr, ev_one, exc_one, res_one, par_one, idn_one, idn_0, idn_1, idn_2, Int.reduceToNat, resRow, res_ro, rExtract_tup, e2, evn]
  refine hk _ ?_
  simp only [thenK, blockK]
  refine ⟨i + 1, h1, by omega, ?_⟩
  simp -implicitDefEqProofs only [evr, id, reduceCtorEq, reduceIte, Nat.reduceMul, Nat.reduceAdd, Nat.reduceLT, Nat.reduceLeDiff, Nat.reduceEqDiff, Int.reduceLT, Int.reduceBEq, Int.reduceBNe, Nat.reduceBEq, exc_0, exc_1, evx_1, evx_2, ptr, ev_one, exc_one, res_one, par_one, idn_one, idn_0, idn_1, idn_2, Int.reduceToNat, resRow, res_ro, rExtract_tup, evl, evn]
 have h1 : i = es.length := by simp only [decide_eq_false_iff_not] at h; omega
 subst h1
 refine Sat.exit ?_
 simp only [thenK, blockK, reduceIte]
 (repeat refine Sat.seq ?_)
 (refine Sat.region_k fun k hk => ?_; simp -implicitDefEqProofs only [evr, id, reduceCtorEq, reduceIte, Nat.reduceMul, Nat.reduceAdd, Nat.reduceLT, Nat.reduceLeDiff, Nat.reduceEqDiff, Int.reduceLT, Int.reduceBEq, Int.reduceBNe, Nat.reduceBEq, exc_0, exc_1, evx_1, evx_2, ptr, ev_one, exc_one, res_one, par_one, idn_one, idn_0, idn_1, idn_2, Int.reduceToNat, resRow, res_ro, rExtract_tup, evn]; refine hk _ ?_; clear hk k; try show Sat _ _ _ _ _)
 (repeat refine Sat.seq ?_)
 refine Sat.block ?_
 refine Sat.loop (ι := Nat) (fun i => ⟨200, [(135, .i .i64 i), (134, .i .i64 us.length), (4, .sl xa xs.length xc 17 (resRd xs.toArray)), (10, .sl a4 us.length c4 4 (evRd us))], []⟩)
  (fun i => i ≤ us.length) (fun i => us.length - i) 0 (Nat.zero_le _) (by simp -implicitDefEqProofs only [evr, id, reduceCtorEq, reduceIte, Nat.reduceMul, Nat.reduceAdd, Nat.reduceLT, Nat.reduceLeDiff, Nat.reduceEqDiff, Int.reduceLT, Int.reduceBEq, Int.reduceBNe, Nat.reduceBEq, exc_0, exc_1, evx_1, evx_2, ptr, ev_one, exc_one, res_one, par_one, idn_one, idn_0, idn_1, idn_2, Int.reduceToNat, resRow, res_ro, rExtract_tup, evl, evn]; first | done | rfl | exact ⟨rfl, rfl⟩ | trace_state) ?_
 clear hi
 rintro i hi
 (repeat refine Sat.seq ?_)
 (refine Sat.region_k fun k hk => ?_; simp -implicitDefEqProofs only [evr, id, reduceCtorEq, reduceIte, Nat.reduceMul, Nat.reduceAdd, Nat.reduceLT, Nat.reduceLeDiff, Nat.reduceEqDiff, Int.reduceLT, Int.reduceBEq, Int.reduceBNe, Nat.reduceBEq, exc_0, exc_1, evx_1, evx_2, ptr, ev_one, exc_one, res_one, par_one, idn_one, idn_0, idn_1, idn_2, Int.reduceToNat, resRow, res_ro, rExtract_tup, evn]; refine hk _ ?_; clear hk k; try show Sat _ _ _ _ _)
 (repeat refine Sat.seq ?_)
 refine Sat.cond_b rfl (fun h => ?_) (fun h => ?_)
 ·have h1 : i < us.length := by simp only [decide_eq_true_eq] at h; omega
  have e2 : IntKind.i64.wrap ((i : Int) + 1) = ((i + 1 : Nat) : Int) := by rw [w64 (by omega)]; omega
  have hg1 : us.getD i default = us[i] := by rw [List.getD_eq_getElem?_getD, List.getElem?_eq_getElem h1]; rfl
  have hle := hus.len _ (List.getElem_mem h1)
  have hmc := (hus.best.each _ (List.getElem_mem h1)).1
  have hrd : (SV.agg 4 fun j => evRd us i j) = evAg us[i] := by unfold evRd evAg; rw [hg1]
  have hc1 : Contract Frm.nil Tryz.prog 28 [.sl xa xs.length xc 17 (resRd xs.toArray), .agg 4 fun j => evRd us i j] (fun r => r = .b true) := by
   have h9 := holdsMateC Frm.nil xa xc xs us[i] (by omega) (by omega)
   rw [mat_holds hu hmc] at h9
   rw [hrd]
   exact h9
  have hc2 : Contract Frm.nil Tryz.prog 33 [.agg 4 fun j => evRd us i j] (fun r => r = .b true) := by
   have h9 := refValidEvC Frm.nil us[i] (by omega)
   rw [mat_valid hmc] at h9
   rw [hrd]
   exact h9
  refine Sat.skip ?_
  simp only [thenK]
  (repeat refine Sat.seq ?_)
  refine Sat.block ?_
  (repeat refine Sat.seq ?_)
  (refine Sat.region_k fun k hk => ?_; simp -implicitDefEqProofs only [evr, id, reduceCtorEq, reduceIte, Nat.reduceMul, Nat.reduceAdd, Nat.reduceLT, Nat.reduceLeDiff, Nat.reduceEqDiff, Int.reduceLT, Int.reduceBEq, Int.reduceBNe, Nat.reduceBEq, exc_0, exc_1, evx_1, evx_2, ptr, ev_one, exc_one, res_one, par_one, idn_one, idn_0, idn_1, idn_2, Int.reduceToNat, resRow, res_ro, rExtract_tup, evn]; refine hk _ ?_; clear hk k; try show Sat _ _ _ _ _)
  (repeat refine Sat.seq ?_)
  refine Sat.at ⟨200, [(198, .b false), (135, .i .i64 i), (134, .i .i64 us.length), (4, .sl xa xs.length xc 17 (resRd xs.toArray)), (10, .sl a4 us.length c4 4 (evRd us))], []⟩ ?_ ?_
  ·(refine Sat.region_qk (by kernel_rfl) (by kernel_rfl) fun k hk => ?_; simp -implicitDefEqProofs only [evr, id, reduceCtorEq, reduceIte, Nat.reduceMul, Nat.reduceAdd, Nat.reduceLT, Nat.reduceLeDiff, Nat.reduceEqDiff, Int.reduceLT, Int.reduceBEq, Int.reduceBNe, Nat.reduceBEq, exc_0, exc_1, evx_1, evx_2, ptr, ev_one, exc_one, res_one, par_one, idn_one, idn_0, idn_1, idn_2, Int.reduceToNat, resRow, res_ro, rExtract_tup, evn])
   refine ⟨by omega, ?_⟩
   refine qcall hc1 rfl (ok_plain rfl) ?_
   simp -implicitDefEqProofs only [evr, id, reduceCtorEq, reduceIte, Nat.reduceMul, Nat.reduceAdd, Nat.reduceLT, Nat.reduceLeDiff, Nat.reduceEqDiff, Int.reduceLT, Int.reduceBEq, Int.reduceBNe, Nat.reduceBEq, exc_0, exc_1, evx_1, evx_2, ptr, ev_one, exc_one, res_one, par_one, idn_one, idn_0, idn_1, idn_2, Int.reduceToNat, resRow, res_ro, rExtract_tup, evn]
   refine ⟨by omega, ?_⟩
   refine qcall hc2 rfl (ok_plain rfl) ?_
   simp -implicitDefEqProofs only [evr, id, reduceCtorEq, reduceIte, Nat.reduceMul, Nat.reduceAdd, Nat.reduceLT, Nat.reduceLeDiff, Nat.reduceEqDiff, Int.reduceLT, Int.reduceBEq, Int.reduceBNe, Nat.reduceBEq, exc_0, exc_1, evx_1, evx_2, ptr, ev_one, exc_one, res_one, par_one, idn_one, idn_0, idn_1, idn_2, Int.reduceToNat, resRow, res_ro, rExtract_tup, evn]
   refine ⟨fun g1 => ?_, fun g1 => ?_⟩
   ·have e9 : IntKind.i64.wrap ((i : Int) - 1) = ((i - 1 : Nat) : Int) := by rw [w64 (by omega)]; omega
    have hi1 : i - 1 < us.length := by omega
    have hasc : us[i - 1].a < us[i].a ∨ (us[i - 1].a = us[i].a ∧ us[i - 1].b < us[i].b) := par_asc (List.pairwise_iff_getElem.1 hus.best.asc (i - 1) i hi1 h1 (by omega))
    have f1 : us.getD (i - 1) default = us[i - 1] := by rw [List.getD_eq_getElem?_getD, List.getElem?_eq_getElem (show i - 1 < us.length by omega)]; rfl
    have f2 : us.getD i default = us[i] := hg1
    simp only [e9, Int.toNat_natCast]
    refine ⟨⟨by omega, by omega⟩, by omega, fun g2 => ?_, fun g2 => ⟨⟨by omega, by omega⟩, by omega, fun g3 => ⟨⟨by omega, by omega⟩, by omega, hk _ ?_⟩, fun g3 => hk _ ?_⟩⟩
    ·exfalso
     rcases hasc with h9 | ⟨h9, _⟩ <;> rw [f1, f2] at g2 <;> omega
    ·have hd : decide ((us.getD i default).b ≤ (us.getD (i - 1) default).b) = false := by
      refine decide_eq_false fun h9 => ?_
      rw [beq_iff_eq, f1, f2] at g3
      rw [f1, f2] at h9
      rcases hasc with h8 | ⟨_, h8⟩ <;> omega
     simp only [thenK, hd]
     simp -implicitDefEqProofs only [evr, id, reduceCtorEq, reduceIte, Nat.reduceMul, Nat.reduceAdd, Nat.reduceLT, Nat.reduceLeDiff, Nat.reduceEqDiff, Int.reduceLT, Int.reduceBEq, Int.reduceBNe, Nat.reduceBEq, exc_0, exc_1, evx_1, evx_2, ptr, ev_one, exc_one, res_one, par_one, idn_one, idn_0, idn_1, idn_2, Int.reduceToNat, resRow, res_ro, rExtract_tup, evl, evn]
    ·simp only [thenK]
     simp -implicitDefEqProofs only [evr, id, reduceCtorEq, reduceIte, Nat.reduceMul, Nat.reduceAdd, Nat.reduceLT, Nat.reduceLeDiff, Nat.reduceEqDiff, Int.reduceLT, Int.reduceBEq, Int.reduceBNe, Nat.reduceBEq, exc_0, exc_1, evx_1, evx_2, ptr, ev_one, exc_one, res_one, par_one, idn_one, idn_0, idn_1, idn_2, Int.reduceToNat, resRow, res_ro, rExtract_tup, evl, evn]
   ·refine hk _ ?_
    simp only [thenK]
    simp -implicitDefEqProofs only [evr, id, reduceCtorEq, reduceIte, Nat.reduceMul, Nat.reduceAdd, Nat.reduceLT, Nat.reduceLeDiff, Nat.reduceEqDiff, Int.reduceLT, Int.reduceBEq, Int.reduceBNe, Nat.reduceBEq, exc_0, exc_1, evx_1, evx_2, ptr, ev_one, exc_one, res_one, par_one, idn_one, idn_0, idn_1, idn_2, Int.reduceToNat, resRow, res_ro, rExtract_tup, evl, evn]
  simp only [thenK]
  (repeat refine Sat.seq ?_)
  refine Sat.cond_b rfl (fun h => absurd h (by decide)) (fun _ => ?_)
  refine Sat.skip ?_
  simp only [thenK, blockK, reduceIte]
  refine Sat.region_k fun k hk => ?_
  simp -implicitDefEqProofs only [evr, id, reduceCtorEq, reduceIte, Nat.reduceMul, Nat.reduceAdd, Nat.reduceLT, Nat.reduceLeDiff, Nat.reduceEqDiff, Int.reduceLT, Int.reduceBEq, Int.reduceBNe, Nat.reduceBEq, exc_0, exc_1, evx_1, evx_2, ptr, ev_one, exc_one, res_one, par_one, idn_one, idn_0, idn_1, idn_2, Int.reduceToNat, resRow, res_ro, rExtract_tup, e2, evn]
  refine hk _ ?_
  simp only [thenK, blockK]
  refine ⟨i + 1, h1, by omega, ?_⟩
  simp -implicitDefEqProofs only [evr, id, reduceCtorEq, reduceIte, Nat.reduceMul, Nat.reduceAdd, Nat.reduceLT, Nat.reduceLeDiff, Nat.reduceEqDiff, Int.reduceLT, Int.reduceBEq, Int.reduceBNe, Nat.reduceBEq, exc_0, exc_1, evx_1, evx_2, ptr, ev_one, exc_one, res_one, par_one, idn_one, idn_0, idn_1, idn_2, Int.reduceToNat, resRow, res_ro, rExtract_tup, evl, evn]
 have h1 : i = us.length := by simp only [decide_eq_false_iff_not] at h; omega
 subst h1
 refine Sat.exit ?_
 simp only [thenK, blockK, reduceIte]
 (repeat refine Sat.seq ?_)
 (refine Sat.region_k fun k hk => ?_; simp -implicitDefEqProofs only [evr, id, reduceCtorEq, reduceIte, Nat.reduceMul, Nat.reduceAdd, Nat.reduceLT, Nat.reduceLeDiff, Nat.reduceEqDiff, Int.reduceLT, Int.reduceBEq, Int.reduceBNe, Nat.reduceBEq, exc_0, exc_1, evx_1, evx_2, ptr, ev_one, exc_one, res_one, par_one, idn_one, idn_0, idn_1, idn_2, Int.reduceToNat, resRow, res_ro, rExtract_tup, evn]; refine hk _ ?_; clear hk k; try show Sat _ _ _ _ _)
 refine Sat.ret ?_
 simp only [Tryz.results4, evr, id, reduceCtorEq, reduceIte, Nat.reduceMul, Nat.reduceAdd, Nat.reduceLT, Nat.reduceLeDiff, Nat.reduceEqDiff, Int.reduceLT, Int.reduceBEq, Int.reduceBNe, Nat.reduceBEq, exc_0, exc_1, evx_1, evx_2, ptr, ev_one, exc_one, res_one, par_one, idn_one, idn_0, idn_1, idn_2, List.append_nil, Int.toNat_zero, Nat.sub_self, Int.reduceToNat, resRow, res_ro, rExtract_tup]
theorem holds_holds : Rows.ExclusionHoldsSaid := exclusionHolds.of_walk fun a0 z0 w ⟨h, hz⟩ => by
 obtain ⟨a, cap, rfl, hok⟩ := slB_of h
 exact walk_of (holdC a cap z0 hz) (fun s hs => by rw [List.mem_singleton.1 hs]; exact hok)
#print axioms holds_holds
end Go.Proofs.YtfeiiadligkamaaGreat
