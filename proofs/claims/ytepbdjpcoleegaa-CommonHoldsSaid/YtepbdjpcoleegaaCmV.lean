/- CommonHolds: pairs hold, depend on the set of results alone, and each result that shows a pair is named once. The law holds of every input. -/
import Derived.Test.YtepbdjpcoleegaaCmG
import Derived.Test.YtepbdjpcoleegaaCmS
import Derived.Test.YtepbdjpcoleegaaRltV
import Derived.Test.YtepbdjpcoleegaaDicW
import Derived.Test.YtepbdjpcoleegaaWalkE
import Derived.Test.YtepbdjpcoleegaaShCommonHolds
set_option linter.unusedSimpArgs false
set_option linter.unusedVariables false
namespace Go.Proofs.Ytepbdjpcoleegaa
open Go.Sort Eng
theorem RltI.one {xs : List Res} {n0 n1 : Nat} (h : RltI xs n0 n1) : OneEach xs := fun r hr s hs e => by
 simp only [Res.idn, Idn.mk.injEq] at e
 exact h.own r hr s hs e.1 e.2.2
theorem RltI.idns {xs : List Res} {n0 n1 : Nat} (h : RltI xs n0 n1) : xs.Pairwise fun r s => r.idn ≠ s.idn := h.nd.imp fun {r s} g e => by
 simp only [Res.idn, Idn.mk.injEq] at e
 exact g ⟨e.1, e.2.2⟩
theorem pairs_in {xs : List Res} {es : List Evd} (h : PairsOf xs es) (hr : ∀ r ∈ xs, RgR r) : ∀ e ∈ es, EvIn e := fun e he => by
 obtain ⟨r, hx, h1⟩ := (h.prs e.pr).1 (List.mem_map.2 ⟨e, he, rfl⟩)
 obtain ⟨g1, g2⟩ := hr r hx
 unfold showR at h1
 split at h1
 ·have h2 := Option.some.inj h1
  have ha : e.a = min r.dst r.from_ := (congrArg Par.a h2).symm
  have hb : e.b = max r.dst r.from_ := (congrArg Par.b h2).symm
  have g3 : IntKind.i64.wrap r.dst = r.dst := g1
  have g4 : IntKind.i64.wrap r.from_ = r.from_ := g2
  refine ⟨?_, ?_, by have := (h.each e he).2.2.2; omega⟩
  ·rw [ha]; rcases Int.le_total r.dst r.from_ with h5 | h5
   ·rw [Int.min_eq_left h5]; exact g3
   ·rw [Int.min_eq_right h5]; exact g4
  ·rw [hb]; rcases Int.le_total r.dst r.from_ with h5 | h5
   ·rw [Int.max_eq_right h5]; exact g4
   ·rw [Int.max_eq_left h5]; exact g3
 ·cases h1
theorem pairs_lt {e f : Evd} (he : e.kind = 1) (hf : f.kind = 1) (h : parLt e.pr f.pr = true) : evCmp e f < 0 := by
 have h1 : ordI e.a f.a = -1 ∨ (ordI e.a f.a = 0 ∧ ordI e.b f.b = -1) := by
  unfold parLt parCmpI cmpL Par.keys Evd.pr at h
  have h2 : orL [ordI e.a f.a, ordI e.b f.b] < 0 := of_decide_eq_true h
  unfold orL orL orL at h2
  rcases ordI_cases e.a f.a with ⟨_, h3⟩ | ⟨_, h3⟩ | ⟨_, h3⟩ <;> rcases ordI_cases e.b f.b with ⟨_, h4⟩ | ⟨_, h4⟩ | ⟨_, h4⟩ <;> simp [h3, h4] at h2 ⊢
 have h0 : ordI e.kind f.kind = 0 := by rw [he, hf]; rfl
 unfold evCmp
 rcases h1 with h1 | ⟨h1, h2⟩
 ·simp [orL, h0, h1]
 ·simp [orL, h0, h1, h2]
set_option maxHeartbeats 1000000 in
set_option maxRecDepth 100000 in
theorem holdC (a : Option Addr) (cap : Nat) (z : List Int) (hz : ∀ n ∈ z, (Lit.int .u8 n).wf = true) : Contract Frm.nil Try.prog 5 [slB a cap z] (fun r => r = .b true) := by
 have hb : isBytes (slB a cap z) := ⟨a, z.length, cap, _, rfl, fun i hi => ⟨z.getD i 0, by have := bounds_u8 (hz _ (getD_mem (d := 0) hi)); omega, by have := bounds_u8 (hz _ (getD_mem (d := 0) hi)); omega, rfl⟩⟩
 refine contract_of Try.func5 rfl (by kernel_rfl) ?_
 simp only [Try.ntmps5, argEnv]
 (repeat refine Sat.seq ?_)
 (refine Sat.region_k fun k hk => ?_; simp -implicitDefEqProofs only [evr, id, seval, ptr, res_one, par_one, idn_one, idn_0, idn_1, idn_2, resRow, res_ro, rExtract_tup, par_eq, ev_0, ev_1, ev_2, ev_3, evn]; refine hk _ ?_; clear hk k; try show Sat _ _ _ _ _)
 (repeat refine Sat.seq ?_)
 (refine Sat.region_k fun k hk => ?_; simp -implicitDefEqProofs only [evr, id, seval, ptr, res_one, par_one, idn_one, idn_0, idn_1, idn_2, resRow, res_ro, rExtract_tup, par_eq, ev_0, ev_1, ev_2, ev_3, evn])
 refine wcall_plain (awakeC Frm.nil) rfl (by rintro _ rfl; exact ok_plain rfl) ?_
 rintro r rfl
 simp -implicitDefEqProofs only [evr, id, seval, ptr, res_one, par_one, idn_one, idn_0, idn_1, idn_2, resRow, res_ro, rExtract_tup, par_eq, ev_0, ev_1, ev_2, ev_3, evn]
 (refine hk _ ?_; clear hk k; try show Sat _ _ _ _ _)
 refine Sat.cond_b rfl (fun h => absurd h (by decide)) (fun _ => ?_)
 refine Sat.skip ?_
 simp only [thenK]
 refine Sat.seq ?_
 (refine Sat.region_k fun k hk => ?_; simp -implicitDefEqProofs only [evr, id, seval, ptr, res_one, par_one, idn_one, idn_0, idn_1, idn_2, resRow, res_ro, rExtract_tup, par_eq, ev_0, ev_1, ev_2, ev_3, evn])
 refine wcall_make (rollC (slB a cap z) hb) ?_
 intro cb
 simp -implicitDefEqProofs only [evr, id, seval, ptr, res_one, par_one, idn_one, idn_0, idn_1, idn_2, resRow, res_ro, rExtract_tup, par_eq, ev_0, ev_1, ev_2, ev_3, evn]
 (refine hk _ ?_; clear hk k; try show Sat _ _ _ _ _)
 refine Sat.switch (cb := cb) (id := 0) (F' := Frm.codes cb) (fun b => Iff.rfl) (fun _ h => h) rfl ?_
 (repeat refine Sat.seq ?_)
 (refine Sat.region_k fun k hk => ?_; simp -implicitDefEqProofs only [evr, id, seval, ptr, res_one, par_one, idn_one, idn_0, idn_1, idn_2, resRow, res_ro, rExtract_tup, par_eq, ev_0, ev_1, ev_2, ev_3, evn])
 refine wcall_new (resultsC false cb 24 (by omega)) rfl (by simp -implicitDefEqProofs only [evr, id, seval, ptr, res_one, par_one, idn_one, idn_0, idn_1, idn_2, resRow, res_ro, rExtract_tup, par_eq, ev_0, ev_1, ev_2, ev_3, evn]; try rfl) ?_
 rintro xa ty len xc sz rrd ⟨a1, c1, xs, n0, n1, hI, hxl, e⟩
 simp only [resRow, Own.row.injEq] at e
 obtain ⟨rfl, rfl, rfl, rfl, rfl, rfl⟩ := e
 simp -implicitDefEqProofs only [evr, id, seval, ptr, res_one, par_one, idn_one, idn_0, idn_1, idn_2, resRow, res_ro, rExtract_tup, par_eq, ev_0, ev_1, ev_2, ev_3, evn]
 (refine hk _ ?_; clear hk k; try show Sat _ _ _ _ _)
 refine Sat.settle2 4 rfl rfl ?_
 simp -implicitDefEqProofs only [evr, id, seval, ptr, res_one, par_one, idn_one, idn_0, idn_1, idn_2, resRow, res_ro, rExtract_tup, par_eq, ev_0, ev_1, ev_2, ev_3, evn]
 (repeat refine Sat.seq ?_)
 (refine Sat.region_k fun k hk => ?_; simp -implicitDefEqProofs only [evr, id, seval, ptr, res_one, par_one, idn_one, idn_0, idn_1, idn_2, resRow, res_ro, rExtract_tup, par_eq, ev_0, ev_1, ev_2, ev_3, evn])
 refine wcall_slice (pairsC (Frm.codes cb) xa xc xs (by omega) hI.inr) rfl rfl ?_
 rintro r (⟨hbad, _⟩ | ⟨_, a2, c2, es, hes, rfl⟩)
 ·exfalso
  obtain ⟨x, hx, hx2⟩ := List.any_eq_true.1 hbad
  rw [hI.val x hx] at hx2
  cases hx2
 simp -implicitDefEqProofs only [evr, id, seval, ptr, res_one, par_one, idn_one, idn_0, idn_1, idn_2, resRow, res_ro, rExtract_tup, par_eq, ev_0, ev_1, ev_2, ev_3, evn]
 (refine hk _ ?_; clear hk k; try show Sat _ _ _ _ _)
 (repeat refine Sat.seq ?_)
 (refine Sat.region_k fun k hk => ?_; simp -implicitDefEqProofs only [evr, id, seval, ptr, res_one, par_one, idn_one, idn_0, idn_1, idn_2, resRow, res_ro, rExtract_tup, par_eq, ev_0, ev_1, ev_2, ev_3, evn])
 refine wcall_new (shuffledC cb xa xc xs (by omega)) rfl (by simp -implicitDefEqProofs only [evr, id, seval, ptr, res_one, par_one, idn_one, idn_0, idn_1, idn_2, resRow, res_ro, rExtract_tup, par_eq, ev_0, ev_1, ev_2, ev_3, evn]; try rfl) ?_
 rintro ya ty len yc sz rrd ⟨a1, c1, ys, hys, hyl, e⟩
 simp only [resRow, Own.row.injEq] at e
 obtain ⟨rfl, rfl, rfl, rfl, rfl, rfl⟩ := e
 simp -implicitDefEqProofs only [evr, id, seval, ptr, res_one, par_one, idn_one, idn_0, idn_1, idn_2, resRow, res_ro, rExtract_tup, par_eq, ev_0, ev_1, ev_2, ev_3, evn]
 refine wcall_slice (pairsC (Frm.codes cb) ya yc ys (by omega) fun r hr => hI.inr r ((hys r).1 hr)) rfl (by simp -implicitDefEqProofs only [evr, id, seval, ptr, res_one, par_one, idn_one, idn_0, idn_1, idn_2, resRow, res_ro, rExtract_tup, par_eq, ev_0, ev_1, ev_2, ev_3, evn]; try rfl) ?_
 rintro r (⟨hbad, _⟩ | ⟨_, a3, c3, fs, hfs, rfl⟩)
 ·exfalso
  obtain ⟨x, hx, hx2⟩ := List.any_eq_true.1 hbad
  rw [hI.val x ((hys x).1 hx)] at hx2
  cases hx2
 simp -implicitDefEqProofs only [evr, id, seval, ptr, res_one, par_one, idn_one, idn_0, idn_1, idn_2, resRow, res_ro, rExtract_tup, par_eq, ev_0, ev_1, ev_2, ev_3, evn]
 (refine hk _ ?_; clear hk k; try show Sat _ _ _ _ _)
 have hel : es.length ≤ 24 := by have := hes.len; omega
 have hsame : decide (es.map Evd.say = fs.map Evd.say) = true := decide_eq_true (pairs_same hes hfs hys)
 have hu := hI.one
 (repeat refine Sat.seq ?_)
 (refine Sat.region_k fun k hk => ?_; simp -implicitDefEqProofs only [evr, id, seval, ptr, res_one, par_one, idn_one, idn_0, idn_1, idn_2, resRow, res_ro, rExtract_tup, par_eq, ev_0, ev_1, ev_2, ev_3, evn])
 refine wcall_plain (sameEvC (Frm.codes cb) a2 a3 c2 c3 es fs (by omega) (pairs_in hes hI.inr) (pairs_in hfs fun r hr => hI.inr r ((hys r).1 hr))) rfl (by rintro _ rfl; exact ok_plain rfl) ?_
 rintro _ rfl
 rw [hsame]
 simp -implicitDefEqProofs only [evr, id, seval, ptr, res_one, par_one, idn_one, idn_0, idn_1, idn_2, resRow, res_ro, rExtract_tup, par_eq, ev_0, ev_1, ev_2, ev_3, evn]
 (refine hk _ ?_; clear hk k; try show Sat _ _ _ _ _)
 (repeat refine Sat.seq ?_)
 refine Sat.cond_b rfl (fun h => absurd h (by decide)) (fun _ => ?_)
 refine Sat.skip ?_
 simp only [thenK]
 (repeat refine Sat.seq ?_)
 (refine Sat.region_k fun k hk => ?_; simp -implicitDefEqProofs only [evr, id, seval, ptr, res_one, par_one, idn_one, idn_0, idn_1, idn_2, resRow, res_ro, rExtract_tup, par_eq, ev_0, ev_1, ev_2, ev_3, evn]; refine hk _ ?_; clear hk k; try show Sat _ _ _ _ _)
 (repeat refine Sat.seq ?_)
 (refine Sat.region_k fun k hk => ?_; simp -implicitDefEqProofs only [evr, id, seval, ptr, res_one, par_one, idn_one, idn_0, idn_1, idn_2, resRow, res_ro, rExtract_tup, par_eq, ev_0, ev_1, ev_2, ev_3, evn]; refine hk _ ?_; clear hk k; try show Sat _ _ _ _ _)
 (repeat refine Sat.seq ?_)
 refine Sat.block ?_
 refine Sat.loop (ι := Nat) (fun i => ⟨111, [(47, .i .i64 i), (46, .i .i64 es.length), (5, .sl a2 es.length c2 4 (evRd es)), (9, .i .i64 (namedN (es.take i))), (4, .sl xa xs.length xc 17 (resRd xs.toArray))], []⟩)
  (fun i => i ≤ es.length ∧ namedN (es.take i) ≤ 512 * i) (fun i => es.length - i) 0 ⟨Nat.zero_le _, Nat.zero_le _⟩ (by simp -implicitDefEqProofs only [evr, id, reduceCtorEq, reduceIte, Nat.reduceMul, Nat.reduceAdd, Nat.reduceLT, Nat.reduceLeDiff, Nat.reduceEqDiff, Int.reduceLT, Int.reduceBEq, Int.reduceBNe, Nat.reduceBEq, ptr, res_one, par_one, idn_one, idn_0, idn_1, idn_2, Int.reduceToNat, resRow, res_ro, rExtract_tup, par_eq, ev_0, ev_1, ev_2, ev_3, evl, evn]; exact ⟨rfl, rfl⟩) ?_
 rintro i ⟨hi, hnb⟩
 (repeat refine Sat.seq ?_)
 (refine Sat.region_k fun k hk => ?_; simp -implicitDefEqProofs only [evr, id, seval, ptr, res_one, par_one, idn_one, idn_0, idn_1, idn_2, resRow, res_ro, rExtract_tup, par_eq, ev_0, ev_1, ev_2, ev_3, evn]; refine hk _ ?_; clear hk k; try show Sat _ _ _ _ _)
 (repeat refine Sat.seq ?_)
 refine Sat.cond_b rfl (fun h => ?_) (fun h => ?_)
 ·have h1 : i < es.length := by simp only [decide_eq_true_eq] at h; omega
  have e2 : IntKind.i64.wrap ((i : Int) + 1) = ((i + 1 : Nat) : Int) := by rw [w64 (by omega)]; omega
  have hem : es.getD i default ∈ es := getD_mem h1
  have hel2 := (hes.each _ hem).2.2.2
  have hnt := namedN_take h1
  have e3 : IntKind.i64.wrap ((namedN (es.take i) : Int) + ((es.getD i default).ids.length : Int)) = (namedN (es.take (i + 1)) : Int) := by rw [w64 (by omega)]; omega
  have hc1 : Contract Frm.nil Try.prog 17 [.agg 4 fun j => evRd es i j] (fun r => r = .b true) := by
   have h9 := validEvC Frm.nil (es.getD i default) (by omega)
   have h8 : validEv (es.getD i default) = true := by
    have := pairs_holds hu (fun r hr => hr) hes hem
    unfold holdsV at this
    simp only [Bool.and_eq_true] at this
    exact this.1.1
   rw [h8] at h9
   exact h9
  have hc2 : Contract Frm.nil Try.prog 12 [.sl xa xs.length xc 17 (resRd xs.toArray), .agg 4 fun j => evRd es i j] (fun r => r = .b true) := by
   have h9 := holdsC Frm.nil xa xc xs (es.getD i default) (by omega) (by omega)
   rw [pairs_holds hu (fun r hr => hr) hes hem] at h9
   exact h9
  refine Sat.skip ?_
  simp only [thenK]
  (repeat refine Sat.seq ?_)
  refine Sat.block ?_
  (repeat refine Sat.seq ?_)
  (refine Sat.region_k fun k hk => ?_; simp -implicitDefEqProofs only [evr, id, seval, ptr, res_one, par_one, idn_one, idn_0, idn_1, idn_2, resRow, res_ro, rExtract_tup, par_eq, ev_0, ev_1, ev_2, ev_3, evn]; refine hk _ ?_; clear hk k; try show Sat _ _ _ _ _)
  (repeat refine Sat.seq ?_)
  refine Sat.at ⟨111, [(81, .b false), (10, .i .i64 i), (47, .i .i64 i), (46, .i .i64 es.length), (5, .sl a2 es.length c2 4 (evRd es)), (9, .i .i64 (namedN (es.take i))), (4, .sl xa xs.length xc 17 (resRd xs.toArray))], []⟩ ?_ ?_
  ·(refine Sat.region_qk (by kernel_rfl) (by kernel_rfl) fun k hk => ?_; simp -implicitDefEqProofs only [evr, id, seval, ptr, res_one, par_one, idn_one, idn_0, idn_1, idn_2, resRow, res_ro, rExtract_tup, par_eq, ev_0, ev_1, ev_2, ev_3, evn])
   refine ⟨by omega, ?_⟩
   refine qcall hc1 rfl (ok_plain rfl) ?_
   simp -implicitDefEqProofs only [evr, id, seval, ptr, res_one, par_one, idn_one, idn_0, idn_1, idn_2, resRow, res_ro, rExtract_tup, par_eq, ev_0, ev_1, ev_2, ev_3, evn]
   refine ⟨by omega, ?_⟩
   refine qcall hc2 rfl (ok_plain rfl) ?_
   simp -implicitDefEqProofs only [evr, id, seval, ptr, res_one, par_one, idn_one, idn_0, idn_1, idn_2, resRow, res_ro, rExtract_tup, par_eq, ev_0, ev_1, ev_2, ev_3, evn]
   refine ⟨fun g1 => ?_, fun g1 => ?_⟩
   ·have e9 : IntKind.i64.wrap ((i : Int) - 1) = ((i - 1 : Nat) : Int) := by rw [w64 (by omega)]; omega
    simp only [e9, Int.toNat_natCast]
    refine ⟨⟨by omega, by omega⟩, by omega, ?_⟩
    have hem1 : es.getD (i - 1) default ∈ es := getD_mem (by omega)
    refine qcall (compareEvC Frm.nil (es.getD (i - 1) default) (es.getD i default) (by have := (hes.each _ hem1).2.2.2; omega) (by omega)) rfl (ok_plain rfl) ?_
    have hlt : evCmp (es.getD (i - 1) default) (es.getD i default) < 0 := pairs_lt (hes.each _ hem1).1 (hes.each _ hem).1 (by
     rw [List.getD_eq_getElem?_getD, List.getD_eq_getElem?_getD, List.getElem?_eq_getElem (show i - 1 < es.length by omega), List.getElem?_eq_getElem h1]
     exact List.pairwise_iff_getElem.1 hes.asc (i - 1) i (by omega) h1 (by omega))
    have hnl : decide (0 ≤ evCmp (es.getD (i - 1) default) (es.getD i default)) = false := decide_eq_false (by omega)
    simp -implicitDefEqProofs only [evr, id, seval, ptr, res_one, par_one, idn_one, idn_0, idn_1, idn_2, resRow, res_ro, rExtract_tup, par_eq, ev_0, ev_1, ev_2, ev_3, hnl, evn]
    refine hk _ ?_
    simp only [thenK]
    simp -implicitDefEqProofs only [evr, id, seval, ptr, res_one, par_one, idn_one, idn_0, idn_1, idn_2, resRow, res_ro, rExtract_tup, par_eq, ev_0, ev_1, ev_2, ev_3, evl, evn]
   ·refine hk _ ?_
    simp only [thenK]
    simp -implicitDefEqProofs only [evr, id, seval, ptr, res_one, par_one, idn_one, idn_0, idn_1, idn_2, resRow, res_ro, rExtract_tup, par_eq, ev_0, ev_1, ev_2, ev_3, evl, evn]
  simp only [thenK]
  (repeat refine Sat.seq ?_)
  refine Sat.cond_b rfl (fun h => absurd h (by decide)) (fun _ => ?_)
  refine Sat.skip ?_
  simp only [thenK, blockK, reduceIte]
  (repeat refine Sat.seq ?_)
  (refine Sat.region_k fun k hk => ?_; simp -implicitDefEqProofs only [evr, id, seval, ptr, res_one, par_one, idn_one, idn_0, idn_1, idn_2, resRow, res_ro, rExtract_tup, par_eq, ev_0, ev_1, ev_2, ev_3, evn])
  simp only [e3]
  refine ⟨by omega, ?_⟩
  refine hk _ ?_
  simp only [thenK, blockK]
  refine Sat.region_k fun k hk => ?_
  simp -implicitDefEqProofs only [evr, id, seval, ptr, res_one, par_one, idn_one, idn_0, idn_1, idn_2, resRow, res_ro, rExtract_tup, par_eq, ev_0, ev_1, ev_2, ev_3, e2, evn]
  refine hk _ ?_
  simp only [thenK, blockK]
  refine ⟨i + 1, ⟨by omega, by omega⟩, by omega, ?_⟩
  simp -implicitDefEqProofs only [evr, id, seval, ptr, res_one, par_one, idn_one, idn_0, idn_1, idn_2, resRow, res_ro, rExtract_tup, par_eq, ev_0, ev_1, ev_2, ev_3, evl, evn]
 have h1 : i = es.length := by simp only [decide_eq_false_iff_not] at h; omega
 subst h1
 rw [List.take_length]
 refine Sat.exit ?_
 simp only [thenK, blockK, reduceIte]
 (repeat refine Sat.seq ?_)
 (refine Sat.region_k fun k hk => ?_; simp -implicitDefEqProofs only [evr, id, seval, ptr, res_one, par_one, idn_one, idn_0, idn_1, idn_2, resRow, res_ro, rExtract_tup, par_eq, ev_0, ev_1, ev_2, ev_3, evn]; refine hk _ ?_; clear hk k; try show Sat _ _ _ _ _)
 (repeat refine Sat.seq ?_)
 (refine Sat.region_k fun k hk => ?_; simp -implicitDefEqProofs only [evr, id, seval, ptr, res_one, par_one, idn_one, idn_0, idn_1, idn_2, resRow, res_ro, rExtract_tup, par_eq, ev_0, ev_1, ev_2, ev_3, evn]; refine hk _ ?_; clear hk k; try show Sat _ _ _ _ _)
 (repeat refine Sat.seq ?_)
 refine Sat.block ?_
 refine Sat.loop (ι := Nat) (fun i => ⟨111, [(93, .i .i64 i), (92, .i .i64 xs.length), (9, .i .i64 (namedN es)), (11, .i .i64 (shownN (xs.take i))), (4, .sl xa xs.length xc 17 (resRd xs.toArray))], []⟩)
  (fun i => i ≤ xs.length) (fun i => xs.length - i) 0 (Nat.zero_le _) (by simp -implicitDefEqProofs only [evr, id, reduceCtorEq, reduceIte, Nat.reduceMul, Nat.reduceAdd, Nat.reduceLT, Nat.reduceLeDiff, Nat.reduceEqDiff, Int.reduceLT, Int.reduceBEq, Int.reduceBNe, Nat.reduceBEq, ptr, res_one, par_one, idn_one, idn_0, idn_1, idn_2, Int.reduceToNat, resRow, res_ro, rExtract_tup, par_eq, ev_0, ev_1, ev_2, ev_3, evl, evn]; exact ⟨rfl, rfl⟩) ?_
 rintro i hi
 (repeat refine Sat.seq ?_)
 (refine Sat.region_k fun k hk => ?_; simp -implicitDefEqProofs only [evr, id, seval, ptr, res_one, par_one, idn_one, idn_0, idn_1, idn_2, resRow, res_ro, rExtract_tup, par_eq, ev_0, ev_1, ev_2, ev_3, evn]; refine hk _ ?_; clear hk k; try show Sat _ _ _ _ _)
 (repeat refine Sat.seq ?_)
 refine Sat.cond_b rfl (fun h => ?_) (fun h => ?_)
 ·have h1 : i < xs.length := by simp only [decide_eq_true_eq] at h; omega
  have e2 : IntKind.i64.wrap ((i : Int) + 1) = ((i + 1 : Nat) : Int) := by rw [w64 (by omega)]; omega
  have hsl : shownN (xs.take i) ≤ i := by have := shownN_le (xs.take i); rw [List.length_take] at this; omega
  have hst := shownN_take h1
  have hgr : xs.toArray[i]! = xs.getD i default := by simp [getElem!_def, h1]
  refine Sat.skip ?_
  simp only [thenK]
  (repeat refine Sat.seq ?_)
  refine Sat.block ?_
  (repeat refine Sat.seq ?_)
  (refine Sat.region_k fun k hk => ?_; simp -implicitDefEqProofs only [evr, id, seval, ptr, res_one, par_one, idn_one, idn_0, idn_1, idn_2, resRow, res_ro, rExtract_tup, par_eq, ev_0, ev_1, ev_2, ev_3, evn]; refine hk _ ?_; clear hk k; try show Sat _ _ _ _ _)
  (repeat refine Sat.seq ?_)
  (refine Sat.region_k fun k hk => ?_; simp -implicitDefEqProofs only [evr, id, seval, ptr, res_one, par_one, idn_one, idn_0, idn_1, idn_2, resRow, res_ro, rExtract_tup, par_eq, ev_0, ev_1, ev_2, ev_3, evn])
  refine ⟨by omega, ?_⟩
  refine wcall_plain (showC (Frm.codes cb) xs.toArray[i]!) rfl (by rintro _ rfl; exact showS_ok _) ?_
  rintro _ rfl
  rw [hgr]
  cases hs : showR (xs.getD i default) with
  | none =>
   rw [hs] at hst
   simp only [showS, tupL, parAg, Par.cs, evr, id, reduceCtorEq, reduceIte, Nat.reduceMul, Nat.reduceAdd, Nat.reduceLT, Nat.reduceLeDiff, Nat.reduceEqDiff, Int.reduceLT, Int.reduceBEq, Int.reduceBNe, Nat.reduceBEq, ptr, res_one, par_one, idn_one, idn_0, idn_1, idn_2, List.append_nil, Int.toNat_zero, Nat.sub_self, Int.reduceToNat, resRow, res_ro, rExtract_tup, par_eq, ev_0, ev_1, ev_2, ev_3]
   intro b9
   (refine hk _ ?_; clear hk k; try show Sat _ _ _ _ _)
   (repeat refine Sat.seq ?_)
   (refine Sat.region_k fun k hk => ?_; simp -implicitDefEqProofs only [evr, id, seval, ptr, res_one, par_one, idn_one, idn_0, idn_1, idn_2, resRow, res_ro, rExtract_tup, par_eq, ev_0, ev_1, ev_2, ev_3, evn]; refine hk _ ?_; clear hk k; try show Sat _ _ _ _ _)
   (repeat refine Sat.seq ?_)
   refine Sat.cond_b rfl (fun h3 => absurd h3 (by decide)) (fun h3 => ?_)
   refine Sat.skip ?_
   simp only [thenK, blockK, reduceIte]
   refine Sat.region_k fun k hk => ?_
   simp -implicitDefEqProofs only [evr, id, seval, ptr, res_one, par_one, idn_one, idn_0, idn_1, idn_2, resRow, res_ro, rExtract_tup, par_eq, ev_0, ev_1, ev_2, ev_3, e2, evn]
   refine hk _ ?_
   simp only [thenK, blockK]
   refine ⟨i + 1, h1, by omega, ?_⟩
   rw [show shownN (xs.take (i + 1)) = shownN (xs.take i) from hst]
   simp -implicitDefEqProofs only [evr, id, seval, ptr, res_one, par_one, idn_one, idn_0, idn_1, idn_2, resRow, res_ro, rExtract_tup, par_eq, ev_0, ev_1, ev_2, ev_3, evl, evn]
  | some p =>
   rw [hs] at hst
   have e3 : IntKind.i64.wrap ((shownN (xs.take i) : Int) + 1) = (shownN (xs.take (i + 1)) : Int) := by
    rw [show shownN (xs.take (i + 1)) = shownN (xs.take i) + 1 from hst, w64 (by omega)]; omega
   simp only [showS, tupL, parAg, Par.cs, evr, id, reduceCtorEq, reduceIte, Nat.reduceMul, Nat.reduceAdd, Nat.reduceLT, Nat.reduceLeDiff, Nat.reduceEqDiff, Int.reduceLT, Int.reduceBEq, Int.reduceBNe, Nat.reduceBEq, ptr, res_one, par_one, idn_one, idn_0, idn_1, idn_2, List.append_nil, Int.toNat_zero, Nat.sub_self, Int.reduceToNat, resRow, res_ro, rExtract_tup, par_eq, ev_0, ev_1, ev_2, ev_3]
   intro b9
   (refine hk _ ?_; clear hk k; try show Sat _ _ _ _ _)
   (repeat refine Sat.seq ?_)
   (refine Sat.region_k fun k hk => ?_; simp -implicitDefEqProofs only [evr, id, seval, ptr, res_one, par_one, idn_one, idn_0, idn_1, idn_2, resRow, res_ro, rExtract_tup, par_eq, ev_0, ev_1, ev_2, ev_3, evn]; refine hk _ ?_; clear hk k; try show Sat _ _ _ _ _)
   (repeat refine Sat.seq ?_)
   refine Sat.cond_b rfl (fun h3 => ?_) (fun h3 => absurd h3 (by decide))
   (repeat refine Sat.seq ?_)
   refine Sat.region_k fun k hk => ?_
   simp -implicitDefEqProofs only [evr, id, seval, ptr, res_one, par_one, idn_one, idn_0, idn_1, idn_2, resRow, res_ro, rExtract_tup, par_eq, ev_0, ev_1, ev_2, ev_3, e3, evn]
   refine hk _ ?_
   simp only [thenK, blockK, reduceIte]
   refine Sat.region_k fun k hk => ?_
   simp -implicitDefEqProofs only [evr, id, seval, ptr, res_one, par_one, idn_one, idn_0, idn_1, idn_2, resRow, res_ro, rExtract_tup, par_eq, ev_0, ev_1, ev_2, ev_3, e2, evn]
   refine hk _ ?_
   simp only [thenK, blockK]
   refine ⟨i + 1, h1, by omega, ?_⟩
   simp -implicitDefEqProofs only [evr, id, seval, ptr, res_one, par_one, idn_one, idn_0, idn_1, idn_2, resRow, res_ro, rExtract_tup, par_eq, ev_0, ev_1, ev_2, ev_3, evl, evn]
 have h1 : i = xs.length := by simp only [decide_eq_false_iff_not] at h; omega
 subst h1
 rw [List.take_length]
 refine Sat.exit ?_
 simp only [thenK, blockK, reduceIte]
 (repeat refine Sat.seq ?_)
 (refine Sat.region_k fun k hk => ?_; simp -implicitDefEqProofs only [evr, id, seval, ptr, res_one, par_one, idn_one, idn_0, idn_1, idn_2, resRow, res_ro, rExtract_tup, par_eq, ev_0, ev_1, ev_2, ev_3, evn]; refine hk _ ?_; clear hk k; try show Sat _ _ _ _ _)
 refine Sat.ret ?_
 simp only [Try.results5, evr, id, reduceCtorEq, reduceIte, Nat.reduceMul, Nat.reduceAdd, Nat.reduceLT, Nat.reduceLeDiff, Nat.reduceEqDiff, Int.reduceLT, Int.reduceBEq, Int.reduceBNe, Nat.reduceBEq, ptr, res_one, par_one, idn_one, idn_0, idn_1, idn_2, List.append_nil, Int.toNat_zero, Nat.sub_self, Int.reduceToNat, resRow, res_ro, rExtract_tup, par_eq, ev_0, ev_1, ev_2, ev_3]
 rw [pairs_count hes hI.idns]
 simp
theorem holds_holds : Rows.CommonHoldsSaid := commonHolds.of_walk fun a0 z0 w ⟨h, hz⟩ => by
 obtain ⟨a, cap, rfl, hok⟩ := slB_of h
 exact walk_of (holdC a cap z0 hz) (fun s hs => by rw [List.mem_singleton.1 hs]; exact hok)
#print axioms holds_holds
end Go.Proofs.Ytepbdjpcoleegaa
