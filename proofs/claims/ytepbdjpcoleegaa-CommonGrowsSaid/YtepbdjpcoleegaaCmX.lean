/- CommonGrows: evidence that holds goes on to hold if results are added, and part of its results proves it, too. The law holds of every input. -/
import Derived.Test.YtepbdjpcoleegaaPk4
import Derived.Test.YtepbdjpcoleegaaWalkE
import Derived.Test.YtepbdjpcoleegaaShCommonGrows
set_option linter.unusedSimpArgs false
set_option linter.unusedVariables false
namespace Go.Proofs.Ytepbdjpcoleegaa
open Go.Sort Eng
theorem RltI.one {xs : List Res} {n0 n1 : Nat} (h : RltI xs n0 n1) : OneEach xs := fun r hr s hs e => by
 simp only [Res.idn, Idn.mk.injEq] at e
 exact h.own r hr s hs e.1 e.2.2
theorem res_take (xs : List Res) (k : Nat) (hk : k ≤ xs.length) : rdEq k 17 (resRd xs.toArray) (resRd (xs.take k).toArray) := by
 intro i j hi hj
 unfold resRd
 have h1 : i < xs.length := by omega
 simp [getElem!_def, h1, List.getElem?_take, hi]
theorem idn_take (xs : List Idn) (k : Nat) (hk : k ≤ xs.length) : rdEq k 3 (idnRd xs.toArray) (idnRd (xs.take k).toArray) := by
 intro i j hi hj
 unfold idnRd
 have h1 : i < xs.length := by omega
 simp [getElem!_def, h1, List.getElem?_take, hi]
set_option maxHeartbeats 1000000 in
set_option maxRecDepth 100000 in
theorem growsC (a : Option Addr) (cap : Nat) (z : List Int) (hz : ∀ n ∈ z, (Lit.int .u8 n).wf = true) : Contract Frm.nil Try.prog 3 [slB a cap z] (fun r => r = .b true) := by
 have hb : isBytes (slB a cap z) := ⟨a, z.length, cap, _, rfl, fun i hi => ⟨z.getD i 0, by have := bounds_u8 (hz _ (getD_mem (d := 0) hi)); omega, by have := bounds_u8 (hz _ (getD_mem (d := 0) hi)); omega, rfl⟩⟩
 refine contract_of Try.func3 rfl (by kernel_rfl) ?_
 simp only [Try.ntmps3, argEnv]
 (repeat refine Sat.seq ?_)
 (refine Sat.region_k fun k hk => ?_; simp -implicitDefEqProofs only [evr, id, seval, ptr, res_one, par_one, idn_one, idn_0, idn_1, idn_2, resRow, res_ro, rExtract_tup, par_eq, ev_0, ev_1, ev_2, ev_3, evn]; refine hk _ ?_; clear hk k; try show Sat _ _ _ _ _)
 (repeat refine Sat.seq ?_)
 (refine Sat.region_k fun k hk => ?_; simp -implicitDefEqProofs only [evr, id, seval, ptr, res_one, par_one, idn_one, idn_0, idn_1, idn_2, resRow, res_ro, rExtract_tup, par_eq, ev_0, ev_1, ev_2, ev_3, evn])
 refine wcall_plain (awakeC Frm.nil) rfl (by rintro _ rfl; exact ok_plain rfl) ?_
 rintro r rfl
 simp -implicitDefEqProofs only [evr, id, seval, ptr, res_one, par_one, idn_one, idn_0, idn_1, idn_2, resRow, res_ro, rExtract_tup, par_eq, ev_0, ev_1, ev_2, ev_3, evn]
 (refine hk _ ?_; clear hk k; try show Sat _ _ _ _ _)
 refine Sat.cond_b rfl (fun h => absurd h (by decide)) (fun _ => ?_)
 refine Sat.skip ?_
 simp only [thenK]
 refine Sat.seq ?_
 (refine Sat.region_k fun k hk => ?_; simp -implicitDefEqProofs only [evr, id, seval, ptr, res_one, par_one, idn_one, idn_0, idn_1, idn_2, resRow, res_ro, rExtract_tup, par_eq, ev_0, ev_1, ev_2, ev_3, evn])
 refine wcall_make (rollC (slB a cap z) hb) ?_
 intro cb
 simp -implicitDefEqProofs only [evr, id, seval, ptr, res_one, par_one, idn_one, idn_0, idn_1, idn_2, resRow, res_ro, rExtract_tup, par_eq, ev_0, ev_1, ev_2, ev_3, evn]
 (refine hk _ ?_; clear hk k; try show Sat _ _ _ _ _)
 refine Sat.switch (cb := cb) (id := 0) (F' := Frm.codes cb) (fun b => Iff.rfl) (fun _ h => h) rfl ?_
 (repeat refine Sat.seq ?_)
 (refine Sat.region_k fun k hk => ?_; simp -implicitDefEqProofs only [evr, id, seval, ptr, res_one, par_one, idn_one, idn_0, idn_1, idn_2, resRow, res_ro, rExtract_tup, par_eq, ev_0, ev_1, ev_2, ev_3, evn])
 refine wcall_new (resultsC true cb 24 (by omega)) rfl (by simp -implicitDefEqProofs only [evr, id, seval, ptr, res_one, par_one, idn_one, idn_0, idn_1, idn_2, resRow, res_ro, rExtract_tup, par_eq, ev_0, ev_1, ev_2, ev_3, evn]; try rfl) ?_
 rintro xa ty len xc sz rrd ⟨a1, c1, xs, n0, n1, hI, hxl, e⟩
 simp only [resRow, Own.row.injEq] at e
 obtain ⟨rfl, rfl, rfl, rfl, rfl, rfl⟩ := e
 simp -implicitDefEqProofs only [evr, id, seval, ptr, res_one, par_one, idn_one, idn_0, idn_1, idn_2, resRow, res_ro, rExtract_tup, par_eq, ev_0, ev_1, ev_2, ev_3, evn]
 (refine hk _ ?_; clear hk k; try show Sat _ _ _ _ _)
 refine Sat.settle2 4 rfl rfl ?_
 simp -implicitDefEqProofs only [evr, id, seval, ptr, res_one, par_one, idn_one, idn_0, idn_1, idn_2, resRow, res_ro, rExtract_tup, par_eq, ev_0, ev_1, ev_2, ev_3, evn]
 have e1 : IntKind.i64.wrap ((xs.length : Int) + 1) = (xs.length : Int) + 1 := w64 (by omega)
 (repeat refine Sat.seq ?_)
 (refine Sat.region_k fun k hk => ?_; simp -implicitDefEqProofs only [evr, id, seval, ptr, res_one, par_one, idn_one, idn_0, idn_1, idn_2, resRow, res_ro, rExtract_tup, par_eq, ev_0, ev_1, ev_2, ev_3, evn])
 refine wcall_plain (nextC cb ((xs.length : Int) + 1) (by omega) (by omega)) (by simp -implicitDefEqProofs only [evr, id, seval, ptr, res_one, par_one, idn_one, idn_0, idn_1, idn_2, resRow, res_ro, rExtract_tup, par_eq, ev_0, ev_1, ev_2, ev_3, e1, evn]) (by rintro _ ⟨x, rfl, _⟩; exact ok_plain rfl) ?_
 rintro r ⟨x, rfl, hx0, hx1⟩
 obtain ⟨k0, rfl⟩ := Int.eq_ofNat_of_zero_le hx0
 simp -implicitDefEqProofs only [evr, id, seval, ptr, res_one, par_one, idn_one, idn_0, idn_1, idn_2, resRow, res_ro, rExtract_tup, par_eq, ev_0, ev_1, ev_2, ev_3, evn]
 (refine hk _ ?_; clear hk k; try show Sat _ _ _ _ _)
 have hk0 : k0 ≤ xs.length := by omega
 (repeat refine Sat.seq ?_)
 (refine Sat.region_k fun k hk => ?_; simp -implicitDefEqProofs only [evr, id, reduceCtorEq, reduceIte, Nat.reduceMul, Nat.reduceAdd, Nat.reduceLT, Nat.reduceLeDiff, Nat.reduceEqDiff, Int.reduceLT, Int.reduceBEq, Int.reduceBNe, Nat.reduceBEq, ptr, res_one, par_one, idn_one, idn_0, idn_1, idn_2, Int.reduceToNat, resRow, res_ro, rExtract_tup, par_eq, ev_0, ev_1, ev_2, ev_3, evn])
 have hin : ∀ r ∈ xs.take k0, RgR r := fun r hr => hI.inr r (List.mem_of_mem_take hr)
 have hlen : (xs.take k0).length = k0 := by rw [List.length_take]; omega
 have hp0 := pairsC (Frm.codes cb) (if xc = 0 then xa else Option.map (fun x => x.add 0) xa) (xc - 0) (xs.take k0) (by omega) hin
 rw [hlen] at hp0
 have hpc := Contract.of_sim (args := [.sl (if xc = 0 then xa else Option.map (fun x => x.add 0) xa) (k0 - 0) (xc - 0) 17 fun i j => resRd xs.toArray i j]) hp0 ⟨sim_sl (res_take xs k0 hk0), trivial⟩
 refine ⟨⟨by omega, by omega⟩, ?_⟩
 refine wcall_slice hpc rfl rfl ?_
 rintro r (⟨hbad, _⟩ | ⟨_, a, c, es, hes, rfl⟩)
 ·exfalso
  obtain ⟨x, hx, hx2⟩ := List.any_eq_true.1 hbad
  rw [hI.val x (List.mem_of_mem_take hx)] at hx2
  cases hx2
 simp -implicitDefEqProofs only [evr, id, seval, ptr, res_one, par_one, idn_one, idn_0, idn_1, idn_2, resRow, res_ro, rExtract_tup, par_eq, ev_0, ev_1, ev_2, ev_3, evn]
 (refine hk _ ?_; clear hk k; try show Sat _ _ _ _ _)
 (repeat refine Sat.seq ?_)
 (refine Sat.region_k fun k hk => ?_; simp -implicitDefEqProofs only [evr, id, seval, ptr, res_one, par_one, idn_one, idn_0, idn_1, idn_2, resRow, res_ro, rExtract_tup, par_eq, ev_0, ev_1, ev_2, ev_3, evn]; refine hk _ ?_; clear hk k; try show Sat _ _ _ _ _)
 (repeat refine Sat.seq ?_)
 refine Sat.cond_b rfl (fun h => absurd h (by decide)) (fun _ => ?_)
 refine Sat.skip ?_
 simp only [thenK]
 (repeat refine Sat.seq ?_)
 (refine Sat.region_k fun k hk => ?_; simp -implicitDefEqProofs only [evr, id, seval, ptr, res_one, par_one, idn_one, idn_0, idn_1, idn_2, resRow, res_ro, rExtract_tup, par_eq, ev_0, ev_1, ev_2, ev_3, evn]; refine hk _ ?_; clear hk k; try show Sat _ _ _ _ _)
 (repeat refine Sat.seq ?_)
 refine Sat.block ?_
 have hel : es.length ≤ 24 := by have := hes.len; rw [hlen] at this; omega
 have hu := hI.one
 refine Sat.loop (ι := Nat) (fun i => ⟨67, [(33, .i .i64 i), (32, .i .i64 es.length), (6, .sl a es.length c 4 (evRd es)), (3, ptr cb), (4, .sl xa xs.length xc 17 (resRd xs.toArray))], []⟩)
  (fun i => i ≤ es.length) (fun i => es.length - i) 0 (Nat.zero_le _) (by simp -implicitDefEqProofs only [evr, id, seval, ptr, res_one, par_one, idn_one, idn_0, idn_1, idn_2, resRow, res_ro, rExtract_tup, par_eq, ev_0, ev_1, ev_2, ev_3, evl, evn]; try rfl) ?_
 rintro i hi
 (repeat refine Sat.seq ?_)
 (refine Sat.region_k fun k hk => ?_; simp -implicitDefEqProofs only [evr, id, seval, ptr, res_one, par_one, idn_one, idn_0, idn_1, idn_2, resRow, res_ro, rExtract_tup, par_eq, ev_0, ev_1, ev_2, ev_3, evn]; refine hk _ ?_; clear hk k; try show Sat _ _ _ _ _)
 (repeat refine Sat.seq ?_)
 refine Sat.cond_b rfl (fun h => ?_) (fun h => ?_)
 ·have h1 : i < es.length := by simp only [decide_eq_true_eq] at h; omega
  have e2 : IntKind.i64.wrap ((i : Int) + 1) = ((i + 1 : Nat) : Int) := by rw [w64 (by omega)]; omega
  obtain ⟨e, he⟩ : ∃ e, e = es.getD i default := ⟨_, rfl⟩
  have hem : e ∈ es := by rw [he]; exact getD_mem h1
  have hel2 := (hes.each e hem).2.2.2
  have qe : (fun j => evRd es i j) = fun j => (Evd.cs e).getD j default := by rw [he]; rfl
  refine Sat.skip ?_
  simp only [thenK]
  (repeat refine Sat.seq ?_)
  refine Sat.block ?_
  (repeat refine Sat.seq ?_)
  (refine Sat.region_k fun k hk => ?_; simp -implicitDefEqProofs only [evr, id, seval, ptr, res_one, par_one, idn_one, idn_0, idn_1, idn_2, resRow, res_ro, rExtract_tup, par_eq, ev_0, ev_1, ev_2, ev_3, evn]; refine hk _ ?_; clear hk k; try show Sat _ _ _ _ _)
  (repeat refine Sat.seq ?_)
  (refine Sat.region_k fun k hk => ?_; simp -implicitDefEqProofs only [evr, id, seval, ptr, res_one, par_one, idn_one, idn_0, idn_1, idn_2, resRow, res_ro, rExtract_tup, par_eq, ev_0, ev_1, ev_2, ev_3, evn])
  refine ⟨by omega, fun b9 => ?_⟩
  (refine hk _ ?_; clear hk k; try show Sat _ _ _ _ _)
  rw [← he]
  have e3 : IntKind.i64.wrap ((e.ids.length : Int) + 1) = (e.ids.length : Int) + 1 := w64 (by omega)
  (repeat refine Sat.seq ?_)
  (refine Sat.region_k fun k hk => ?_; simp -implicitDefEqProofs only [evr, id, seval, ptr, res_one, par_one, idn_one, idn_0, idn_1, idn_2, resRow, res_ro, rExtract_tup, par_eq, ev_0, ev_1, ev_2, ev_3, evn])
  refine wcall_plain (nextC cb ((e.ids.length : Int) + 1) (by omega) (by omega)) (by simp -implicitDefEqProofs only [evr, id, seval, ptr, res_one, par_one, idn_one, idn_0, idn_1, idn_2, resRow, res_ro, rExtract_tup, par_eq, ev_0, ev_1, ev_2, ev_3, e3, evn]) (by rintro _ ⟨x, rfl, _⟩; exact ok_plain rfl) ?_
  rintro r ⟨x, rfl, hy0, hy1⟩
  obtain ⟨m0, rfl⟩ := Int.eq_ofNat_of_zero_le hy0
  simp -implicitDefEqProofs only [evr, id, seval, ptr, res_one, par_one, idn_one, idn_0, idn_1, idn_2, resRow, res_ro, rExtract_tup, par_eq, ev_0, ev_1, ev_2, ev_3, evn]
  (refine hk _ ?_; clear hk k; try show Sat _ _ _ _ _)
  (repeat refine Sat.seq ?_)
  (refine Sat.region_k fun k hk => ?_; simp -implicitDefEqProofs only [evr, id, reduceCtorEq, reduceIte, Nat.reduceMul, Nat.reduceAdd, Nat.reduceLT, Nat.reduceLeDiff, Nat.reduceEqDiff, Int.reduceLT, Int.reduceBEq, Int.reduceBNe, Nat.reduceBEq, ptr, res_one, par_one, idn_one, idn_0, idn_1, idn_2, Int.reduceToNat, resRow, res_ro, rExtract_tup, par_eq, ev_0, ev_1, ev_2, ev_3, evn])
  refine ⟨⟨by omega, by omega⟩, ?_⟩
  (refine hk _ ?_; clear hk k; try show Sat _ _ _ _ _)
  have hm0 : m0 ≤ e.ids.length := by omega
  have hl2 : (e.ids.take m0).length = m0 := by rw [List.length_take]; omega
  obtain ⟨ad2, had2⟩ : ∃ q, (if e.cap = 0 then e.ad else Option.map (fun x => x.add 0) e.ad) = q := ⟨_, rfl⟩
  refine Sat.rebox 0 [.i .i64 e.kind, .i .u32 e.a, .i .u32 e.b, .sl ad2 m0 e.cap 3 (idnRd (e.ids.take m0).toArray)] rfl ⟨sim_refl _, sim_refl _, sim_refl _, by rw [had2]; exact sim_sl (idn_take e.ids m0 hm0), trivial⟩ ?_
  have hc1 : Contract (Frm.codes cb) Try.prog 12 [.sl xa xs.length xc 17 (resRd xs.toArray), .agg 4 fun j => evRd es i j] (fun r => r = .b true) := by
   have h9 := holdsC (Frm.codes cb) xa xc xs e (by omega) (by omega)
   rw [pairs_holds hu (fun r hr => List.mem_of_mem_take hr) hes hem] at h9
   rw [qe]
   exact h9
  have hc2 : Contract (Frm.codes cb) Try.prog 12 [.sl xa xs.length xc 17 (resRd xs.toArray), .agg 4 fun j => [SV.i .i64 e.kind, .i .u32 e.a, .i .u32 e.b, .sl ad2 m0 e.cap 3 (idnRd (e.ids.take m0).toArray)].getD j default] (fun r => r = .b (decide (0 < m0))) := by
   have h9 := holdsC (Frm.codes cb) xa xc xs ⟨e.kind, e.a, e.b, e.ids.take m0, ad2, e.cap⟩ (by omega) (by show (e.ids.take m0).length ≤ 1000000000; omega)
   have h8 : holdsV xs ⟨e.kind, e.a, e.b, e.ids.take m0, ad2, e.cap⟩ = decide (0 < m0) := cut_holds hu (fun r hr => List.mem_of_mem_take hr) hes hem m0
   rw [h8] at h9
   unfold evAg Evd.cs at h9
   rw [hl2] at h9
   exact h9
  clear had2
  (repeat refine Sat.seq ?_)
  refine Sat.at ⟨67, [(65, .b false), (33, .i .i64 i), (32, .i .i64 es.length), (6, .sl a es.length c 4 (evRd es)), (3, ptr cb), (4, .sl xa xs.length xc 17 (resRd xs.toArray))], []⟩ ?_ ?_
  ·(refine Sat.region_k fun k hk => ?_; simp -implicitDefEqProofs only [evr, id, seval, ptr, res_one, par_one, idn_one, idn_0, idn_1, idn_2, resRow, res_ro, rExtract_tup, par_eq, ev_0, ev_1, ev_2, ev_3, evn])
   refine ⟨by omega, ?_⟩
   refine wcall_plain hc1 rfl (by rintro _ rfl; exact ok_plain rfl) ?_
   rintro _ rfl
   simp -implicitDefEqProofs only [evr, id, seval, ptr, res_one, par_one, idn_one, idn_0, idn_1, idn_2, resRow, res_ro, rExtract_tup, par_eq, ev_0, ev_1, ev_2, ev_3, evn]
   refine wcall_plain hc2 rfl (by rintro _ rfl; exact ok_plain rfl) ?_
   rintro _ rfl
   simp -implicitDefEqProofs only [evr, id, seval, ptr, res_one, par_one, idn_one, idn_0, idn_1, idn_2, resRow, res_ro, rExtract_tup, par_eq, ev_0, ev_1, ev_2, ev_3, evn]
   have e5 : (decide (0 < m0) != decide ((0 : Int) < (m0 : Int))) = false := by
    rw [show decide ((0 : Int) < (m0 : Int)) = decide (0 < m0) from Bool.eq_iff_iff.2 (by simp), bne_self_eq_false]
   simp only [e5]
   refine hk _ ?_
   simp only [thenK]
   simp -implicitDefEqProofs only [evr, id, seval, ptr, res_one, par_one, idn_one, idn_0, idn_1, idn_2, resRow, res_ro, rExtract_tup, par_eq, ev_0, ev_1, ev_2, ev_3, evl, evn]
  simp only [thenK]
  (repeat refine Sat.seq ?_)
  refine Sat.cond_b rfl (fun h => absurd h (by decide)) (fun _ => ?_)
  refine Sat.skip ?_
  simp only [thenK, blockK, reduceIte]
  refine Sat.region_k fun k hk => ?_
  simp -implicitDefEqProofs only [evr, id, seval, ptr, res_one, par_one, idn_one, idn_0, idn_1, idn_2, resRow, res_ro, rExtract_tup, par_eq, ev_0, ev_1, ev_2, ev_3, e2, evn]
  refine hk _ ?_
  simp only [thenK, blockK]
  refine ⟨i + 1, by omega, by omega, ?_⟩
  simp -implicitDefEqProofs only [evr, id, seval, ptr, res_one, par_one, idn_one, idn_0, idn_1, idn_2, resRow, res_ro, rExtract_tup, par_eq, ev_0, ev_1, ev_2, ev_3, evl, evn]
 ·refine Sat.exit ?_
  simp only [thenK, blockK, reduceIte]
  (repeat refine Sat.seq ?_)
  (refine Sat.region_k fun k hk => ?_; simp -implicitDefEqProofs only [evr, id, seval, ptr, res_one, par_one, idn_one, idn_0, idn_1, idn_2, resRow, res_ro, rExtract_tup, par_eq, ev_0, ev_1, ev_2, ev_3, evn]; refine hk _ ?_; clear hk k; try show Sat _ _ _ _ _)
  refine Sat.ret ?_
  simp only [Try.results3, evr, id, reduceCtorEq, reduceIte, Nat.reduceMul, Nat.reduceAdd, Nat.reduceLT, Nat.reduceLeDiff, Nat.reduceEqDiff, Int.reduceLT, Int.reduceBEq, Int.reduceBNe, Nat.reduceBEq, ptr, res_one, par_one, idn_one, idn_0, idn_1, idn_2, List.append_nil, Int.toNat_zero, Nat.sub_self, Int.reduceToNat, resRow, res_ro, rExtract_tup, par_eq, ev_0, ev_1, ev_2, ev_3]
theorem grows_holds : Rows.CommonGrowsSaid := commonGrows.of_walk fun a0 z0 w ⟨h, hz⟩ => by
 obtain ⟨a, cap, rfl, hok⟩ := slB_of h
 exact walk_of (growsC a cap z0 hz) (fun s hs => by rw [List.mem_singleton.1 hs]; exact hok)
#print axioms grows_holds
end Go.Proofs.Ytepbdjpcoleegaa
