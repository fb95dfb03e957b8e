/- MergeFinds: the walk. -/
import Derived.Test.YthhofjkbmnklmaaLedK
import Derived.Test.YthhofjkbmnklmaaCodesT
import Derived.Test.YthhofjkbmnklmaaWalkE
set_option linter.unusedSimpArgs false
set_option linter.unusedVariables false
namespace Go.Proofs.Ythhofjkbmnklmaa
open Go.Sort Eng

theorem slB_bytesR (a : Option Addr) (cap : Nat) (z : List Int) (hz : ∀ n ∈ z, (Lit.int .u8 n).wf = true) : isBytes (slB a cap z) :=
  ⟨a, z.length, cap, _, rfl, fun i hi => ⟨z.getD i 0, by have := bounds_u8 (hz _ (getD_mem (d := 0) hi)); omega, by have := bounds_u8 (hz _ (getD_mem (d := 0) hi)); omega, rfl⟩⟩

theorem res_eql (x : Res) (e : Array Res) (k : Nat) : aggEq Try.prog 39 17 (fun j => [SV.i .i64 x.vantage, .i .i64 x.run, .i .i64 x.number, .i .i64 x.at_, .i .u32 x.dst, .i .i64 x.proto, .i .i64 x.flow, .i .i64 x.ttl, .b x.answered, .b x.doubled, .i .i64 x.back, .i .u32 x.from_, .i .i64 x.kind, .i .i64 x.code, .i .i64 x.left, .i .i64 x.id, .i .i64 x.quoted].getD j default) 17 (resRd e k) = some (decide (x = e[k]!)) := res_eq _ _
theorem idk_eq (a b : Res) : a.idk = b.idk ↔ a.vantage = b.vantage ∧ a.run = b.run ∧ a.number = b.number := by simp [Res.idk]
/-- the only one with its identity -/
def onlyP (l : List Res) (y : Res) (k : Nat) : Prop := ∀ q, q < k → l[q]! = y ∨ ¬ (l[q]!).idk = y.idk
theorem find_only {c l rs : List Res} (hc : Canon c l) (hrs : rs = (ledOf c).rs) {i : Nat} (hi : i < l.length) : (onlyP l l[i]! l.length → findR rs (l[i]!).vantage (l[i]!).run (l[i]!).number = some l[i]!) ∧ (¬ onlyP l l[i]! l.length → findR rs (l[i]!).vantage (l[i]!).run (l[i]!).number = none) := by
  have hget : ∀ q, (hq : q < l.length) → l[q]! = l[q] := fun q hq => by simp [getElem!_def, hq]
  have hm : ∀ y, y ∈ l ↔ ∃ q, q < l.length ∧ l[q]! = y := fun y => by
    constructor
    · intro h
      obtain ⟨q, hq, rfl⟩ := List.getElem_of_mem h
      exact ⟨q, hq, hget q hq⟩
    · rintro ⟨q, hq, rfl⟩
      rw [hget q hq]; exact List.getElem_mem hq
  have honly : onlyP l l[i]! l.length ↔ alone c l[i]! := by
    constructor
    · intro h
      refine ⟨(hc.mem _).2 ((hm _).2 ⟨i, hi, rfl⟩), fun s hs hid => ?_⟩
      obtain ⟨q, hq, rfl⟩ := (hm s).1 ((hc.mem s).1 hs)
      exact (h q hq).resolve_right fun hn => hn hid
    · rintro ⟨_, h⟩ q hq
      by_cases e : (l[q]!).idk = (l[i]!).idk
      · exact .inl (h _ ((hc.mem _).2 ((hm _).2 ⟨q, hq, rfl⟩)) e)
      · exact .inr e
  subst hrs
  constructor
  · intro h
    have ha := (rs_mem hc.asc _).2 (honly.1 h)
    unfold findR
    obtain ⟨i', hi', he⟩ := List.getElem_of_mem ha
    cases hf : (ledOf c).rs.find? (fun x => decide (x.idk = [(l[i]!).vantage, (l[i]!).run, (l[i]!).number])) with
    | none =>
      rw [List.find?_eq_none] at hf
      exact absurd (decide_eq_true (show (l[i]!).idk = [(l[i]!).vantage, (l[i]!).run, (l[i]!).number] from rfl)) (hf _ ha)
    | some x =>
      have hx := List.mem_of_find?_eq_some hf
      have hp := List.find?_some hf
      have hid : x.idk = (l[i]!).idk := of_decide_eq_true hp
      have := ((rs_mem hc.asc x).1 hx).2 _ (honly.1 h).1 hid.symm
      rw [← this]
  · intro h
    unfold findR
    rw [List.find?_eq_none]
    intro x hx hp
    have hid : x.idk = (l[i]!).idk := of_decide_eq_true hp
    have ha := (rs_mem hc.asc x).1 hx
    have e := ha.2 l[i]! ((hc.mem _).2 ((hm _).2 ⟨i, hi, rfl⟩)) hid.symm
    rw [← e] at ha
    exact h (honly.2 ha)

theorem compareE (F : Frm) (l : List Res) (i j : Nat) : Contract F Try.prog 14 [.agg 17 fun q => resRd l.toArray i q, .agg 17 fun q => resRd l.toArray j q] (fun r => r = .i .i64 (resCompare (l[i]!) (l[j]!))) := by
  have e : ∀ i, (SV.agg 17 fun q => resRd l.toArray i q) = resAg (l[i]!) := fun i => by simp only [resRd, resAg, List.getElem!_toArray]
  rw [e, e]
  exact compareC F _ _
theorem ok_find {p : LedP} {v r n : Int} (s : SV) (h : s = tupL [resAg ((findR p.rs v r n).getD default), .b (findR p.rs v r n).isSome]) : ∀ R w, s.ok R w := by
  subst h
  intro R w j hj
  rcases (show j = 0 ∨ j = 1 by have : j < 2 := hj; omega) with rfl | rfl
  · exact plain_res _ ⟨_, rfl⟩ R w
  · exact trivial
set_option maxRecDepth 100000 in
theorem findsC (a : Option Addr) (cap : Nat) (z : List Int) (hz : ∀ n ∈ z, (Lit.int .u8 n).wf = true) : Contract Frm.nil Try.prog 3 [slB a cap z] (fun r => r = .b true) := by
  have hb := slB_bytesR a cap z hz
  refine contract_of Try.func3 rfl (by kernel_rfl) ?_
  simp only [Try.ntmps3, argEnv]
  (repeat refine Sat.seq ?_)
  (refine Sat.region_k fun k hk => ?_; simp -implicitDefEqProofs only [evr, ty, rPick, rIbin, rBin, wideB, eqB, strB, rUn, rConv, rFieldAddr, rIndexAddr, rLoad, rField, rLen, rCap, rMax, rMin, rSlice, isRow, WCut, WZer, rBuild, toB, asRead, asAny, bound, flatOk, flat, lay, fillS, placesOf, id, reduceCtorEq, reduceIte, Nat.reduceMul, Nat.reduceAdd, Nat.reduceLT, Nat.reduceLeDiff, Nat.reduceEqDiff, Int.reduceLT, thenK, blockK, retK, resHolds, resVR, VR.holds, roArg, roPtr, roArgS, roSl, Int.reduceBEq, Int.reduceBNe, frz, frzOne, rNilCheck, rIndex, retM, retMK, argM, WClr, WBT, keepW, Nat.reduceBEq, ptr, res_one, res_ro, List.append_nil, Int.toNat_zero, Nat.sub_self, resRow, res_eqr, List.getElem!_toArray, res_0, res_1, res_2, res_eql]; refine hk _ ?_; clear hk k; try show Sat _ _ _ _ _)
  (repeat refine Sat.seq ?_)
  (refine Sat.region_k fun k hk => ?_; simp -implicitDefEqProofs only [evr, ty, rPick, rIbin, rBin, wideB, eqB, strB, rUn, rConv, rFieldAddr, rIndexAddr, rLoad, rField, rLen, rCap, rMax, rMin, rSlice, isRow, WCut, WZer, rBuild, toB, asRead, asAny, bound, flatOk, flat, lay, fillS, placesOf, id, reduceCtorEq, reduceIte, Nat.reduceMul, Nat.reduceAdd, Nat.reduceLT, Nat.reduceLeDiff, Nat.reduceEqDiff, Int.reduceLT, thenK, blockK, retK, resHolds, resVR, VR.holds, roArg, roPtr, roArgS, roSl, Int.reduceBEq, Int.reduceBNe, frz, frzOne, rNilCheck, rIndex, retM, retMK, argM, WClr, WBT, keepW, Nat.reduceBEq, ptr, res_one, res_ro, List.append_nil, Int.toNat_zero, Nat.sub_self, resRow, res_eqr, List.getElem!_toArray, res_0, res_1, res_2, res_eql])
  refine wcall_plain (awakeC Frm.nil) rfl (by rintro _ rfl; exact ok_plain rfl) ?_
  rintro r rfl
  simp -implicitDefEqProofs only [evr, ty, rPick, rIbin, rBin, wideB, eqB, strB, rUn, rConv, rFieldAddr, rIndexAddr, rLoad, rField, rLen, rCap, rMax, rMin, rSlice, isRow, WCut, WZer, rBuild, toB, asRead, asAny, bound, flatOk, flat, lay, fillS, placesOf, id, reduceCtorEq, reduceIte, Nat.reduceMul, Nat.reduceAdd, Nat.reduceLT, Nat.reduceLeDiff, Nat.reduceEqDiff, Int.reduceLT, thenK, blockK, retK, resHolds, resVR, VR.holds, roArg, roPtr, roArgS, roSl, Int.reduceBEq, Int.reduceBNe, frz, frzOne, rNilCheck, rIndex, retM, retMK, argM, WClr, WBT, keepW, Nat.reduceBEq, ptr, res_one, res_ro, List.append_nil, Int.toNat_zero, Nat.sub_self, resRow, res_eqr, List.getElem!_toArray, res_0, res_1, res_2, res_eql]
  (refine hk _ ?_; clear hk k; try show Sat _ _ _ _ _)
  (repeat refine Sat.seq ?_)
  refine Sat.cond_b rfl (fun h => absurd h (by decide)) (fun _ => ?_)
  refine Sat.skip ?_
  simp only [thenK]
  refine Sat.seq ?_
  (refine Sat.region_k fun k hk => ?_; simp -implicitDefEqProofs only [evr, ty, rPick, rIbin, rBin, wideB, eqB, strB, rUn, rConv, rFieldAddr, rIndexAddr, rLoad, rField, rLen, rCap, rMax, rMin, rSlice, isRow, WCut, WZer, rBuild, toB, asRead, asAny, bound, flatOk, flat, lay, fillS, placesOf, id, reduceCtorEq, reduceIte, Nat.reduceMul, Nat.reduceAdd, Nat.reduceLT, Nat.reduceLeDiff, Nat.reduceEqDiff, Int.reduceLT, thenK, blockK, retK, resHolds, resVR, VR.holds, roArg, roPtr, roArgS, roSl, Int.reduceBEq, Int.reduceBNe, frz, frzOne, rNilCheck, rIndex, retM, retMK, argM, WClr, WBT, keepW, Nat.reduceBEq, ptr, res_one, res_ro, List.append_nil, Int.toNat_zero, Nat.sub_self, resRow, res_eqr, List.getElem!_toArray, res_0, res_1, res_2, res_eql])
  refine wcall_make (newRC (slB a cap z) hb 600 (by decide)) ?_
  intro cb
  simp -implicitDefEqProofs only [evr, ty, rPick, rIbin, rBin, wideB, eqB, strB, rUn, rConv, rFieldAddr, rIndexAddr, rLoad, rField, rLen, rCap, rMax, rMin, rSlice, isRow, WCut, WZer, rBuild, toB, asRead, asAny, bound, flatOk, flat, lay, fillS, placesOf, id, reduceCtorEq, reduceIte, Nat.reduceMul, Nat.reduceAdd, Nat.reduceLT, Nat.reduceLeDiff, Nat.reduceEqDiff, Int.reduceLT, thenK, blockK, retK, resHolds, resVR, VR.holds, roArg, roPtr, roArgS, roSl, Int.reduceBEq, Int.reduceBNe, frz, frzOne, rNilCheck, rIndex, retM, retMK, argM, WClr, WBT, keepW, Nat.reduceBEq, ptr, res_one, res_ro, List.append_nil, Int.toNat_zero, Nat.sub_self, resRow, res_eqr, List.getElem!_toArray, res_0, res_1, res_2, res_eql]
  (refine hk _ ?_; clear hk k; try show Sat _ _ _ _ _)
  refine Sat.switch (cb := cb) (id := 0) (F' := Frm.codes cb) (fun b => Iff.rfl) rfl ?_
  (repeat refine Sat.seq ?_)
  (refine Sat.region_k fun k hk => ?_; simp -implicitDefEqProofs only [evr, ty, rPick, rIbin, rBin, wideB, eqB, strB, rUn, rConv, rFieldAddr, rIndexAddr, rLoad, rField, rLen, rCap, rMax, rMin, rSlice, isRow, WCut, WZer, rBuild, toB, asRead, asAny, bound, flatOk, flat, lay, fillS, placesOf, id, reduceCtorEq, reduceIte, Nat.reduceMul, Nat.reduceAdd, Nat.reduceLT, Nat.reduceLeDiff, Nat.reduceEqDiff, Int.reduceLT, thenK, blockK, retK, resHolds, resVR, VR.holds, roArg, roPtr, roArgS, roSl, Int.reduceBEq, Int.reduceBNe, frz, frzOne, rNilCheck, rIndex, retM, retMK, argM, WClr, WBT, keepW, Nat.reduceBEq, ptr, res_one, res_ro, List.append_nil, Int.toNat_zero, Nat.sub_self, resRow, res_eqr, List.getElem!_toArray, res_0, res_1, res_2, res_eql])
  refine wcall_new (resultsC cb 12 (by decide)) rfl rfl ?_
  rintro ra ty len rc sz rrd ⟨ra', rc', l, hl, hck, e⟩
  simp only [resRow, Own.row.injEq] at e
  obtain ⟨rfl, rfl, rfl, rfl, rfl, rfl⟩ := e
  simp -implicitDefEqProofs only [evr, ty, rPick, rIbin, rBin, wideB, eqB, strB, rUn, rConv, rFieldAddr, rIndexAddr, rLoad, rField, rLen, rCap, rMax, rMin, rSlice, isRow, WCut, WZer, rBuild, toB, asRead, asAny, bound, flatOk, flat, lay, fillS, placesOf, id, reduceCtorEq, reduceIte, Nat.reduceMul, Nat.reduceAdd, Nat.reduceLT, Nat.reduceLeDiff, Nat.reduceEqDiff, Int.reduceLT, thenK, blockK, retK, resHolds, resVR, VR.holds, roArg, roPtr, roArgS, roSl, Int.reduceBEq, Int.reduceBNe, frz, frzOne, rNilCheck, rIndex, retM, retMK, argM, WClr, WBT, keepW, Nat.reduceBEq, ptr, res_one, res_ro, List.append_nil, Int.toNat_zero, Nat.sub_self, resRow, res_eqr, List.getElem!_toArray, res_0, res_1, res_2, res_eql]
  (refine hk _ ?_; clear hk k; try show Sat _ _ _ _ _)
  refine Sat.settle2 4 rfl rfl ?_
  simp -implicitDefEqProofs only [evr, ty, rPick, rIbin, rBin, wideB, eqB, strB, rUn, rConv, rFieldAddr, rIndexAddr, rLoad, rField, rLen, rCap, rMax, rMin, rSlice, isRow, WCut, WZer, rBuild, toB, asRead, asAny, bound, flatOk, flat, lay, fillS, placesOf, id, reduceCtorEq, reduceIte, Nat.reduceMul, Nat.reduceAdd, Nat.reduceLT, Nat.reduceLeDiff, Nat.reduceEqDiff, Int.reduceLT, thenK, blockK, retK, resHolds, resVR, VR.holds, roArg, roPtr, roArgS, roSl, Int.reduceBEq, Int.reduceBNe, frz, frzOne, rNilCheck, rIndex, retM, retMK, argM, WClr, WBT, keepW, Nat.reduceBEq, ptr, res_one, res_ro, List.append_nil, Int.toNat_zero, Nat.sub_self, resRow, res_eqr, List.getElem!_toArray, res_0, res_1, res_2, res_eql]
  refine Sat.le (st' := ⟨144, [(4, .sl ra l.length rc 17 (resRd l.toArray))], []⟩) ?_ (by simp -implicitDefEqProofs only [evr, ty, rPick, rIbin, rBin, wideB, eqB, strB, rUn, rConv, rFieldAddr, rIndexAddr, rLoad, rField, rLen, rCap, rMax, rMin, rSlice, isRow, WCut, WZer, rBuild, toB, asRead, asAny, bound, flatOk, flat, lay, fillS, placesOf, id, reduceCtorEq, reduceIte, Nat.reduceMul, Nat.reduceAdd, Nat.reduceLT, Nat.reduceLeDiff, Nat.reduceEqDiff, Int.reduceLT, thenK, blockK, retK, resHolds, resVR, VR.holds, roArg, roPtr, roArgS, roSl, Int.reduceBEq, Int.reduceBNe, frz, frzOne, rNilCheck, rIndex, retM, retMK, argM, WClr, WBT, keepW, Nat.reduceBEq, ptr, res_one, res_ro, List.append_nil, Int.toNat_zero, Nat.sub_self, resRow, res_eqr, List.getElem!_toArray, res_0, res_1, res_2, res_eql, Le, envLe, ownLe, Own.le, Option.some.injEq, eq_self, true_or, false_or, or_false, exists_eq_left', exists_eq_left, exists_eq, exists_eq', SV.i.injEq, SV.b.injEq, rdEq_same, exists_false, and_false, false_and])
  (repeat refine Sat.seq ?_)
  (refine Sat.region_k fun k hk => ?_; simp -implicitDefEqProofs only [evr, ty, rPick, rIbin, rBin, wideB, eqB, strB, rUn, rConv, rFieldAddr, rIndexAddr, rLoad, rField, rLen, rCap, rMax, rMin, rSlice, isRow, WCut, WZer, rBuild, toB, asRead, asAny, bound, flatOk, flat, lay, fillS, placesOf, id, reduceCtorEq, reduceIte, Nat.reduceMul, Nat.reduceAdd, Nat.reduceLT, Nat.reduceLeDiff, Nat.reduceEqDiff, Int.reduceLT, thenK, blockK, retK, resHolds, resVR, VR.holds, roArg, roPtr, roArgS, roSl, Int.reduceBEq, Int.reduceBNe, frz, frzOne, rNilCheck, rIndex, retM, retMK, argM, WClr, WBT, keepW, Nat.reduceBEq, ptr, res_one, res_ro, List.append_nil, Int.toNat_zero, Nat.sub_self, resRow, res_eqr, List.getElem!_toArray, res_0, res_1, res_2, res_eql])
  refine wcall_slice (Contract.of_sim (args := [_, _]) (addC (Frm.codes cb) led0 (Nat.zero_le _) ra rc l (by show 0 + l.length ≤ 1000000000; omega)) ⟨led0_sim _ _, sim_refl _, trivial⟩) rfl (by simp -implicitDefEqProofs only [evr, ty, rPick, rIbin, rBin, wideB, eqB, strB, rUn, rConv, rFieldAddr, rIndexAddr, rLoad, rField, rLen, rCap, rMax, rMin, rSlice, isRow, WCut, WZer, rBuild, toB, asRead, asAny, bound, flatOk, flat, lay, fillS, placesOf, id, reduceCtorEq, reduceIte, Nat.reduceMul, Nat.reduceAdd, Nat.reduceLT, Nat.reduceLeDiff, Nat.reduceEqDiff, Int.reduceLT, thenK, blockK, retK, resHolds, resVR, VR.holds, roArg, roPtr, roArgS, roSl, Int.reduceBEq, Int.reduceBNe, frz, frzOne, rNilCheck, rIndex, retM, retMK, argM, WClr, WBT, keepW, Nat.reduceBEq, ptr, res_one, res_ro, List.append_nil, Int.toNat_zero, Nat.sub_self, resRow, res_eqr, List.getElem!_toArray, res_0, res_1, res_2, res_eql]; rfl) ?_
  rintro r ⟨p, c, e, g1, g2, g3, g4, rfl⟩
  have hcl : c.length ≤ 12 := by
    have : (led0.led.all ++ l).length = l.length := by simp [led0, LedP.led, Led.all]
    omega
  have hcan : Canon c l := ⟨g1.asc, g1.mem⟩
  obtain ⟨_, rfl, hled⟩ : c.length ≤ 16384 ∧ e = 0 ∧ p.led = ledOf c := by
    rcases g3 with h3 | h3
    · exact h3
    · exact absurd h3.1 (by omega)
  have hrs : p.rs = (ledOf c).rs := congrArg Led.rs hled
  have hasc : asc p.rs := by rw [hrs]; exact asc_rs g1.asc
  have hrl : p.rs.length ≤ 12 := by
    have h1 : p.led.size = c.length := by rw [hled, ledOf_size]
    rw [size_eq] at h1
    omega
  simp -implicitDefEqProofs only [evr, ty, rPick, rIbin, rBin, wideB, eqB, strB, rUn, rConv, rFieldAddr, rIndexAddr, rLoad, rField, rLen, rCap, rMax, rMin, rSlice, isRow, WCut, WZer, rBuild, toB, asRead, asAny, bound, flatOk, flat, lay, fillS, placesOf, id, reduceCtorEq, reduceIte, Nat.reduceMul, Nat.reduceAdd, Nat.reduceLT, Nat.reduceLeDiff, Nat.reduceEqDiff, Int.reduceLT, thenK, blockK, retK, resHolds, resVR, VR.holds, roArg, roPtr, roArgS, roSl, Int.reduceBEq, Int.reduceBNe, frz, frzOne, rNilCheck, rIndex, retM, retMK, argM, WClr, WBT, keepW, Nat.reduceBEq, ptr, res_one, res_ro, List.append_nil, Int.toNat_zero, Nat.sub_self, resRow, res_eqr, List.getElem!_toArray, res_0, res_1, res_2, res_eql, ledS]
  intro blk5
  (refine hk _ ?_; clear hk k; try show Sat _ _ _ _ _)
  (repeat refine Sat.seq ?_)
  (refine Sat.region_k fun k hk => ?_; simp -implicitDefEqProofs only [evr, ty, rPick, rIbin, rBin, wideB, eqB, strB, rUn, rConv, rFieldAddr, rIndexAddr, rLoad, rField, rLen, rCap, rMax, rMin, rSlice, isRow, WCut, WZer, rBuild, toB, asRead, asAny, bound, flatOk, flat, lay, fillS, placesOf, id, reduceCtorEq, reduceIte, Nat.reduceMul, Nat.reduceAdd, Nat.reduceLT, Nat.reduceLeDiff, Nat.reduceEqDiff, Int.reduceLT, thenK, blockK, retK, resHolds, resVR, VR.holds, roArg, roPtr, roArgS, roSl, Int.reduceBEq, Int.reduceBNe, frz, frzOne, rNilCheck, rIndex, retM, retMK, argM, WClr, WBT, keepW, Nat.reduceBEq, ptr, res_one, res_ro, List.append_nil, Int.toNat_zero, Nat.sub_self, resRow, res_eqr, List.getElem!_toArray, res_0, res_1, res_2, res_eql]; refine hk _ ?_; clear hk k; try show Sat _ _ _ _ _)
  (repeat refine Sat.seq ?_)
  refine Sat.cond_b rfl (fun h => absurd h (by decide)) (fun _ => ?_)
  refine Sat.skip ?_
  simp only [thenK]
  (repeat refine Sat.seq ?_)
  (refine Sat.region_k fun k hk => ?_; simp -implicitDefEqProofs only [evr, ty, rPick, rIbin, rBin, wideB, eqB, strB, rUn, rConv, rFieldAddr, rIndexAddr, rLoad, rField, rLen, rCap, rMax, rMin, rSlice, isRow, WCut, WZer, rBuild, toB, asRead, asAny, bound, flatOk, flat, lay, fillS, placesOf, id, reduceCtorEq, reduceIte, Nat.reduceMul, Nat.reduceAdd, Nat.reduceLT, Nat.reduceLeDiff, Nat.reduceEqDiff, Int.reduceLT, thenK, blockK, retK, resHolds, resVR, VR.holds, roArg, roPtr, roArgS, roSl, Int.reduceBEq, Int.reduceBNe, frz, frzOne, rNilCheck, rIndex, retM, retMK, argM, WClr, WBT, keepW, Nat.reduceBEq, ptr, res_one, res_ro, List.append_nil, Int.toNat_zero, Nat.sub_self, resRow, res_eqr, List.getElem!_toArray, res_0, res_1, res_2, res_eql]; refine hk _ ?_; clear hk k; try show Sat _ _ _ _ _)
  (repeat refine Sat.seq ?_)
  refine Sat.block ?_
  refine Sat.loop (ι := Nat) (fun i => ⟨144, [(7, .i .i64 i), (4, .sl ra l.length rc 17 (resRd l.toArray)), (5, .op 0 blk5 0)], [.box blk5 30 [.sl p.a0 p.rs.length p.c0 17 (resRd p.rs.toArray), .sl p.a1 p.cs.length p.c1 4 (cftRd p.cs)]]⟩)
    (fun i => i ≤ l.length) (fun i => l.length - i) 0 (Nat.zero_le _) (by simp -implicitDefEqProofs only [evr, ty, rPick, rIbin, rBin, wideB, eqB, strB, rUn, rConv, rFieldAddr, rIndexAddr, rLoad, rField, rLen, rCap, rMax, rMin, rSlice, isRow, WCut, WZer, rBuild, toB, asRead, asAny, bound, flatOk, flat, lay, fillS, placesOf, id, reduceCtorEq, reduceIte, Nat.reduceMul, Nat.reduceAdd, Nat.reduceLT, Nat.reduceLeDiff, Nat.reduceEqDiff, Int.reduceLT, thenK, blockK, retK, resHolds, resVR, VR.holds, roArg, roPtr, roArgS, roSl, Int.reduceBEq, Int.reduceBNe, frz, frzOne, rNilCheck, rIndex, retM, retMK, argM, WClr, WBT, keepW, Nat.reduceBEq, ptr, res_one, res_ro, List.append_nil, Int.toNat_zero, Nat.sub_self, resRow, res_eqr, List.getElem!_toArray, res_0, res_1, res_2, res_eql, Le, envLe, ownLe, Own.le, Option.some.injEq, eq_self, true_or, false_or, or_false, exists_eq_left', exists_eq_left, exists_eq, exists_eq', SV.i.injEq, SV.b.injEq, rdEq_same, exists_false, and_false, false_and]; rfl) ?_
  intro i hi
  (repeat refine Sat.seq ?_)
  (refine Sat.region_k fun k hk => ?_; simp -implicitDefEqProofs only [evr, ty, rPick, rIbin, rBin, wideB, eqB, strB, rUn, rConv, rFieldAddr, rIndexAddr, rLoad, rField, rLen, rCap, rMax, rMin, rSlice, isRow, WCut, WZer, rBuild, toB, asRead, asAny, bound, flatOk, flat, lay, fillS, placesOf, id, reduceCtorEq, reduceIte, Nat.reduceMul, Nat.reduceAdd, Nat.reduceLT, Nat.reduceLeDiff, Nat.reduceEqDiff, Int.reduceLT, thenK, blockK, retK, resHolds, resVR, VR.holds, roArg, roPtr, roArgS, roSl, Int.reduceBEq, Int.reduceBNe, frz, frzOne, rNilCheck, rIndex, retM, retMK, argM, WClr, WBT, keepW, Nat.reduceBEq, ptr, res_one, res_ro, List.append_nil, Int.toNat_zero, Nat.sub_self, resRow, res_eqr, List.getElem!_toArray, res_0, res_1, res_2, res_eql]; refine hk _ ?_; clear hk k; try show Sat _ _ _ _ _)
  (repeat refine Sat.seq ?_)
  refine Sat.cond_b rfl (fun h => ?_) (fun h => ?_)
  · have h1 : i < l.length := by simp only [decide_eq_true_eq] at h; omega
    have e3 : IntKind.i64.wrap ((i : Int) + 1) = ((i + 1 : Nat) : Int) := by rw [w64 (by omega)]; omega
    obtain ⟨hf1, hf2⟩ := find_only hcan hrs h1
    refine Sat.skip ?_
    simp only [thenK]
    (repeat refine Sat.seq ?_)
    refine Sat.block ?_
    (repeat refine Sat.seq ?_)
    (refine Sat.region_k fun k hk => ?_; simp -implicitDefEqProofs only [evr, ty, rPick, rIbin, rBin, wideB, eqB, strB, rUn, rConv, rFieldAddr, rIndexAddr, rLoad, rField, rLen, rCap, rMax, rMin, rSlice, isRow, WCut, WZer, rBuild, toB, asRead, asAny, bound, flatOk, flat, lay, fillS, placesOf, id, reduceCtorEq, reduceIte, Nat.reduceMul, Nat.reduceAdd, Nat.reduceLT, Nat.reduceLeDiff, Nat.reduceEqDiff, Int.reduceLT, thenK, blockK, retK, resHolds, resVR, VR.holds, roArg, roPtr, roArgS, roSl, Int.reduceBEq, Int.reduceBNe, frz, frzOne, rNilCheck, rIndex, retM, retMK, argM, WClr, WBT, keepW, Nat.reduceBEq, ptr, res_one, res_ro, List.append_nil, Int.toNat_zero, Nat.sub_self, resRow, res_eqr, List.getElem!_toArray, res_0, res_1, res_2, res_eql]; refine hk _ ?_; clear hk k; try show Sat _ _ _ _ _)
    (repeat refine Sat.seq ?_)
    (refine Sat.region_k fun k hk => ?_; simp -implicitDefEqProofs only [evr, ty, rPick, rIbin, rBin, wideB, eqB, strB, rUn, rConv, rFieldAddr, rIndexAddr, rLoad, rField, rLen, rCap, rMax, rMin, rSlice, isRow, WCut, WZer, rBuild, toB, asRead, asAny, bound, flatOk, flat, lay, fillS, placesOf, id, reduceCtorEq, reduceIte, Nat.reduceMul, Nat.reduceAdd, Nat.reduceLT, Nat.reduceLeDiff, Nat.reduceEqDiff, Int.reduceLT, thenK, blockK, retK, resHolds, resVR, VR.holds, roArg, roPtr, roArgS, roSl, Int.reduceBEq, Int.reduceBNe, frz, frzOne, rNilCheck, rIndex, retM, retMK, argM, WClr, WBT, keepW, Nat.reduceBEq, ptr, res_one, res_ro, List.append_nil, Int.toNat_zero, Nat.sub_self, resRow, res_eqr, List.getElem!_toArray, res_0, res_1, res_2, res_eql]; refine hk _ ?_; clear hk k; try show Sat _ _ _ _ _)
    (repeat refine Sat.seq ?_)
    refine Sat.block ?_
    refine Sat.loop (ι := Nat × Bool) (fun x => ⟨144, [(8, .b x.2), (9, .i .i64 x.1), (7, .i .i64 i), (4, .sl ra l.length rc 17 (resRd l.toArray)), (5, .op 0 blk5 0)], [.box blk5 30 [.sl p.a0 p.rs.length p.c0 17 (resRd p.rs.toArray), .sl p.a1 p.cs.length p.c1 4 (cftRd p.cs)]]⟩)
      (fun x => x.1 ≤ l.length ∧ (x.2 = true ↔ onlyP l l[i]! x.1)) (fun x => l.length - x.1) (0, true) ⟨Nat.zero_le _, by simp [onlyP]⟩ (by simp -implicitDefEqProofs only [evr, ty, rPick, rIbin, rBin, wideB, eqB, strB, rUn, rConv, rFieldAddr, rIndexAddr, rLoad, rField, rLen, rCap, rMax, rMin, rSlice, isRow, WCut, WZer, rBuild, toB, asRead, asAny, bound, flatOk, flat, lay, fillS, placesOf, id, reduceCtorEq, reduceIte, Nat.reduceMul, Nat.reduceAdd, Nat.reduceLT, Nat.reduceLeDiff, Nat.reduceEqDiff, Int.reduceLT, thenK, blockK, retK, resHolds, resVR, VR.holds, roArg, roPtr, roArgS, roSl, Int.reduceBEq, Int.reduceBNe, frz, frzOne, rNilCheck, rIndex, retM, retMK, argM, WClr, WBT, keepW, Nat.reduceBEq, ptr, res_one, res_ro, List.append_nil, Int.toNat_zero, Nat.sub_self, resRow, res_eqr, List.getElem!_toArray, res_0, res_1, res_2, res_eql, Le, envLe, ownLe, Own.le, Option.some.injEq, eq_self, true_or, false_or, or_false, exists_eq_left', exists_eq_left, exists_eq, exists_eq', SV.i.injEq, SV.b.injEq, rdEq_same, exists_false, and_false, false_and]; first | rfl | trace_state) ?_
    rintro ⟨k', b⟩ ⟨hk1, hk2⟩
    simp only at hk1 hk2 ⊢
    (repeat refine Sat.seq ?_)
    (refine Sat.region_k fun k hk => ?_; simp -implicitDefEqProofs only [evr, ty, rPick, rIbin, rBin, wideB, eqB, strB, rUn, rConv, rFieldAddr, rIndexAddr, rLoad, rField, rLen, rCap, rMax, rMin, rSlice, isRow, WCut, WZer, rBuild, toB, asRead, asAny, bound, flatOk, flat, lay, fillS, placesOf, id, reduceCtorEq, reduceIte, Nat.reduceMul, Nat.reduceAdd, Nat.reduceLT, Nat.reduceLeDiff, Nat.reduceEqDiff, Int.reduceLT, thenK, blockK, retK, resHolds, resVR, VR.holds, roArg, roPtr, roArgS, roSl, Int.reduceBEq, Int.reduceBNe, frz, frzOne, rNilCheck, rIndex, retM, retMK, argM, WClr, WBT, keepW, Nat.reduceBEq, ptr, res_one, res_ro, List.append_nil, Int.toNat_zero, Nat.sub_self, resRow, res_eqr, List.getElem!_toArray, res_0, res_1, res_2, res_eql]; refine hk _ ?_; clear hk k; try show Sat _ _ _ _ _)
    (repeat refine Sat.seq ?_)
    refine Sat.cond_b rfl (fun h => ?_) (fun h => ?_)
    · have h2 : k' < l.length := by simp only [decide_eq_true_eq] at h; omega
      have e4 : IntKind.i64.wrap ((k' : Int) + 1) = ((k' + 1 : Nat) : Int) := by rw [w64 (by omega)]; omega
      refine Sat.skip ?_
      simp only [thenK]
      (repeat refine Sat.seq ?_)
      refine Sat.block ?_
      refine Sat.region_qat (by kernel_rfl) (by kernel_rfl) ⟨144, [(8, .b (b && (decide (l[k']! = l[i]!) || !decide ((l[k']!).idk = (l[i]!).idk)))), (9, .i .i64 k'), (7, .i .i64 i), (4, .sl ra l.length rc 17 (resRd l.toArray)), (5, .op 0 blk5 0)], [.box blk5 30 [.sl p.a0 p.rs.length p.c0 17 (resRd p.rs.toArray), .sl p.a1 p.cs.length p.c1 4 (cftRd p.cs)]]⟩ (fun k hk => ?_) ?_
      · simp -implicitDefEqProofs only [evr, ty, rPick, rIbin, rBin, wideB, eqB, strB, rUn, rConv, rFieldAddr, rIndexAddr, rLoad, rField, rLen, rCap, rMax, rMin, rSlice, isRow, WCut, WZer, rBuild, toB, asRead, asAny, bound, flatOk, flat, lay, fillS, placesOf, id, reduceCtorEq, reduceIte, Nat.reduceMul, Nat.reduceAdd, Nat.reduceLT, Nat.reduceLeDiff, Nat.reduceEqDiff, Int.reduceLT, thenK, blockK, retK, resHolds, resVR, VR.holds, roArg, roPtr, roArgS, roSl, Int.reduceBEq, Int.reduceBNe, frz, frzOne, rNilCheck, rIndex, retM, retMK, argM, WClr, WBT, keepW, Nat.reduceBEq, ptr, res_one, res_ro, List.append_nil, Int.toNat_zero, Nat.sub_self, resRow, res_eqr, List.getElem!_toArray, res_0, res_1, res_2, res_eql]
        refine ⟨fun hb1 => ⟨by omega, by omega, fun q1 => ?_, fun q1 => ⟨by omega, by omega, fun q2 => ?_, fun q2 => ⟨by omega, by omega, fun q3 => ?_, fun q3 => ⟨by omega, by omega, ?_⟩⟩⟩⟩, fun hb1 => ?_⟩
        · refine hk _ ?_
          have e : (b && (decide (l[k']! = l[i]!) || !decide ((l[k']!).idk = (l[i]!).idk))) = true := by rw [hb1, decide_eq_true q1]; rfl
          simp only [e]
          simp -implicitDefEqProofs only [evr, ty, rPick, rIbin, rBin, wideB, eqB, strB, rUn, rConv, rFieldAddr, rIndexAddr, rLoad, rField, rLen, rCap, rMax, rMin, rSlice, isRow, WCut, WZer, rBuild, toB, asRead, asAny, bound, flatOk, flat, lay, fillS, placesOf, id, reduceCtorEq, reduceIte, Nat.reduceMul, Nat.reduceAdd, Nat.reduceLT, Nat.reduceLeDiff, Nat.reduceEqDiff, Int.reduceLT, thenK, blockK, retK, resHolds, resVR, VR.holds, roArg, roPtr, roArgS, roSl, Int.reduceBEq, Int.reduceBNe, frz, frzOne, rNilCheck, rIndex, retM, retMK, argM, WClr, WBT, keepW, Nat.reduceBEq, ptr, res_one, res_ro, List.append_nil, Int.toNat_zero, Nat.sub_self, resRow, res_eqr, List.getElem!_toArray, res_0, res_1, res_2, res_eql, Le, envLe, ownLe, Own.le, Option.some.injEq, eq_self, true_or, false_or, or_false, exists_eq_left', exists_eq_left, exists_eq, exists_eq', SV.i.injEq, SV.b.injEq, rdEq_same, exists_false, and_false, false_and]
        · refine hk _ ?_
          have e : (b && (decide (l[k']! = l[i]!) || !decide ((l[k']!).idk = (l[i]!).idk))) = true := by
            have hn : ¬ (l[k']!).idk = (l[i]!).idk := fun h => bne_iff_ne.1 q2 ((idk_eq _ _).1 h).1
            rw [hb1, decide_eq_false hn]; simp
          simp only [e]
          simp -implicitDefEqProofs only [evr, ty, rPick, rIbin, rBin, wideB, eqB, strB, rUn, rConv, rFieldAddr, rIndexAddr, rLoad, rField, rLen, rCap, rMax, rMin, rSlice, isRow, WCut, WZer, rBuild, toB, asRead, asAny, bound, flatOk, flat, lay, fillS, placesOf, id, reduceCtorEq, reduceIte, Nat.reduceMul, Nat.reduceAdd, Nat.reduceLT, Nat.reduceLeDiff, Nat.reduceEqDiff, Int.reduceLT, thenK, blockK, retK, resHolds, resVR, VR.holds, roArg, roPtr, roArgS, roSl, Int.reduceBEq, Int.reduceBNe, frz, frzOne, rNilCheck, rIndex, retM, retMK, argM, WClr, WBT, keepW, Nat.reduceBEq, ptr, res_one, res_ro, List.append_nil, Int.toNat_zero, Nat.sub_self, resRow, res_eqr, List.getElem!_toArray, res_0, res_1, res_2, res_eql, Le, envLe, ownLe, Own.le, Option.some.injEq, eq_self, true_or, false_or, or_false, exists_eq_left', exists_eq_left, exists_eq, exists_eq', SV.i.injEq, SV.b.injEq, rdEq_same, exists_false, and_false, false_and]
        · refine hk _ ?_
          have e : (b && (decide (l[k']! = l[i]!) || !decide ((l[k']!).idk = (l[i]!).idk))) = true := by
            have hn : ¬ (l[k']!).idk = (l[i]!).idk := fun h => bne_iff_ne.1 q3 ((idk_eq _ _).1 h).2.1
            rw [hb1, decide_eq_false hn]; simp
          simp only [e]
          simp -implicitDefEqProofs only [evr, ty, rPick, rIbin, rBin, wideB, eqB, strB, rUn, rConv, rFieldAddr, rIndexAddr, rLoad, rField, rLen, rCap, rMax, rMin, rSlice, isRow, WCut, WZer, rBuild, toB, asRead, asAny, bound, flatOk, flat, lay, fillS, placesOf, id, reduceCtorEq, reduceIte, Nat.reduceMul, Nat.reduceAdd, Nat.reduceLT, Nat.reduceLeDiff, Nat.reduceEqDiff, Int.reduceLT, thenK, blockK, retK, resHolds, resVR, VR.holds, roArg, roPtr, roArgS, roSl, Int.reduceBEq, Int.reduceBNe, frz, frzOne, rNilCheck, rIndex, retM, retMK, argM, WClr, WBT, keepW, Nat.reduceBEq, ptr, res_one, res_ro, List.append_nil, Int.toNat_zero, Nat.sub_self, resRow, res_eqr, List.getElem!_toArray, res_0, res_1, res_2, res_eql, Le, envLe, ownLe, Own.le, Option.some.injEq, eq_self, true_or, false_or, or_false, exists_eq_left', exists_eq_left, exists_eq, exists_eq', SV.i.injEq, SV.b.injEq, rdEq_same, exists_false, and_false, false_and]
        · refine hk _ ?_
          have e : (b && (decide (l[k']! = l[i]!) || !decide ((l[k']!).idk = (l[i]!).idk))) = ((l[k']!).number != (l[i]!).number) := by rw [hb1, decide_eq_false q1]; simp only [bne_eq_false_iff_eq] at q2 q3; simp only [idk_eq, q2, q3, true_and, Bool.true_and, Bool.false_or]; rfl
          simp only [e]
          simp -implicitDefEqProofs only [evr, ty, rPick, rIbin, rBin, wideB, eqB, strB, rUn, rConv, rFieldAddr, rIndexAddr, rLoad, rField, rLen, rCap, rMax, rMin, rSlice, isRow, WCut, WZer, rBuild, toB, asRead, asAny, bound, flatOk, flat, lay, fillS, placesOf, id, reduceCtorEq, reduceIte, Nat.reduceMul, Nat.reduceAdd, Nat.reduceLT, Nat.reduceLeDiff, Nat.reduceEqDiff, Int.reduceLT, thenK, blockK, retK, resHolds, resVR, VR.holds, roArg, roPtr, roArgS, roSl, Int.reduceBEq, Int.reduceBNe, frz, frzOne, rNilCheck, rIndex, retM, retMK, argM, WClr, WBT, keepW, Nat.reduceBEq, ptr, res_one, res_ro, List.append_nil, Int.toNat_zero, Nat.sub_self, resRow, res_eqr, List.getElem!_toArray, res_0, res_1, res_2, res_eql, Le, envLe, ownLe, Own.le, Option.some.injEq, eq_self, true_or, false_or, or_false, exists_eq_left', exists_eq_left, exists_eq, exists_eq', SV.i.injEq, SV.b.injEq, rdEq_same, exists_false, and_false, false_and]
        · refine hk _ ?_
          have e : (b && (decide (l[k']! = l[i]!) || !decide ((l[k']!).idk = (l[i]!).idk))) = false := by rw [hb1]; rfl
          simp only [e]
          simp -implicitDefEqProofs only [evr, ty, rPick, rIbin, rBin, wideB, eqB, strB, rUn, rConv, rFieldAddr, rIndexAddr, rLoad, rField, rLen, rCap, rMax, rMin, rSlice, isRow, WCut, WZer, rBuild, toB, asRead, asAny, bound, flatOk, flat, lay, fillS, placesOf, id, reduceCtorEq, reduceIte, Nat.reduceMul, Nat.reduceAdd, Nat.reduceLT, Nat.reduceLeDiff, Nat.reduceEqDiff, Int.reduceLT, thenK, blockK, retK, resHolds, resVR, VR.holds, roArg, roPtr, roArgS, roSl, Int.reduceBEq, Int.reduceBNe, frz, frzOne, rNilCheck, rIndex, retM, retMK, argM, WClr, WBT, keepW, Nat.reduceBEq, ptr, res_one, res_ro, List.append_nil, Int.toNat_zero, Nat.sub_self, resRow, res_eqr, List.getElem!_toArray, res_0, res_1, res_2, res_eql, Le, envLe, ownLe, Own.le, Option.some.injEq, eq_self, true_or, false_or, or_false, exists_eq_left', exists_eq_left, exists_eq, exists_eq', SV.i.injEq, SV.b.injEq, rdEq_same, exists_false, and_false, false_and]
      simp only [thenK, blockK]
      refine Sat.region_k fun k hk => ?_
      simp -implicitDefEqProofs only [evr, ty, rPick, rIbin, rBin, wideB, eqB, strB, rUn, rConv, rFieldAddr, rIndexAddr, rLoad, rField, rLen, rCap, rMax, rMin, rSlice, isRow, WCut, WZer, rBuild, toB, asRead, asAny, bound, flatOk, flat, lay, fillS, placesOf, id, reduceCtorEq, reduceIte, Nat.reduceMul, Nat.reduceAdd, Nat.reduceLT, Nat.reduceLeDiff, Nat.reduceEqDiff, Int.reduceLT, thenK, blockK, retK, resHolds, resVR, VR.holds, roArg, roPtr, roArgS, roSl, Int.reduceBEq, Int.reduceBNe, frz, frzOne, rNilCheck, rIndex, retM, retMK, argM, WClr, WBT, keepW, Nat.reduceBEq, ptr, res_one, res_ro, List.append_nil, Int.toNat_zero, Nat.sub_self, resRow, res_eqr, List.getElem!_toArray, res_0, res_1, res_2, res_eql, e4]
      refine hk _ ?_
      simp only [thenK, blockK]
      refine ⟨(k' + 1, b && (decide (l[k']! = l[i]!) || !decide ((l[k']!).idk = (l[i]!).idk))), ⟨h2, ?_⟩, by show l.length - (k' + 1) < l.length - k'; omega, ?_⟩
      · simp only [Bool.and_eq_true, Bool.or_eq_true, decide_eq_true_eq, Bool.not_eq_true', decide_eq_false_iff_not]
        rw [hk2]
        constructor
        · rintro ⟨h5, h6⟩ q hq
          by_cases e : q = k'
          · subst e; exact h6
          · exact h5 q (by omega)
        · intro h5
          exact ⟨fun q hq => h5 q (by omega), h5 k' (by omega)⟩
      · simp -implicitDefEqProofs only [evr, ty, rPick, rIbin, rBin, wideB, eqB, strB, rUn, rConv, rFieldAddr, rIndexAddr, rLoad, rField, rLen, rCap, rMax, rMin, rSlice, isRow, WCut, WZer, rBuild, toB, asRead, asAny, bound, flatOk, flat, lay, fillS, placesOf, id, reduceCtorEq, reduceIte, Nat.reduceMul, Nat.reduceAdd, Nat.reduceLT, Nat.reduceLeDiff, Nat.reduceEqDiff, Int.reduceLT, thenK, blockK, retK, resHolds, resVR, VR.holds, roArg, roPtr, roArgS, roSl, Int.reduceBEq, Int.reduceBNe, frz, frzOne, rNilCheck, rIndex, retM, retMK, argM, WClr, WBT, keepW, Nat.reduceBEq, ptr, res_one, res_ro, List.append_nil, Int.toNat_zero, Nat.sub_self, resRow, res_eqr, List.getElem!_toArray, res_0, res_1, res_2, res_eql, Le, envLe, ownLe, Own.le, Option.some.injEq, eq_self, true_or, false_or, or_false, exists_eq_left', exists_eq_left, exists_eq, exists_eq', SV.i.injEq, SV.b.injEq, rdEq_same, exists_false, and_false, false_and]
    · have h2 : k' = l.length := by simp only [decide_eq_false_iff_not] at h; omega
      subst h2
      generalize hfr : findR p.rs (l[i]!).vantage (l[i]!).run (l[i]!).number = fr at hf1 hf2
      have hfr2 : fr = if b = true then some l[i]! else none := by
        cases b with
        | true => exact hf1 (hk2.1 rfl)
        | false => exact hf2 (fun h => by have := hk2.2 h; cases this)
      clear hf1 hf2
      refine Sat.exit ?_
      simp only [thenK, blockK, reduceIte]
      (repeat refine Sat.seq ?_)
      refine Sat.region_treeR (.keep [1, 2, 3, 4, 6, 7, 8, 9, 11, 12, 13, 14, 0, 5, 10, 15] [20] (.alt 20 (.one 16 (.one 17 (.free 18 (.free 19 (.one 21 (.one 22 .done)))))) (.alt 16 (.free 17 (.free 18 (.free 19 (.one 20 (.one 21 (.one 22 .done)))))) .none))) (by kernel_rfl) (by kernel_rfl) (fun _ _ h => h)
        (fun blk : Nat => ⟨144, [(11, .b fr.isSome), (10, .op 1 blk 0), (8, .b b), (7, .i .i64 i), (4, .sl ra l.length rc 17 (resRd l.toArray)), (5, .op 0 blk5 0)], [.box blk5 30 [.sl p.a0 p.rs.length p.c0 17 (resRd p.rs.toArray), .sl p.a1 p.cs.length p.c1 4 (cftRd p.cs)], .box blk 39 (Res.cs (fr.getD default))]⟩) (fun k hk => ?_) ?_
      · simp only [WOT, List.map_cons, List.map_nil, List.getD_cons_zero, List.getD_cons_succ]
        simp -implicitDefEqProofs only [evr, ty, rPick, rIbin, rBin, wideB, eqB, strB, rUn, rConv, rFieldAddr, rIndexAddr, rLoad, rField, rLen, rCap, rMax, rMin, rSlice, isRow, WCut, WZer, rBuild, toB, asRead, asAny, bound, flatOk, flat, lay, fillS, placesOf, id, reduceCtorEq, reduceIte, Nat.reduceMul, Nat.reduceAdd, Nat.reduceLT, Nat.reduceLeDiff, Nat.reduceEqDiff, Int.reduceLT, thenK, blockK, retK, resHolds, resVR, VR.holds, roArg, roPtr, roArgS, roSl, Int.reduceBEq, Int.reduceBNe, frz, frzOne, rNilCheck, rIndex, retM, retMK, argM, WClr, WBT, keepW, Nat.reduceBEq, ptr, res_one, res_ro, List.append_nil, Int.toNat_zero, Nat.sub_self, resRow, res_eqr, List.getElem!_toArray, res_0, res_1, res_2, res_eql, WOT]
        refine ⟨by omega, by omega, by omega, fun blk => ?_, ?_⟩
        · refine wcall_plain (findC (Frm.codes cb) p (by omega) hasc _ _ _) rfl ok_find ?_
          rintro r rfl
          rw [hfr]
          simp -implicitDefEqProofs only [evr, ty, rPick, rIbin, rBin, wideB, eqB, strB, rUn, rConv, rFieldAddr, rIndexAddr, rLoad, rField, rLen, rCap, rMax, rMin, rSlice, isRow, WCut, WZer, rBuild, toB, asRead, asAny, bound, flatOk, flat, lay, fillS, placesOf, id, reduceCtorEq, reduceIte, Nat.reduceMul, Nat.reduceAdd, Nat.reduceLT, Nat.reduceLeDiff, Nat.reduceEqDiff, Int.reduceLT, thenK, blockK, retK, resHolds, resVR, VR.holds, roArg, roPtr, roArgS, roSl, Int.reduceBEq, Int.reduceBNe, frz, frzOne, rNilCheck, rIndex, retM, retMK, argM, WClr, WBT, keepW, Nat.reduceBEq, ptr, res_one, res_ro, List.append_nil, Int.toNat_zero, Nat.sub_self, resRow, res_eqr, List.getElem!_toArray, res_0, res_1, res_2, res_eql, resAg, Res.cs]
          refine hk _ blk [0, 1] ⟨rfl, ?_, by decide, ?_⟩
          all_goals simp -implicitDefEqProofs only [evr, ty, rPick, rIbin, rBin, wideB, eqB, strB, rUn, rConv, rFieldAddr, rIndexAddr, rLoad, rField, rLen, rCap, rMax, rMin, rSlice, isRow, WCut, WZer, rBuild, toB, asRead, asAny, bound, flatOk, flat, lay, fillS, placesOf, id, reduceCtorEq, reduceIte, Nat.reduceMul, Nat.reduceAdd, Nat.reduceLT, Nat.reduceLeDiff, Nat.reduceEqDiff, Int.reduceLT, thenK, blockK, retK, resHolds, resVR, VR.holds, roArg, roPtr, roArgS, roSl, Int.reduceBEq, Int.reduceBNe, frz, frzOne, rNilCheck, rIndex, retM, retMK, argM, WClr, WBT, keepW, Nat.reduceBEq, ptr, res_one, res_ro, List.append_nil, Int.toNat_zero, Nat.sub_self, resRow, res_eqr, List.getElem!_toArray, res_0, res_1, res_2, res_eql, Res.cs, envSim, idSim, ownLe, Own.le, Option.some.injEq, eq_self, true_or, false_or, or_false, exists_eq_left', exists_eq_left, exists_eq, exists_eq', SV.op.injEq, SV.os.injEq, SV.i.injEq, exists_false, and_false, false_and]
        · refine wcall_plain (findC (Frm.codes cb) p (by omega) hasc _ _ _) rfl ok_find ?_
          rintro r rfl
          rw [hfr]
          simp -implicitDefEqProofs only [evr, ty, rPick, rIbin, rBin, wideB, eqB, strB, rUn, rConv, rFieldAddr, rIndexAddr, rLoad, rField, rLen, rCap, rMax, rMin, rSlice, isRow, WCut, WZer, rBuild, toB, asRead, asAny, bound, flatOk, flat, lay, fillS, placesOf, id, reduceCtorEq, reduceIte, Nat.reduceMul, Nat.reduceAdd, Nat.reduceLT, Nat.reduceLeDiff, Nat.reduceEqDiff, Int.reduceLT, thenK, blockK, retK, resHolds, resVR, VR.holds, roArg, roPtr, roArgS, roSl, Int.reduceBEq, Int.reduceBNe, frz, frzOne, rNilCheck, rIndex, retM, retMK, argM, WClr, WBT, keepW, Nat.reduceBEq, ptr, res_one, res_ro, List.append_nil, Int.toNat_zero, Nat.sub_self, resRow, res_eqr, List.getElem!_toArray, res_0, res_1, res_2, res_eql, resAg, Res.cs]
          intro blk
          refine hk _ blk [0, 1] ⟨rfl, ?_, by decide, ?_⟩
          all_goals simp -implicitDefEqProofs only [evr, ty, rPick, rIbin, rBin, wideB, eqB, strB, rUn, rConv, rFieldAddr, rIndexAddr, rLoad, rField, rLen, rCap, rMax, rMin, rSlice, isRow, WCut, WZer, rBuild, toB, asRead, asAny, bound, flatOk, flat, lay, fillS, placesOf, id, reduceCtorEq, reduceIte, Nat.reduceMul, Nat.reduceAdd, Nat.reduceLT, Nat.reduceLeDiff, Nat.reduceEqDiff, Int.reduceLT, thenK, blockK, retK, resHolds, resVR, VR.holds, roArg, roPtr, roArgS, roSl, Int.reduceBEq, Int.reduceBNe, frz, frzOne, rNilCheck, rIndex, retM, retMK, argM, WClr, WBT, keepW, Nat.reduceBEq, ptr, res_one, res_ro, List.append_nil, Int.toNat_zero, Nat.sub_self, resRow, res_eqr, List.getElem!_toArray, res_0, res_1, res_2, res_eql, Res.cs, envSim, idSim, ownLe, Own.le, Option.some.injEq, eq_self, true_or, false_or, or_false, exists_eq_left', exists_eq_left, exists_eq, exists_eq', SV.op.injEq, SV.os.injEq, SV.i.injEq, exists_false, and_false, false_and]
      intro blk10
      simp only [thenK, Res.cs]
      (repeat refine Sat.seq ?_)
      refine Sat.region_qat (by kernel_rfl) (by kernel_rfl) ⟨144, [(123, .b false), (7, .i .i64 i), (4, .sl ra l.length rc 17 (resRd l.toArray)), (5, .op 0 blk5 0)], [.box blk5 30 [.sl p.a0 p.rs.length p.c0 17 (resRd p.rs.toArray), .sl p.a1 p.cs.length p.c1 4 (cftRd p.cs)]]⟩ (fun k hk => ?_) ?_
      · subst hfr2
        cases b with
        | true =>
          simp -implicitDefEqProofs only [evr, ty, rPick, rIbin, rBin, wideB, eqB, strB, rUn, rConv, rFieldAddr, rIndexAddr, rLoad, rField, rLen, rCap, rMax, rMin, rSlice, isRow, WCut, WZer, rBuild, toB, asRead, asAny, bound, flatOk, flat, lay, fillS, placesOf, id, reduceCtorEq, reduceIte, Nat.reduceMul, Nat.reduceAdd, Nat.reduceLT, Nat.reduceLeDiff, Nat.reduceEqDiff, Int.reduceLT, thenK, blockK, retK, resHolds, resVR, VR.holds, roArg, roPtr, roArgS, roSl, Int.reduceBEq, Int.reduceBNe, frz, frzOne, rNilCheck, rIndex, retM, retMK, argM, WClr, WBT, keepW, Nat.reduceBEq, ptr, res_one, res_ro, List.append_nil, Int.toNat_zero, Nat.sub_self, resRow, res_eqr, List.getElem!_toArray, res_0, res_1, res_2, res_eql, reduceIte, Option.isSome_some, Option.getD_some]
          refine ⟨by omega, hk _ ?_⟩
          simp -implicitDefEqProofs only [evr, ty, rPick, rIbin, rBin, wideB, eqB, strB, rUn, rConv, rFieldAddr, rIndexAddr, rLoad, rField, rLen, rCap, rMax, rMin, rSlice, isRow, WCut, WZer, rBuild, toB, asRead, asAny, bound, flatOk, flat, lay, fillS, placesOf, id, reduceCtorEq, reduceIte, Nat.reduceMul, Nat.reduceAdd, Nat.reduceLT, Nat.reduceLeDiff, Nat.reduceEqDiff, Int.reduceLT, thenK, blockK, retK, resHolds, resVR, VR.holds, roArg, roPtr, roArgS, roSl, Int.reduceBEq, Int.reduceBNe, frz, frzOne, rNilCheck, rIndex, retM, retMK, argM, WClr, WBT, keepW, Nat.reduceBEq, ptr, res_one, res_ro, List.append_nil, Int.toNat_zero, Nat.sub_self, resRow, res_eqr, List.getElem!_toArray, res_0, res_1, res_2, res_eql, Le, envLe, ownLe, Own.le, Option.some.injEq, eq_self, true_or, false_or, or_false, exists_eq_left', exists_eq_left, exists_eq, exists_eq', SV.i.injEq, SV.b.injEq, rdEq_same, exists_false, and_false, false_and]
        | false =>
          simp -implicitDefEqProofs only [evr, ty, rPick, rIbin, rBin, wideB, eqB, strB, rUn, rConv, rFieldAddr, rIndexAddr, rLoad, rField, rLen, rCap, rMax, rMin, rSlice, isRow, WCut, WZer, rBuild, toB, asRead, asAny, bound, flatOk, flat, lay, fillS, placesOf, id, reduceCtorEq, reduceIte, Nat.reduceMul, Nat.reduceAdd, Nat.reduceLT, Nat.reduceLeDiff, Nat.reduceEqDiff, Int.reduceLT, thenK, blockK, retK, resHolds, resVR, VR.holds, roArg, roPtr, roArgS, roSl, Int.reduceBEq, Int.reduceBNe, frz, frzOne, rNilCheck, rIndex, retM, retMK, argM, WClr, WBT, keepW, Nat.reduceBEq, ptr, res_one, res_ro, List.append_nil, Int.toNat_zero, Nat.sub_self, resRow, res_eqr, List.getElem!_toArray, res_0, res_1, res_2, res_eql, Option.isSome_none, Bool.false_eq_true, if_false]
          refine hk _ ?_
          simp -implicitDefEqProofs only [evr, ty, rPick, rIbin, rBin, wideB, eqB, strB, rUn, rConv, rFieldAddr, rIndexAddr, rLoad, rField, rLen, rCap, rMax, rMin, rSlice, isRow, WCut, WZer, rBuild, toB, asRead, asAny, bound, flatOk, flat, lay, fillS, placesOf, id, reduceCtorEq, reduceIte, Nat.reduceMul, Nat.reduceAdd, Nat.reduceLT, Nat.reduceLeDiff, Nat.reduceEqDiff, Int.reduceLT, thenK, blockK, retK, resHolds, resVR, VR.holds, roArg, roPtr, roArgS, roSl, Int.reduceBEq, Int.reduceBNe, frz, frzOne, rNilCheck, rIndex, retM, retMK, argM, WClr, WBT, keepW, Nat.reduceBEq, ptr, res_one, res_ro, List.append_nil, Int.toNat_zero, Nat.sub_self, resRow, res_eqr, List.getElem!_toArray, res_0, res_1, res_2, res_eql, Le, envLe, ownLe, Own.le, Option.some.injEq, eq_self, true_or, false_or, or_false, exists_eq_left', exists_eq_left, exists_eq, exists_eq', SV.i.injEq, SV.b.injEq, rdEq_same, exists_false, and_false, false_and]
      (repeat refine Sat.seq ?_)
      refine Sat.cond_b rfl (fun h => absurd h (by decide)) (fun _ => ?_)
      refine Sat.skip ?_
      simp only [thenK, blockK]
      refine Sat.region_k fun k hk => ?_
      simp -implicitDefEqProofs only [evr, ty, rPick, rIbin, rBin, wideB, eqB, strB, rUn, rConv, rFieldAddr, rIndexAddr, rLoad, rField, rLen, rCap, rMax, rMin, rSlice, isRow, WCut, WZer, rBuild, toB, asRead, asAny, bound, flatOk, flat, lay, fillS, placesOf, id, reduceCtorEq, reduceIte, Nat.reduceMul, Nat.reduceAdd, Nat.reduceLT, Nat.reduceLeDiff, Nat.reduceEqDiff, Int.reduceLT, thenK, blockK, retK, resHolds, resVR, VR.holds, roArg, roPtr, roArgS, roSl, Int.reduceBEq, Int.reduceBNe, frz, frzOne, rNilCheck, rIndex, retM, retMK, argM, WClr, WBT, keepW, Nat.reduceBEq, ptr, res_one, res_ro, List.append_nil, Int.toNat_zero, Nat.sub_self, resRow, res_eqr, List.getElem!_toArray, res_0, res_1, res_2, res_eql, e3]
      refine hk _ ?_
      simp only [thenK, blockK]
      refine ⟨i + 1, h1, by show l.length - (i + 1) < l.length - i; omega, ?_⟩
      simp -implicitDefEqProofs only [evr, ty, rPick, rIbin, rBin, wideB, eqB, strB, rUn, rConv, rFieldAddr, rIndexAddr, rLoad, rField, rLen, rCap, rMax, rMin, rSlice, isRow, WCut, WZer, rBuild, toB, asRead, asAny, bound, flatOk, flat, lay, fillS, placesOf, id, reduceCtorEq, reduceIte, Nat.reduceMul, Nat.reduceAdd, Nat.reduceLT, Nat.reduceLeDiff, Nat.reduceEqDiff, Int.reduceLT, thenK, blockK, retK, resHolds, resVR, VR.holds, roArg, roPtr, roArgS, roSl, Int.reduceBEq, Int.reduceBNe, frz, frzOne, rNilCheck, rIndex, retM, retMK, argM, WClr, WBT, keepW, Nat.reduceBEq, ptr, res_one, res_ro, List.append_nil, Int.toNat_zero, Nat.sub_self, resRow, res_eqr, List.getElem!_toArray, res_0, res_1, res_2, res_eql, Le, envLe, ownLe, Own.le, Option.some.injEq, eq_self, true_or, false_or, or_false, exists_eq_left', exists_eq_left, exists_eq, exists_eq', SV.i.injEq, SV.b.injEq, rdEq_same, exists_false, and_false, false_and]
  · refine Sat.exit ?_
    simp only [thenK, blockK, reduceIte]
    (repeat refine Sat.seq ?_)
    (refine Sat.region_k fun k hk => ?_; simp -implicitDefEqProofs only [evr, ty, rPick, rIbin, rBin, wideB, eqB, strB, rUn, rConv, rFieldAddr, rIndexAddr, rLoad, rField, rLen, rCap, rMax, rMin, rSlice, isRow, WCut, WZer, rBuild, toB, asRead, asAny, bound, flatOk, flat, lay, fillS, placesOf, id, reduceCtorEq, reduceIte, Nat.reduceMul, Nat.reduceAdd, Nat.reduceLT, Nat.reduceLeDiff, Nat.reduceEqDiff, Int.reduceLT, thenK, blockK, retK, resHolds, resVR, VR.holds, roArg, roPtr, roArgS, roSl, Int.reduceBEq, Int.reduceBNe, frz, frzOne, rNilCheck, rIndex, retM, retMK, argM, WClr, WBT, keepW, Nat.reduceBEq, ptr, res_one, res_ro, List.append_nil, Int.toNat_zero, Nat.sub_self, resRow, res_eqr, List.getElem!_toArray, res_0, res_1, res_2, res_eql]; refine hk _ ?_; clear hk k; try show Sat _ _ _ _ _)
    (repeat refine Sat.seq ?_)
    refine Sat.block ?_
    refine Sat.loop (ι := Nat) (fun i => ⟨144, [(12, .i .i64 i), (5, .op 0 blk5 0)], [.box blk5 30 [.sl p.a0 p.rs.length p.c0 17 (resRd p.rs.toArray), .sl p.a1 p.cs.length p.c1 4 (cftRd p.cs)]]⟩)
      (fun i => 1 ≤ i ∧ i ≤ 13) (fun i => p.rs.length - i) 1 ⟨Nat.le_refl _, by decide⟩ (by simp -implicitDefEqProofs only [evr, ty, rPick, rIbin, rBin, wideB, eqB, strB, rUn, rConv, rFieldAddr, rIndexAddr, rLoad, rField, rLen, rCap, rMax, rMin, rSlice, isRow, WCut, WZer, rBuild, toB, asRead, asAny, bound, flatOk, flat, lay, fillS, placesOf, id, reduceCtorEq, reduceIte, Nat.reduceMul, Nat.reduceAdd, Nat.reduceLT, Nat.reduceLeDiff, Nat.reduceEqDiff, Int.reduceLT, thenK, blockK, retK, resHolds, resVR, VR.holds, roArg, roPtr, roArgS, roSl, Int.reduceBEq, Int.reduceBNe, frz, frzOne, rNilCheck, rIndex, retM, retMK, argM, WClr, WBT, keepW, Nat.reduceBEq, ptr, res_one, res_ro, List.append_nil, Int.toNat_zero, Nat.sub_self, resRow, res_eqr, List.getElem!_toArray, res_0, res_1, res_2, res_eql, Le, envLe, ownLe, Own.le, Option.some.injEq, eq_self, true_or, false_or, or_false, exists_eq_left', exists_eq_left, exists_eq, exists_eq', SV.i.injEq, SV.b.injEq, rdEq_same, exists_false, and_false, false_and]; first | rfl | trace_state) ?_
    rintro j ⟨hj1, hj2⟩
    (repeat refine Sat.seq ?_)
    (refine Sat.region_k fun k hk => ?_; simp -implicitDefEqProofs only [evr, ty, rPick, rIbin, rBin, wideB, eqB, strB, rUn, rConv, rFieldAddr, rIndexAddr, rLoad, rField, rLen, rCap, rMax, rMin, rSlice, isRow, WCut, WZer, rBuild, toB, asRead, asAny, bound, flatOk, flat, lay, fillS, placesOf, id, reduceCtorEq, reduceIte, Nat.reduceMul, Nat.reduceAdd, Nat.reduceLT, Nat.reduceLeDiff, Nat.reduceEqDiff, Int.reduceLT, thenK, blockK, retK, resHolds, resVR, VR.holds, roArg, roPtr, roArgS, roSl, Int.reduceBEq, Int.reduceBNe, frz, frzOne, rNilCheck, rIndex, retM, retMK, argM, WClr, WBT, keepW, Nat.reduceBEq, ptr, res_one, res_ro, List.append_nil, Int.toNat_zero, Nat.sub_self, resRow, res_eqr, List.getElem!_toArray, res_0, res_1, res_2, res_eql]; refine hk _ ?_; clear hk k; try show Sat _ _ _ _ _)
    (repeat refine Sat.seq ?_)
    refine Sat.cond_b rfl (fun h => ?_) (fun h => ?_)
    · have h1 : j < p.rs.length := by simp only [decide_eq_true_eq] at h; omega
      have e3 : IntKind.i64.wrap ((j : Int) + 1) = ((j + 1 : Nat) : Int) := by rw [w64 (by omega)]; omega
      have e4 : IntKind.i64.wrap ((j : Int) - 1) = ((j - 1 : Nat) : Int) := by rw [w64 (by omega)]; omega
      have hlt : resCompare (p.rs[j - 1]!) (p.rs[j]!) < 0 := by
        have := lt_of_ident (List.pairwise_iff_getElem.1 hasc (j - 1) j (by omega) h1 (by omega))
        simpa [resLt, getElem!_def, h1, show j - 1 < p.rs.length by omega] using this
      refine Sat.skip ?_
      simp only [thenK]
      (repeat refine Sat.seq ?_)
      refine Sat.block ?_
      (repeat refine Sat.seq ?_)
      (refine Sat.region_rows [⟨0, 132, 32, 0⟩, ⟨1, 133, 2722258935367507707706996859454145691648, 1⟩, ⟨0, 134, 4096, 0⟩, ⟨4, 135, 10889035741470030830827987437816582766592, 0⟩, ⟨10, 136, 27222589353675077077069968594541456916480, 0⟩, ⟨16, 137, 43556142965880123323311949751266331066368, 1⟩, ⟨0, 138, 32, 0⟩, ⟨64, 139, 174224571863520493293247799005065324265472, 1⟩, ⟨0, 140, 4096, 0⟩, ⟨384, 141, 1045347431181122959759486794030391945592832, 0⟩, ⟨512, 142, 1393796574908163946345982392040522594123776, 1⟩, ⟨1056, 143, 2874705435748088139338588683583577850380288, 2⟩, ⟨2048, 144, 5575186299632655785383929568162090376495104, 0⟩] [0, 2, 3, 6, 8, 1, 7, 4, 9, 5, 10] [(11, false), (12, false)] [] (by kernel_rfl) (by kernel_rfl) (fun _ _ h => h) fun k hk => ?_; simp only [List.map_cons, List.map_nil, List.getD_cons_zero, List.getD_cons_succ, btseq_cons, btseq_free, btseq_nil]; simp -implicitDefEqProofs only [evr, ty, rPick, rIbin, rBin, wideB, eqB, strB, rUn, rConv, rFieldAddr, rIndexAddr, rLoad, rField, rLen, rCap, rMax, rMin, rSlice, isRow, WCut, WZer, rBuild, toB, asRead, asAny, bound, flatOk, flat, lay, fillS, placesOf, id, reduceCtorEq, reduceIte, Nat.reduceMul, Nat.reduceAdd, Nat.reduceLT, Nat.reduceLeDiff, Nat.reduceEqDiff, Int.reduceLT, thenK, blockK, retK, resHolds, resVR, VR.holds, roArg, roPtr, roArgS, roSl, Int.reduceBEq, Int.reduceBNe, frz, frzOne, rNilCheck, rIndex, retM, retMK, argM, WClr, WBT, keepW, Nat.reduceBEq, ptr, res_one, res_ro, List.append_nil, Int.toNat_zero, Nat.sub_self, resRow, res_eqr, List.getElem!_toArray, res_0, res_1, res_2, res_eql])
      simp only [e4, evr, ty, rPick, rIbin, rBin, wideB, eqB, strB, rUn, rConv, rFieldAddr, rIndexAddr, rLoad, rField, rLen, rCap, rMax, rMin, rSlice, isRow, WCut, WZer, rBuild, toB, asRead, asAny, bound, flatOk, flat, lay, fillS, placesOf, id, reduceCtorEq, reduceIte, Nat.reduceMul, Nat.reduceAdd, Nat.reduceLT, Nat.reduceLeDiff, Nat.reduceEqDiff, Int.reduceLT, thenK, blockK, retK, resHolds, resVR, VR.holds, roArg, roPtr, roArgS, roSl, Int.reduceBEq, Int.reduceBNe, frz, frzOne, rNilCheck, rIndex, retM, retMK, argM, WClr, WBT, keepW, Nat.reduceBEq, ptr, res_one, res_ro, List.append_nil, Int.toNat_zero, Nat.sub_self, resRow, res_eqr, List.getElem!_toArray, res_0, res_1, res_2, res_eql]
      refine ⟨by omega, by omega, ?_⟩
      refine wcall_plain (compareE (Frm.codes cb) p.rs (j - 1) j) rfl (by rintro _ rfl; exact ok_plain rfl) ?_
      rintro r rfl
      simp -implicitDefEqProofs only [evr, ty, rPick, rIbin, rBin, wideB, eqB, strB, rUn, rConv, rFieldAddr, rIndexAddr, rLoad, rField, rLen, rCap, rMax, rMin, rSlice, isRow, WCut, WZer, rBuild, toB, asRead, asAny, bound, flatOk, flat, lay, fillS, placesOf, id, reduceCtorEq, reduceIte, Nat.reduceMul, Nat.reduceAdd, Nat.reduceLT, Nat.reduceLeDiff, Nat.reduceEqDiff, Int.reduceLT, thenK, blockK, retK, resHolds, resVR, VR.holds, roArg, roPtr, roArgS, roSl, Int.reduceBEq, Int.reduceBNe, frz, frzOne, rNilCheck, rIndex, retM, retMK, argM, WClr, WBT, keepW, Nat.reduceBEq, ptr, res_one, res_ro, List.append_nil, Int.toNat_zero, Nat.sub_self, resRow, res_eqr, List.getElem!_toArray, res_0, res_1, res_2, res_eql]
      (refine hk _ ?_; clear hk k; try show Sat _ _ _ _ _)
      (repeat refine Sat.seq ?_)
      refine Sat.cond_b rfl (fun h => absurd h (by simp only [decide_eq_true_eq]; omega)) (fun _ => ?_)
      refine Sat.skip ?_
      simp only [thenK, blockK]
      refine Sat.region_k fun k hk => ?_
      simp -implicitDefEqProofs only [evr, ty, rPick, rIbin, rBin, wideB, eqB, strB, rUn, rConv, rFieldAddr, rIndexAddr, rLoad, rField, rLen, rCap, rMax, rMin, rSlice, isRow, WCut, WZer, rBuild, toB, asRead, asAny, bound, flatOk, flat, lay, fillS, placesOf, id, reduceCtorEq, reduceIte, Nat.reduceMul, Nat.reduceAdd, Nat.reduceLT, Nat.reduceLeDiff, Nat.reduceEqDiff, Int.reduceLT, thenK, blockK, retK, resHolds, resVR, VR.holds, roArg, roPtr, roArgS, roSl, Int.reduceBEq, Int.reduceBNe, frz, frzOne, rNilCheck, rIndex, retM, retMK, argM, WClr, WBT, keepW, Nat.reduceBEq, ptr, res_one, res_ro, List.append_nil, Int.toNat_zero, Nat.sub_self, resRow, res_eqr, List.getElem!_toArray, res_0, res_1, res_2, res_eql, e3]
      refine hk _ ?_
      simp only [thenK, blockK]
      refine ⟨j + 1, ⟨by omega, by omega⟩, by omega, ?_⟩
      simp -implicitDefEqProofs only [evr, ty, rPick, rIbin, rBin, wideB, eqB, strB, rUn, rConv, rFieldAddr, rIndexAddr, rLoad, rField, rLen, rCap, rMax, rMin, rSlice, isRow, WCut, WZer, rBuild, toB, asRead, asAny, bound, flatOk, flat, lay, fillS, placesOf, id, reduceCtorEq, reduceIte, Nat.reduceMul, Nat.reduceAdd, Nat.reduceLT, Nat.reduceLeDiff, Nat.reduceEqDiff, Int.reduceLT, thenK, blockK, retK, resHolds, resVR, VR.holds, roArg, roPtr, roArgS, roSl, Int.reduceBEq, Int.reduceBNe, frz, frzOne, rNilCheck, rIndex, retM, retMK, argM, WClr, WBT, keepW, Nat.reduceBEq, ptr, res_one, res_ro, List.append_nil, Int.toNat_zero, Nat.sub_self, resRow, res_eqr, List.getElem!_toArray, res_0, res_1, res_2, res_eql, Le, envLe, ownLe, Own.le, Option.some.injEq, eq_self, true_or, false_or, or_false, exists_eq_left', exists_eq_left, exists_eq, exists_eq', SV.i.injEq, SV.b.injEq, rdEq_same, exists_false, and_false, false_and]
    · refine Sat.exit ?_
      simp only [thenK, blockK, reduceIte]
      (repeat refine Sat.seq ?_)
      (refine Sat.region_k fun k hk => ?_; simp -implicitDefEqProofs only [evr, ty, rPick, rIbin, rBin, wideB, eqB, strB, rUn, rConv, rFieldAddr, rIndexAddr, rLoad, rField, rLen, rCap, rMax, rMin, rSlice, isRow, WCut, WZer, rBuild, toB, asRead, asAny, bound, flatOk, flat, lay, fillS, placesOf, id, reduceCtorEq, reduceIte, Nat.reduceMul, Nat.reduceAdd, Nat.reduceLT, Nat.reduceLeDiff, Nat.reduceEqDiff, Int.reduceLT, thenK, blockK, retK, resHolds, resVR, VR.holds, roArg, roPtr, roArgS, roSl, Int.reduceBEq, Int.reduceBNe, frz, frzOne, rNilCheck, rIndex, retM, retMK, argM, WClr, WBT, keepW, Nat.reduceBEq, ptr, res_one, res_ro, List.append_nil, Int.toNat_zero, Nat.sub_self, resRow, res_eqr, List.getElem!_toArray, res_0, res_1, res_2, res_eql]; refine hk _ ?_; clear hk k; try show Sat _ _ _ _ _)
      refine Sat.ret ?_
      simp only [Try.results3, evr, ty, rPick, rIbin, rBin, wideB, eqB, strB, rUn, rConv, rFieldAddr, rIndexAddr, rLoad, rField, rLen, rCap, rMax, rMin, rSlice, isRow, WCut, WZer, rBuild, toB, asRead, asAny, bound, flatOk, flat, lay, fillS, placesOf, id, reduceCtorEq, reduceIte, Nat.reduceMul, Nat.reduceAdd, Nat.reduceLT, Nat.reduceLeDiff, Nat.reduceEqDiff, Int.reduceLT, thenK, blockK, retK, resHolds, resVR, VR.holds, roArg, roPtr, roArgS, roSl, Int.reduceBEq, Int.reduceBNe, frz, frzOne, rNilCheck, rIndex, retM, retMK, argM, WClr, WBT, keepW, Nat.reduceBEq, ptr, res_one, res_ro, List.append_nil, Int.toNat_zero, Nat.sub_self, resRow, res_eqr, List.getElem!_toArray, res_0, res_1, res_2, res_eql]
      try rfl
end Go.Proofs.Ythhofjkbmnklmaa
