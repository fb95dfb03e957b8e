/- The example of the chapter, by the evaluator: awake of law 26. -/
import Derived.Test.YtkpmihaaijiihaaGreatEpcE
import Derived.Test.YtkpmihaaijiihaaGreatPk3
set_option linter.unusedSimpArgs false
set_option linter.unusedVariables false
namespace Go.Proofs.YtkpmihaaijiihaaGreat
open Go.Sort Eng
theorem res_appS {ys : List Res} {x : Res} {cs : List SV} (h : simA cs (Res.cs x)) : ∀ i j, i < ys.length + 1 → j < 17 → sim (rdCat ys.length (resRd ys.toArray) (rdL cs 17) i j) (resRd (ys ++ [x]).toArray i j) := by
  intro i j hi hj
  unfold rdCat
  by_cases e : i < ys.length
  · rw [if_pos e]
    have : resRd ys.toArray i j = resRd (ys ++ [x]).toArray i j := by unfold resRd; simp [getElem!_def, List.getElem?_append, e]
    rw [this]
    exact sim_refl _
  · obtain rfl : i = ys.length := by omega
    rw [if_neg e]
    have e1 : resRd (ys ++ [x]).toArray ys.length j = (Res.cs x).getD j default := by unfold resRd; simp [getElem!_def]
    have e2 : rdL cs 17 (ys.length - ys.length) j = cs.getD j default := by unfold rdL; simp
    rw [e1, e2]
    exact simA_getD h j
def awR (i : Nat) : Res := ⟨0, 0, i, i, 9, 17, 0, 1, true, false, (i : Int) + 1, if i = 2 then 2 else 1, 1, 0, 0, 0, 0⟩
def awL : List Res := [awR 0, awR 1, awR 2]
theorem aw_valid : ∀ r ∈ awL, validR r = true := by decide
theorem aw_asc : Asc awL := by unfold Asc; decide
theorem aw_in : ∀ r ∈ awL, RgR r := by unfold RgR; decide
theorem aw_ord : OrdOf awL awL := .self aw_asc aw_valid
theorem aw_c01 : contraR awL.toArray[0]! awL.toArray[1]! = false := by decide
theorem aw_c02 : contraR awL.toArray[0]! awL.toArray[2]! = true := by decide
theorem aw_bad1 : ¬ Bad (fun i => awL.toArray[i]!) 0 1 := by
  rintro ⟨i, h1, h2, h3⟩
  obtain rfl : i = 0 := by omega
  rw [aw_c01] at h3; cases h3
theorem aw_bad2 : Bad (fun i => awL.toArray[i]!) 0 2 := ⟨0, by omega, by omega, aw_c02⟩
theorem aw_one : oneT awL := by unfold oneT; decide
theorem aw_clash {k : Nat} (h : ClashAt (fun i => awL.toArray[i]!) 3 k) : k = 2 := by
  obtain ⟨h1, h2, h3⟩ := h
  rcases (show k = 0 ∨ k = 1 ∨ k = 2 ∨ k = 3 by omega) with rfl | rfl | rfl | rfl
  · obtain ⟨i, _, h, _⟩ := h3 (by omega); omega
  · exact absurd (h3 (by omega)) aw_bad1
  · rfl
  · exact absurd aw_bad2 (h2 2 (by omega) (by omega))
theorem aw_cuts {l : List (Nat × Nat)} (h : Cuts (fun i => awL.toArray[i]!) 3 l) : l = [(0, 2), (2, 3)] := by
  obtain ⟨h1, h2⟩ := h.spec
  match l with
  | [] => simp [endOf] at h1
  | p :: l =>
    obtain ⟨a1, a2, a3, a4, a5⟩ := h2 0 (by simp)
    simp only [List.getD_cons_zero, endOf, if_true] at a1 a2 a3 a4 a5
    obtain ⟨pa, pb⟩ := p
    simp only at a1 a2 a3 a4 a5
    subst a1
    have hpb : pb = 2 := by
      rcases (show pb = 1 ∨ pb = 2 ∨ pb = 3 by omega) with rfl | rfl | rfl
      · match l with
        | [] => simp [endOf] at h1
        | q :: l => exact absurd (a5 (by simp)) aw_bad1
      · rfl
      · exact absurd aw_bad2 (a4 2 (by omega) (by omega))
    subst hpb
    match l with
    | [] => simp [endOf] at h1
    | q :: l =>
      obtain ⟨b1, b2, b3, b4, b5⟩ := h2 1 (by simp)
      simp only [List.getD_cons_zero, List.getD_cons_succ, endOf] at b1 b2 b3 b4 b5
      obtain ⟨qa, qb⟩ := q
      simp only [Nat.sub_self, List.getD_cons_zero] at b1 b2 b3 b4 b5
      obtain rfl : qa = 2 := by simpa using b1
      obtain rfl : qb = 3 := by omega
      match l with
      | [] => rfl
      | r :: l =>
        obtain ⟨c1, c2, c3, c4, c5⟩ := h2 2 (by simp)
        simp [endOf, List.getD] at c1 c2 c3
        omega
theorem aw_cut {l : List (Nat × Nat)} {e : Int} (h : CutRes awL l e) : l = [(0, 2), (2, 3)] ∧ e = 0 := by
  rcases h with ⟨_, _, x, hx, hv⟩ | ⟨_, ys, ho, h⟩
  · rw [aw_valid x hx] at hv; cases hv
  · obtain rfl := ho.unique aw_ord
    rcases h with ⟨_, _, h⟩ | ⟨_, _, _, h⟩ | ⟨h1, _, _, h⟩
    · exact absurd h (by decide)
    · exact absurd aw_one h
    · exact ⟨aw_cuts h, h1⟩
theorem aw_wit {ys : List Res} {f : Nat → SV} (ho : OrdOf awL ys) (h : WitPost ys f) : f 0 = idL 0 0 0 ∧ f 1 = idL 0 0 2 ∧ f 2 = .b true := by
  obtain rfl := ho.unique aw_ord
  rcases h with ⟨h, _⟩ | ⟨i, k, ⟨h1, h2, h3, h4, h5⟩, e0, e1, e2⟩
  · exact absurd aw_bad2 (h 2 (by omega) (by decide))
  · obtain rfl := aw_clash h3
    have hi : i = 0 := by
      rcases Nat.eq_zero_or_pos i with h | h
      · exact h
      · have := h5 0 h; rw [aw_c02] at this; cases this
    subst hi
    exact ⟨e0, e1, e2⟩
theorem aw_cons {ys : List Res} {b : Bool} (ho : OrdOf awL ys) (h : b = true ↔ consR ys) : b = false := by
  obtain rfl := ho.unique aw_ord
  cases b with
  | false => rfl
  | true => exact absurd aw_bad2 (h.1 rfl 2 (by omega) (by decide))
def awL2 : List Res := [awR 0, awR 1]
theorem aw2_valid : ∀ r ∈ awL2, validR r = true := by decide
theorem aw2_asc : Asc awL2 := by unfold Asc; decide
theorem aw2_in : ∀ r ∈ awL2, RgR r := by unfold RgR; decide
theorem aw2_ord : OrdOf awL2 awL2 := .self aw2_asc aw2_valid
theorem aw2_cons {ys : List Res} {b : Bool} (ho : OrdOf awL2 ys) (h : b = true ↔ consR ys) : b = true := by
  obtain rfl := ho.unique aw2_ord
  refine h.2 ?_
  rintro k h1 h2 ⟨i, g1, g2, g3⟩
  have hk : k < 2 := h2
  obtain rfl : i = 0 := by omega
  obtain rfl : k = 1 := by omega
  exact absurd g3 (by decide)
def awC (i : Nat) : List SV := [SV.i .i64 0, .i .i64 0, .i .i64 i, .i .i64 i, .i .u32 9, .i .i64 17, .i .i64 0, .i .i64 1, .tt, .b false, .i .i64 ((i + 1 : Nat) : Int), .i .u32 (awR i).from_, .i .i64 1, .i .i64 0, .i .i64 0, .i .i64 0, .i .i64 0]
theorem aw_take {i : Nat} (h : i < 3) : awL.take i ++ [awR i] = awL.take (i + 1) := by
  rcases (show i = 0 ∨ i = 1 ∨ i = 2 by omega) with rfl | rfl | rfl <;> rfl
theorem aw_el {i : Nat} (h : i < 3) : rdL [SV.i .u32 1, SV.i .u32 1, SV.i .u32 2] 1 i 0 = .i .u32 (awR i).from_ := by
  rcases (show i = 0 ∨ i = 1 ∨ i = 2 by omega) with rfl | rfl | rfl <;> rfl
def awA (i : Nat) : Int := if i = 2 then 2 else 1
theorem aw_idE (a b c d e f : Int) : aggEq Tryz.prog 41 3 (fun j => [SV.i .i64 a, SV.i .i64 b, SV.i .i64 c].getD j default) 3 (fun j => [SV.i .i64 d, SV.i .i64 e, SV.i .i64 f].getD j default) = some ([a == d, b == e, c == f].all id) := by kernel_rfl
theorem aw_ep : aggEq Tryz.prog 25 2 (fun j => epRd [(0, 2), (2, 3)] 1 j) 2 (fun j => [SV.i .i64 2, SV.i .i64 3].getD j default) = some true := by kernel_rfl
theorem aw_id0 : aggEq Tryz.prog 41 3 (fun j => [SV.i .i64 0, SV.i .i64 0, SV.i .i64 0].getD j default) 3 (fun j => [SV.i .i64 0, SV.i .i64 0, SV.i .i64 0].getD j default) = some true := by kernel_rfl
theorem aw_id2 : aggEq Tryz.prog 41 3 (fun j => [SV.i .i64 0, SV.i .i64 0, SV.i .i64 2].getD j default) 3 (fun j => [SV.i .i64 0, SV.i .i64 0, SV.i .i64 2].getD j default) = some true := by kernel_rfl
theorem aw_epE (a b d e : Int) : aggEq Tryz.prog 25 2 (fun j => [SV.i .i64 a, SV.i .i64 b].getD j default) 2 (fun j => [SV.i .i64 d, SV.i .i64 e].getD j default) = some ([a == d, b == e].all id) := by kernel_rfl
set_option maxRecDepth 100000 in
theorem awakeC (F : Frm) : Contract F Tryz.prog 4 [] (fun r => r = .b true) := by
  refine contract_of Tryz.func4 rfl (by kernel_rfl) ?_
  simp only [Tryz.ntmps4, argEnv]
  (repeat refine Sat.seq ?_)
  (refine Sat.region_k fun k hk => ?_; simp -implicitDefEqProofs only [evr, id, seval, res_one, resRow, res_ro, epRow, ep_one, evn]; refine hk _ ?_; clear hk k; try show Sat _ _ _ _ _)
  (repeat refine Sat.seq ?_)
  (refine Sat.region_k fun k hk => ?_; simp -implicitDefEqProofs only [evr, id, seval, res_one, resRow, res_ro, epRow, ep_one, evn]; refine hk _ ?_; clear hk k; try show Sat _ _ _ _ _)
  (repeat refine Sat.seq ?_)
  (refine Sat.region_k fun k hk => ?_; simp -implicitDefEqProofs only [evr, id, reduceCtorEq, reduceIte, Nat.reduceMul, Nat.reduceAdd, Nat.reduceLT, Nat.reduceLeDiff, Nat.reduceEqDiff, Int.reduceLT, Int.reduceBEq, Int.reduceBNe, Nat.reduceBEq, res_one, Int.reduceToNat, resRow, res_ro, epRow, ep_one, evn])
  intro b9
  (refine hk _ ?_; clear hk k; try show Sat _ _ _ _ _)
  refine Sat.adopt 1 54 17 (resRd #[]) rfl ?_
  refine Sat.settle2 9 rfl rfl ?_
  simp -implicitDefEqProofs only [evr, id, reduceCtorEq, reduceIte, Nat.reduceMul, Nat.reduceAdd, Nat.reduceLT, Nat.reduceLeDiff, Nat.reduceEqDiff, Int.reduceLT, Int.reduceBEq, Int.reduceBNe, Nat.reduceBEq, res_one, Int.reduceToNat, resRow, res_ro, epRow, ep_one, evn]
  (repeat refine Sat.seq ?_)
  refine Sat.block ?_
  refine Sat.loop (ι := Nat × Option Addr × Nat) (fun z => ⟨84, [(11, .i .i64 z.1), (10, .i .i64 3), (9, .sl (some ⟨b9, 0, none⟩) 3 3 1 (rdL [.i .u32 1, .i .u32 1, .i .u32 2] 1)), (1, .os 1 z.2.1 z.1 z.2.2)], [.gone, resRow z.2.1 z.1 z.2.2 (awL.take z.1).toArray]⟩)
    (fun z => z.1 ≤ 3) (fun z => 3 - z.1) (0, none, 0) (Nat.zero_le _) (by simp -implicitDefEqProofs only [evr, id, reduceCtorEq, reduceIte, Nat.reduceMul, Nat.reduceAdd, Nat.reduceLT, Nat.reduceLeDiff, Nat.reduceEqDiff, Int.reduceLT, Int.reduceBEq, Int.reduceBNe, Nat.reduceBEq, res_one, Int.reduceToNat, resRow, res_ro, epRow, ep_one, evl, evn]; exact ⟨rfl, rfl⟩) ?_
  rintro ⟨i, a, c⟩ hi
  simp only [resRow] at hi ⊢
  (repeat refine Sat.seq ?_)
  (refine Sat.region_k fun k hk => ?_; simp -implicitDefEqProofs only [evr, id, seval, res_one, resRow, res_ro, epRow, ep_one, evn]; refine hk _ ?_; clear hk k; try show Sat _ _ _ _ _)
  (repeat refine Sat.seq ?_)
  refine Sat.cond_b rfl (fun h => ?_) (fun h => ?_)
  · have h1 : i < 3 := by simp only [decide_eq_true_eq] at h; omega
    have e2 : IntKind.i64.wrap ((i : Int) + 1) = ((i + 1 : Nat) : Int) := by rw [w64 (by omega)]; omega
    refine Sat.skip ?_
    simp only [thenK]
    (repeat refine Sat.seq ?_)
    refine Sat.block ?_
    (repeat refine Sat.seq ?_)
    (refine Sat.region_k fun k hk => ?_; simp -implicitDefEqProofs only [evr, id, seval, res_one, resRow, res_ro, epRow, ep_one, evn])
    refine ⟨by omega, ?_⟩
    rw [aw_el h1]
    (refine hk _ ?_; clear hk k; try show Sat _ _ _ _ _)
    (repeat refine Sat.seq ?_)
    (refine Sat.region_k fun k hk => ?_; simp -implicitDefEqProofs only [evr, id, seval, res_one, resRow, res_ro, epRow, ep_one, evn])
    simp only [e2]
    intro b3
    refine ⟨⟨by unfold maxLen; omega, by omega⟩, fun a2 cap2 => ?_⟩
    (refine hk _ ?_; clear hk k; try show Sat _ _ _ _ _)
    have hle : (awL.take i).length = i := by rw [List.length_take]; show min i 3 = i; omega
    refine Sat.reread 1 (resRd (awL.take (i + 1)).toArray) rfl ?_ ?_
    · have e5 := res_appS (ys := awL.take i) (x := awR i) (cs := awC i) ?_
      · rw [hle, aw_take h1] at e5
        exact e5
      · simp only [awC, awR, Res.cs, simA]
        refine ⟨?_, ?_, ?_, ?_, ?_, ?_, ?_, ?_, ?_, ?_, ?_, ?_, ?_, ?_, ?_, ?_, ?_, trivial⟩ <;> first | exact sim_refl _ | exact sim_tt
    simp -implicitDefEqProofs only [evr, id, seval, res_one, resRow, res_ro, epRow, ep_one, evn]
    refine Sat.region_k fun k hk => ?_
    simp -implicitDefEqProofs only [evr, id, seval, res_one, resRow, res_ro, epRow, ep_one, e2, evn]
    refine hk _ ?_
    simp only [thenK, blockK]
    refine ⟨(i + 1, a2, cap2), by simp only; omega, by simp only; omega, ?_⟩
    simp -implicitDefEqProofs only [evr, id, seval, res_one, resRow, res_ro, epRow, ep_one, evl, evn]
  · have h1 : i = 3 := by simp only [decide_eq_false_iff_not] at h; omega
    subst h1
    refine Sat.exit ?_
    simp only [thenK, blockK, reduceIte]
    refine Sat.settle2 1 rfl rfl ?_
    simp -implicitDefEqProofs only [evr, id, seval, res_one, resRow, res_ro, epRow, ep_one, evn]
    (repeat refine Sat.seq ?_)
    (refine Sat.region_k fun k hk => ?_; simp -implicitDefEqProofs only [evr, id, seval, res_one, resRow, res_ro, epRow, ep_one, evn])
    have hl3 : awL.length = 3 := rfl
    have ht : awL.take 3 = awL := rfl
    rw [ht]
    refine wcall_slice (cutC F a c awL (by decide) aw_in) rfl (by simp -implicitDefEqProofs only [evr, id, seval, res_one, resRow, res_ro, epRow, ep_one, hl3, evn]) ?_
    rintro r ⟨ca, cc, l, e, hcut, _, rfl⟩
    obtain ⟨rfl, rfl⟩ := aw_cut hcut
    simp -implicitDefEqProofs only [evr, id, seval, res_one, resRow, res_ro, epRow, ep_one, evn]
    (refine hk _ ?_; clear hk k; try show Sat _ _ _ _ _)
    (repeat refine Sat.seq ?_)
    (refine Sat.region_k fun k hk => ?_; simp -implicitDefEqProofs only [evr, id, seval, res_one, resRow, res_ro, epRow, ep_one, evn])
    refine wcall_plain (witnessC F a c awL (by decide) aw_in) (by simp -implicitDefEqProofs only [evr, id, seval, res_one, resRow, res_ro, epRow, ep_one, hl3, evn]) (by rintro _ ⟨ys, f, _, hf, rfl⟩; exact hf.ok) ?_
    rintro r ⟨ys, f, ho, hf, rfl⟩
    obtain ⟨e0, e1, e2⟩ := aw_wit ho hf
    rw [e0, e1, e2]
    simp only [idL, evr, id, reduceCtorEq, reduceIte, Nat.reduceMul, Nat.reduceAdd, Nat.reduceLT, Nat.reduceLeDiff, Nat.reduceEqDiff, Int.reduceLT, Int.reduceBEq, Int.reduceBNe, Nat.reduceBEq, res_one, List.append_nil, Int.toNat_zero, Nat.sub_self, Int.reduceToNat, resRow, res_ro, epRow, ep_one]
    intro b6 b7
    (refine hk _ ?_; clear hk k; try show Sat _ _ _ _ _)
    (repeat refine Sat.seq ?_)
    (refine Sat.region_tree (.keep [0, 1, 2, 3, 4, 5, 6, 7, 8, 9, 11, 10, 12, 13, 14, 15, 16, 17, 19, 18, 20, 21, 22, 24, 23, 25, 26, 27, 28, 29, 31, 32, 30, 33] [] (.one 34 (.one 35 (.one 36 (.one 37 (.one 38 (.one 39 (.one 40 (.one 41 (.one 42 (.one 43 (.one 44 (.one 45 (.one 46 .done)))))))))))))) (by kernel_rfl) (by kernel_rfl) (fun _ _ h => h) fun k hk => ?_; simp only [WOT, List.map_cons, List.map_nil, List.getD_cons_zero, List.getD_cons_succ]; simp -implicitDefEqProofs only [evr, id, reduceCtorEq, reduceIte, Nat.reduceMul, Nat.reduceAdd, Nat.reduceLT, Nat.reduceLeDiff, Nat.reduceEqDiff, Int.reduceLT, Int.reduceBEq, Int.reduceBNe, Nat.reduceBEq, res_one, Int.reduceToNat, resRow, res_ro, epRow, ep_one, WOT, evn])
    have c2 : ((2 : Nat) : Int) = 2 := rfl
    have c3 : ((3 : Nat) : Int) = 3 := rfl
    simp only [c2, c3, hl3, aw_ep, aw_id0, aw_id2, evr, id, reduceCtorEq, reduceIte, Nat.reduceMul, Nat.reduceAdd, Nat.reduceLT, Nat.reduceLeDiff, Nat.reduceEqDiff, Int.reduceLT, Int.reduceBEq, Int.reduceBNe, Nat.reduceBEq, res_one, List.append_nil, Int.toNat_zero, Nat.sub_self, Int.reduceToNat, resRow, res_ro, epRow, ep_one]
    refine ⟨by omega, by omega, by omega, ?_⟩
    refine wcall_plain (contradictC F awL.toArray[0]! awL.toArray[2]!) rfl (by rintro _ rfl; exact ok_plain rfl) ?_
    rintro r rfl
    simp only [aw_c02, evr, id, reduceCtorEq, reduceIte, Nat.reduceMul, Nat.reduceAdd, Nat.reduceLT, Nat.reduceLeDiff, Nat.reduceEqDiff, Int.reduceLT, Int.reduceBEq, Int.reduceBNe, Nat.reduceBEq, res_one, List.append_nil, Int.toNat_zero, Nat.sub_self, Int.reduceToNat, resRow, res_ro, epRow, ep_one]
    refine wcall_plain (consistentC F a c awL (by decide) aw_in) (by simp -implicitDefEqProofs only [evr, id, seval, res_one, resRow, res_ro, epRow, ep_one, hl3, evn]) (by rintro _ ⟨ys, b, _, _, rfl⟩; exact ok_plain rfl) ?_
    rintro r ⟨ys2, b, ho2, hb, rfl⟩
    obtain rfl := aw_cons ho2 hb
    simp -implicitDefEqProofs only [evr, id, reduceCtorEq, reduceIte, Nat.reduceMul, Nat.reduceAdd, Nat.reduceLT, Nat.reduceLeDiff, Nat.reduceEqDiff, Int.reduceLT, Int.reduceBEq, Int.reduceBNe, Nat.reduceBEq, res_one, Int.reduceToNat, resRow, res_ro, epRow, ep_one, evn]
    refine ⟨⟨by omega, by omega, by omega⟩, ?_⟩
    have hc2 := consistentC F (if c = 0 then a else Option.map (fun x => x.add 0) a) (c - 0) awL2 (by decide) aw2_in
    refine wcall_plain (Contract.of_sim (args := [SV.sl (if c = 0 then a else Option.map (fun x => x.add 0) a) (2 - 0) (c - 0) 17 fun i j => resRd awL.toArray i j]) hc2 ⟨sim_sl fun i j hi hj => ?_, trivial⟩) (by simp -implicitDefEqProofs only [evr, id, seval, res_one, resRow, res_ro, epRow, ep_one, evn]) (by rintro _ ⟨ys, b, _, _, rfl⟩; exact ok_plain rfl) ?_
    · have : i < 2 := hi
      rcases (show i = 0 ∨ i = 1 by omega) with rfl | rfl <;> rfl
    rintro r ⟨ys3, b, ho3, hb, rfl⟩
    obtain rfl := aw2_cons ho3 hb
    simp -implicitDefEqProofs only [evr, id, seval, res_one, resRow, res_ro, epRow, ep_one, evn]
    (refine hk _ ?_; clear hk k; try show Sat _ _ _ _ _)
    refine Sat.ret ?_
    simp only [Tryz.results4, evr, id, reduceCtorEq, reduceIte, Nat.reduceMul, Nat.reduceAdd, Nat.reduceLT, Nat.reduceLeDiff, Nat.reduceEqDiff, Int.reduceLT, Int.reduceBEq, Int.reduceBNe, Nat.reduceBEq, res_one, List.append_nil, Int.toNat_zero, Nat.sub_self, Int.reduceToNat, resRow, res_ro, epRow, ep_one]
end Go.Proofs.YtkpmihaaijiihaaGreat
