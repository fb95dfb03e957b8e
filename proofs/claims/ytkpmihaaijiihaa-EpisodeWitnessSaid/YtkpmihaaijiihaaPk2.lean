/- The evaluator: a row of the call's own is read by another reader that yields the same values. -/
import Derived.Test.YtkpmihaaijiihaaEngCut
import Derived.Test.YtkpmihaaijiihaaEngL
import Derived.Test.YtkpmihaaijiihaaPk1
import Derived.WalkKit
import Derived.Carry
import Derived.Deep.Draws
import Derived.OpenShut
import Derived.Test.YtkpmihaaijiihaaProg
import Derived.Lib.Hide
import Derived.Deep.LoopGhost
import Derived.Deep.QuietTactic
import Derived.BigQuiet
import Derived.Outline
import Derived.Test.YtkpmihaaijiihaaEv
import Derived.Test.YtkpmihaaijiihaaEngO
import Derived.Test.YtkpmihaaijiihaaEngR
import Derived.Test.YtkpmihaaijiihaaPoE
import Derived.Test.YtkpmihaaijiihaaTreMath
import Derived.Test.YtkpmihaaijiihaaRows
import Derived.ProofKit
import Derived.ShutString
import Derived.ChangeOld
import Derived.Below
set_option linter.unusedSimpArgs false
set_option linter.unusedVariables false
namespace Go.Proofs.Ytkpmihaaijiihaa
namespace Eng
theorem cellsOf_sim {len sz : Nat} {rd rd' : Nat → Nat → SV} (h : ∀ i j, i < len → j < sz → sim (rd i j) (rd' i j)) : cellsOf len sz rd = cellsOf len sz rd' := by
  unfold cellsOf
  apply List.map_congr_left
  intro q hq
  have hq' : q < len * sz := by simpa using hq
  have hz : 0 < sz := by
    rcases Nat.eq_zero_or_pos sz with h0 | h0
    · subst h0; simp at hq'
    · exact h0
  exact (h _ _ ((Nat.div_lt_iff_lt_mul hz).2 hq') (Nat.mod_lt _ hz)).1
theorem Sat.reread {P : Program} {F : Frm} {n : Nat} {env : List (Nat × SV)} {own : List Own} {c : Code} {K : Exit → St → Prop} (id : Nat) {ad : Option Addr} {e len cap sz : Nat} {rd : Nat → Nat → SV} (rd' : Nat → Nat → SV)
    (hid : own[id]? = some (.row ad e len cap sz rd)) (hs : ∀ i j, i < len → j < sz → sim (rd i j) (rd' i j)) (h : Sat P F c ⟨n, env, own.set id (.row ad e len cap sz rd')⟩ K) : Sat P F c ⟨n, env, own⟩ K := by
  rintro R0 w0 a w ⟨ob, R, hr⟩
  refine h R0 w0 a w ⟨ob, R, ?_⟩
  have hidl : id < own.length := (List.getElem?_eq_some_iff.1 hid).1
  have hblk : (Own.row ad e len cap sz rd').blk = (Own.row ad e len cap sz rd).blk := by cases ad <;> rfl
  have hrow := hr.own _ _ hid
  have hok : (Own.row ad e len cap sz rd').ok R ob w := ⟨by rw [← cellsOf_sim hs]; exact hrow.1, hrow.2.1, fun i j hi hj => by
    have h1 := hrow.2.2 i j hi hj
    have h2 := hs i j hi hj
    exact ⟨by rw [← h2.1]; exact h1.1, h2.2 R w h1.2⟩⟩
  refine ⟨hr.defers, hr.env, hr.size, ?_, ?_, hr.evo, hr.inv, hr.obM, ?_, hr.obw, hr.rr, hr.r0⟩
  · intro i x hx
    rw [List.getElem?_set] at hx
    split at hx
    · simp only [hidl, if_true, Option.some.injEq] at hx
      subst hx
      exact hok
    · exact hr.own i x hx
  · intro i j x y hij hx hy b hb1 hb2
    rw [List.getElem?_set] at hx hy
    split at hx <;> split at hy
    · omega
    · rename_i e1 _
      subst e1
      simp only [hidl, if_true, Option.some.injEq] at hx
      subst hx
      exact hr.dist id j _ y hij hid hy b (hblk ▸ hb1) hb2
    · rename_i _ e1
      subst e1
      simp only [hidl, if_true, Option.some.injEq] at hy
      subst hy
      exact hr.dist i id x _ hij hx hid b hb1 (hblk ▸ hb2)
    · exact hr.dist i j x y hij hx hy b hb1 hb2
  · exact gb_set (m := w0.w.heap.size) (Nat.le_refl _) hr.gb hid fun b hb => .inl (hblk ▸ hb)
theorem simA_getD : ∀ {l l' : List SV}, simA l l' → ∀ j, sim (l.getD j default) (l'.getD j default)
  | [], [], _, j => sim_refl _
  | [], _ :: _, h, _ => h.elim
  | _ :: _, [], h, _ => h.elim
  | s :: l, s' :: l', h, 0 => h.1
  | s :: l, s' :: l', h, j + 1 => simA_getD (l := l) (l' := l') h.2 j
theorem sim_tt : sim .tt (.b true) := ⟨rfl, fun _ _ _ => trivial⟩
theorem sim_ff : sim .ff (.b false) := ⟨rfl, fun _ _ _ => trivial⟩
end Eng
end Go.Proofs.Ytkpmihaaijiihaa

/- The example of the chapter, by the evaluator: awake of law 26. -/
set_option linter.unusedSimpArgs false
set_option linter.unusedVariables false
namespace Go.Proofs.Ytkpmihaaijiihaa
open Go.Sort Eng
theorem res_appS {ys : List Res} {x : Res} {cs : List SV} (h : simA cs (Res.cs x)) : ∀ i j, i < ys.length + 1 → j < 17 → sim (rdCat ys.length (resRd ys.toArray) (rdL cs 17) i j) (resRd (ys ++ [x]).toArray i j) := by
  intro i j hi hj
  unfold rdCat
  by_cases e : i < ys.length
  · rw [if_pos e]
    have : resRd ys.toArray i j = resRd (ys ++ [x]).toArray i j := by unfold resRd; simp [getElem!_def, List.getElem?_append, e]
    rw [this]
    exact sim_refl _
  · obtain rfl : i = ys.length := by omega
    rw [if_neg e]
    have e1 : resRd (ys ++ [x]).toArray ys.length j = (Res.cs x).getD j default := by unfold resRd; simp [getElem!_def]
    have e2 : rdL cs 17 (ys.length - ys.length) j = cs.getD j default := by unfold rdL; simp
    rw [e1, e2]
    exact simA_getD h j
def awR (i : Nat) : Res := ⟨0, 0, i, i, 9, 17, 0, 1, true, false, (i : Int) + 1, if i = 2 then 2 else 1, 1, 0, 0, 0, 0⟩
def awL : List Res := [awR 0, awR 1, awR 2]
theorem aw_valid : ∀ r ∈ awL, validR r = true := by decide
theorem aw_asc : Asc awL := by unfold Asc; decide
theorem aw_in : ∀ r ∈ awL, RgR r := by unfold RgR; decide
theorem aw_ord : OrdOf awL awL := .self aw_asc aw_valid
theorem aw_c01 : contraR awL.toArray[0]! awL.toArray[1]! = false := by decide
theorem aw_c02 : contraR awL.toArray[0]! awL.toArray[2]! = true := by decide
theorem aw_bad1 : ¬ Bad (fun i => awL.toArray[i]!) 0 1 := by
  rintro ⟨i, h1, h2, h3⟩
  obtain rfl : i = 0 := by omega
  rw [aw_c01] at h3; cases h3
theorem aw_bad2 : Bad (fun i => awL.toArray[i]!) 0 2 := ⟨0, by omega, by omega, aw_c02⟩
theorem aw_one : oneT awL := by unfold oneT; decide
theorem aw_clash {k : Nat} (h : ClashAt (fun i => awL.toArray[i]!) 3 k) : k = 2 := by
  obtain ⟨h1, h2, h3⟩ := h
  rcases (show k = 0 ∨ k = 1 ∨ k = 2 ∨ k = 3 by omega) with rfl | rfl | rfl | rfl
  · obtain ⟨i, _, h, _⟩ := h3 (by omega); omega
  · exact absurd (h3 (by omega)) aw_bad1
  · rfl
  · exact absurd aw_bad2 (h2 2 (by omega) (by omega))
theorem aw_cuts {l : List (Nat × Nat)} (h : Cuts (fun i => awL.toArray[i]!) 3 l) : l = [(0, 2), (2, 3)] := by
  obtain ⟨h1, h2⟩ := h.spec
  match l with
  | [] => simp [endOf] at h1
  | p :: l =>
    obtain ⟨a1, a2, a3, a4, a5⟩ := h2 0 (by simp)
    simp only [List.getD_cons_zero, endOf, if_true] at a1 a2 a3 a4 a5
    obtain ⟨pa, pb⟩ := p
    simp only at a1 a2 a3 a4 a5
    subst a1
    have hpb : pb = 2 := by
      rcases (show pb = 1 ∨ pb = 2 ∨ pb = 3 by omega) with rfl | rfl | rfl
      · match l with
        | [] => simp [endOf] at h1
        | q :: l => exact absurd (a5 (by simp)) aw_bad1
      · rfl
      · exact absurd aw_bad2 (a4 2 (by omega) (by omega))
    subst hpb
    match l with
    | [] => simp [endOf] at h1
    | q :: l =>
      obtain ⟨b1, b2, b3, b4, b5⟩ := h2 1 (by simp)
      simp only [List.getD_cons_zero, List.getD_cons_succ, endOf] at b1 b2 b3 b4 b5
      obtain ⟨qa, qb⟩ := q
      simp only [Nat.sub_self, List.getD_cons_zero] at b1 b2 b3 b4 b5
      obtain rfl : qa = 2 := by simpa using b1
      obtain rfl : qb = 3 := by omega
      match l with
      | [] => rfl
      | r :: l =>
        obtain ⟨c1, c2, c3, c4, c5⟩ := h2 2 (by simp)
        simp [endOf, List.getD] at c1 c2 c3
        omega
theorem aw_cut {l : List (Nat × Nat)} {e : Int} (h : CutRes awL l e) : l = [(0, 2), (2, 3)] ∧ e = 0 := by
  rcases h with ⟨_, _, x, hx, hv⟩ | ⟨_, ys, ho, h⟩
  · rw [aw_valid x hx] at hv; cases hv
  · obtain rfl := ho.unique aw_ord
    rcases h with ⟨_, _, h⟩ | ⟨_, _, _, h⟩ | ⟨h1, _, _, h⟩
    · exact absurd h (by decide)
    · exact absurd aw_one h
    · exact ⟨aw_cuts h, h1⟩
theorem aw_wit {ys : List Res} {f : Nat → SV} (ho : OrdOf awL ys) (h : WitPost ys f) : f 0 = idL 0 0 0 ∧ f 1 = idL 0 0 2 ∧ f 2 = .b true := by
  obtain rfl := ho.unique aw_ord
  rcases h with ⟨h, _⟩ | ⟨i, k, ⟨h1, h2, h3, h4, h5⟩, e0, e1, e2⟩
  · exact absurd aw_bad2 (h 2 (by omega) (by decide))
  · obtain rfl := aw_clash h3
    have hi : i = 0 := by
      rcases Nat.eq_zero_or_pos i with h | h
      · exact h
      · have := h5 0 h; rw [aw_c02] at this; cases this
    subst hi
    exact ⟨e0, e1, e2⟩
theorem aw_cons {ys : List Res} {b : Bool} (ho : OrdOf awL ys) (h : b = true ↔ consR ys) : b = false := by
  obtain rfl := ho.unique aw_ord
  cases b with
  | false => rfl
  | true => exact absurd aw_bad2 (h.1 rfl 2 (by omega) (by decide))
def awL2 : List Res := [awR 0, awR 1]
theorem aw2_valid : ∀ r ∈ awL2, validR r = true := by decide
theorem aw2_asc : Asc awL2 := by unfold Asc; decide
theorem aw2_in : ∀ r ∈ awL2, RgR r := by unfold RgR; decide
theorem aw2_ord : OrdOf awL2 awL2 := .self aw2_asc aw2_valid
theorem aw2_cons {ys : List Res} {b : Bool} (ho : OrdOf awL2 ys) (h : b = true ↔ consR ys) : b = true := by
  obtain rfl := ho.unique aw2_ord
  refine h.2 ?_
  rintro k h1 h2 ⟨i, g1, g2, g3⟩
  have hk : k < 2 := h2
  obtain rfl : i = 0 := by omega
  obtain rfl : k = 1 := by omega
  exact absurd g3 (by decide)
def awC (i : Nat) : List SV := [SV.i .i64 0, .i .i64 0, .i .i64 i, .i .i64 i, .i .u32 9, .i .i64 17, .i .i64 0, .i .i64 1, .tt, .b false, .i .i64 ((i + 1 : Nat) : Int), .i .u32 (awR i).from_, .i .i64 1, .i .i64 0, .i .i64 0, .i .i64 0, .i .i64 0]
theorem aw_take {i : Nat} (h : i < 3) : awL.take i ++ [awR i] = awL.take (i + 1) := by
  rcases (show i = 0 ∨ i = 1 ∨ i = 2 by omega) with rfl | rfl | rfl <;> rfl
theorem aw_el {i : Nat} (h : i < 3) : rdL [SV.i .u32 1, SV.i .u32 1, SV.i .u32 2] 1 i 0 = .i .u32 (awR i).from_ := by
  rcases (show i = 0 ∨ i = 1 ∨ i = 2 by omega) with rfl | rfl | rfl <;> rfl
def awA (i : Nat) : Int := if i = 2 then 2 else 1
theorem aw_idE (a b c d e f : Int) : aggEq Try.prog 29 3 (fun j => [SV.i .i64 a, SV.i .i64 b, SV.i .i64 c].getD j default) 3 (fun j => [SV.i .i64 d, SV.i .i64 e, SV.i .i64 f].getD j default) = some ([a == d, b == e, c == f].all id) := by kernel_rfl
theorem aw_ep : aggEq Try.prog 57 2 (fun j => epRd [(0, 2), (2, 3)] 1 j) 2 (fun j => [SV.i .i64 2, SV.i .i64 3].getD j default) = some true := by kernel_rfl
theorem aw_id0 : aggEq Try.prog 29 3 (fun j => [SV.i .i64 0, SV.i .i64 0, SV.i .i64 0].getD j default) 3 (fun j => [SV.i .i64 0, SV.i .i64 0, SV.i .i64 0].getD j default) = some true := by kernel_rfl
theorem aw_id2 : aggEq Try.prog 29 3 (fun j => [SV.i .i64 0, SV.i .i64 0, SV.i .i64 2].getD j default) 3 (fun j => [SV.i .i64 0, SV.i .i64 0, SV.i .i64 2].getD j default) = some true := by kernel_rfl
theorem aw_epE (a b d e : Int) : aggEq Try.prog 57 2 (fun j => [SV.i .i64 a, SV.i .i64 b].getD j default) 2 (fun j => [SV.i .i64 d, SV.i .i64 e].getD j default) = some ([a == d, b == e].all id) := by kernel_rfl
set_option maxRecDepth 100000 in
theorem awakeC (F : Frm) : Contract F Try.prog 7 [] (fun r => r = .b true) := by
  refine contract_of Try.func7 rfl (by kernel_rfl) ?_
  simp only [Try.ntmps7, argEnv]
  (repeat refine Sat.seq ?_)
  (refine Sat.region_k fun k hk => ?_; simp -implicitDefEqProofs only [evr, id, reduceCtorEq, reduceIte, Nat.reduceMul, Nat.reduceAdd, Nat.reduceLT, Nat.reduceLeDiff, Nat.reduceEqDiff, Int.reduceLT, Int.reduceBEq, Int.reduceBNe, Nat.reduceBEq, res_one, List.append_nil, Int.toNat_zero, Nat.sub_self, Int.reduceToNat, resRow, res_ro, epRow, ep_one]; refine hk _ ?_; clear hk k; try show Sat _ _ _ _ _)
  (repeat refine Sat.seq ?_)
  (refine Sat.region_k fun k hk => ?_; simp -implicitDefEqProofs only [evr, id, reduceCtorEq, reduceIte, Nat.reduceMul, Nat.reduceAdd, Nat.reduceLT, Nat.reduceLeDiff, Nat.reduceEqDiff, Int.reduceLT, Int.reduceBEq, Int.reduceBNe, Nat.reduceBEq, res_one, List.append_nil, Int.toNat_zero, Nat.sub_self, Int.reduceToNat, resRow, res_ro, epRow, ep_one]; refine hk _ ?_; clear hk k; try show Sat _ _ _ _ _)
  (repeat refine Sat.seq ?_)
  (refine Sat.region_k fun k hk => ?_; simp -implicitDefEqProofs only [evr, id, reduceCtorEq, reduceIte, Nat.reduceMul, Nat.reduceAdd, Nat.reduceLT, Nat.reduceLeDiff, Nat.reduceEqDiff, Int.reduceLT, Int.reduceBEq, Int.reduceBNe, Nat.reduceBEq, res_one, List.append_nil, Int.toNat_zero, Nat.sub_self, Int.reduceToNat, resRow, res_ro, epRow, ep_one])
  intro b9
  (refine hk _ ?_; clear hk k; try show Sat _ _ _ _ _)
  refine Sat.adopt 1 39 17 (resRd #[]) rfl ?_
  refine Sat.settle2 9 rfl rfl ?_
  simp -implicitDefEqProofs only [evr, id, reduceCtorEq, reduceIte, Nat.reduceMul, Nat.reduceAdd, Nat.reduceLT, Nat.reduceLeDiff, Nat.reduceEqDiff, Int.reduceLT, Int.reduceBEq, Int.reduceBNe, Nat.reduceBEq, res_one, List.append_nil, Int.toNat_zero, Nat.sub_self, Int.reduceToNat, resRow, res_ro, epRow, ep_one]
  (repeat refine Sat.seq ?_)
  refine Sat.block ?_
  refine Sat.loop (ι := Nat × Option Addr × Nat) (fun z => ⟨84, [(11, .i .i64 z.1), (10, .i .i64 3), (9, .sl (some ⟨b9, 0, none⟩) 3 3 1 (rdL [.i .u32 1, .i .u32 1, .i .u32 2] 1)), (1, .os 1 z.2.1 z.1 z.2.2)], [.gone, resRow z.2.1 z.1 z.2.2 (awL.take z.1).toArray]⟩)
    (fun z => z.1 ≤ 3) (fun z => 3 - z.1) (0, none, 0) (Nat.zero_le _) (by simp -implicitDefEqProofs only [evr, id, reduceCtorEq, reduceIte, Nat.reduceMul, Nat.reduceAdd, Nat.reduceLT, Nat.reduceLeDiff, Nat.reduceEqDiff, Int.reduceLT, Int.reduceBEq, Int.reduceBNe, Nat.reduceBEq, res_one, List.append_nil, Int.toNat_zero, Nat.sub_self, Int.reduceToNat, resRow, res_ro, epRow, ep_one, evl]; exact ⟨rfl, rfl⟩) ?_
  rintro ⟨i, a, c⟩ hi
  simp only [resRow] at hi ⊢
  (repeat refine Sat.seq ?_)
  (refine Sat.region_k fun k hk => ?_; simp -implicitDefEqProofs only [evr, id, reduceCtorEq, reduceIte, Nat.reduceMul, Nat.reduceAdd, Nat.reduceLT, Nat.reduceLeDiff, Nat.reduceEqDiff, Int.reduceLT, Int.reduceBEq, Int.reduceBNe, Nat.reduceBEq, res_one, List.append_nil, Int.toNat_zero, Nat.sub_self, Int.reduceToNat, resRow, res_ro, epRow, ep_one]; refine hk _ ?_; clear hk k; try show Sat _ _ _ _ _)
  (repeat refine Sat.seq ?_)
  refine Sat.cond_b rfl (fun h => ?_) (fun h => ?_)
  · have h1 : i < 3 := by simp only [decide_eq_true_eq] at h; omega
    have e2 : IntKind.i64.wrap ((i : Int) + 1) = ((i + 1 : Nat) : Int) := by rw [w64 (by omega)]; omega
    refine Sat.skip ?_
    simp only [thenK]
    (repeat refine Sat.seq ?_)
    refine Sat.block ?_
    (repeat refine Sat.seq ?_)
    (refine Sat.region_k fun k hk => ?_; simp -implicitDefEqProofs only [evr, id, reduceCtorEq, reduceIte, Nat.reduceMul, Nat.reduceAdd, Nat.reduceLT, Nat.reduceLeDiff, Nat.reduceEqDiff, Int.reduceLT, Int.reduceBEq, Int.reduceBNe, Nat.reduceBEq, res_one, List.append_nil, Int.toNat_zero, Nat.sub_self, Int.reduceToNat, resRow, res_ro, epRow, ep_one])
    refine ⟨by omega, ?_⟩
    rw [aw_el h1]
    (refine hk _ ?_; clear hk k; try show Sat _ _ _ _ _)
    (repeat refine Sat.seq ?_)
    (refine Sat.region_k fun k hk => ?_; simp -implicitDefEqProofs only [evr, id, reduceCtorEq, reduceIte, Nat.reduceMul, Nat.reduceAdd, Nat.reduceLT, Nat.reduceLeDiff, Nat.reduceEqDiff, Int.reduceLT, Int.reduceBEq, Int.reduceBNe, Nat.reduceBEq, res_one, List.append_nil, Int.toNat_zero, Nat.sub_self, Int.reduceToNat, resRow, res_ro, epRow, ep_one])
    simp only [e2]
    intro b3
    refine ⟨⟨by unfold maxLen; omega, by omega⟩, fun a2 cap2 => ?_⟩
    (refine hk _ ?_; clear hk k; try show Sat _ _ _ _ _)
    have hle : (awL.take i).length = i := by rw [List.length_take]; show min i 3 = i; omega
    refine Sat.reread 1 (resRd (awL.take (i + 1)).toArray) rfl ?_ ?_
    · have e5 := res_appS (ys := awL.take i) (x := awR i) (cs := awC i) ?_
      · rw [hle, aw_take h1] at e5
        exact e5
      · simp only [awC, awR, Res.cs, simA]
        refine ⟨?_, ?_, ?_, ?_, ?_, ?_, ?_, ?_, ?_, ?_, ?_, ?_, ?_, ?_, ?_, ?_, ?_, trivial⟩ <;> first | exact sim_refl _ | exact sim_tt
    simp -implicitDefEqProofs only [evr, id, reduceCtorEq, reduceIte, Nat.reduceMul, Nat.reduceAdd, Nat.reduceLT, Nat.reduceLeDiff, Nat.reduceEqDiff, Int.reduceLT, Int.reduceBEq, Int.reduceBNe, Nat.reduceBEq, res_one, List.append_nil, Int.toNat_zero, Nat.sub_self, Int.reduceToNat, resRow, res_ro, epRow, ep_one]
    refine Sat.region_k fun k hk => ?_
    simp -implicitDefEqProofs only [evr, id, reduceCtorEq, reduceIte, Nat.reduceMul, Nat.reduceAdd, Nat.reduceLT, Nat.reduceLeDiff, Nat.reduceEqDiff, Int.reduceLT, Int.reduceBEq, Int.reduceBNe, Nat.reduceBEq, res_one, List.append_nil, Int.toNat_zero, Nat.sub_self, Int.reduceToNat, resRow, res_ro, epRow, ep_one, e2]
    refine hk _ ?_
    simp only [thenK, blockK]
    refine ⟨(i + 1, a2, cap2), by simp only; omega, by simp only; omega, ?_⟩
    simp -implicitDefEqProofs only [evr, id, reduceCtorEq, reduceIte, Nat.reduceMul, Nat.reduceAdd, Nat.reduceLT, Nat.reduceLeDiff, Nat.reduceEqDiff, Int.reduceLT, Int.reduceBEq, Int.reduceBNe, Nat.reduceBEq, res_one, List.append_nil, Int.toNat_zero, Nat.sub_self, Int.reduceToNat, resRow, res_ro, epRow, ep_one, evl]
  · have h1 : i = 3 := by simp only [decide_eq_false_iff_not] at h; omega
    subst h1
    refine Sat.exit ?_
    simp only [thenK, blockK, reduceIte]
    refine Sat.settle2 1 rfl rfl ?_
    simp -implicitDefEqProofs only [evr, id, reduceCtorEq, reduceIte, Nat.reduceMul, Nat.reduceAdd, Nat.reduceLT, Nat.reduceLeDiff, Nat.reduceEqDiff, Int.reduceLT, Int.reduceBEq, Int.reduceBNe, Nat.reduceBEq, res_one, List.append_nil, Int.toNat_zero, Nat.sub_self, Int.reduceToNat, resRow, res_ro, epRow, ep_one]
    (repeat refine Sat.seq ?_)
    (refine Sat.region_k fun k hk => ?_; simp -implicitDefEqProofs only [evr, id, reduceCtorEq, reduceIte, Nat.reduceMul, Nat.reduceAdd, Nat.reduceLT, Nat.reduceLeDiff, Nat.reduceEqDiff, Int.reduceLT, Int.reduceBEq, Int.reduceBNe, Nat.reduceBEq, res_one, List.append_nil, Int.toNat_zero, Nat.sub_self, Int.reduceToNat, resRow, res_ro, epRow, ep_one])
    have hl3 : awL.length = 3 := rfl
    have ht : awL.take 3 = awL := rfl
    rw [ht]
    refine wcall_slice (cutC F a c awL (by decide) aw_in) rfl (by simp -implicitDefEqProofs only [evr, id, reduceCtorEq, reduceIte, Nat.reduceMul, Nat.reduceAdd, Nat.reduceLT, Nat.reduceLeDiff, Nat.reduceEqDiff, Int.reduceLT, Int.reduceBEq, Int.reduceBNe, Nat.reduceBEq, res_one, List.append_nil, Int.toNat_zero, Nat.sub_self, Int.reduceToNat, resRow, res_ro, epRow, ep_one, hl3]) ?_
    rintro r ⟨ca, cc, l, e, hcut, _, rfl⟩
    obtain ⟨rfl, rfl⟩ := aw_cut hcut
    simp -implicitDefEqProofs only [evr, id, reduceCtorEq, reduceIte, Nat.reduceMul, Nat.reduceAdd, Nat.reduceLT, Nat.reduceLeDiff, Nat.reduceEqDiff, Int.reduceLT, Int.reduceBEq, Int.reduceBNe, Nat.reduceBEq, res_one, List.append_nil, Int.toNat_zero, Nat.sub_self, Int.reduceToNat, resRow, res_ro, epRow, ep_one]
    (refine hk _ ?_; clear hk k; try show Sat _ _ _ _ _)
    (repeat refine Sat.seq ?_)
    (refine Sat.region_k fun k hk => ?_; simp -implicitDefEqProofs only [evr, id, reduceCtorEq, reduceIte, Nat.reduceMul, Nat.reduceAdd, Nat.reduceLT, Nat.reduceLeDiff, Nat.reduceEqDiff, Int.reduceLT, Int.reduceBEq, Int.reduceBNe, Nat.reduceBEq, res_one, List.append_nil, Int.toNat_zero, Nat.sub_self, Int.reduceToNat, resRow, res_ro, epRow, ep_one])
    refine wcall_plain (witnessC F a c awL (by decide) aw_in) (by simp -implicitDefEqProofs only [evr, id, reduceCtorEq, reduceIte, Nat.reduceMul, Nat.reduceAdd, Nat.reduceLT, Nat.reduceLeDiff, Nat.reduceEqDiff, Int.reduceLT, Int.reduceBEq, Int.reduceBNe, Nat.reduceBEq, res_one, List.append_nil, Int.toNat_zero, Nat.sub_self, Int.reduceToNat, resRow, res_ro, epRow, ep_one, hl3]) (by rintro _ ⟨ys, f, _, hf, rfl⟩; exact hf.ok) ?_
    rintro r ⟨ys, f, ho, hf, rfl⟩
    obtain ⟨e0, e1, e2⟩ := aw_wit ho hf
    rw [e0, e1, e2]
    simp only [idL, evr, id, reduceCtorEq, reduceIte, Nat.reduceMul, Nat.reduceAdd, Nat.reduceLT, Nat.reduceLeDiff, Nat.reduceEqDiff, Int.reduceLT, Int.reduceBEq, Int.reduceBNe, Nat.reduceBEq, res_one, List.append_nil, Int.toNat_zero, Nat.sub_self, Int.reduceToNat, resRow, res_ro, epRow, ep_one]
    intro b6 b7
    (refine hk _ ?_; clear hk k; try show Sat _ _ _ _ _)
    (repeat refine Sat.seq ?_)
    (refine Sat.region_tree (.keep [0, 1, 2, 3, 4, 5, 6, 7, 8, 9, 11, 10, 12, 13, 14, 15, 16, 17, 19, 18, 20, 21, 22, 24, 23, 25, 26, 27, 28, 29, 31, 32, 30, 33] [] (.one 34 (.one 35 (.one 36 (.one 37 (.one 38 (.one 39 (.one 40 (.one 41 (.one 42 (.one 43 (.one 44 (.one 45 (.one 46 .done)))))))))))))) (by kernel_rfl) (by kernel_rfl) (fun _ _ h => h) fun k hk => ?_; simp only [WOT, List.map_cons, List.map_nil, List.getD_cons_zero, List.getD_cons_succ]; simp -implicitDefEqProofs only [evr, id, reduceCtorEq, reduceIte, Nat.reduceMul, Nat.reduceAdd, Nat.reduceLT, Nat.reduceLeDiff, Nat.reduceEqDiff, Int.reduceLT, Int.reduceBEq, Int.reduceBNe, Nat.reduceBEq, res_one, List.append_nil, Int.toNat_zero, Nat.sub_self, Int.reduceToNat, resRow, res_ro, epRow, ep_one, WOT])
    have c2 : ((2 : Nat) : Int) = 2 := rfl
    have c3 : ((3 : Nat) : Int) = 3 := rfl
    simp only [c2, c3, hl3, aw_ep, aw_id0, aw_id2, evr, id, reduceCtorEq, reduceIte, Nat.reduceMul, Nat.reduceAdd, Nat.reduceLT, Nat.reduceLeDiff, Nat.reduceEqDiff, Int.reduceLT, Int.reduceBEq, Int.reduceBNe, Nat.reduceBEq, res_one, List.append_nil, Int.toNat_zero, Nat.sub_self, Int.reduceToNat, resRow, res_ro, epRow, ep_one]
    refine ⟨by omega, by omega, by omega, ?_⟩
    refine wcall_plain (contradictC F awL.toArray[0]! awL.toArray[2]!) rfl (by rintro _ rfl; exact ok_plain rfl) ?_
    rintro r rfl
    simp only [aw_c02, evr, id, reduceCtorEq, reduceIte, Nat.reduceMul, Nat.reduceAdd, Nat.reduceLT, Nat.reduceLeDiff, Nat.reduceEqDiff, Int.reduceLT, Int.reduceBEq, Int.reduceBNe, Nat.reduceBEq, res_one, List.append_nil, Int.toNat_zero, Nat.sub_self, Int.reduceToNat, resRow, res_ro, epRow, ep_one]
    refine wcall_plain (consistentC F a c awL (by decide) aw_in) (by simp -implicitDefEqProofs only [evr, id, reduceCtorEq, reduceIte, Nat.reduceMul, Nat.reduceAdd, Nat.reduceLT, Nat.reduceLeDiff, Nat.reduceEqDiff, Int.reduceLT, Int.reduceBEq, Int.reduceBNe, Nat.reduceBEq, res_one, List.append_nil, Int.toNat_zero, Nat.sub_self, Int.reduceToNat, resRow, res_ro, epRow, ep_one, hl3]) (by rintro _ ⟨ys, b, _, _, rfl⟩; exact ok_plain rfl) ?_
    rintro r ⟨ys2, b, ho2, hb, rfl⟩
    obtain rfl := aw_cons ho2 hb
    simp -implicitDefEqProofs only [evr, id, reduceCtorEq, reduceIte, Nat.reduceMul, Nat.reduceAdd, Nat.reduceLT, Nat.reduceLeDiff, Nat.reduceEqDiff, Int.reduceLT, Int.reduceBEq, Int.reduceBNe, Nat.reduceBEq, res_one, List.append_nil, Int.toNat_zero, Nat.sub_self, Int.reduceToNat, resRow, res_ro, epRow, ep_one]
    refine ⟨⟨by omega, by omega, by omega⟩, ?_⟩
    have hc2 := consistentC F (if c = 0 then a else Option.map (fun x => x.add 0) a) (c - 0) awL2 (by decide) aw2_in
    refine wcall_plain (Contract.of_sim (args := [SV.sl (if c = 0 then a else Option.map (fun x => x.add 0) a) (2 - 0) (c - 0) 17 fun i j => resRd awL.toArray i j]) hc2 ⟨sim_sl fun i j hi hj => ?_, trivial⟩) (by simp -implicitDefEqProofs only [evr, id, reduceCtorEq, reduceIte, Nat.reduceMul, Nat.reduceAdd, Nat.reduceLT, Nat.reduceLeDiff, Nat.reduceEqDiff, Int.reduceLT, Int.reduceBEq, Int.reduceBNe, Nat.reduceBEq, res_one, List.append_nil, Int.toNat_zero, Nat.sub_self, Int.reduceToNat, resRow, res_ro, epRow, ep_one]) (by rintro _ ⟨ys, b, _, _, rfl⟩; exact ok_plain rfl) ?_
    · have : i < 2 := hi
      rcases (show i = 0 ∨ i = 1 by omega) with rfl | rfl <;> rfl
    rintro r ⟨ys3, b, ho3, hb, rfl⟩
    obtain rfl := aw2_cons ho3 hb
    simp -implicitDefEqProofs only [evr, id, reduceCtorEq, reduceIte, Nat.reduceMul, Nat.reduceAdd, Nat.reduceLT, Nat.reduceLeDiff, Nat.reduceEqDiff, Int.reduceLT, Int.reduceBEq, Int.reduceBNe, Nat.reduceBEq, res_one, List.append_nil, Int.toNat_zero, Nat.sub_self, Int.reduceToNat, resRow, res_ro, epRow, ep_one]
    (refine hk _ ?_; clear hk k; try show Sat _ _ _ _ _)
    refine Sat.ret ?_
    simp only [Try.results7, evr, id, reduceCtorEq, reduceIte, Nat.reduceMul, Nat.reduceAdd, Nat.reduceLT, Nat.reduceLeDiff, Nat.reduceEqDiff, Int.reduceLT, Int.reduceBEq, Int.reduceBNe, Nat.reduceBEq, res_one, List.append_nil, Int.toNat_zero, Nat.sub_self, Int.reduceToNat, resRow, res_ro, epRow, ep_one]
end Go.Proofs.Ytkpmihaaijiihaa

/- How a slice of integers reads in memory: 'Rd', and a row of integers of the call's own: 'Own'. -/
namespace Go.Proofs.Ytkpmihaaijiihaa
open Go.RowKit
def Rd (k : IntKind) (w : World) (v : Value) (xs : List Int) : Prop :=
  ∃ ad cap, v = .slice ad xs.length cap ∧ xs.length ≤ cap ∧ cap ≤ maxLen ∧
    (xs.length = 0 ∨ ∃ b off, ad = some ⟨b, off, none⟩ ∧ b < w.heap.size ∧ ∀ i, i < xs.length → w.cell? ⟨b, off + i, none⟩ = some (.int k (xs.getD i 0)))
theorem Rd.nil (k : IntKind) (w : World) : Rd k w (.slice none 0 0) [] := ⟨none, 0, rfl, by simp, by simp [maxLen], .inl rfl⟩
theorem Rd.below {k : IntKind} {w w' : World} {v : Value} {xs : List Int} (h : Rd k w v xs) (hb : Below w.heap.size w w') : Rd k w' v xs := by
  obtain ⟨ad, cap, rfl, h1, h2, h3⟩ := h
  refine ⟨ad, cap, rfl, h1, h2, ?_⟩
  rcases h3 with h3 | ⟨b, off, rfl, hlt, hc⟩
  · exact .inl h3
  · exact .inr ⟨b, off, rfl, Nat.lt_of_lt_of_le hlt hb.size, fun i hi => (hb.cell (p := ⟨b, off + i, none⟩) hlt).trans (hc i hi)⟩
theorem Rd.take {k : IntKind} {w : World} {ad : Option Addr} {cap : Nat} {xs : List Int} (h : Rd k w (.slice ad xs.length cap) xs) (n : Nat) (hn : n ≤ xs.length) : Rd k w (.slice ad n cap) (xs.take n) := by
  obtain ⟨ad', cap', e, h1, h2, h3⟩ := h
  simp only [Value.slice.injEq] at e
  obtain ⟨rfl, _, rfl⟩ := e
  have hl : (xs.take n).length = n := by simp; omega
  refine ⟨ad, cap, by rw [hl], by omega, h2, ?_⟩
  rw [hl]
  rcases h3 with h3 | ⟨b, off, rfl, hlt, hc⟩
  · exact .inl (by omega)
  · refine .inr ⟨b, off, rfl, hlt, fun i hi => ?_⟩
    rw [hc i (by omega)]
    simp [List.getD, hi]
theorem rd_of_ints {k : IntKind} {w : World} {x : Addr} {l c : Nat} {zs : List Int} (hl : l ≤ c) (hm : c ≤ maxLen) (hz : zs.length = c) (hcell : ∀ i, i < zs.length → w.cell? (x.add i) = some (.int k (zs.getD i 0))) : Rd k w (.slice (some x) l c) (zs.take l) := by
  have hlen : (zs.take l).length = l := by simp; omega
  refine ⟨some x, c, by rw [hlen], by omega, hm, ?_⟩
  by_cases h0 : l = 0
  · exact .inl (by omega)
  · obtain ⟨b, off, spot⟩ := x
    have hc := hcell 0 (by omega)
    have hspot : spot = none := by simpa [Addr.add] using World.cell?_spot hc
    subst hspot
    refine .inr ⟨b, off, rfl, World.block_lt_of_cell? w _ hc, fun i hi => ?_⟩
    rw [hlen] at hi
    have := hcell i (by omega)
    rw [Addr.add_lit] at this
    rw [this]
    simp [List.getD, hi]
def Own (k : IntKind) (e : TypeId) (B : Nat) (w : World) (g n : Nat) (xs : List Int) : Prop :=
  w.ownsRow B e 1 (.slice (some ⟨g, 0, none⟩) n n) n (xs.map (Value.int k))
section
variable {k : IntKind} {e : TypeId} {B : Nat} {w : World} {g n : Nat} {xs : List Int}
theorem Own.len (h : Own k e B w g n xs) : xs.length = n := by have := h.1; simpa using this
theorem Own.lt (h : Own k e B w g n xs) : B ≤ g ∧ g < w.heap.size := World.ownsRow.lt h g rfl
theorem Own.cell (h : Own k e B w g n xs) (i : Nat) (hi : i < n) : w.cell? ⟨g, i, none⟩ = some (.int k (xs.getD i 0)) := by
  have hl := h.len
  rw [World.ownsRow.cellAt h i (by omega)]
  simp [List.getD, show i < xs.length by omega]
theorem Own.frozen (h : Own k e B w g n xs) (i : Nat) : w.frozen? ⟨g, i, none⟩ = false := World.ownsRow.frozenAt h i
theorem Own.store (h : Own k e B w g n xs) (i : Nat) (v : Int) : Own k e B (w.setCell ⟨g, i, none⟩ (.int k v)) g n (xs.set i v) := by
  have := (World.ownsRow.stored h i (.int k v)).1
  unfold Own
  rwa [List.map_set]
theorem Own.below {w' : World} (h : Own k e B w g n xs) (hb : Below w.heap.size w w') : Own k e B w' g n xs :=
  World.ownsRow.kept h ⟨hb.os, hb.tape, hb.output, hb.size, fun i hi _ => hb.block i hi⟩ (row := none) (.inr (by simp [Value.ownBlock]))
theorem Own.cap (h : Own k e B w g n xs) : n ≤ maxLen := by
  rcases h.2 with ⟨h, _⟩ | ⟨_, cap, _, h, _, _, hn, hc, _⟩
  · cases h
  · simp only [Value.slice.injEq] at h; omega
theorem Own.rd (h : Own k e B w g n xs) : Rd k w (.slice (some ⟨g, 0, none⟩) n n) xs := by
  have hl := h.len
  refine ⟨some ⟨g, 0, none⟩, n, by rw [hl], by omega, h.cap, ?_⟩
  by_cases h0 : n = 0
  · exact .inl (by omega)
  · exact .inr ⟨g, 0, rfl, h.lt.2, fun i hi => by rw [Nat.zero_add]; exact h.cell i (by omega)⟩
end
theorem bcell {W w1 : World} (hb : Below W.heap.size W w1) : (∀ b o, b < W.heap.size → w1.cell? ⟨b, o, none⟩ = W.cell? ⟨b, o, none⟩) ∧ (∀ b o, b < W.heap.size → w1.frozen? ⟨b, o, none⟩ = W.frozen? ⟨b, o, none⟩) :=
  ⟨fun b o h => hb.cell (p := ⟨b, o, none⟩) h, fun b o h => hb.frozen (p := ⟨b, o, none⟩) h⟩
theorem Below.drewN' (w : World) (n : Nat) : Below w.heap.size w (w.drewN n) := ⟨rfl, rfl, rfl, Nat.le_refl _, fun _ _ => rfl⟩
theorem ret_int {k : IntKind} {a b : Int} (h : a = b) : Ending.returned (.int k a) = .returned (.int k b) := by rw [h]
/-! bits at int -/
theorem ofInt_i64 (a : Nat) (ha : a < 9223372036854775808) : (BitVec.ofInt 64 (a : Int)).toNat = a := by
  rw [BitVec.ofInt_natCast, BitVec.toNat_ofNat]; exact Nat.mod_eq_of_lt (by omega)
theorem and_limb (n : Int) : bits .and .i64 n 1073741823 = n % 1073741824 := by
  show IntKind.i64.wrap ((BitVec.ofInt 64 n &&& BitVec.ofInt 64 1073741823).toNat : Int) = _
  have e : (BitVec.ofInt 64 n &&& BitVec.ofInt 64 1073741823).toNat = (n % 18446744073709551616).toNat % 1073741824 := by
    rw [BitVec.toNat_and, BitVec.toNat_ofInt]
    exact Nat.and_two_pow_sub_one_eq_mod _ 30
  rw [e, IntKind.wrap_i64]
  omega
theorem or_limb (a b : Int) (ha : 0 ≤ a) (ha' : a < 8589934592) (hb : 0 ≤ b) (hb' : b < 1073741824) : bits .or .i64 (a * 1073741824) b = a * 1073741824 + b := by
  obtain ⟨x, rfl⟩ := Int.eq_ofNat_of_zero_le ha
  obtain ⟨y, rfl⟩ := Int.eq_ofNat_of_zero_le hb
  show IntKind.i64.wrap ((BitVec.ofInt 64 ((x : Int) * 1073741824) ||| BitVec.ofInt 64 (y : Int)).toNat : Int) = _
  have e1 : ((x : Int) * 1073741824) = ((x * 1073741824 : Nat) : Int) := by simp
  rw [e1, BitVec.toNat_or, ofInt_i64 _ (by omega), ofInt_i64 _ (by omega)]
  have e2 : x * 1073741824 ||| y = x * 1073741824 + y := nat_join 30 _ _ (by omega) (by omega)
  rw [e2, IntKind.wrap_i64]
  omega
end Go.Proofs.Ytkpmihaaijiihaa

/- From a contract to the walk of a law: bytes that came in. -/
set_option linter.unusedSimpArgs false
set_option linter.unusedVariables false
namespace Go.Proofs.Ytkpmihaaijiihaa
open Go.RowKit Eng
def slB (a : Option Addr) (cap : Nat) (z : List Int) : SV := .sl a z.length cap 1 fun i _ => .i .u8 (z.getD i 0)
theorem slB_of {w : World} {v : Value} {z : List Int} (h : Rd .u8 w v z) : ∃ a cap, v = (slB a cap z).den ∧ (slB a cap z).ok (fun b => b < w.heap.size) w := by
  obtain ⟨ad, cap, rfl, h1, h2, h3⟩ := h
  refine ⟨ad, cap, rfl, h1, h2, ?_⟩
  rcases h3 with h3 | ⟨b, off, rfl, hlt, hc⟩
  · exact .inl h3
  · refine .inr ⟨b, off, rfl, hlt, fun i j hi hj => ?_⟩
    obtain rfl : j = 0 := by omega
    rw [Nat.mul_one]
    exact ⟨hc i hi, rfl, trivial⟩
theorem walk_of {P : Program} {f : FuncId} {args : List SV} (h : Contract Frm.nil P f args (fun r => r = .b true)) {w : World} (ha : ∀ s ∈ args, s.ok (fun b => b < w.heap.size) w) :
    Calls P f (args.map SV.den).toArray w fun e w' => e = .returned (.bool true) ∧ Below w.heap.size w w' :=
  (h.calls _ w trivial ha (fun b hb => ⟨hb, fun h => h⟩)).mono fun e w' ⟨r, he, hr, _, hevo, _⟩ => by
    subst hr
    exact ⟨he, ⟨hevo.os, hevo.tape, hevo.output, hevo.size, fun b hb => hevo.block b hb (fun h => h)⟩⟩
end Go.Proofs.Ytkpmihaaijiihaa

/- routescopedraw.Codes: New makes choices; Next gives a number in its range, whatever the codes are. -/
namespace Go.Proofs.Ytkpmihaaijiihaa
open Go.RowKit
def Codes (cb : Nat) (w : World) : Prop :=
  ∃ (ad : Option Addr) (n cap p : Nat), w.heap[cb]? = some (.cells #[.slice ad n cap, .int .i64 (p : Int)] 73 (0, 0)) ∧ n ≤ maxLen ∧ p ≤ n ∧
    (n = 0 ∨ ∃ b off, ad = some ⟨b, off, none⟩ ∧ b < cb ∧ ∀ i, i < n → ∃ x : Int, 0 ≤ x ∧ x < 256 ∧ w.cell? ⟨b, off + i, none⟩ = some (.int .u8 x))
theorem Codes.lt {cb : Nat} {w : World} (h : Codes cb w) : cb < w.heap.size := by
  obtain ⟨_, _, _, _, h, _⟩ := h
  exact (Array.getElem?_eq_some_iff.1 h).1
theorem Codes.kept {cb : Nat} {w w' : World} (h : Codes cb w) (hb : ∀ k, k ≤ cb → w'.heap[k]? = w.heap[k]?) : Codes cb w' := by
  obtain ⟨ad, n, cap, p, h1, h2, h3, h4⟩ := h
  refine ⟨ad, n, cap, p, (hb cb (Nat.le_refl _)).trans h1, h2, h3, ?_⟩
  rcases h4 with h4 | ⟨b, off, h5, h6, h8⟩
  · exact .inl h4
  · exact .inr ⟨b, off, h5, h6, fun i hi => let ⟨x, x0, x1, hx⟩ := h8 i hi; ⟨x, x0, x1, (World.cell?_of_block (w := w) (a := ⟨b, off + i, none⟩) (hb b (Nat.le_of_lt h6))).trans hx⟩⟩
theorem Codes.below {cb : Nat} {w w' : World} (h : Codes cb w) (hb : Below w.heap.size w w') : Codes cb w' :=
  h.kept fun k hk => hb.block k (Nat.lt_of_le_of_lt hk h.lt)
theorem Codes.grown {cb : Nat} {w w' : World} {row : Option Nat} (h : Codes cb w) (hg : w.grownBy w' row) (hr : ∀ k, row = some k → cb < k) : Codes cb w' :=
  h.kept fun k hk => hg.block k (Nat.lt_of_le_of_lt hk h.lt) fun e => by have := hr k e.symm; omega
theorem grown_trans {a b c : World} {row : Option Nat} (h : a.grownBy b row) (k : b.grownBy c row) : a.grownBy c row :=
  ⟨k.os.trans h.os, k.tape.trans h.tape, k.output.trans h.output, Nat.le_trans h.size k.size, fun i hi hne => (k.block i (Nat.lt_of_lt_of_le hi h.size) hne).trans (h.block i hi hne)⟩
theorem grown_of_below {a b : World} (h : Below a.heap.size a b) (row : Option Nat) : a.grownBy b row := ⟨h.os, h.tape, h.output, h.size, fun i hi _ => h.block i hi⟩
theorem grown_own {a b c : World} {row row' : Option Nat} (h : a.grownBy b row) (k : b.grownBy c row') (hr : ∀ i, row' = some i → a.heap.size ≤ i) : a.grownBy c row :=
  ⟨k.os.trans h.os, k.tape.trans h.tape, k.output.trans h.output, Nat.le_trans h.size k.size, fun i hi hne => (k.block i (Nat.lt_of_lt_of_le hi h.size) (fun e => by have := hr i e.symm; omega)).trans (h.block i hi hne)⟩
theorem grown_alloc {a b : World} {row : Option Nat} (h : a.grownBy b row) (o : Obj) : a.grownBy (b.alloc o) row := grown_trans h (World.grownBy_alloc b o row)
theorem own_kept {w w' : World} {B cb : Nat} {e : TypeId} {size : Nat} {v : Value} {n : Nat} {xs : List Value} (h : w.ownsRow B e size v n xs) (hg : w.grownBy w' (some cb)) (hcb : cb < B) : w'.ownsRow B e size v n xs := by
  refine h.kept hg ?_
  cases hv : v.ownBlock with
  | none => exact .inl rfl
  | some k => have := (h.lt k hv).1; exact .inr (fun e => by injection e; omega)
theorem grown_drewN {a b : World} {row : Option Nat} (h : a.grownBy b row) (n : Nat) : a.grownBy (b.drewN n) row := ⟨h.os, h.tape, h.output, h.size, h.block⟩
theorem grown_setCell (w : World) (cb o : Nat) (u : Value) : w.grownBy (w.setCell ⟨cb, o, none⟩ u) (some cb) :=
  ⟨rfl, rfl, rfl, by simp [World.setCell], fun i _ hne => Below.heap_setCell w ⟨cb, o, none⟩ u i (fun e => hne (by rw [e]))⟩
theorem Codes.advance {cb : Nat} {w : World} {ad : Option Addr} {n cap p : Nat} (h1 : w.heap[cb]? = some (.cells #[.slice ad n cap, .int .i64 (p : Int)] 73 (0, 0))) (h2 : n ≤ maxLen) (hp : p < n)
    (h4 : n = 0 ∨ ∃ b off, ad = some ⟨b, off, none⟩ ∧ b < cb ∧ ∀ i, i < n → ∃ x : Int, 0 ≤ x ∧ x < 256 ∧ w.cell? ⟨b, off + i, none⟩ = some (.int .u8 x)) :
    Codes cb (w.setCell ⟨cb, 1, none⟩ (.int .i64 ((p : Int) + 1))) := by
  refine ⟨ad, n, cap, p + 1, ?_, h2, hp, ?_⟩
  · rw [heap_setCell_same w cb 1 _ _ _ h1]; simp
  · rcases h4 with h4 | ⟨b, off, h5, h6, h8⟩
    · exact .inl h4
    · refine .inr ⟨b, off, h5, h6, fun i hi => ?_⟩
      obtain ⟨x, x0, x1, hx⟩ := h8 i hi
      refine ⟨x, x0, x1, ?_⟩
      rw [← hx]
      exact World.cell?_of_block (w := w) (Below.heap_setCell w ⟨cb, 1, none⟩ _ b (Nat.ne_of_lt h6))
def RetNext (cb : Nat) (n : Int) (w : World) (e : Ending) (w' : World) : Prop :=
  ∃ r : Int, e = .returned (.int .i64 r) ∧ 0 ≤ r ∧ (r < n ∨ r = 0) ∧ Codes cb w' ∧ w.grownBy w' (some cb)
set_option maxHeartbeats 1000000 in
theorem next_small (cb : Nat) (n : Int) (w : World) (h : Codes cb w) (hn : n ≤ 256) (hn0 : -9223372036854775808 ≤ n) :
    Calls Try.prog 17 #[.pointer (some ⟨cb, 0, none⟩), .int .i64 n] w (RetNext cb n w) := by
  have hcodes := Lib.hid h
  obtain ⟨ad, l, cap, p, h1, h2, h3, h4⟩ := h
  have h4 := Lib.hid h4
  have c0 : w.cell? ⟨cb, 0, none⟩ = some (.slice ad l cap) := by rw [cell_of_row w cb 0 _ _ _ h1]; rfl
  have c1 : w.cell? ⟨cb, 1, none⟩ = some (.int .i64 (p : Int)) := by rw [cell_of_row w cb 1 _ _ _ h1]; rfl
  have f1 : w.frozen? ⟨cb, 1, none⟩ = false := frozen_of_row w cb 1 _ _ h1
  have H1 := Lib.hid h1
  clear h1
  unfold maxLen at h2
  by_cases hp : l ≤ p
  · have hd : decide (l ≤ p) = true := by simpa using hp
    go_enter Try.func17, Try.ntmps17
    go_wp2
    go_quiet (fail)
    go_wp2
    go_ret
    exact ⟨0, rfl, by omega, .inr rfl, hcodes.out.below (Below.drewN' _ _), grown_of_below (Below.drewN' _ _) _⟩
  · have hd : decide (l ≤ p) = false := by simpa using hp
    by_cases hn1 : n < 1
    · go_enter Try.func17, Try.ntmps17
      go_wp2
      go_quiet (fail)
      go_wp2
      go_ret
      exact ⟨0, rfl, by omega, .inr rfl, hcodes.out.below (Below.drewN' _ _), grown_of_below (Below.drewN' _ _) _⟩
    · have hd1 : decide (n < 1) = false := by simpa using hn1
      obtain ⟨b, off, rfl, hlt, hc⟩ : ∃ b off, ad = some ⟨b, off, none⟩ ∧ b < cb ∧ ∀ i, i < l → ∃ x : Int, 0 ≤ x ∧ x < 256 ∧ w.cell? ⟨b, off + i, none⟩ = some (.int .u8 x) := by
        rcases h4.out with h | h
        · omega
        · exact h
      obtain ⟨x, x0, x1, hx⟩ := hc p (by omega)
      clear hc
      go_enter Try.func17, Try.ntmps17
      go_wp2
      go_quiet (fail)
      go_wp2
      go_quiet (fail)
      go_wp2
      go_ret
      exact ⟨_, rfl, Int.emod_nonneg _ (by omega), .inl (Int.emod_lt_of_pos _ (by omega)), (Codes.advance H1.out (by unfold maxLen; exact h2) (by omega) h4.out).below (Below.drewN' _ _), grown_drewN (grown_setCell _ _ _ _) _⟩
set_option maxHeartbeats 1000000 in
theorem next_calls (cb : Nat) (n : Int) (w : World) (h : Codes cb w) (hn0 : -9223372036854775808 ≤ n) (hn2 : n ≤ 9223372036854775807) :
    Calls Try.prog 17 #[.pointer (some ⟨cb, 0, none⟩), .int .i64 n] w (RetNext cb n w) := by
  by_cases hn : n ≤ 256
  · exact next_small cb n w h hn hn0
  have hcodes := Lib.hid h
  obtain ⟨ad, l, cap, p, h1, h2, h3, h4⟩ := h
  have h4 := Lib.hid h4
  have c0 : w.cell? ⟨cb, 0, none⟩ = some (.slice ad l cap) := by rw [cell_of_row w cb 0 _ _ _ h1]; rfl
  have c1 : w.cell? ⟨cb, 1, none⟩ = some (.int .i64 (p : Int)) := by rw [cell_of_row w cb 1 _ _ _ h1]; rfl
  have f1 : w.frozen? ⟨cb, 1, none⟩ = false := frozen_of_row w cb 1 _ _ h1
  have H1 := Lib.hid h1
  clear h1
  unfold maxLen at h2
  by_cases hp : l ≤ p
  · have hd : decide (l ≤ p) = true := by simpa using hp
    go_enter Try.func17, Try.ntmps17
    go_wp2
    go_quiet (fail)
    go_wp2
    go_ret
    exact ⟨0, rfl, by omega, .inr rfl, hcodes.out.below (Below.drewN' _ _), grown_of_below (Below.drewN' _ _) _⟩
  · have hd : decide (l ≤ p) = false := by simpa using hp
    have hd1 : decide (n < 1) = false := by simp; omega
    obtain ⟨b, off, rfl, hlt, hc⟩ : ∃ b off, ad = some ⟨b, off, none⟩ ∧ b < cb ∧ ∀ i, i < l → ∃ x : Int, 0 ≤ x ∧ x < 256 ∧ w.cell? ⟨b, off + i, none⟩ = some (.int .u8 x) := by
      rcases h4.out with h | h
      · omega
      · exact h
    obtain ⟨x, x0, x1, hx⟩ := hc p (by omega)
    clear hc
    go_enter Try.func17, Try.ntmps17
    go_wp2
    go_quiet (fail)
    go_wp2
    go_quiet (fail)
    go_wp2_with fail
    refine (next_small cb 256 _ ((Codes.advance H1.out (by unfold maxLen; exact h2) (by omega) h4.out).below (Below.drewN' _ _)) (by omega) (by omega)).mono ?_
    rintro e w' ⟨r, rfl, hr0, hr1, hc', hg⟩
    have hr2 : r < 256 := by omega
    clear hr1
    have hg' := grown_trans (grown_drewN (grown_setCell _ _ _ _) _) hg
    clear hg
    go_wp2
    go_ret
    exact ⟨_, rfl, Int.emod_nonneg _ (by omega), .inl (Int.emod_lt_of_pos _ (by omega)), hc', hg'⟩
set_option maxHeartbeats 1000000 in
theorem new_calls (a : Value) (z : List Int) (w : World) (most : Nat) (h : Rd .u8 w a z) (hz : ∀ n ∈ z, (Lit.int .u8 n).wf = true) (hm : most ≤ 65536) :
    Calls Try.prog 20 #[a, .int .i64 (most : Int)] w fun e w' => e = .returned (.pointer (some ⟨w.heap.size, 0, none⟩)) ∧ Codes w.heap.size w' ∧ Below w.heap.size w w' := by
  obtain ⟨ad, cap, rfl, h1, h2, h3⟩ := h
  have codes : ∀ n, n ≤ z.length → Codes w.heap.size (w.alloc (.cells #[.slice ad n cap, .int .i64 0] 73)) := by
    intro n hn
    refine ⟨ad, n, cap, 0, heap_alloc_new w _, by omega, Nat.zero_le _, ?_⟩
    rcases h3 with h3 | ⟨b, off, rfl, hlt, hc⟩
    · exact .inl (by omega)
    · refine .inr ⟨b, off, rfl, hlt, fun i hi => ⟨z.getD i 0, ?_, ?_, ?_⟩⟩
      · have := bounds_u8 (hz (z.getD i 0) (by simp [List.getD, show i < z.length by omega])); omega
      · have := bounds_u8 (hz (z.getD i 0) (by simp [List.getD, show i < z.length by omega])); omega
      · rw [← hc i (by omega)]
        exact World.cell?_of_block (w := w) (Below.heap_alloc w _ b hlt)
  have bel : ∀ o, Below w.heap.size w (w.alloc o) := fun o => (Below.refl _ _).alloc (Nat.le_refl _) _
  have CD := Lib.hid codes
  have BL := Lib.hid bel
  clear codes bel hz h3
  unfold maxLen at h2
  by_cases hl : (most : Nat) < z.length
  · go_enter Try.func20, Try.ntmps20
    go_wp2
    go_ret
    exact ⟨rfl, CD.out most (by omega), BL.out _⟩
  · go_enter Try.func20, Try.ntmps20
    go_wp2
    go_ret
    exact ⟨rfl, CD.out z.length (by omega), BL.out _⟩
end Go.Proofs.Ytkpmihaaijiihaa

/- Choices, for the evaluator: Next as a contract, Roll as what makes them. -/
set_option linter.unusedSimpArgs false
set_option linter.unusedVariables false
namespace Go.Proofs.Ytkpmihaaijiihaa
open Go.RowKit Eng
def Frm.codes (cb : Nat) : Frm := ⟨fun b => b = cb, fun b => b = cb, Codes cb, fun _ h => h, fun w b h e => by subst e; exact h.lt, fun w w' B h hB hw => h.kept fun k hk => hw k (Nat.lt_of_le_of_lt hk (hB cb rfl))⟩
def ptr (cb : Nat) : SV := .v (.pointer (some ⟨cb, 0, none⟩))
theorem enters_of {P : Program} {f : FuncId} {fn : Func} {c : Code} (hf : P.funcs[f]? = some fn) (hb : fn.body = some c) (hname : (fn.name == "runtime.NumGoroutine") = false) : ∀ vs w, (callFunc f vs).run P w = .ok (.enter f vs) w := by
  intro vs w
  have hn : ¬ fn.name = "runtime.NumGoroutine" := by simpa using hname
  simp [callFunc, hf, hn, hb]
theorem nextC (cb : Nat) (n : Int) (h1 : -9223372036854775808 ≤ n) (h2 : n ≤ 9223372036854775807) : Contract (Frm.codes cb) Try.prog 17 [ptr cb, .i .i64 n] (fun r => ∃ x : Int, r = .i .i64 x ∧ 0 ≤ x ∧ (x < n ∨ x = 0)) := by
  refine ⟨enters_of Try.func17 rfl (by kernel_rfl), fun R w hinv _ hR => ?_⟩
  refine (next_calls cb n w hinv h1 h2).mono ?_
  rintro e w' ⟨r, rfl, hr0, hr1, hc, hg⟩
  exact ⟨.i .i64 r, rfl, ⟨r, rfl, hr0, hr1⟩, trivial, ⟨hg.os, hg.tape, hg.output, hg.size, fun b hb hm => hg.block b hb (fun e => hm (show b = cb by simpa using e))⟩, hc⟩
def isBytes (s : SV) : Prop := ∃ a len cap rd, s = .sl a len cap 1 rd ∧ ∀ i, i < len → ∃ x : Int, 0 ≤ x ∧ x < 256 ∧ rd i 0 = .i .u8 x
theorem new_made (a : Option Addr) (len cap : Nat) (w : World) (most : Nat) (h1 : len ≤ cap) (h2 : cap ≤ maxLen) (hm : most ≤ 65536) :
    Calls Try.prog 20 #[.slice a len cap, .int .i64 (most : Int)] w fun e w' => e = .returned (.pointer (some ⟨w.heap.size, 0, none⟩)) ∧ ∃ n, n ≤ len ∧ w' = w.alloc (.cells #[.slice a n cap, .int .i64 0] 73) := by
  unfold maxLen at h2
  by_cases hl : (most : Nat) < len
  · go_enter Try.func20, Try.ntmps20
    go_wp2
    go_ret
    exact ⟨rfl, most, by omega, rfl⟩
  · go_enter Try.func20, Try.ntmps20
    go_wp2
    go_ret
    exact ⟨rfl, len, by omega, rfl⟩
theorem roll_made (a : Option Addr) (len cap : Nat) (w : World) (h1 : len ≤ cap) (h2 : cap ≤ maxLen) :
    Calls Try.prog 8 #[.slice a len cap] w fun e w' => e = .returned (.pointer (some ⟨w.heap.size, 0, none⟩)) ∧ ∃ n, n ≤ len ∧ w' = w.alloc (.cells #[.slice a n cap, .int .i64 0] 73) := by
  have hc := fun w => new_made a len cap w 400 h1 h2 (by omega)
  have HC := Lib.hid hc
  clear hc h1 h2
  go_enter Try.func8, Try.ntmps8
  go_wp2_with fail
  refine (HC.out _).mono ?_
  rintro e w' ⟨rfl, n, hn, rfl⟩
  go_wp2
  go_ret
  exact ⟨rfl, n, hn, rfl⟩
theorem rollC (s : SV) (hs : isBytes s) : Makes Try.prog 8 [s] (fun cb w => Codes cb w) := by
  obtain ⟨a, len, cap, rd, rfl, hb⟩ := hs
  refine ⟨enters_of Try.func8 rfl (by kernel_rfl), fun R w hargs hR => ?_⟩
  obtain ⟨h1, h2, h3⟩ := hargs _ (List.mem_singleton.2 rfl)
  refine (roll_made a len cap w h1 h2).mono ?_
  rintro e w' ⟨rfl, n, hn, rfl⟩
  refine ⟨rfl, by simp, ⟨rfl, rfl, rfl, by simp, fun b hb _ => heap_alloc_old w _ hb⟩, fun w'' hw'' => ?_⟩
  refine ⟨a, n, cap, 0, (hw'' _ (.inr rfl)).trans (heap_alloc_new w _), by omega, Nat.zero_le _, ?_⟩
  rcases h3 with h3 | ⟨blk, off, rfl, hr, hc⟩
  · exact .inl (by omega)
  · have hlt := hR blk hr
    refine .inr ⟨blk, off, rfl, hlt, fun i hi => ?_⟩
    obtain ⟨x, hx0, hx1, hx⟩ := hb i (by omega)
    have h := (hc i 0 (by omega) (by omega)).1
    rw [hx, Nat.mul_one] at h
    exact ⟨x, hx0, hx1, by rw [World.cell?_of_block (w := w) (a := ⟨blk, off + i, none⟩) ((hw'' blk (.inl hr)).trans (heap_alloc_old w _ hlt))]; exact h⟩
end Go.Proofs.Ytkpmihaaijiihaa

/- Choices: Pick, Bool, Address, by the evaluator. -/
set_option linter.unusedSimpArgs false
set_option linter.unusedVariables false
namespace Go.Proofs.Ytkpmihaaijiihaa
open Eng
set_option maxRecDepth 100000 in
theorem pickC (cb : Nat) (a : Option Addr) (len cap : Nat) (rd : Nat → Nat → SV) (Q : Int → Prop) (h0 : 0 < len) (h1 : len ≤ 1000) (hq : ∀ i, i < len → ∃ x : Int, rd i 0 = .i .i64 x ∧ Q x) :
    Contract (Frm.codes cb) Try.prog 36 [ptr cb, .sl a len cap 1 rd] (fun r => ∃ x : Int, r = .i .i64 x ∧ Q x) := by
  refine contract_of Try.func36 rfl (by kernel_rfl) ?_
  simp only [Try.ntmps36, argEnv, ptr]
  (repeat refine Sat.seq ?_)
  (refine Sat.region_k fun k hk => ?_; simp -implicitDefEqProofs only [evr, id, seval, ptr]; refine hk _ ?_; clear hk k; try show Sat _ _ _ _ _)
  (repeat refine Sat.seq ?_)
  (refine Sat.region_k fun k hk => ?_; simp -implicitDefEqProofs only [evr, id, seval, ptr])
  refine wcall_plain (nextC cb len (by omega) (by omega)) rfl (by rintro _ ⟨x, rfl, _⟩; exact ok_plain rfl) ?_
  rintro r ⟨x, rfl, hx0, hx1⟩
  obtain ⟨i, rfl⟩ := Int.eq_ofNat_of_zero_le hx0
  have hi : i < len := by omega
  obtain ⟨y, hy, hQ⟩ := hq i hi
  simp -implicitDefEqProofs only [evr, id, seval, ptr, hy]
  refine ⟨by omega, ?_⟩
  (refine hk _ ?_; clear hk k; try show Sat _ _ _ _ _)
  refine Sat.ret ?_
  simp only [Try.results36, evr, id, seval, ptr]
  exact ⟨y, rfl, hQ⟩
theorem pickI (cb blk : Nat) (xs : List Int) (Q : Int → Prop) (h0 : 0 < xs.length) (h1 : xs.length ≤ 1000) (hQ : ∀ x ∈ xs, Q x) :
    Contract (Frm.codes cb) Try.prog 36 [ptr cb, .sl (some ⟨blk, 0, none⟩) xs.length xs.length 1 (rdL (xs.map (SV.i .i64)) 1)] (fun r => ∃ x : Int, r = .i .i64 x ∧ Q x) :=
  pickC cb _ _ _ _ Q h0 h1 fun i hi => ⟨xs.getD i 0, by simp [rdL, List.getD, hi], hQ _ (getD_mem hi)⟩
theorem plain_pick {Q : Int → Prop} (r : SV) (h : ∃ x : Int, r = .i .i64 x ∧ Q x) : ∀ R w, r.ok R w := by
  obtain ⟨x, rfl, _⟩ := h; exact ok_plain rfl
theorem plain_bool (r : SV) (h : ∃ b : Bool, r = .b b) : ∀ R w, r.ok R w := by
  obtain ⟨x, rfl⟩ := h; exact ok_plain rfl
theorem plain_addr (r : SV) (h : ∃ x : Int, r = .i .u32 x) : ∀ R w, r.ok R w := by
  obtain ⟨x, rfl⟩ := h; exact ok_plain rfl
set_option maxRecDepth 100000 in
theorem boolC (cb : Nat) (n : Int) (h1 : 1 ≤ n) (h2 : n ≤ 1000000) : Contract (Frm.codes cb) Try.prog 15 [ptr cb, .i .i64 n] (fun r => ∃ b : Bool, r = .b b) := by
  refine contract_of Try.func15 rfl (by kernel_rfl) ?_
  simp only [Try.ntmps15, argEnv, ptr]
  (repeat refine Sat.seq ?_)
  (refine Sat.region_k fun k hk => ?_; simp -implicitDefEqProofs only [evr, id, seval, ptr]; refine hk _ ?_; clear hk k; try show Sat _ _ _ _ _)
  (repeat refine Sat.seq ?_)
  (refine Sat.region_k fun k hk => ?_; simp -implicitDefEqProofs only [evr, id, seval, ptr])
  refine wcall_plain (nextC cb n (by omega) (by omega)) rfl (by rintro _ ⟨x, rfl, _⟩; exact ok_plain rfl) ?_
  rintro r ⟨x, rfl, hx0, hx1⟩
  simp -implicitDefEqProofs only [evr, id, seval, ptr]
  (refine hk _ ?_; clear hk k; try show Sat _ _ _ _ _)
  refine Sat.ret ?_
  simp only [Try.results15, evr, id, seval, ptr]
  exact ⟨_, rfl⟩
set_option maxRecDepth 100000 in
theorem addressC (cb : Nat) : Contract (Frm.codes cb) Try.prog 29 [ptr cb] (fun r => ∃ x : Int, r = .i .u32 x) := by
  refine contract_of Try.func29 rfl (by kernel_rfl) ?_
  simp only [Try.ntmps29, argEnv, ptr]
  (repeat refine Sat.seq ?_)
  (refine Sat.region_k fun k hk => ?_; simp -implicitDefEqProofs only [evr, id, seval, ptr]; refine hk _ ?_; clear hk k; try show Sat _ _ _ _ _)
  (repeat refine Sat.seq ?_)
  (refine Sat.region_k fun k hk => ?_; simp -implicitDefEqProofs only [evr, id, seval, ptr])
  intro blk
  refine wcall_plain (pickI cb blk [1, 2, 5, 6, 9, 10, 12, 13] (fun _ => True) (by decide) (by decide) (by simp)) (by simp -implicitDefEqProofs only [evr, id, seval, ptr]) plain_pick ?_
  rintro r ⟨x, rfl, _⟩
  simp -implicitDefEqProofs only [evr, id, seval, ptr]
  (refine hk _ ?_; clear hk k; try show Sat _ _ _ _ _)
  refine Sat.ret ?_
  simp only [Try.results29, evr, id, seval, ptr]
  exact ⟨_, rfl⟩
end Go.Proofs.Ytkpmihaaijiihaa

/- Oracles, by the evaluator: dice.Address within its type, dice.Oracle. -/
set_option linter.unusedSimpArgs false
set_option linter.unusedVariables false
namespace Go.Proofs.Ytkpmihaaijiihaa
open Eng
def InA (x : Int) : Prop := 0 ≤ x ∧ x < 4294967296
structure PthP where
  a : Option Addr
  cap : Nat
  p : List Int
instance : Inhabited PthP := ⟨⟨none, 0, []⟩⟩
def adRd (p : List Int) : Nat → Nat → SV := fun i _ => .i .u32 (p.getD i 0)
def PthP.sv (q : PthP) : SV := .sl q.a q.p.length q.cap 1 (adRd q.p)
def psRd (l : List PthP) : Nat → Nat → SV := fun i _ => (l.getD i default).sv
def PsOk (m : Nat) (l : List PthP) : Prop := ∀ q ∈ l, q.p.length ≤ m ∧ ∀ x ∈ q.p, InA x
theorem ad_app {p : List Int} {x : Int} : rdEq (p.length + 1) 1 (rdCat p.length (adRd p) (rdL [.i .u32 x] 1)) (adRd (p ++ [x])) := by
  refine rdEq_snoc (fun i j hi hj => ?_) (fun j hj => ?_)
  · unfold adRd
    simp [List.getD, List.getElem?_append, hi]
  · obtain rfl : j = 0 := by omega
    unfold adRd
    simp [List.getD]
theorem ps_app {l : List PthP} {q : PthP} {s : SV} (h : s = q.sv) : rdEq (l.length + 1) 1 (rdCat l.length (psRd l) (rdL [s] 1)) (psRd (l ++ [q])) := by
  subst h
  refine rdEq_snoc (fun i j hi hj => ?_) (fun j hj => ?_)
  · unfold psRd
    simp [List.getD, List.getElem?_append, hi]
  · obtain rfl : j = 0 := by omega
    unfold psRd
    simp [List.getD]
theorem wrapA (x : Int) : InA (IntKind.u32.wrap x) := by
  have h : IntKind.u32.wrap x = x % 4294967296 := rfl
  unfold InA
  rw [h]
  omega
set_option maxRecDepth 100000 in
theorem addrC (cb : Nat) : Contract (Frm.codes cb) Try.prog 29 [ptr cb] (fun r => ∃ x : Int, InA x ∧ r = .i .u32 x) := by
  refine contract_of Try.func29 rfl (by kernel_rfl) ?_
  simp only [Try.ntmps29, argEnv, ptr]
  (repeat refine Sat.seq ?_)
  (refine Sat.region_k fun k hk => ?_; simp -implicitDefEqProofs only [evr, id, seval, ptr, List.append_nil, Int.toNat_zero, Nat.sub_self, Int.reduceToNat, PthP.sv]; refine hk _ ?_; clear hk k; try show Sat _ _ _ _ _)
  (repeat refine Sat.seq ?_)
  (refine Sat.region_k fun k hk => ?_; simp -implicitDefEqProofs only [evr, id, seval, ptr, List.append_nil, Int.toNat_zero, Nat.sub_self, Int.reduceToNat, PthP.sv])
  intro blk
  refine wcall_plain (pickI cb blk [1, 2, 5, 6, 9, 10, 12, 13] (fun _ => True) (by decide) (by decide) (by simp)) (by simp -implicitDefEqProofs only [evr, id, seval, ptr, List.append_nil, Int.toNat_zero, Nat.sub_self, Int.reduceToNat, PthP.sv]) plain_pick ?_
  rintro r ⟨x, rfl, _⟩
  simp -implicitDefEqProofs only [evr, id, seval, ptr, List.append_nil, Int.toNat_zero, Nat.sub_self, Int.reduceToNat, PthP.sv]
  (refine hk _ ?_; clear hk k; try show Sat _ _ _ _ _)
  refine Sat.ret ?_
  simp only [Try.results29, evr, id, seval, ptr, List.append_nil, Int.toNat_zero, Nat.sub_self, Int.reduceToNat, PthP.sv]
  exact ⟨_, wrapA _, rfl⟩
theorem plain_addrC (r : SV) (h : ∃ x : Int, InA x ∧ r = .i .u32 x) : ∀ R w, r.ok R w := by
  obtain ⟨x, _, rfl⟩ := h; exact ok_plain rfl
set_option maxRecDepth 100000 in
theorem oracleC (cb : Nat) (most wide : Nat) (hm : most ≤ 100) (hw1 : 1 ≤ wide) (hw : wide ≤ 100) :
    Contract (Frm.codes cb) Try.prog 16 [ptr cb, .i .i64 most, .i .i64 wide] (fun r => ∃ (a : Option Addr) (cap : Nat) (l : List PthP) (f : Nat → SV), 1 ≤ l.length ∧ l.length ≤ wide ∧ PsOk most l ∧ r = .agg 2 f ∧ f 0 = .i .u32 167774464 ∧ f 1 = .sl a l.length cap 1 (psRd l)) := by
  refine contract_of Try.func16 rfl (by kernel_rfl) ?_
  simp only [Try.ntmps16, argEnv, ptr]
  (repeat refine Sat.seq ?_)
  (refine Sat.region_k fun k hk => ?_; simp -implicitDefEqProofs only [evr, id, seval, ptr, List.append_nil, Int.toNat_zero, Nat.sub_self, Int.reduceToNat, PthP.sv])
  intro b6
  (refine hk _ ?_; clear hk k; try show Sat _ _ _ _ _)
  (repeat refine Sat.seq ?_)
  (refine Sat.region_k fun k hk => ?_; simp -implicitDefEqProofs only [evr, id, seval, ptr, List.append_nil, Int.toNat_zero, Nat.sub_self, Int.reduceToNat, PthP.sv])
  intro b7
  (refine hk _ ?_; clear hk k; try show Sat _ _ _ _ _)
  (repeat refine Sat.seq ?_)
  (refine Sat.region_k fun k hk => ?_; simp -implicitDefEqProofs only [evr, id, seval, ptr, List.append_nil, Int.toNat_zero, Nat.sub_self, Int.reduceToNat, PthP.sv])
  refine wcall_plain (nextC cb wide (by omega) (by omega)) rfl (by rintro _ ⟨x, rfl, _⟩; exact ok_plain rfl) ?_
  rintro r ⟨x, rfl, hx0, hx1⟩
  obtain ⟨n0, rfl⟩ := Int.eq_ofNat_of_zero_le hx0
  have e1 : IntKind.i64.wrap (1 + (n0 : Int)) = ((n0 + 1 : Nat) : Int) := by rw [w64 (by omega)]; omega
  simp -implicitDefEqProofs only [evr, id, seval, ptr, List.append_nil, Int.toNat_zero, Nat.sub_self, Int.reduceToNat, PthP.sv, e1]
  (refine hk _ ?_; clear hk k; try show Sat _ _ _ _ _)
  refine Sat.adoptBox 1 1 51 1 (psRd []) rfl rfl ?_
  simp -implicitDefEqProofs only [evr, id, seval, ptr, List.append_nil, Int.toNat_zero, Nat.sub_self, Int.reduceToNat, PthP.sv]
  (repeat refine Sat.seq ?_)
  refine Sat.block ?_
  refine Sat.loop (ι := Nat × Option Addr × Nat × List PthP) (fun z => ⟨44, [(8, .i .i64 z.1), (7, .op 1 b7 0), (6, .op 0 b6 0), (0, .v (.pointer (some ⟨cb, 0, none⟩))), (1, .i .i64 most), (2, .i .i64 wide)],
      [.box b6 48 [.i .u32 0, .sl none 0 0 0 fun _ _ => .v undef], .box b7 48 [.i .u32 167774464, .os 2 z.2.1 z.2.2.2.length z.2.2.1], .row z.2.1 51 z.2.2.2.length z.2.2.1 1 (psRd z.2.2.2)]⟩)
    (fun z => z.2.2.2.length + z.1 = n0 + 1 ∧ PsOk most z.2.2.2) (fun z => z.1) (n0 + 1, none, 0, []) ⟨by simp, fun q h => by cases h⟩ (by simp -implicitDefEqProofs only [evr, id, seval, ptr, List.append_nil, Int.toNat_zero, Nat.sub_self, Int.reduceToNat, PthP.sv, evl]; first | rfl | trace_state) ?_
  rintro ⟨k1, a, c, l⟩ ⟨hk1, hl⟩
  simp only at hk1 hl ⊢
  (repeat refine Sat.seq ?_)
  (refine Sat.region_k fun k hk => ?_; simp -implicitDefEqProofs only [evr, id, seval, ptr, List.append_nil, Int.toNat_zero, Nat.sub_self, Int.reduceToNat, PthP.sv]; refine hk _ ?_; clear hk k; try show Sat _ _ _ _ _)
  (repeat refine Sat.seq ?_)
  refine Sat.cond_b rfl (fun h => ?_) (fun h => ?_)
  · have h0 : 0 < k1 := by simp only [decide_eq_true_eq] at h; omega
    have e2 : IntKind.i64.wrap ((k1 : Int) - 1) = ((k1 - 1 : Nat) : Int) := by rw [w64 (by omega)]; omega
    refine Sat.skip ?_
    simp only [thenK]
    (repeat refine Sat.seq ?_)
    refine Sat.block ?_
    (repeat refine Sat.seq ?_)
    (refine Sat.region_k fun k hk => ?_; simp -implicitDefEqProofs only [evr, id, seval, ptr, List.append_nil, Int.toNat_zero, Nat.sub_self, Int.reduceToNat, PthP.sv]; refine hk _ ?_; clear hk k; try show Sat _ _ _ _ _)
    (repeat refine Sat.seq ?_)
    have e3 : IntKind.i64.wrap ((most : Int) + 1) = (most : Int) + 1 := by rw [w64 (by omega)]
    (refine Sat.region_k fun k hk => ?_; simp -implicitDefEqProofs only [evr, id, seval, ptr, List.append_nil, Int.toNat_zero, Nat.sub_self, Int.reduceToNat, PthP.sv])
    refine wcall_plain (nextC cb ((most : Int) + 1) (by omega) (by omega)) (by simp -implicitDefEqProofs only [evr, id, seval, ptr, List.append_nil, Int.toNat_zero, Nat.sub_self, Int.reduceToNat, PthP.sv, e3]) (by rintro _ ⟨x, rfl, _⟩; exact ok_plain rfl) ?_
    rintro r ⟨y, rfl, hy0, hy1⟩
    obtain ⟨m0, rfl⟩ := Int.eq_ofNat_of_zero_le hy0
    simp -implicitDefEqProofs only [evr, id, seval, ptr, List.append_nil, Int.toNat_zero, Nat.sub_self, Int.reduceToNat, PthP.sv]
    (refine hk _ ?_; clear hk k; try show Sat _ _ _ _ _)
    refine Sat.adopt 9 35 1 (adRd []) rfl ?_
    (repeat refine Sat.seq ?_)
    refine Sat.block ?_
    refine Sat.loop (ι := Nat × Option Addr × Nat × List Int) (fun z => ⟨44, [(10, .i .i64 z.1), (9, .os 3 z.2.1 z.2.2.2.length z.2.2.1), (8, .i .i64 k1), (7, .op 1 b7 0), (6, .op 0 b6 0), (0, .v (.pointer (some ⟨cb, 0, none⟩))), (1, .i .i64 most), (2, .i .i64 wide)],
        [.box b6 48 [.i .u32 0, .sl none 0 0 0 fun _ _ => .v undef], .box b7 48 [.i .u32 167774464, .os 2 a l.length c], .row a 51 l.length c 1 (psRd l), .row z.2.1 35 z.2.2.2.length z.2.2.1 1 (adRd z.2.2.2)]⟩)
      (fun z => z.2.2.2.length + z.1 = m0 ∧ ∀ x ∈ z.2.2.2, InA x) (fun z => z.1) (m0, none, 0, []) ⟨by simp, fun q h => by cases h⟩ (by simp -implicitDefEqProofs only [evr, id, seval, ptr, List.append_nil, Int.toNat_zero, Nat.sub_self, Int.reduceToNat, PthP.sv, evl]; first | rfl | trace_state) ?_
    rintro ⟨k2, pa, pc, p⟩ ⟨hk2, hp⟩
    simp only at hk2 hp ⊢
    (repeat refine Sat.seq ?_)
    (refine Sat.region_k fun k hk => ?_; simp -implicitDefEqProofs only [evr, id, seval, ptr, List.append_nil, Int.toNat_zero, Nat.sub_self, Int.reduceToNat, PthP.sv]; refine hk _ ?_; clear hk k; try show Sat _ _ _ _ _)
    (repeat refine Sat.seq ?_)
    refine Sat.cond_b rfl (fun h => ?_) (fun h => ?_)
    · have h0 : 0 < k2 := by simp only [decide_eq_true_eq] at h; omega
      have e4 : IntKind.i64.wrap ((k2 : Int) - 1) = ((k2 - 1 : Nat) : Int) := by rw [w64 (by omega)]; omega
      refine Sat.skip ?_
      simp only [thenK]
      (repeat refine Sat.seq ?_)
      refine Sat.block ?_
      (repeat refine Sat.seq ?_)
      (refine Sat.region_k fun k hk => ?_; simp -implicitDefEqProofs only [evr, id, seval, ptr, List.append_nil, Int.toNat_zero, Nat.sub_self, Int.reduceToNat, PthP.sv])
      refine wcall_plain (addrC cb) rfl plain_addrC ?_
      rintro r ⟨y, hy, rfl⟩
      simp -implicitDefEqProofs only [evr, id, seval, ptr, List.append_nil, Int.toNat_zero, Nat.sub_self, Int.reduceToNat, PthP.sv]
      (refine hk _ ?_; clear hk k; try show Sat _ _ _ _ _)
      (repeat refine Sat.seq ?_)
      (refine Sat.region_k fun k hk => ?_; simp -implicitDefEqProofs only [evr, id, seval, ptr, List.append_nil, Int.toNat_zero, Nat.sub_self, Int.reduceToNat, PthP.sv])
      refine wcall_plain (boolC cb 7 (by decide) (by decide)) rfl plain_bool ?_
      rintro r ⟨q, rfl⟩
      simp -implicitDefEqProofs only [evr, id, seval, ptr, List.append_nil, Int.toNat_zero, Nat.sub_self, Int.reduceToNat, PthP.sv]
      (refine hk _ ?_; clear hk k; try show Sat _ _ _ _ _)
      (repeat refine Sat.seq ?_)
      refine Sat.atF (ι := Int) (fun v => ⟨44, [(11, .i .u32 v), (10, .i .i64 k2), (9, .os 3 pa p.length pc), (8, .i .i64 k1), (7, .op 1 b7 0), (6, .op 0 b6 0), (0, .v (.pointer (some ⟨cb, 0, none⟩))), (1, .i .i64 most), (2, .i .i64 wide)],
        [.box b6 48 [.i .u32 0, .sl none 0 0 0 fun _ _ => .v undef], .box b7 48 [.i .u32 167774464, .os 2 a l.length c], .row a 51 l.length c 1 (psRd l), .row pa 35 p.length pc 1 (adRd p)]⟩) InA ?_ ?_
      · refine Sat.cond_b rfl (fun h => ?_) (fun h => ?_)
        · (refine Sat.region_k fun k hk => ?_; simp -implicitDefEqProofs only [evr, id, seval, ptr, List.append_nil, Int.toNat_zero, Nat.sub_self, Int.reduceToNat, PthP.sv])
          refine hk _ ?_
          simp only [thenK]
          refine ⟨0, ⟨by omega, by omega⟩, ?_⟩
          simp -implicitDefEqProofs only [evr, id, seval, ptr, List.append_nil, Int.toNat_zero, Nat.sub_self, Int.reduceToNat, PthP.sv, evl]
        · refine Sat.skip ?_
          simp only [thenK]
          refine ⟨y, hy, ?_⟩
          simp -implicitDefEqProofs only [evr, id, seval, ptr, List.append_nil, Int.toNat_zero, Nat.sub_self, Int.reduceToNat, PthP.sv, evl]
      intro v hv
      simp only [thenK, blockK]
      (repeat refine Sat.seq ?_)
      (refine Sat.region_k fun k hk => ?_; simp -implicitDefEqProofs only [evr, id, seval, ptr, List.append_nil, Int.toNat_zero, Nat.sub_self, Int.reduceToNat, PthP.sv])
      intro b9
      refine ⟨⟨by unfold maxLen; omega, by omega⟩, fun a2 cap2 => ?_⟩
      (refine hk _ ?_; clear hk k; try show Sat _ _ _ _ _)
      refine Sat.region_k fun k hk => ?_
      simp -implicitDefEqProofs only [evr, id, seval, ptr, List.append_nil, Int.toNat_zero, Nat.sub_self, Int.reduceToNat, PthP.sv, e4]
      refine hk _ ?_
      simp only [thenK, blockK]
      refine ⟨(k2 - 1, a2, cap2, p ++ [v]), ⟨by simp; omega, fun x hx => ?_⟩, by simp only; omega, ?_⟩
      · rcases List.mem_append.1 hx with h | h
        · exact hp x h
        · simp only [List.mem_singleton] at h; subst h; exact hv
      · simp only [List.length_append, List.length_singleton]
        simp -implicitDefEqProofs only [evr, id, seval, ptr, List.append_nil, Int.toNat_zero, Nat.sub_self, Int.reduceToNat, PthP.sv, evl]
        exact ad_app
    · have h0 : k2 = 0 := by simp only [decide_eq_false_iff_not] at h; omega
      refine Sat.exit ?_
      simp only [thenK, blockK, reduceIte]
      (repeat refine Sat.seq ?_)
      refine Sat.settle2 9 rfl rfl ?_
      simp -implicitDefEqProofs only [evr, id, seval, ptr, List.append_nil, Int.toNat_zero, Nat.sub_self, Int.reduceToNat, PthP.sv]
      (refine Sat.region_k fun k hk => ?_; simp -implicitDefEqProofs only [evr, id, seval, ptr, List.append_nil, Int.toNat_zero, Nat.sub_self, Int.reduceToNat, PthP.sv])
      intro b9
      refine ⟨⟨by unfold maxLen; omega, by omega⟩, fun a2 cap2 => ?_⟩
      (refine hk _ ?_; clear hk k; try show Sat _ _ _ _ _)
      refine Sat.region_k fun k hk => ?_
      simp -implicitDefEqProofs only [evr, id, seval, ptr, List.append_nil, Int.toNat_zero, Nat.sub_self, Int.reduceToNat, PthP.sv, e2]
      refine hk _ ?_
      simp only [thenK, blockK]
      refine ⟨(k1 - 1, a2, cap2, l ++ [⟨pa, pc, p⟩]), ⟨by simp; omega, fun x hx => ?_⟩, by simp only; omega, ?_⟩
      · rcases List.mem_append.1 hx with h | h
        · exact hl x h
        · simp only [List.mem_singleton] at h; subst h; exact ⟨by simp only; omega, hp⟩
      · simp only [List.length_append, List.length_singleton]
        simp -implicitDefEqProofs only [evr, id, seval, ptr, List.append_nil, Int.toNat_zero, Nat.sub_self, Int.reduceToNat, PthP.sv, evl]
        exact ps_app rfl
  · have h0 : k1 = 0 := by simp only [decide_eq_false_iff_not] at h; omega
    refine Sat.exit ?_
    simp only [thenK, blockK, reduceIte]
    (repeat refine Sat.seq ?_)
    (refine Sat.region_k fun k hk => ?_; simp -implicitDefEqProofs only [evr, id, seval, ptr, List.append_nil, Int.toNat_zero, Nat.sub_self, Int.reduceToNat, PthP.sv])
    (refine hk _ ?_; clear hk k; try show Sat _ _ _ _ _)
    refine Sat.ret ?_
    simp only [Try.results16, evr, id, seval, ptr, List.append_nil, Int.toNat_zero, Nat.sub_self, Int.reduceToNat, PthP.sv]
    refine ⟨a, c, l, _, by omega, by omega, hl, rfl, ?_, ?_⟩
    · simp -implicitDefEqProofs only [evr, id, seval, ptr, List.append_nil, Int.toNat_zero, Nat.sub_self, Int.reduceToNat, PthP.sv]
    · simp -implicitDefEqProofs only [evr, id, seval, ptr, List.append_nil, Int.toNat_zero, Nat.sub_self, Int.reduceToNat, PthP.sv]
end Go.Proofs.Ytkpmihaaijiihaa

/- Scenes, by the evaluator: dice.Proto, dice.Trace, dice.scene. -/
set_option linter.unusedSimpArgs false
set_option linter.unusedVariables false
namespace Go.Proofs.Ytkpmihaaijiihaa
open Eng
set_option maxRecDepth 100000 in
theorem protoC (cb : Nat) : Contract (Frm.codes cb) Try.prog 68 [ptr cb] (fun r => ∃ x : Int, r = .i .i64 x) := by
  refine contract_of Try.func68 rfl (by kernel_rfl) ?_
  simp only [Try.ntmps68, argEnv, ptr]
  (repeat refine Sat.seq ?_)
  (refine Sat.region_k fun k hk => ?_; simp -implicitDefEqProofs only [evr, id, reduceCtorEq, reduceIte, Nat.reduceMul, Nat.reduceAdd, Nat.reduceLT, Nat.reduceLeDiff, Nat.reduceEqDiff, Int.reduceLT, Int.reduceBEq, Int.reduceBNe, Nat.reduceBEq, ptr, List.append_nil, Int.toNat_zero, Nat.sub_self, Int.reduceToNat]; refine hk _ ?_; clear hk k; try show Sat _ _ _ _ _)
  (repeat refine Sat.seq ?_)
  (refine Sat.region_k fun k hk => ?_; simp -implicitDefEqProofs only [evr, id, reduceCtorEq, reduceIte, Nat.reduceMul, Nat.reduceAdd, Nat.reduceLT, Nat.reduceLeDiff, Nat.reduceEqDiff, Int.reduceLT, Int.reduceBEq, Int.reduceBNe, Nat.reduceBEq, ptr, List.append_nil, Int.toNat_zero, Nat.sub_self, Int.reduceToNat])
  intro blk
  refine wcall_plain (pickI cb blk [17, 1, 6] (fun _ => True) (by decide) (by decide) (by simp)) (by simp -implicitDefEqProofs only [evr, id, reduceCtorEq, reduceIte, Nat.reduceMul, Nat.reduceAdd, Nat.reduceLT, Nat.reduceLeDiff, Nat.reduceEqDiff, Int.reduceLT, Int.reduceBEq, Int.reduceBNe, Nat.reduceBEq, ptr, List.append_nil, Int.toNat_zero, Nat.sub_self, Int.reduceToNat]) plain_pick ?_
  rintro r ⟨x, rfl, _⟩
  simp -implicitDefEqProofs only [evr, id, reduceCtorEq, reduceIte, Nat.reduceMul, Nat.reduceAdd, Nat.reduceLT, Nat.reduceLeDiff, Nat.reduceEqDiff, Int.reduceLT, Int.reduceBEq, Int.reduceBNe, Nat.reduceBEq, ptr, List.append_nil, Int.toNat_zero, Nat.sub_self, Int.reduceToNat]
  (refine hk _ ?_; clear hk k; try show Sat _ _ _ _ _)
  refine Sat.ret ?_
  simp only [Try.results68, evr, id, reduceCtorEq, reduceIte, Nat.reduceMul, Nat.reduceAdd, Nat.reduceLT, Nat.reduceLeDiff, Nat.reduceEqDiff, Int.reduceLT, Int.reduceBEq, Int.reduceBNe, Nat.reduceBEq, ptr, List.append_nil, Int.toNat_zero, Nat.sub_self, Int.reduceToNat]
  exact ⟨_, rfl⟩
def trS (v d p : Int) : SV := .agg 3 fun j => [SV.i .i64 v, .i .u32 d, .i .i64 p].getD j default
theorem trS_ok (v d p : Int) (R : Nat → Prop) (w : World) : (trS v d p).ok R w := by
  intro j hj
  rcases (show j = 0 ∨ j = 1 ∨ j = 2 by omega) with rfl | rfl | rfl <;> trivial
set_option maxRecDepth 100000 in
theorem traceC (cb : Nat) : Contract (Frm.codes cb) Try.prog 55 [ptr cb] (fun r => ∃ v d p : Int, (0 ≤ v ∧ v ≤ 1) ∧ InA d ∧ r = trS v d p) := by
  refine contract_of Try.func55 rfl (by kernel_rfl) ?_
  simp only [Try.ntmps55, argEnv, ptr]
  (repeat refine Sat.seq ?_)
  (refine Sat.region_k fun k hk => ?_; simp -implicitDefEqProofs only [evr, id, reduceCtorEq, reduceIte, Nat.reduceMul, Nat.reduceAdd, Nat.reduceLT, Nat.reduceLeDiff, Nat.reduceEqDiff, Int.reduceLT, Int.reduceBEq, Int.reduceBNe, Nat.reduceBEq, ptr, List.append_nil, Int.toNat_zero, Nat.sub_self, Int.reduceToNat])
  intro blk
  (refine hk _ ?_; clear hk k; try show Sat _ _ _ _ _)
  (repeat refine Sat.seq ?_)
  (refine Sat.region_k fun k hk => ?_; simp -implicitDefEqProofs only [evr, id, reduceCtorEq, reduceIte, Nat.reduceMul, Nat.reduceAdd, Nat.reduceLT, Nat.reduceLeDiff, Nat.reduceEqDiff, Int.reduceLT, Int.reduceBEq, Int.reduceBNe, Nat.reduceBEq, ptr, List.append_nil, Int.toNat_zero, Nat.sub_self, Int.reduceToNat])
  refine wcall_plain (nextC cb 2 (by omega) (by omega)) rfl (by rintro _ ⟨x, rfl, _⟩; exact ok_plain rfl) ?_
  rintro r ⟨v, rfl, hv0, hv1⟩
  simp -implicitDefEqProofs only [evr, id, reduceCtorEq, reduceIte, Nat.reduceMul, Nat.reduceAdd, Nat.reduceLT, Nat.reduceLeDiff, Nat.reduceEqDiff, Int.reduceLT, Int.reduceBEq, Int.reduceBNe, Nat.reduceBEq, ptr, List.append_nil, Int.toNat_zero, Nat.sub_self, Int.reduceToNat]
  refine wcall_plain (nextC cb 3 (by omega) (by omega)) rfl (by rintro _ ⟨x, rfl, _⟩; exact ok_plain rfl) ?_
  rintro r ⟨d, rfl, hd0, hd1⟩
  simp -implicitDefEqProofs only [evr, id, reduceCtorEq, reduceIte, Nat.reduceMul, Nat.reduceAdd, Nat.reduceLT, Nat.reduceLeDiff, Nat.reduceEqDiff, Int.reduceLT, Int.reduceBEq, Int.reduceBNe, Nat.reduceBEq, ptr, List.append_nil, Int.toNat_zero, Nat.sub_self, Int.reduceToNat]
  refine wcall_plain (protoC cb) rfl (by rintro _ ⟨x, rfl⟩; exact ok_plain rfl) ?_
  rintro r ⟨p, rfl⟩
  simp -implicitDefEqProofs only [evr, id, reduceCtorEq, reduceIte, Nat.reduceMul, Nat.reduceAdd, Nat.reduceLT, Nat.reduceLeDiff, Nat.reduceEqDiff, Int.reduceLT, Int.reduceBEq, Int.reduceBNe, Nat.reduceBEq, ptr, List.append_nil, Int.toNat_zero, Nat.sub_self, Int.reduceToNat]
  (refine hk _ ?_; clear hk k; try show Sat _ _ _ _ _)
  refine Sat.ret ?_
  simp only [Try.results55, evr, id, reduceCtorEq, reduceIte, Nat.reduceMul, Nat.reduceAdd, Nat.reduceLT, Nat.reduceLeDiff, Nat.reduceEqDiff, Int.reduceLT, Int.reduceBEq, Int.reduceBNe, Nat.reduceBEq, ptr, List.append_nil, Int.toNat_zero, Nat.sub_self, Int.reduceToNat]
  exact ⟨v, _, p, by omega, wrapA _, rfl⟩
structure Net where
  v : Int
  d : Int
  pr : Int
  a : Option Addr
  cap : Nat
  l : List PthP
  last : Int
instance : Inhabited Net := ⟨⟨0, 0, 0, none, 0, [], 0⟩⟩
def Net.cs (n : Net) : List SV := [.i .i64 n.v, .i .u32 n.d, .i .i64 n.pr, .sl n.a n.l.length n.cap 1 (psRd n.l), .i .u32 n.last]
structure NetOk (n : Net) : Prop where
  v : 0 ≤ n.v ∧ n.v ≤ 1
  d : InA n.d
  last : InA n.last
  some : 1 ≤ n.l.length ∧ n.l.length ≤ 3
  ps : PsOk 3 n.l
set_option maxRecDepth 100000 in
theorem sceneC (cb : Nat) : Contract (Frm.codes cb) Try.prog 35 [ptr cb] (fun r => ∃ (n : Net) (f : Nat → SV), NetOk n ∧ r = .agg 5 f ∧ ∀ j, j < 5 → f j = n.cs.getD j default) := by
  refine contract_of Try.func35 rfl (by kernel_rfl) ?_
  simp only [Try.ntmps35, argEnv, ptr]
  (repeat refine Sat.seq ?_)
  (refine Sat.region_k fun k hk => ?_; simp -implicitDefEqProofs only [evr, id, reduceCtorEq, reduceIte, Nat.reduceMul, Nat.reduceAdd, Nat.reduceLT, Nat.reduceLeDiff, Nat.reduceEqDiff, Int.reduceLT, Int.reduceBEq, Int.reduceBNe, Nat.reduceBEq, ptr, List.append_nil, Int.toNat_zero, Nat.sub_self, Int.reduceToNat])
  intro b2
  (refine hk _ ?_; clear hk k; try show Sat _ _ _ _ _)
  (repeat refine Sat.seq ?_)
  (refine Sat.region_k fun k hk => ?_; simp -implicitDefEqProofs only [evr, id, reduceCtorEq, reduceIte, Nat.reduceMul, Nat.reduceAdd, Nat.reduceLT, Nat.reduceLeDiff, Nat.reduceEqDiff, Int.reduceLT, Int.reduceBEq, Int.reduceBNe, Nat.reduceBEq, ptr, List.append_nil, Int.toNat_zero, Nat.sub_self, Int.reduceToNat])
  refine wcall_plain (traceC cb) rfl (by rintro _ ⟨v, d, p, _, _, rfl⟩; exact trS_ok _ _ _) ?_
  rintro r ⟨v, d, p, hv, hd, rfl⟩
  simp only [trS, evr, id, reduceCtorEq, reduceIte, Nat.reduceMul, Nat.reduceAdd, Nat.reduceLT, Nat.reduceLeDiff, Nat.reduceEqDiff, Int.reduceLT, Int.reduceBEq, Int.reduceBNe, Nat.reduceBEq, ptr, List.append_nil, Int.toNat_zero, Nat.sub_self, Int.reduceToNat]
  intro b3
  (refine hk _ ?_; clear hk k; try show Sat _ _ _ _ _)
  (repeat refine Sat.seq ?_)
  (refine Sat.region_k fun k hk => ?_; simp -implicitDefEqProofs only [evr, id, reduceCtorEq, reduceIte, Nat.reduceMul, Nat.reduceAdd, Nat.reduceLT, Nat.reduceLeDiff, Nat.reduceEqDiff, Int.reduceLT, Int.reduceBEq, Int.reduceBNe, Nat.reduceBEq, ptr, List.append_nil, Int.toNat_zero, Nat.sub_self, Int.reduceToNat])
  (refine hk _ ?_; clear hk k; try show Sat _ _ _ _ _)
  (repeat refine Sat.seq ?_)
  (refine Sat.region_k fun k hk => ?_; simp -implicitDefEqProofs only [evr, id, reduceCtorEq, reduceIte, Nat.reduceMul, Nat.reduceAdd, Nat.reduceLT, Nat.reduceLeDiff, Nat.reduceEqDiff, Int.reduceLT, Int.reduceBEq, Int.reduceBNe, Nat.reduceBEq, ptr, List.append_nil, Int.toNat_zero, Nat.sub_self, Int.reduceToNat])
  refine wcall_plain (boolC cb 4 (by decide) (by decide)) rfl plain_bool ?_
  rintro r ⟨q, rfl⟩
  simp -implicitDefEqProofs only [evr, id, reduceCtorEq, reduceIte, Nat.reduceMul, Nat.reduceAdd, Nat.reduceLT, Nat.reduceLeDiff, Nat.reduceEqDiff, Int.reduceLT, Int.reduceBEq, Int.reduceBNe, Nat.reduceBEq, ptr, List.append_nil, Int.toNat_zero, Nat.sub_self, Int.reduceToNat]
  (refine hk _ ?_; clear hk k; try show Sat _ _ _ _ _)
  (repeat refine Sat.seq ?_)
  refine Sat.atF (ι := Int) (fun u => ⟨74, [(3, .op 1 b3 0), (2, .op 0 b2 0), (0, .v (.pointer (some ⟨cb, 0, none⟩)))], [Own.box b2 79 [.i .i64 0, .i .u32 0, .i .i64 0, .sl none 0 0 0 fun _ _ => .v undef, .i .u32 0], .box b3 79 [.i .i64 v, .i .u32 d, .i .i64 p, .sl none 0 0 0 fun _ _ => .v undef, .i .u32 u]]⟩) InA ?_ ?_
  · refine Sat.cond_b rfl (fun h => ?_) (fun h => ?_)
    · (refine Sat.region_k fun k hk => ?_; simp -implicitDefEqProofs only [evr, id, reduceCtorEq, reduceIte, Nat.reduceMul, Nat.reduceAdd, Nat.reduceLT, Nat.reduceLeDiff, Nat.reduceEqDiff, Int.reduceLT, Int.reduceBEq, Int.reduceBNe, Nat.reduceBEq, ptr, List.append_nil, Int.toNat_zero, Nat.sub_self, Int.reduceToNat])
      refine wcall_plain (addrC cb) rfl plain_addrC ?_
      rintro r ⟨u, hu, rfl⟩
      simp -implicitDefEqProofs only [evr, id, reduceCtorEq, reduceIte, Nat.reduceMul, Nat.reduceAdd, Nat.reduceLT, Nat.reduceLeDiff, Nat.reduceEqDiff, Int.reduceLT, Int.reduceBEq, Int.reduceBNe, Nat.reduceBEq, ptr, List.append_nil, Int.toNat_zero, Nat.sub_self, Int.reduceToNat]
      refine hk _ ?_
      simp only [thenK]
      refine ⟨u, hu, ?_⟩
      simp -implicitDefEqProofs only [evr, id, reduceCtorEq, reduceIte, Nat.reduceMul, Nat.reduceAdd, Nat.reduceLT, Nat.reduceLeDiff, Nat.reduceEqDiff, Int.reduceLT, Int.reduceBEq, Int.reduceBNe, Nat.reduceBEq, ptr, List.append_nil, Int.toNat_zero, Nat.sub_self, Int.reduceToNat, evl]
    · refine Sat.skip ?_
      simp only [thenK]
      refine ⟨d, hd, ?_⟩
      simp -implicitDefEqProofs only [evr, id, reduceCtorEq, reduceIte, Nat.reduceMul, Nat.reduceAdd, Nat.reduceLT, Nat.reduceLeDiff, Nat.reduceEqDiff, Int.reduceLT, Int.reduceBEq, Int.reduceBNe, Nat.reduceBEq, ptr, List.append_nil, Int.toNat_zero, Nat.sub_self, Int.reduceToNat, evl]
  intro u hu
  simp only [thenK]
  (repeat refine Sat.seq ?_)
  (refine Sat.region_k fun k hk => ?_; simp -implicitDefEqProofs only [evr, id, reduceCtorEq, reduceIte, Nat.reduceMul, Nat.reduceAdd, Nat.reduceLT, Nat.reduceLeDiff, Nat.reduceEqDiff, Int.reduceLT, Int.reduceBEq, Int.reduceBNe, Nat.reduceBEq, ptr, List.append_nil, Int.toNat_zero, Nat.sub_self, Int.reduceToNat])
  refine wcall_plain (nextC cb 3 (by omega) (by omega)) rfl (by rintro _ ⟨x, rfl, _⟩; exact ok_plain rfl) ?_
  rintro r ⟨x, rfl, hx0, hx1⟩
  obtain ⟨lg, hlg⟩ : ∃ lg : Nat, (lg : Int) = 1 + x := ⟨(1 + x).toNat, by omega⟩
  have hlg3 : lg ≤ 3 := by omega
  have e1 : IntKind.i64.wrap (1 + x) = (lg : Int) := by rw [w64 (by omega), hlg]
  simp -implicitDefEqProofs only [evr, id, reduceCtorEq, reduceIte, Nat.reduceMul, Nat.reduceAdd, Nat.reduceLT, Nat.reduceLeDiff, Nat.reduceEqDiff, Int.reduceLT, Int.reduceBEq, Int.reduceBNe, Nat.reduceBEq, ptr, List.append_nil, Int.toNat_zero, Nat.sub_self, Int.reduceToNat, e1]
  (refine hk _ ?_; clear hk k; try show Sat _ _ _ _ _)
  (repeat refine Sat.seq ?_)
  (refine Sat.region_k fun k hk => ?_; simp -implicitDefEqProofs only [evr, id, reduceCtorEq, reduceIte, Nat.reduceMul, Nat.reduceAdd, Nat.reduceLT, Nat.reduceLeDiff, Nat.reduceEqDiff, Int.reduceLT, Int.reduceBEq, Int.reduceBNe, Nat.reduceBEq, ptr, List.append_nil, Int.toNat_zero, Nat.sub_self, Int.reduceToNat]; refine hk _ ?_; clear hk k; try show Sat _ _ _ _ _)
  refine Sat.adoptBox 1 3 51 1 (psRd []) rfl rfl ?_
  simp -implicitDefEqProofs only [evr, id, reduceCtorEq, reduceIte, Nat.reduceMul, Nat.reduceAdd, Nat.reduceLT, Nat.reduceLeDiff, Nat.reduceEqDiff, Int.reduceLT, Int.reduceBEq, Int.reduceBNe, Nat.reduceBEq, ptr, List.append_nil, Int.toNat_zero, Nat.sub_self, Int.reduceToNat]
  (repeat refine Sat.seq ?_)
  refine Sat.block ?_
  refine Sat.loop (ι := Nat × Option Addr × Nat × List PthP) (fun z => ⟨74, [(5, .i .i64 z.1), (4, .i .i64 lg), (3, .op 1 b3 0), (2, .op 0 b2 0), (0, .v (.pointer (some ⟨cb, 0, none⟩)))], [Own.box b2 79 [.i .i64 0, .i .u32 0, .i .i64 0, .sl none 0 0 0 fun _ _ => .v undef, .i .u32 0], .box b3 79 [.i .i64 v, .i .u32 d, .i .i64 p, .os 2 z.2.1 z.2.2.2.length z.2.2.1, .i .u32 u], .row z.2.1 51 z.2.2.2.length z.2.2.1 1 (psRd z.2.2.2)]⟩)
    (fun z => z.2.2.2.length = z.1 ∧ z.1 ≤ 3 ∧ PsOk 3 z.2.2.2) (fun z => 3 - z.1) (0, none, 0, []) ⟨rfl, by simp, fun q h => by cases h⟩ (by simp -implicitDefEqProofs only [evr, id, reduceCtorEq, reduceIte, Nat.reduceMul, Nat.reduceAdd, Nat.reduceLT, Nat.reduceLeDiff, Nat.reduceEqDiff, Int.reduceLT, Int.reduceBEq, Int.reduceBNe, Nat.reduceBEq, ptr, List.append_nil, Int.toNat_zero, Nat.sub_self, Int.reduceToNat, evl]; first | rfl | trace_state) ?_
  rintro ⟨f, a, c, l⟩ ⟨hfl, hf3, hl⟩
  simp only at hfl hf3 hl ⊢
  (repeat refine Sat.seq ?_)
  (refine Sat.region_k fun k hk => ?_; simp -implicitDefEqProofs only [evr, id, reduceCtorEq, reduceIte, Nat.reduceMul, Nat.reduceAdd, Nat.reduceLT, Nat.reduceLeDiff, Nat.reduceEqDiff, Int.reduceLT, Int.reduceBEq, Int.reduceBNe, Nat.reduceBEq, ptr, List.append_nil, Int.toNat_zero, Nat.sub_self, Int.reduceToNat])
  refine wcall_plain (nextC cb 3 (by omega) (by omega)) rfl (by rintro _ ⟨x, rfl, _⟩; exact ok_plain rfl) ?_
  rintro r ⟨x2, rfl, hy0, hy1⟩
  have e2 : IntKind.i64.wrap (1 + x2) = 1 + x2 := w64 (by omega)
  simp -implicitDefEqProofs only [evr, id, reduceCtorEq, reduceIte, Nat.reduceMul, Nat.reduceAdd, Nat.reduceLT, Nat.reduceLeDiff, Nat.reduceEqDiff, Int.reduceLT, Int.reduceBEq, Int.reduceBNe, Nat.reduceBEq, ptr, List.append_nil, Int.toNat_zero, Nat.sub_self, Int.reduceToNat, e2]
  (refine hk _ ?_; clear hk k; try show Sat _ _ _ _ _)
  (repeat refine Sat.seq ?_)
  refine Sat.cond_b rfl (fun h => ?_) (fun h => ?_)
  · have h1 : f < 3 := by simp only [decide_eq_true_eq] at h; omega
    have e3 : IntKind.i64.wrap ((f : Int) + 1) = ((f + 1 : Nat) : Int) := by rw [w64 (by omega)]; omega
    refine Sat.skip ?_
    simp only [thenK]
    (repeat refine Sat.seq ?_)
    refine Sat.block ?_
    (repeat refine Sat.seq ?_)
    (refine Sat.region_k fun k hk => ?_; simp -implicitDefEqProofs only [evr, id, reduceCtorEq, reduceIte, Nat.reduceMul, Nat.reduceAdd, Nat.reduceLT, Nat.reduceLeDiff, Nat.reduceEqDiff, Int.reduceLT, Int.reduceBEq, Int.reduceBNe, Nat.reduceBEq, ptr, List.append_nil, Int.toNat_zero, Nat.sub_self, Int.reduceToNat]; refine hk _ ?_; clear hk k; try show Sat _ _ _ _ _)
    (repeat refine Sat.seq ?_)
    (refine Sat.region_k fun k hk => ?_; simp -implicitDefEqProofs only [evr, id, reduceCtorEq, reduceIte, Nat.reduceMul, Nat.reduceAdd, Nat.reduceLT, Nat.reduceLeDiff, Nat.reduceEqDiff, Int.reduceLT, Int.reduceBEq, Int.reduceBNe, Nat.reduceBEq, ptr, List.append_nil, Int.toNat_zero, Nat.sub_self, Int.reduceToNat]; refine hk _ ?_; clear hk k; try show Sat _ _ _ _ _)
    refine Sat.adopt 6 35 1 (adRd []) rfl ?_
    (repeat refine Sat.seq ?_)
    refine Sat.block ?_
    refine Sat.loop (ι := Nat × Option Addr × Nat × List Int) (fun z => ⟨74, [(7, .i .i64 z.1), (6, .os 3 z.2.1 z.2.2.2.length z.2.2.1), (5, .i .i64 f), (4, .i .i64 lg), (3, .op 1 b3 0), (2, .op 0 b2 0), (0, .v (.pointer (some ⟨cb, 0, none⟩)))], [Own.box b2 79 [.i .i64 0, .i .u32 0, .i .i64 0, .sl none 0 0 0 fun _ _ => .v undef, .i .u32 0], .box b3 79 [.i .i64 v, .i .u32 d, .i .i64 p, .os 2 a l.length c, .i .u32 u], .row a 51 l.length c 1 (psRd l), .row z.2.1 35 z.2.2.2.length z.2.2.1 1 (adRd z.2.2.2)]⟩)
      (fun z => z.2.2.2.length = z.1 ∧ z.1 ≤ lg ∧ ∀ x ∈ z.2.2.2, InA x) (fun z => lg - z.1) (0, none, 0, []) ⟨rfl, by simp, fun q h => by cases h⟩ (by simp -implicitDefEqProofs only [evr, id, reduceCtorEq, reduceIte, Nat.reduceMul, Nat.reduceAdd, Nat.reduceLT, Nat.reduceLeDiff, Nat.reduceEqDiff, Int.reduceLT, Int.reduceBEq, Int.reduceBNe, Nat.reduceBEq, ptr, List.append_nil, Int.toNat_zero, Nat.sub_self, Int.reduceToNat, evl]; first | rfl | trace_state) ?_
    rintro ⟨i, pa, pc, pl⟩ ⟨hpl, hi3, hpi⟩
    simp only at hpl hi3 hpi ⊢
    (repeat refine Sat.seq ?_)
    (refine Sat.region_k fun k hk => ?_; simp -implicitDefEqProofs only [evr, id, reduceCtorEq, reduceIte, Nat.reduceMul, Nat.reduceAdd, Nat.reduceLT, Nat.reduceLeDiff, Nat.reduceEqDiff, Int.reduceLT, Int.reduceBEq, Int.reduceBNe, Nat.reduceBEq, ptr, List.append_nil, Int.toNat_zero, Nat.sub_self, Int.reduceToNat]; refine hk _ ?_; clear hk k; try show Sat _ _ _ _ _)
    (repeat refine Sat.seq ?_)
    refine Sat.cond_b rfl (fun h => ?_) (fun h => ?_)
    · have h2 : i < lg := by simp only [decide_eq_true_eq] at h; omega
      have e4 : IntKind.i64.wrap ((i : Int) + 1) = ((i + 1 : Nat) : Int) := by rw [w64 (by omega)]; omega
      refine Sat.skip ?_
      simp only [thenK]
      (repeat refine Sat.seq ?_)
      refine Sat.block ?_
      (repeat refine Sat.seq ?_)
      (refine Sat.region_k fun k hk => ?_; simp -implicitDefEqProofs only [evr, id, reduceCtorEq, reduceIte, Nat.reduceMul, Nat.reduceAdd, Nat.reduceLT, Nat.reduceLeDiff, Nat.reduceEqDiff, Int.reduceLT, Int.reduceBEq, Int.reduceBNe, Nat.reduceBEq, ptr, List.append_nil, Int.toNat_zero, Nat.sub_self, Int.reduceToNat])
      refine wcall_plain (addrC cb) rfl plain_addrC ?_
      rintro r ⟨y, hy, rfl⟩
      simp -implicitDefEqProofs only [evr, id, reduceCtorEq, reduceIte, Nat.reduceMul, Nat.reduceAdd, Nat.reduceLT, Nat.reduceLeDiff, Nat.reduceEqDiff, Int.reduceLT, Int.reduceBEq, Int.reduceBNe, Nat.reduceBEq, ptr, List.append_nil, Int.toNat_zero, Nat.sub_self, Int.reduceToNat]
      (refine hk _ ?_; clear hk k; try show Sat _ _ _ _ _)
      (repeat refine Sat.seq ?_)
      (refine Sat.region_k fun k hk => ?_; simp -implicitDefEqProofs only [evr, id, reduceCtorEq, reduceIte, Nat.reduceMul, Nat.reduceAdd, Nat.reduceLT, Nat.reduceLeDiff, Nat.reduceEqDiff, Int.reduceLT, Int.reduceBEq, Int.reduceBNe, Nat.reduceBEq, ptr, List.append_nil, Int.toNat_zero, Nat.sub_self, Int.reduceToNat])
      refine wcall_plain (boolC cb 6 (by decide) (by decide)) rfl plain_bool ?_
      rintro r ⟨q6, rfl⟩
      simp -implicitDefEqProofs only [evr, id, reduceCtorEq, reduceIte, Nat.reduceMul, Nat.reduceAdd, Nat.reduceLT, Nat.reduceLeDiff, Nat.reduceEqDiff, Int.reduceLT, Int.reduceBEq, Int.reduceBNe, Nat.reduceBEq, ptr, List.append_nil, Int.toNat_zero, Nat.sub_self, Int.reduceToNat]
      (refine hk _ ?_; clear hk k; try show Sat _ _ _ _ _)
      (repeat refine Sat.seq ?_)
      refine Sat.atF (ι := Int) (fun w => ⟨74, [(8, .i .u32 w), (7, .i .i64 i), (6, .os 3 pa pl.length pc), (5, .i .i64 f), (4, .i .i64 lg), (3, .op 1 b3 0), (2, .op 0 b2 0), (0, .v (.pointer (some ⟨cb, 0, none⟩)))], [Own.box b2 79 [.i .i64 0, .i .u32 0, .i .i64 0, .sl none 0 0 0 fun _ _ => .v undef, .i .u32 0], .box b3 79 [.i .i64 v, .i .u32 d, .i .i64 p, .os 2 a l.length c, .i .u32 u], .row a 51 l.length c 1 (psRd l), .row pa 35 pl.length pc 1 (adRd pl)]⟩) InA ?_ ?_
      · refine Sat.cond_b rfl (fun h => ?_) (fun h => ?_)
        · (refine Sat.region_k fun k hk => ?_; simp -implicitDefEqProofs only [evr, id, reduceCtorEq, reduceIte, Nat.reduceMul, Nat.reduceAdd, Nat.reduceLT, Nat.reduceLeDiff, Nat.reduceEqDiff, Int.reduceLT, Int.reduceBEq, Int.reduceBNe, Nat.reduceBEq, ptr, List.append_nil, Int.toNat_zero, Nat.sub_self, Int.reduceToNat])
          refine hk _ ?_
          simp only [thenK]
          refine ⟨0, ⟨by omega, by omega⟩, ?_⟩
          simp -implicitDefEqProofs only [evr, id, reduceCtorEq, reduceIte, Nat.reduceMul, Nat.reduceAdd, Nat.reduceLT, Nat.reduceLeDiff, Nat.reduceEqDiff, Int.reduceLT, Int.reduceBEq, Int.reduceBNe, Nat.reduceBEq, ptr, List.append_nil, Int.toNat_zero, Nat.sub_self, Int.reduceToNat, evl]
        · refine Sat.skip ?_
          simp only [thenK]
          refine ⟨y, hy, ?_⟩
          simp -implicitDefEqProofs only [evr, id, reduceCtorEq, reduceIte, Nat.reduceMul, Nat.reduceAdd, Nat.reduceLT, Nat.reduceLeDiff, Nat.reduceEqDiff, Int.reduceLT, Int.reduceBEq, Int.reduceBNe, Nat.reduceBEq, ptr, List.append_nil, Int.toNat_zero, Nat.sub_self, Int.reduceToNat, evl]
      intro w hw
      simp only [thenK]
      (repeat refine Sat.seq ?_)
      obtain ⟨q, hq⟩ : ∃ q, q = l.getD 0 default := ⟨_, rfl⟩
      have hqs : psRd l 0 0 = .sl q.a q.p.length q.cap 1 (adRd q.p) := by rw [hq]; rfl
      refine Sat.atF (ι := Bool) (fun b => ⟨74, [(55, .b b), (8, .i .u32 w), (7, .i .i64 i), (6, .os 3 pa pl.length pc), (5, .i .i64 f), (4, .i .i64 lg), (3, .op 1 b3 0), (2, .op 0 b2 0), (0, .v (.pointer (some ⟨cb, 0, none⟩)))], [Own.box b2 79 [.i .i64 0, .i .u32 0, .i .i64 0, .sl none 0 0 0 fun _ _ => .v undef, .i .u32 0], .box b3 79 [.i .i64 v, .i .u32 d, .i .i64 p, .os 2 a l.length c, .i .u32 u], .row a 51 l.length c 1 (psRd l), .row pa 35 pl.length pc 1 (adRd pl)]⟩) (fun b => b = true → 0 < f ∧ i < q.p.length) ?_ ?_
      · (refine Sat.region_k fun k hk => ?_; simp -implicitDefEqProofs only [evr, id, reduceCtorEq, reduceIte, Nat.reduceMul, Nat.reduceAdd, Nat.reduceLT, Nat.reduceLeDiff, Nat.reduceEqDiff, Int.reduceLT, Int.reduceBEq, Int.reduceBNe, Nat.reduceBEq, ptr, List.append_nil, Int.toNat_zero, Nat.sub_self, Int.reduceToNat])
        simp -implicitDefEqProofs only [evr, id, reduceCtorEq, reduceIte, Nat.reduceMul, Nat.reduceAdd, Nat.reduceLT, Nat.reduceLeDiff, Nat.reduceEqDiff, Int.reduceLT, Int.reduceBEq, Int.reduceBNe, Nat.reduceBEq, ptr, List.append_nil, Int.toNat_zero, Nat.sub_self, Int.reduceToNat, hqs]
        refine ⟨fun g1 => ⟨⟨by omega, by omega⟩, by omega, fun g2 => ?_, fun g2 => hk _ ?_⟩, fun g1 => hk _ ?_⟩
        · refine wcall_plain (boolC cb 3 (by decide) (by decide)) rfl plain_bool ?_
          rintro r ⟨q7, rfl⟩
          simp -implicitDefEqProofs only [evr, id, reduceCtorEq, reduceIte, Nat.reduceMul, Nat.reduceAdd, Nat.reduceLT, Nat.reduceLeDiff, Nat.reduceEqDiff, Int.reduceLT, Int.reduceBEq, Int.reduceBNe, Nat.reduceBEq, ptr, List.append_nil, Int.toNat_zero, Nat.sub_self, Int.reduceToNat]
          refine hk _ ?_
          simp only [thenK]
          refine ⟨!q7, fun _ => ⟨by omega, by omega⟩, ?_⟩
          simp -implicitDefEqProofs only [evr, id, reduceCtorEq, reduceIte, Nat.reduceMul, Nat.reduceAdd, Nat.reduceLT, Nat.reduceLeDiff, Nat.reduceEqDiff, Int.reduceLT, Int.reduceBEq, Int.reduceBNe, Nat.reduceBEq, ptr, List.append_nil, Int.toNat_zero, Nat.sub_self, Int.reduceToNat, evl]
        · simp only [thenK]
          refine ⟨false, fun h => (by cases h), ?_⟩
          simp -implicitDefEqProofs only [evr, id, reduceCtorEq, reduceIte, Nat.reduceMul, Nat.reduceAdd, Nat.reduceLT, Nat.reduceLeDiff, Nat.reduceEqDiff, Int.reduceLT, Int.reduceBEq, Int.reduceBNe, Nat.reduceBEq, ptr, List.append_nil, Int.toNat_zero, Nat.sub_self, Int.reduceToNat, evl]
        · simp only [thenK]
          refine ⟨false, fun h => (by cases h), ?_⟩
          simp -implicitDefEqProofs only [evr, id, reduceCtorEq, reduceIte, Nat.reduceMul, Nat.reduceAdd, Nat.reduceLT, Nat.reduceLeDiff, Nat.reduceEqDiff, Int.reduceLT, Int.reduceBEq, Int.reduceBNe, Nat.reduceBEq, ptr, List.append_nil, Int.toNat_zero, Nat.sub_self, Int.reduceToNat, evl]
      intro b hb
      simp only [thenK]
      (repeat refine Sat.seq ?_)
      refine Sat.atF (ι := Int) (fun w2 => ⟨74, [(8, .i .u32 w2), (7, .i .i64 i), (6, .os 3 pa pl.length pc), (5, .i .i64 f), (4, .i .i64 lg), (3, .op 1 b3 0), (2, .op 0 b2 0), (0, .v (.pointer (some ⟨cb, 0, none⟩)))], [Own.box b2 79 [.i .i64 0, .i .u32 0, .i .i64 0, .sl none 0 0 0 fun _ _ => .v undef, .i .u32 0], .box b3 79 [.i .i64 v, .i .u32 d, .i .i64 p, .os 2 a l.length c, .i .u32 u], .row a 51 l.length c 1 (psRd l), .row pa 35 pl.length pc 1 (adRd pl)]⟩) InA ?_ ?_
      · refine Sat.cond_b rfl (fun h => ?_) (fun h => ?_)
        · obtain ⟨g1, g2⟩ := hb h
          (refine Sat.region_k fun k hk => ?_; simp -implicitDefEqProofs only [evr, id, reduceCtorEq, reduceIte, Nat.reduceMul, Nat.reduceAdd, Nat.reduceLT, Nat.reduceLeDiff, Nat.reduceEqDiff, Int.reduceLT, Int.reduceBEq, Int.reduceBNe, Nat.reduceBEq, ptr, List.append_nil, Int.toNat_zero, Nat.sub_self, Int.reduceToNat])
          simp -implicitDefEqProofs only [evr, id, reduceCtorEq, reduceIte, Nat.reduceMul, Nat.reduceAdd, Nat.reduceLT, Nat.reduceLeDiff, Nat.reduceEqDiff, Int.reduceLT, Int.reduceBEq, Int.reduceBNe, Nat.reduceBEq, ptr, List.append_nil, Int.toNat_zero, Nat.sub_self, Int.reduceToNat, hqs]
          refine ⟨⟨by omega, by omega⟩, by omega, by omega, ?_⟩
          refine hk _ ?_
          simp only [thenK]
          refine ⟨q.p.getD i 0, ?_, ?_⟩
          · exact (hl q (by rw [hq]; exact getD_mem (by omega))).2 _ (getD_mem g2)
          · simp -implicitDefEqProofs only [evr, id, reduceCtorEq, reduceIte, Nat.reduceMul, Nat.reduceAdd, Nat.reduceLT, Nat.reduceLeDiff, Nat.reduceEqDiff, Int.reduceLT, Int.reduceBEq, Int.reduceBNe, Nat.reduceBEq, ptr, List.append_nil, Int.toNat_zero, Nat.sub_self, Int.reduceToNat, evl]
            rfl
        · refine Sat.skip ?_
          simp only [thenK]
          refine ⟨w, hw, ?_⟩
          simp -implicitDefEqProofs only [evr, id, reduceCtorEq, reduceIte, Nat.reduceMul, Nat.reduceAdd, Nat.reduceLT, Nat.reduceLeDiff, Nat.reduceEqDiff, Int.reduceLT, Int.reduceBEq, Int.reduceBNe, Nat.reduceBEq, ptr, List.append_nil, Int.toNat_zero, Nat.sub_self, Int.reduceToNat, evl]
      intro w2 hw2
      simp only [thenK, blockK]
      (repeat refine Sat.seq ?_)
      (refine Sat.region_k fun k hk => ?_; simp -implicitDefEqProofs only [evr, id, reduceCtorEq, reduceIte, Nat.reduceMul, Nat.reduceAdd, Nat.reduceLT, Nat.reduceLeDiff, Nat.reduceEqDiff, Int.reduceLT, Int.reduceBEq, Int.reduceBNe, Nat.reduceBEq, ptr, List.append_nil, Int.toNat_zero, Nat.sub_self, Int.reduceToNat])
      intro b9
      refine ⟨⟨by unfold maxLen; omega, by omega⟩, fun a2 cap2 => ?_⟩
      (refine hk _ ?_; clear hk k; try show Sat _ _ _ _ _)
      refine Sat.region_k fun k hk => ?_
      simp -implicitDefEqProofs only [evr, id, reduceCtorEq, reduceIte, Nat.reduceMul, Nat.reduceAdd, Nat.reduceLT, Nat.reduceLeDiff, Nat.reduceEqDiff, Int.reduceLT, Int.reduceBEq, Int.reduceBNe, Nat.reduceBEq, ptr, List.append_nil, Int.toNat_zero, Nat.sub_self, Int.reduceToNat, e4]
      refine hk _ ?_
      simp only [thenK, blockK]
      refine ⟨(i + 1, a2, cap2, pl ++ [w2]), ⟨by simp; omega, by simp only; omega, fun x hx => ?_⟩, by simp only; omega, ?_⟩
      · rcases List.mem_append.1 hx with h | h
        · exact hpi x h
        · simp only [List.mem_singleton] at h; subst h; exact hw2
      · simp only [List.length_append, List.length_singleton]
        simp -implicitDefEqProofs only [evr, id, reduceCtorEq, reduceIte, Nat.reduceMul, Nat.reduceAdd, Nat.reduceLT, Nat.reduceLeDiff, Nat.reduceEqDiff, Int.reduceLT, Int.reduceBEq, Int.reduceBNe, Nat.reduceBEq, ptr, List.append_nil, Int.toNat_zero, Nat.sub_self, Int.reduceToNat, evl]
        exact ad_app
    · refine Sat.exit ?_
      simp only [thenK, blockK, reduceIte]
      refine Sat.settle2 6 rfl rfl ?_
      simp -implicitDefEqProofs only [evr, id, reduceCtorEq, reduceIte, Nat.reduceMul, Nat.reduceAdd, Nat.reduceLT, Nat.reduceLeDiff, Nat.reduceEqDiff, Int.reduceLT, Int.reduceBEq, Int.reduceBNe, Nat.reduceBEq, ptr, List.append_nil, Int.toNat_zero, Nat.sub_self, Int.reduceToNat]
      (refine Sat.region_k fun k hk => ?_; simp -implicitDefEqProofs only [evr, id, reduceCtorEq, reduceIte, Nat.reduceMul, Nat.reduceAdd, Nat.reduceLT, Nat.reduceLeDiff, Nat.reduceEqDiff, Int.reduceLT, Int.reduceBEq, Int.reduceBNe, Nat.reduceBEq, ptr, List.append_nil, Int.toNat_zero, Nat.sub_self, Int.reduceToNat])
      intro b9
      refine ⟨⟨by unfold maxLen; omega, by omega⟩, fun a2 cap2 => ?_⟩
      (refine hk _ ?_; clear hk k; try show Sat _ _ _ _ _)
      refine Sat.region_k fun k hk => ?_
      simp -implicitDefEqProofs only [evr, id, reduceCtorEq, reduceIte, Nat.reduceMul, Nat.reduceAdd, Nat.reduceLT, Nat.reduceLeDiff, Nat.reduceEqDiff, Int.reduceLT, Int.reduceBEq, Int.reduceBNe, Nat.reduceBEq, ptr, List.append_nil, Int.toNat_zero, Nat.sub_self, Int.reduceToNat, e3]
      refine hk _ ?_
      simp only [thenK, blockK]
      refine ⟨(f + 1, a2, cap2, l ++ [⟨pa, pc, pl⟩]), ⟨by simp; omega, by simp only; omega, fun x hx => ?_⟩, by simp only; omega, ?_⟩
      · rcases List.mem_append.1 hx with h | h
        · exact hl x h
        · simp only [List.mem_singleton] at h; subst h; exact ⟨by simp only; omega, hpi⟩
      · simp only [List.length_append, List.length_singleton]
        simp -implicitDefEqProofs only [evr, id, reduceCtorEq, reduceIte, Nat.reduceMul, Nat.reduceAdd, Nat.reduceLT, Nat.reduceLeDiff, Nat.reduceEqDiff, Int.reduceLT, Int.reduceBEq, Int.reduceBNe, Nat.reduceBEq, ptr, List.append_nil, Int.toNat_zero, Nat.sub_self, Int.reduceToNat, evl]
        exact ps_app rfl
  · refine Sat.exit ?_
    simp only [thenK, blockK, reduceIte]
    have hf0 : 0 < f := by
      simp only [decide_eq_false_iff_not] at h
      omega
    (repeat refine Sat.seq ?_)
    (refine Sat.region_k fun k hk => ?_; simp -implicitDefEqProofs only [evr, id, reduceCtorEq, reduceIte, Nat.reduceMul, Nat.reduceAdd, Nat.reduceLT, Nat.reduceLeDiff, Nat.reduceEqDiff, Int.reduceLT, Int.reduceBEq, Int.reduceBNe, Nat.reduceBEq, ptr, List.append_nil, Int.toNat_zero, Nat.sub_self, Int.reduceToNat])
    (refine hk _ ?_; clear hk k; try show Sat _ _ _ _ _)
    refine Sat.ret ?_
    simp only [Try.results35, evr, id, reduceCtorEq, reduceIte, Nat.reduceMul, Nat.reduceAdd, Nat.reduceLT, Nat.reduceLeDiff, Nat.reduceEqDiff, Int.reduceLT, Int.reduceBEq, Int.reduceBNe, Nat.reduceBEq, ptr, List.append_nil, Int.toNat_zero, Nat.sub_self, Int.reduceToNat]
    refine ⟨⟨v, d, p, a, c, l, u⟩, _, ⟨hv, hd, hu, ⟨by simp only; omega, by simp only; omega⟩, hl⟩, rfl, fun j hj => ?_⟩
    rcases (show j = 0 ∨ j = 1 ∨ j = 2 ∨ j = 3 ∨ j = 4 by omega) with rfl | rfl | rfl | rfl | rfl <;> simp -implicitDefEqProofs only [evr, id, reduceCtorEq, reduceIte, Nat.reduceMul, Nat.reduceAdd, Nat.reduceLT, Nat.reduceLeDiff, Nat.reduceEqDiff, Int.reduceLT, Int.reduceBEq, Int.reduceBNe, Nat.reduceBEq, ptr, List.append_nil, Int.toNat_zero, Nat.sub_self, Int.reduceToNat, Net.cs]
end Go.Proofs.Ytkpmihaaijiihaa

/- Results, by the evaluator: dice.Results (of paths that may change): each has a number of its own at its vantage. -/
set_option linter.unusedSimpArgs false
set_option linter.unusedVariables false
namespace Go.Proofs.Ytkpmihaaijiihaa
open Go.Sort Eng
def netRd (ns : List Net) : Nat → Nat → SV := fun i j => (Net.cs (ns.getD i default)).getD j default
theorem net_one (ns : List Net) (i j : Nat) (h : j < 5) : oneS (netRd ns i j) = true := by
  rcases (show j = 0 ∨ j = 1 ∨ j = 2 ∨ j = 3 ∨ j = 4 by omega) with rfl | rfl | rfl | rfl | rfl <;> rfl
theorem net_one1 {n : Net} {cs : List SV} (h : cs = n.cs) : rdEq 1 5 (rdL cs 5) (netRd [n]) := by
  subst h
  intro i j hi hj
  obtain rfl : i = 0 := by omega
  unfold rdL netRd
  simp
theorem net_two {n m : Net} : rdEq 2 5 (rdCat 1 (rdL n.cs 5) (rdL m.cs 5)) (netRd [n, m]) := by
  intro i j hi hj
  rcases (show i = 0 ∨ i = 1 by omega) with rfl | rfl <;> simp [rdCat, rdL, netRd]
theorem net_app {ns : List Net} {n : Net} {cs : List SV} (h : cs = n.cs) : rdEq (ns.length + 1) 5 (rdCat ns.length (netRd ns) (rdL cs 5)) (netRd (ns ++ [n])) := by
  subst h
  refine rdEq_snoc (fun i j hi hj => ?_) (fun j hj => ?_)
  · unfold netRd
    simp [List.getD, List.getElem?_append, hi]
  · unfold netRd
    simp [List.getD]
def Net.with (n m : Net) : Net := ⟨n.v, n.d, n.pr, m.a, m.cap, m.l, n.last⟩
theorem NetOk.with {n m : Net} (h : NetOk n) (g : NetOk m) : NetOk (n.with m) := ⟨h.v, h.d, h.last, g.some, g.ps⟩
theorem net_set {ns : List Net} {i N : Nat} {m : Net} (hi : i < ns.length) : rdEq N 5 (rdSet (netRd ns) i 3 [.sl m.a m.l.length m.cap 1 (psRd m.l)]) (netRd (ns.set i ((ns.getD i default).with m))) := by
  intro p j hp hj
  unfold rdSet netRd
  by_cases e : p = i
  · subst e
    have hg : (ns.set p ((ns.getD p default).with m)).getD p default = (ns.getD p default).with m := by simp [List.getD, hi]
    rw [hg]
    rcases (show j = 0 ∨ j = 1 ∨ j = 2 ∨ j = 3 ∨ j = 4 by omega) with rfl | rfl | rfl | rfl | rfl <;> simp [Net.cs, Net.with]
  · have hg : (ns.set i ((ns.getD i default).with m)).getD p default = ns.getD p default := by simp [List.getD, Ne.symm e]
    rw [hg, if_neg (fun h => e h.1)]
structure RltI (xs : List Res) (n0 n1 : Nat) : Prop where
  inr : ∀ r ∈ xs, RgR r
  num : ∀ r ∈ xs, (r.vantage = 0 ∧ r.number < n0) ∨ (r.vantage = 1 ∧ r.number < n1)
  own : ∀ r ∈ xs, ∀ s ∈ xs, r.vantage = s.vantage → r.number = s.number → r = s
theorem RltI.nil : RltI [] 0 0 := ⟨fun r h => (by cases h), fun r h => (by cases h), fun r h => (by cases h)⟩
theorem RltI.snoc0 {xs : List Res} {n0 n1 : Nat} {r : Res} (h : RltI xs n0 n1) (hr : RgR r) (hv : r.vantage = 0) (hn : r.number = n0) : RltI (xs ++ [r]) (n0 + 1) n1 := by
  refine ⟨fun s hs => ?_, fun s hs => ?_, fun s hs t ht e1 e2 => ?_⟩
  · rcases List.mem_append.1 hs with hs | hs
    · exact h.inr s hs
    · rw [List.mem_singleton.1 hs]; exact hr
  · rcases List.mem_append.1 hs with hs | hs
    · rcases h.num s hs with ⟨a, b⟩ | ⟨a, b⟩
      · exact .inl ⟨a, by omega⟩
      · exact .inr ⟨a, b⟩
    · rw [List.mem_singleton.1 hs]; exact .inl ⟨hv, by omega⟩
  · rcases List.mem_append.1 hs with hs | hs <;> rcases List.mem_append.1 ht with ht | ht
    · exact h.own s hs t ht e1 e2
    · rw [List.mem_singleton.1 ht] at e1 e2
      rcases h.num s hs with ⟨a, b⟩ | ⟨a, b⟩ <;> omega
    · rw [List.mem_singleton.1 hs] at e1 e2
      rcases h.num t ht with ⟨a, b⟩ | ⟨a, b⟩ <;> omega
    · rw [List.mem_singleton.1 hs, List.mem_singleton.1 ht]
theorem RltI.snoc1 {xs : List Res} {n0 n1 : Nat} {r : Res} (h : RltI xs n0 n1) (hr : RgR r) (hv : r.vantage = 1) (hn : r.number = n1) : RltI (xs ++ [r]) n0 (n1 + 1) := by
  refine ⟨fun s hs => ?_, fun s hs => ?_, fun s hs t ht e1 e2 => ?_⟩
  · rcases List.mem_append.1 hs with hs | hs
    · exact h.inr s hs
    · rw [List.mem_singleton.1 hs]; exact hr
  · rcases List.mem_append.1 hs with hs | hs
    · rcases h.num s hs with ⟨a, b⟩ | ⟨a, b⟩
      · exact .inl ⟨a, b⟩
      · exact .inr ⟨a, by omega⟩
    · rw [List.mem_singleton.1 hs]; exact .inr ⟨hv, by omega⟩
  · rcases List.mem_append.1 hs with hs | hs <;> rcases List.mem_append.1 ht with ht | ht
    · exact h.own s hs t ht e1 e2
    · rw [List.mem_singleton.1 ht] at e1 e2
      rcases h.num s hs with ⟨a, b⟩ | ⟨a, b⟩ <;> omega
    · rw [List.mem_singleton.1 hs] at e1 e2
      rcases h.num t ht with ⟨a, b⟩ | ⟨a, b⟩ <;> omega
    · rw [List.mem_singleton.1 hs, List.mem_singleton.1 ht]
theorem w64_inA {x : Int} (h : InA x) : w64i x = x := w64 ⟨by have := h.1; omega, by have := h.2; omega⟩
structure RlP where
  k : Nat
  at_ : Int
  id : Int
  na : Option Addr
  nc : Nat
  ns : List Net
  ra : Option Addr
  rc : Nat
  xs : List Res
  n0 : Nat
  n1 : Nat
def numCs (n0 n1 : Nat) : List SV := [.i .i64 n0, .i .i64 n1, .i .i64 0, .i .i64 0, .i .i64 0, .i .i64 0, .i .i64 0, .i .i64 0, .i .i64 0, .i .i64 0, .i .i64 0, .i .i64 0, .i .i64 0, .i .i64 0, .i .i64 0, .i .i64 0]
def rlEnv (cb most : Nat) (k : Nat) (at' id : Int) (bn : Nat) (ra : Option Addr) (rc rn : Nat) (na : Option Addr) (nc nn : Nat) : List (Nat × SV) :=
  [(12, .i .i64 k), (11, .op 1 bn 0), (10, .i .i64 id), (9, .i .i64 at'), (8, .os 2 ra rn rc), (7, .os 0 na nn nc), (0, .v (.pointer (some ⟨cb, 0, none⟩))), (1, .i .i64 most), (2, .ff)]
def rlOwn (bn : Nat) (na : Option Addr) (nc : Nat) (ns : List Net) (ra : Option Addr) (rc : Nat) (xs : List Res) (n0 n1 : Nat) (more : List Eng.Own) : List Eng.Own :=
  .row na 79 ns.length nc 5 (netRd ns) :: .box bn 82 (numCs n0 n1) :: .row ra 39 xs.length rc 17 (resRd xs.toArray) :: more
def RlOk (most m : Nat) (z : RlP) : Prop := z.xs.length + z.k ≤ most ∧ z.ns.length = m ∧ (∀ n ∈ z.ns, NetOk n) ∧ RltI z.xs z.n0 z.n1 ∧ z.n0 ≤ z.xs.length ∧ z.n1 ≤ z.xs.length
def rlCs (v num at' d pr fl ttl : Int) (s8 s9 : SV) (back fr kind left id quoted : Int) : List SV := [.i .i64 v, .i .i64 0, .i .i64 num, .i .i64 at', .i .u32 d, .i .i64 pr, .i .i64 fl, .i .i64 ttl, s8, s9, .i .i64 back, .i .u32 fr, .i .i64 kind, .i .i64 0, .i .i64 left, .i .i64 id, .i .i64 quoted]
def rlBox (b14 b17 : Nat) (n : Net) (cs : List SV) : List Eng.Own := [.box b14 79 [.i .i64 n.v, .i .u32 n.d, .i .i64 n.pr, .sl n.a n.l.length n.cap 1 (psRd n.l), .i .u32 n.last], .box b17 39 cs]
set_option maxRecDepth 100000 in
set_option maxHeartbeats 4000000 in
theorem resultsC (cb : Nat) (most : Nat) (hm : most ≤ 1000) :
    ContractN (Frm.codes cb) Try.prog 21 [ptr cb, .i .i64 most, .ff] (fun o => ∃ (a : Option Addr) (cap : Nat) (xs : List Res) (n0 n1 : Nat), RltI xs n0 n1 ∧ xs.length ≤ most ∧ o = resRow a xs.length cap xs.toArray) := by
  refine contractN_of Try.func21 rfl (by kernel_rfl) ?_
  simp only [Try.ntmps21, argEnv, ptr]
  (repeat refine Sat.seq ?_)
  (refine Sat.region_k fun k hk => ?_; simp -implicitDefEqProofs only [evr, id, reduceCtorEq, reduceIte, Nat.reduceMul, Nat.reduceAdd, Nat.reduceLT, Nat.reduceLeDiff, Nat.reduceEqDiff, Int.reduceLT, Int.reduceBEq, Int.reduceBNe, Nat.reduceBEq, ptr, res_one, List.append_nil, Int.toNat_zero, Nat.sub_self, Int.reduceToNat, resRow, net_one, rlEnv, rlOwn, numCs, rlCs, rlBox]; refine hk _ ?_; clear hk k; try show Sat _ _ _ _ _)
  (repeat refine Sat.seq ?_)
  (refine Sat.region_k fun k hk => ?_; simp -implicitDefEqProofs only [evr, id, reduceCtorEq, reduceIte, Nat.reduceMul, Nat.reduceAdd, Nat.reduceLT, Nat.reduceLeDiff, Nat.reduceEqDiff, Int.reduceLT, Int.reduceBEq, Int.reduceBNe, Nat.reduceBEq, ptr, res_one, List.append_nil, Int.toNat_zero, Nat.sub_self, Int.reduceToNat, resRow, net_one, rlEnv, rlOwn, numCs, rlCs, rlBox])
  refine wcall_slice (sceneC cb) rfl rfl ?_
  rintro r ⟨n, f, hn, rfl, hf⟩
  have f0 : f 0 = .i .i64 n.v := hf 0 (by omega)
  have f1 : f 1 = .i .u32 n.d := hf 1 (by omega)
  have f2 : f 2 = .i .i64 n.pr := hf 2 (by omega)
  have f3 : f 3 = .sl n.a n.l.length n.cap 1 (psRd n.l) := hf 3 (by omega)
  have f4 : f 4 = .i .u32 n.last := hf 4 (by omega)
  simp -implicitDefEqProofs only [evr, id, reduceCtorEq, reduceIte, Nat.reduceMul, Nat.reduceAdd, Nat.reduceLT, Nat.reduceLeDiff, Nat.reduceEqDiff, Int.reduceLT, Int.reduceBEq, Int.reduceBNe, Nat.reduceBEq, ptr, res_one, List.append_nil, Int.toNat_zero, Nat.sub_self, Int.reduceToNat, resRow, net_one, rlEnv, rlOwn, numCs, rlCs, rlBox, f0, f1, f2, f3, f4]
  intro b7
  (refine hk _ ?_; clear hk k; try show Sat _ _ _ _ _)
  (repeat refine Sat.seq ?_)
  (refine Sat.region_k fun k hk => ?_; simp -implicitDefEqProofs only [evr, id, reduceCtorEq, reduceIte, Nat.reduceMul, Nat.reduceAdd, Nat.reduceLT, Nat.reduceLeDiff, Nat.reduceEqDiff, Int.reduceLT, Int.reduceBEq, Int.reduceBNe, Nat.reduceBEq, ptr, res_one, List.append_nil, Int.toNat_zero, Nat.sub_self, Int.reduceToNat, resRow, net_one, rlEnv, rlOwn, numCs, rlCs, rlBox])
  refine wcall_plain (boolC cb 3 (by decide) (by decide)) rfl plain_bool ?_
  rintro r ⟨q, rfl⟩
  simp -implicitDefEqProofs only [evr, id, reduceCtorEq, reduceIte, Nat.reduceMul, Nat.reduceAdd, Nat.reduceLT, Nat.reduceLeDiff, Nat.reduceEqDiff, Int.reduceLT, Int.reduceBEq, Int.reduceBNe, Nat.reduceBEq, ptr, res_one, List.append_nil, Int.toNat_zero, Nat.sub_self, Int.reduceToNat, resRow, net_one, rlEnv, rlOwn, numCs, rlCs, rlBox]
  (refine hk _ ?_; clear hk k; try show Sat _ _ _ _ _)
  (repeat refine Sat.seq ?_)
  refine Sat.atF (ι := Option Addr × Nat × List Net) (fun z => ⟨175, [(7, .os 0 z.1 z.2.2.length z.2.1), (0, .v (.pointer (some ⟨cb, 0, none⟩))), (1, .i .i64 most), (2, .ff)], [.row z.1 79 z.2.2.length z.2.1 5 (netRd z.2.2)]⟩) (fun z => (1 ≤ z.2.2.length ∧ z.2.2.length ≤ 2) ∧ ∀ m ∈ z.2.2, NetOk m) ?_ ?_
  · refine Sat.cond_b rfl (fun h => ?_) (fun h => ?_)
    · (refine Sat.region_k fun k hk => ?_; simp -implicitDefEqProofs only [evr, id, reduceCtorEq, reduceIte, Nat.reduceMul, Nat.reduceAdd, Nat.reduceLT, Nat.reduceLeDiff, Nat.reduceEqDiff, Int.reduceLT, Int.reduceBEq, Int.reduceBNe, Nat.reduceBEq, ptr, res_one, List.append_nil, Int.toNat_zero, Nat.sub_self, Int.reduceToNat, resRow, net_one, rlEnv, rlOwn, numCs, rlCs, rlBox])
      refine wcall_slice (sceneC cb) rfl rfl ?_
      rintro r ⟨n2, g, hn2, rfl, hg⟩
      have g0 : g 0 = .i .i64 n2.v := hg 0 (by omega)
      have g1 : g 1 = .i .u32 n2.d := hg 1 (by omega)
      have g2 : g 2 = .i .i64 n2.pr := hg 2 (by omega)
      have g3 : g 3 = .sl n2.a n2.l.length n2.cap 1 (psRd n2.l) := hg 3 (by omega)
      have g4 : g 4 = .i .u32 n2.last := hg 4 (by omega)
      simp -implicitDefEqProofs only [evr, id, reduceCtorEq, reduceIte, Nat.reduceMul, Nat.reduceAdd, Nat.reduceLT, Nat.reduceLeDiff, Nat.reduceEqDiff, Int.reduceLT, Int.reduceBEq, Int.reduceBNe, Nat.reduceBEq, ptr, res_one, List.append_nil, Int.toNat_zero, Nat.sub_self, Int.reduceToNat, resRow, net_one, rlEnv, rlOwn, numCs, rlCs, rlBox, g0, g1, g2, g3, g4]
      intro b8
      refine ⟨by unfold maxLen; omega, fun a2 cap2 => hk _ ?_⟩
      simp only [thenK]
      refine ⟨(a2, cap2, [n, n2]), ⟨⟨by simp, by simp⟩, fun m hm => ?_⟩, ?_⟩
      · rcases List.mem_cons.1 hm with rfl | hm
        · exact hn
        · rw [List.mem_singleton.1 hm]; exact hn2
      · simp -implicitDefEqProofs only [evr, id, reduceCtorEq, reduceIte, Nat.reduceMul, Nat.reduceAdd, Nat.reduceLT, Nat.reduceLeDiff, Nat.reduceEqDiff, Int.reduceLT, Int.reduceBEq, Int.reduceBNe, Nat.reduceBEq, ptr, res_one, List.append_nil, Int.toNat_zero, Nat.sub_self, Int.reduceToNat, resRow, net_one, rlEnv, rlOwn, numCs, rlCs, rlBox, evl]
        exact net_two
    · refine Sat.skip ?_
      simp only [thenK]
      refine ⟨(some ⟨b7, 0, none⟩, 1, [n]), ⟨⟨by simp, by simp⟩, fun m hm => by rw [List.mem_singleton.1 hm]; exact hn⟩, ?_⟩
      simp -implicitDefEqProofs only [evr, id, reduceCtorEq, reduceIte, Nat.reduceMul, Nat.reduceAdd, Nat.reduceLT, Nat.reduceLeDiff, Nat.reduceEqDiff, Int.reduceLT, Int.reduceBEq, Int.reduceBNe, Nat.reduceBEq, ptr, res_one, List.append_nil, Int.toNat_zero, Nat.sub_self, Int.reduceToNat, resRow, net_one, rlEnv, rlOwn, numCs, rlCs, rlBox, evl]
      exact net_one1 rfl
  rintro ⟨na, nc, ns⟩ ⟨hns, hnok⟩
  simp only [thenK] at hns hnok ⊢
  (repeat refine Sat.seq ?_)
  (refine Sat.region_k fun k hk => ?_; simp -implicitDefEqProofs only [evr, id, reduceCtorEq, reduceIte, Nat.reduceMul, Nat.reduceAdd, Nat.reduceLT, Nat.reduceLeDiff, Nat.reduceEqDiff, Int.reduceLT, Int.reduceBEq, Int.reduceBNe, Nat.reduceBEq, ptr, res_one, List.append_nil, Int.toNat_zero, Nat.sub_self, Int.reduceToNat, resRow, net_one, rlEnv, rlOwn, numCs, rlCs, rlBox]; refine hk _ ?_; clear hk k; try show Sat _ _ _ _ _)
  (repeat refine Sat.seq ?_)
  (refine Sat.region_k fun k hk => ?_; simp -implicitDefEqProofs only [evr, id, reduceCtorEq, reduceIte, Nat.reduceMul, Nat.reduceAdd, Nat.reduceLT, Nat.reduceLeDiff, Nat.reduceEqDiff, Int.reduceLT, Int.reduceBEq, Int.reduceBNe, Nat.reduceBEq, ptr, res_one, List.append_nil, Int.toNat_zero, Nat.sub_self, Int.reduceToNat, resRow, net_one, rlEnv, rlOwn, numCs, rlCs, rlBox])
  refine wcall_plain (nextC cb 50 (by omega) (by omega)) rfl (by rintro _ ⟨x, rfl, _⟩; exact ok_plain rfl) ?_
  rintro r ⟨at0, rfl, _, _⟩
  simp -implicitDefEqProofs only [evr, id, reduceCtorEq, reduceIte, Nat.reduceMul, Nat.reduceAdd, Nat.reduceLT, Nat.reduceLeDiff, Nat.reduceEqDiff, Int.reduceLT, Int.reduceBEq, Int.reduceBNe, Nat.reduceBEq, ptr, res_one, List.append_nil, Int.toNat_zero, Nat.sub_self, Int.reduceToNat, resRow, net_one, rlEnv, rlOwn, numCs, rlCs, rlBox]
  refine wcall_plain (nextC cb 700 (by omega) (by omega)) rfl (by rintro _ ⟨x, rfl, _⟩; exact ok_plain rfl) ?_
  rintro r ⟨id0, rfl, _, _⟩
  simp -implicitDefEqProofs only [evr, id, reduceCtorEq, reduceIte, Nat.reduceMul, Nat.reduceAdd, Nat.reduceLT, Nat.reduceLeDiff, Nat.reduceEqDiff, Int.reduceLT, Int.reduceBEq, Int.reduceBNe, Nat.reduceBEq, ptr, res_one, List.append_nil, Int.toNat_zero, Nat.sub_self, Int.reduceToNat, resRow, net_one, rlEnv, rlOwn, numCs, rlCs, rlBox]
  generalize IntKind.i64.wrap (100 * id0) = id1
  (refine hk _ ?_; clear hk k; try show Sat _ _ _ _ _)
  (repeat refine Sat.seq ?_)
  (refine Sat.region_k fun k hk => ?_; simp -implicitDefEqProofs only [evr, id, reduceCtorEq, reduceIte, Nat.reduceMul, Nat.reduceAdd, Nat.reduceLT, Nat.reduceLeDiff, Nat.reduceEqDiff, Int.reduceLT, Int.reduceBEq, Int.reduceBNe, Nat.reduceBEq, ptr, res_one, List.append_nil, Int.toNat_zero, Nat.sub_self, Int.reduceToNat, resRow, net_one, rlEnv, rlOwn, numCs, rlCs, rlBox])
  intro bn
  (refine hk _ ?_; clear hk k; try show Sat _ _ _ _ _)
  (repeat refine Sat.seq ?_)
  have e1 : IntKind.i64.wrap ((most : Int) + 1) = (most : Int) + 1 := w64 (by omega)
  (refine Sat.region_k fun k hk => ?_; simp -implicitDefEqProofs only [evr, id, reduceCtorEq, reduceIte, Nat.reduceMul, Nat.reduceAdd, Nat.reduceLT, Nat.reduceLeDiff, Nat.reduceEqDiff, Int.reduceLT, Int.reduceBEq, Int.reduceBNe, Nat.reduceBEq, ptr, res_one, List.append_nil, Int.toNat_zero, Nat.sub_self, Int.reduceToNat, resRow, net_one, rlEnv, rlOwn, numCs, rlCs, rlBox])
  refine wcall_plain (nextC cb ((most : Int) + 1) (by omega) (by omega)) (by simp -implicitDefEqProofs only [evr, id, reduceCtorEq, reduceIte, Nat.reduceMul, Nat.reduceAdd, Nat.reduceLT, Nat.reduceLeDiff, Nat.reduceEqDiff, Int.reduceLT, Int.reduceBEq, Int.reduceBNe, Nat.reduceBEq, ptr, res_one, List.append_nil, Int.toNat_zero, Nat.sub_self, Int.reduceToNat, resRow, net_one, rlEnv, rlOwn, numCs, rlCs, rlBox, e1]) (by rintro _ ⟨x, rfl, _⟩; exact ok_plain rfl) ?_
  rintro r ⟨x, rfl, hx0, hx1⟩
  obtain ⟨k0, rfl⟩ := Int.eq_ofNat_of_zero_le hx0
  simp -implicitDefEqProofs only [evr, id, reduceCtorEq, reduceIte, Nat.reduceMul, Nat.reduceAdd, Nat.reduceLT, Nat.reduceLeDiff, Nat.reduceEqDiff, Int.reduceLT, Int.reduceBEq, Int.reduceBNe, Nat.reduceBEq, ptr, res_one, List.append_nil, Int.toNat_zero, Nat.sub_self, Int.reduceToNat, resRow, net_one, rlEnv, rlOwn, numCs, rlCs, rlBox]
  (refine hk _ ?_; clear hk k; try show Sat _ _ _ _ _)
  refine Sat.adopt 8 39 17 (resRd #[]) rfl ?_
  simp -implicitDefEqProofs only [evr, id, reduceCtorEq, reduceIte, Nat.reduceMul, Nat.reduceAdd, Nat.reduceLT, Nat.reduceLeDiff, Nat.reduceEqDiff, Int.reduceLT, Int.reduceBEq, Int.reduceBNe, Nat.reduceBEq, ptr, res_one, List.append_nil, Int.toNat_zero, Nat.sub_self, Int.reduceToNat, resRow, net_one, rlEnv, rlOwn, numCs, rlCs, rlBox]
  refine Sat.block ?_
  refine Sat.loop (ι := RlP) (fun z => ⟨175, rlEnv cb most z.k z.at_ z.id bn z.ra z.rc z.xs.length z.na z.nc z.ns.length, rlOwn bn z.na z.nc z.ns z.ra z.rc z.xs z.n0 z.n1 []⟩)
    (RlOk most ns.length) (fun z => z.k) ⟨k0, at0, id1, na, nc, ns, none, 0, [], 0, 0⟩ ⟨by simp only [List.length_nil]; omega, rfl, hnok, RltI.nil, Nat.le_refl _, Nat.le_refl _⟩ (by simp -implicitDefEqProofs only [evr, id, reduceCtorEq, reduceIte, Nat.reduceMul, Nat.reduceAdd, Nat.reduceLT, Nat.reduceLeDiff, Nat.reduceEqDiff, Int.reduceLT, Int.reduceBEq, Int.reduceBNe, Nat.reduceBEq, ptr, res_one, List.append_nil, Int.toNat_zero, Nat.sub_self, Int.reduceToNat, resRow, net_one, rlEnv, rlOwn, numCs, rlCs, rlBox, evl]; first | rfl | trace_state) ?_
  have hm0 : ∃ m, m = ns.length := ⟨_, rfl⟩
  obtain ⟨m, hm0⟩ := hm0
  rw [← hm0] at hns ⊢
  clear hm0 hnok ns na nc
  rintro ⟨k1, at1, id2, na, nc, ns, ra, rc, xs, n0, n1⟩ ⟨hxk, hnl, hnok, hI, hn0, hn1⟩
  simp only [rlEnv, rlOwn, numCs] at hxk hnl hnok hI hn0 hn1 ⊢
  (repeat refine Sat.seq ?_)
  (refine Sat.region_k fun k hk => ?_; simp -implicitDefEqProofs only [evr, id, reduceCtorEq, reduceIte, Nat.reduceMul, Nat.reduceAdd, Nat.reduceLT, Nat.reduceLeDiff, Nat.reduceEqDiff, Int.reduceLT, Int.reduceBEq, Int.reduceBNe, Nat.reduceBEq, ptr, res_one, List.append_nil, Int.toNat_zero, Nat.sub_self, Int.reduceToNat, resRow, net_one, rlEnv, rlOwn, numCs, rlCs, rlBox]; refine hk _ ?_; clear hk k; try show Sat _ _ _ _ _)
  (repeat refine Sat.seq ?_)
  refine Sat.cond_b rfl (fun h => ?_) (fun h => ?_)
  · have h0 : 0 < k1 := by simp only [decide_eq_true_eq] at h; omega
    have e2 : IntKind.i64.wrap ((k1 : Int) - 1) = ((k1 - 1 : Nat) : Int) := by rw [w64 (by omega)]; omega
    refine Sat.skip ?_
    simp only [thenK]
    (repeat refine Sat.seq ?_)
    refine Sat.block ?_
    (repeat refine Sat.seq ?_)
    (refine Sat.region_k fun k hk => ?_; simp -implicitDefEqProofs only [evr, id, reduceCtorEq, reduceIte, Nat.reduceMul, Nat.reduceAdd, Nat.reduceLT, Nat.reduceLeDiff, Nat.reduceEqDiff, Int.reduceLT, Int.reduceBEq, Int.reduceBNe, Nat.reduceBEq, ptr, res_one, List.append_nil, Int.toNat_zero, Nat.sub_self, Int.reduceToNat, resRow, net_one, rlEnv, rlOwn, numCs, rlCs, rlBox])
    refine wcall_plain (nextC cb ns.length (by omega) (by omega)) (by simp -implicitDefEqProofs only [evr, id, reduceCtorEq, reduceIte, Nat.reduceMul, Nat.reduceAdd, Nat.reduceLT, Nat.reduceLeDiff, Nat.reduceEqDiff, Int.reduceLT, Int.reduceBEq, Int.reduceBNe, Nat.reduceBEq, ptr, res_one, List.append_nil, Int.toNat_zero, Nat.sub_self, Int.reduceToNat, resRow, net_one, rlEnv, rlOwn, numCs, rlCs, rlBox]) (by rintro _ ⟨x, rfl, _⟩; exact ok_plain rfl) ?_
    rintro r ⟨x, rfl, hi0, hi1⟩
    obtain ⟨i, rfl⟩ := Int.eq_ofNat_of_zero_le hi0
    have hi : i < ns.length := by omega
    simp -implicitDefEqProofs only [evr, id, reduceCtorEq, reduceIte, Nat.reduceMul, Nat.reduceAdd, Nat.reduceLT, Nat.reduceLeDiff, Nat.reduceEqDiff, Int.reduceLT, Int.reduceBEq, Int.reduceBNe, Nat.reduceBEq, ptr, res_one, List.append_nil, Int.toNat_zero, Nat.sub_self, Int.reduceToNat, resRow, net_one, rlEnv, rlOwn, numCs, rlCs, rlBox]
    (refine hk _ ?_; clear hk k; try show Sat _ _ _ _ _)
    (repeat refine Sat.seq ?_)
    (refine Sat.region_k fun k hk => ?_; simp -implicitDefEqProofs only [evr, id, reduceCtorEq, reduceIte, Nat.reduceMul, Nat.reduceAdd, Nat.reduceLT, Nat.reduceLeDiff, Nat.reduceEqDiff, Int.reduceLT, Int.reduceBEq, Int.reduceBNe, Nat.reduceBEq, ptr, res_one, List.append_nil, Int.toNat_zero, Nat.sub_self, Int.reduceToNat, resRow, net_one, rlEnv, rlOwn, numCs, rlCs, rlBox])
    refine wcall_plain (boolC cb 12 (by decide) (by decide)) rfl plain_bool ?_
    rintro r ⟨q2, rfl⟩
    simp -implicitDefEqProofs only [evr, id, reduceCtorEq, reduceIte, Nat.reduceMul, Nat.reduceAdd, Nat.reduceLT, Nat.reduceLeDiff, Nat.reduceEqDiff, Int.reduceLT, Int.reduceBEq, Int.reduceBNe, Nat.reduceBEq, ptr, res_one, List.append_nil, Int.toNat_zero, Nat.sub_self, Int.reduceToNat, resRow, net_one, rlEnv, rlOwn, numCs, rlCs, rlBox]
    (refine hk _ ?_; clear hk k; try show Sat _ _ _ _ _)
    (repeat refine Sat.seq ?_)
    refine Sat.atF (ι := List Net) (fun z => ⟨175, (13, .i .i64 i) :: rlEnv cb most k1 at1 id2 bn ra rc xs.length na nc ns.length, rlOwn bn na nc z ra rc xs n0 n1 []⟩) (fun z => z.length = ns.length ∧ ∀ n ∈ z, NetOk n) ?_ ?_
    · refine Sat.cond_b rfl (fun h => ?_) (fun h => ?_)
      · (refine Sat.region_k fun k hk => ?_; simp -implicitDefEqProofs only [evr, id, reduceCtorEq, reduceIte, Nat.reduceMul, Nat.reduceAdd, Nat.reduceLT, Nat.reduceLeDiff, Nat.reduceEqDiff, Int.reduceLT, Int.reduceBEq, Int.reduceBNe, Nat.reduceBEq, ptr, res_one, List.append_nil, Int.toNat_zero, Nat.sub_self, Int.reduceToNat, resRow, net_one, rlEnv, rlOwn, numCs, rlCs, rlBox])
        refine wcall_slice (sceneC cb) rfl rfl ?_
        rintro r ⟨n2, g, hn2, rfl, hg⟩
        have g3 : g 3 = .sl n2.a n2.l.length n2.cap 1 (psRd n2.l) := hg 3 (by omega)
        simp -implicitDefEqProofs only [evr, id, reduceCtorEq, reduceIte, Nat.reduceMul, Nat.reduceAdd, Nat.reduceLT, Nat.reduceLeDiff, Nat.reduceEqDiff, Int.reduceLT, Int.reduceBEq, Int.reduceBNe, Nat.reduceBEq, ptr, res_one, List.append_nil, Int.toNat_zero, Nat.sub_self, Int.reduceToNat, resRow, net_one, rlEnv, rlOwn, numCs, rlCs, rlBox, g3]
        refine ⟨by omega, by omega, hk _ ?_⟩
        simp only [thenK]
        refine ⟨ns.set i ((ns.getD i default).with n2), ⟨by simp, fun n hn => ?_⟩, ?_⟩
        · rcases List.mem_or_eq_of_mem_set hn with h | h
          · exact hnok n h
          · subst h; exact (hnok _ (getD_mem hi)).with hn2
        · simp only [rlOwn, List.length_set]
          simp -implicitDefEqProofs only [evr, id, reduceCtorEq, reduceIte, Nat.reduceMul, Nat.reduceAdd, Nat.reduceLT, Nat.reduceLeDiff, Nat.reduceEqDiff, Int.reduceLT, Int.reduceBEq, Int.reduceBNe, Nat.reduceBEq, ptr, res_one, List.append_nil, Int.toNat_zero, Nat.sub_self, Int.reduceToNat, resRow, net_one, rlEnv, rlOwn, numCs, rlCs, rlBox, evl]
          exact net_set hi
      · refine Sat.skip ?_
        simp only [thenK]
        refine ⟨ns, ⟨rfl, hnok⟩, ?_⟩
        simp -implicitDefEqProofs only [evr, id, reduceCtorEq, reduceIte, Nat.reduceMul, Nat.reduceAdd, Nat.reduceLT, Nat.reduceLeDiff, Nat.reduceEqDiff, Int.reduceLT, Int.reduceBEq, Int.reduceBNe, Nat.reduceBEq, ptr, res_one, List.append_nil, Int.toNat_zero, Nat.sub_self, Int.reduceToNat, resRow, net_one, rlEnv, rlOwn, numCs, rlCs, rlBox, evl]
    intro zs
    rintro ⟨hzl, hzok⟩
    simp only [thenK, rlEnv, rlOwn, numCs]
    rw [← hzl] at hnl hi ⊢
    obtain ⟨n, hn⟩ : ∃ n, n = zs.getD i default := ⟨_, rfl⟩
    have hnk : NetOk n := by rw [hn]; exact hzok _ (getD_mem hi)
    have p0 : netRd zs i 0 = .i .i64 n.v := by rw [hn]; rfl
    have p1 : netRd zs i 1 = .i .u32 n.d := by rw [hn]; rfl
    have p2 : netRd zs i 2 = .i .i64 n.pr := by rw [hn]; rfl
    have p3 : netRd zs i 3 = .sl n.a n.l.length n.cap 1 (psRd n.l) := by rw [hn]; rfl
    have p4 : netRd zs i 4 = .i .u32 n.last := by rw [hn]; rfl
    have hnl1 := hnk.some
    (repeat refine Sat.seq ?_)
    (refine Sat.region_k fun k hk => ?_; simp -implicitDefEqProofs only [evr, id, reduceCtorEq, reduceIte, Nat.reduceMul, Nat.reduceAdd, Nat.reduceLT, Nat.reduceLeDiff, Nat.reduceEqDiff, Int.reduceLT, Int.reduceBEq, Int.reduceBNe, Nat.reduceBEq, ptr, res_one, List.append_nil, Int.toNat_zero, Nat.sub_self, Int.reduceToNat, resRow, net_one, rlEnv, rlOwn, numCs, rlCs, rlBox])
    simp only [p0, p1, p2, p3, p4, evr, id, reduceCtorEq, reduceIte, Nat.reduceMul, Nat.reduceAdd, Nat.reduceLT, Nat.reduceLeDiff, Nat.reduceEqDiff, Int.reduceLT, Int.reduceBEq, Int.reduceBNe, Nat.reduceBEq, ptr, res_one, List.append_nil, Int.toNat_zero, Nat.sub_self, Int.reduceToNat, resRow, net_one, rlEnv, rlOwn, numCs, rlCs, rlBox]
    refine ⟨by omega, by omega, ?_⟩
    intro b14
    (refine hk _ ?_; clear hk k; try show Sat _ _ _ _ _)
    (repeat refine Sat.seq ?_)
    (refine Sat.region_k fun k hk => ?_; simp -implicitDefEqProofs only [evr, id, reduceCtorEq, reduceIte, Nat.reduceMul, Nat.reduceAdd, Nat.reduceLT, Nat.reduceLeDiff, Nat.reduceEqDiff, Int.reduceLT, Int.reduceBEq, Int.reduceBNe, Nat.reduceBEq, ptr, res_one, List.append_nil, Int.toNat_zero, Nat.sub_self, Int.reduceToNat, resRow, net_one, rlEnv, rlOwn, numCs, rlCs, rlBox])
    refine wcall_plain (nextC cb n.l.length (by omega) (by omega)) (by simp -implicitDefEqProofs only [evr, id, reduceCtorEq, reduceIte, Nat.reduceMul, Nat.reduceAdd, Nat.reduceLT, Nat.reduceLeDiff, Nat.reduceEqDiff, Int.reduceLT, Int.reduceBEq, Int.reduceBNe, Nat.reduceBEq, ptr, res_one, List.append_nil, Int.toNat_zero, Nat.sub_self, Int.reduceToNat, resRow, net_one, rlEnv, rlOwn, numCs, rlCs, rlBox]) (by rintro _ ⟨x, rfl, _⟩; exact ok_plain rfl) ?_
    rintro r ⟨x, rfl, hf0, hf1⟩
    obtain ⟨fl, rfl⟩ := Int.eq_ofNat_of_zero_le hf0
    have hfl : fl < n.l.length := by omega
    simp -implicitDefEqProofs only [evr, id, reduceCtorEq, reduceIte, Nat.reduceMul, Nat.reduceAdd, Nat.reduceLT, Nat.reduceLeDiff, Nat.reduceEqDiff, Int.reduceLT, Int.reduceBEq, Int.reduceBNe, Nat.reduceBEq, ptr, res_one, List.append_nil, Int.toNat_zero, Nat.sub_self, Int.reduceToNat, resRow, net_one, rlEnv, rlOwn, numCs, rlCs, rlBox]
    (refine hk _ ?_; clear hk k; try show Sat _ _ _ _ _)
    obtain ⟨pq, hpq⟩ : ∃ pq, pq = n.l.getD fl default := ⟨_, rfl⟩
    have hps : psRd n.l fl 0 = .sl pq.a pq.p.length pq.cap 1 (adRd pq.p) := by rw [hpq]; rfl
    have hpok := hnk.ps pq (by rw [hpq]; exact getD_mem hfl)
    (repeat refine Sat.seq ?_)
    (refine Sat.region_k fun k hk => ?_; simp -implicitDefEqProofs only [evr, id, reduceCtorEq, reduceIte, Nat.reduceMul, Nat.reduceAdd, Nat.reduceLT, Nat.reduceLeDiff, Nat.reduceEqDiff, Int.reduceLT, Int.reduceBEq, Int.reduceBNe, Nat.reduceBEq, ptr, res_one, List.append_nil, Int.toNat_zero, Nat.sub_self, Int.reduceToNat, resRow, net_one, rlEnv, rlOwn, numCs, rlCs, rlBox])
    simp only [hps, evr, id, reduceCtorEq, reduceIte, Nat.reduceMul, Nat.reduceAdd, Nat.reduceLT, Nat.reduceLeDiff, Nat.reduceEqDiff, Int.reduceLT, Int.reduceBEq, Int.reduceBNe, Nat.reduceBEq, ptr, res_one, List.append_nil, Int.toNat_zero, Nat.sub_self, Int.reduceToNat, resRow, net_one, rlEnv, rlOwn, numCs, rlCs, rlBox]
    refine ⟨by omega, ?_⟩
    (refine hk _ ?_; clear hk k; try show Sat _ _ _ _ _)
    (repeat refine Sat.seq ?_)
    (refine Sat.region_k fun k hk => ?_; simp -implicitDefEqProofs only [evr, id, reduceCtorEq, reduceIte, Nat.reduceMul, Nat.reduceAdd, Nat.reduceLT, Nat.reduceLeDiff, Nat.reduceEqDiff, Int.reduceLT, Int.reduceBEq, Int.reduceBNe, Nat.reduceBEq, ptr, res_one, List.append_nil, Int.toNat_zero, Nat.sub_self, Int.reduceToNat, resRow, net_one, rlEnv, rlOwn, numCs, rlCs, rlBox])
    refine wcall_plain (nextC cb 40 (by omega) (by omega)) rfl (by rintro _ ⟨x, rfl, _⟩; exact ok_plain rfl) ?_
    rintro r ⟨x40, rfl, _, _⟩
    simp -implicitDefEqProofs only [evr, id, reduceCtorEq, reduceIte, Nat.reduceMul, Nat.reduceAdd, Nat.reduceLT, Nat.reduceLeDiff, Nat.reduceEqDiff, Int.reduceLT, Int.reduceBEq, Int.reduceBNe, Nat.reduceBEq, ptr, res_one, List.append_nil, Int.toNat_zero, Nat.sub_self, Int.reduceToNat, resRow, net_one, rlEnv, rlOwn, numCs, rlCs, rlBox]
    generalize IntKind.i64.wrap (at1 + IntKind.i64.wrap (1 + x40)) = at2
    (refine hk _ ?_; clear hk k; try show Sat _ _ _ _ _)
    (repeat refine Sat.seq ?_)
    refine Sat.atF (ι := Int × Int × Nat) (fun z => ⟨175, (17, .op 4 z.2.2 0) :: (16, .sl pq.a pq.p.length pq.cap 1 (adRd pq.p)) :: (15, .i .i64 fl) :: (14, .op 3 b14 0) :: rlEnv cb most k1 at2 id2 bn ra rc xs.length na nc zs.length, rlOwn bn na nc zs ra rc xs n0 n1 (rlBox b14 z.2.2 n (rlCs n.v z.1 at2 n.d n.pr fl z.2.1 (.b false) (.b false) 0 0 0 0 0 0))⟩)
      (fun z => (1 ≤ z.2.1 ∧ z.2.1 ≤ pq.p.length + 1) ∧ ((n.v = 0 ∧ z.1 = n0) ∨ (n.v = 1 ∧ z.1 = n1))) ?_ ?_
    · have e5 : IntKind.i64.wrap ((pq.p.length : Int) + 1) = (pq.p.length : Int) + 1 := w64 (by omega)
      rcases (show n.v = 0 ∨ n.v = 1 by have := hnk.v; omega) with hv | hv
      · simp only [hv]
        (refine Sat.region_tree (.keep [0, 1, 3, 4, 8, 9, 10, 12, 13, 15, 16, 17, 18, 19, 2, 5, 11, 14, 6, 7] [20, 21, 22, 23] (.alt 20 (.free 21 (.free 22 (.one 23 (.one 24 .done)))) (.alt 23 (.one 20 (.one 21 (.one 22 (.one 24 .done)))) .none))) (by kernel_rfl) (by kernel_rfl) (fun _ _ h => h) fun k hk => ?_; simp only [WOT, List.map_cons, List.map_nil, List.getD_cons_zero, List.getD_cons_succ]; simp -implicitDefEqProofs only [evr, id, reduceCtorEq, reduceIte, Nat.reduceMul, Nat.reduceAdd, Nat.reduceLT, Nat.reduceLeDiff, Nat.reduceEqDiff, Int.reduceLT, Int.reduceBEq, Int.reduceBNe, Nat.reduceBEq, ptr, res_one, List.append_nil, Int.toNat_zero, Nat.sub_self, Int.reduceToNat, resRow, net_one, rlEnv, rlOwn, numCs, rlCs, rlBox, WOT])
        simp -implicitDefEqProofs only [evr, id, reduceCtorEq, reduceIte, Nat.reduceMul, Nat.reduceAdd, Nat.reduceLT, Nat.reduceLeDiff, Nat.reduceEqDiff, Int.reduceLT, Int.reduceBEq, Int.reduceBNe, Nat.reduceBEq, ptr, res_one, List.append_nil, Int.toNat_zero, Nat.sub_self, Int.reduceToNat, resRow, net_one, rlEnv, rlOwn, numCs, rlCs, rlBox, e5]
        refine ⟨by omega, ?_, ?_⟩
        · skip
          refine wcall_plain (nextC cb ((pq.p.length : Int) + 1) (by omega) (by omega)) rfl (by rintro _ ⟨x, rfl, _⟩; exact ok_plain rfl) ?_
          rintro r ⟨x3, rfl, g0, g1⟩
          have e6 : IntKind.i64.wrap (1 + x3) = 1 + x3 := w64 (by omega)
          simp -implicitDefEqProofs only [evr, id, reduceCtorEq, reduceIte, Nat.reduceMul, Nat.reduceAdd, Nat.reduceLT, Nat.reduceLeDiff, Nat.reduceEqDiff, Int.reduceLT, Int.reduceBEq, Int.reduceBNe, Nat.reduceBEq, ptr, res_one, List.append_nil, Int.toNat_zero, Nat.sub_self, Int.reduceToNat, resRow, net_one, rlEnv, rlOwn, numCs, rlCs, rlBox, e6]
          intro b17
          refine hk _ ?_
          simp only [thenK]
          refine ⟨(n0, 1 + x3, b17), ⟨⟨by simp only; omega, by simp only; omega⟩, .inl ⟨trivial, rfl⟩⟩, ?_⟩
          simp -implicitDefEqProofs only [evr, id, reduceCtorEq, reduceIte, Nat.reduceMul, Nat.reduceAdd, Nat.reduceLT, Nat.reduceLeDiff, Nat.reduceEqDiff, Int.reduceLT, Int.reduceBEq, Int.reduceBNe, Nat.reduceBEq, ptr, res_one, List.append_nil, Int.toNat_zero, Nat.sub_self, Int.reduceToNat, resRow, net_one, rlEnv, rlOwn, numCs, rlCs, rlBox, evl]
          rw [hv]
        · intro b17
          refine wcall_plain (nextC cb ((pq.p.length : Int) + 1) (by omega) (by omega)) rfl (by rintro _ ⟨x, rfl, _⟩; exact ok_plain rfl) ?_
          rintro r ⟨x3, rfl, g0, g1⟩
          have e6 : IntKind.i64.wrap (1 + x3) = 1 + x3 := w64 (by omega)
          simp -implicitDefEqProofs only [evr, id, reduceCtorEq, reduceIte, Nat.reduceMul, Nat.reduceAdd, Nat.reduceLT, Nat.reduceLeDiff, Nat.reduceEqDiff, Int.reduceLT, Int.reduceBEq, Int.reduceBNe, Nat.reduceBEq, ptr, res_one, List.append_nil, Int.toNat_zero, Nat.sub_self, Int.reduceToNat, resRow, net_one, rlEnv, rlOwn, numCs, rlCs, rlBox, e6]
          refine hk _ ?_
          simp only [thenK]
          refine ⟨(n0, 1 + x3, b17), ⟨⟨by simp only; omega, by simp only; omega⟩, .inl ⟨trivial, rfl⟩⟩, ?_⟩
          simp -implicitDefEqProofs only [evr, id, reduceCtorEq, reduceIte, Nat.reduceMul, Nat.reduceAdd, Nat.reduceLT, Nat.reduceLeDiff, Nat.reduceEqDiff, Int.reduceLT, Int.reduceBEq, Int.reduceBNe, Nat.reduceBEq, ptr, res_one, List.append_nil, Int.toNat_zero, Nat.sub_self, Int.reduceToNat, resRow, net_one, rlEnv, rlOwn, numCs, rlCs, rlBox, evl]
          rw [hv]
      · simp only [hv]
        (refine Sat.region_tree (.keep [0, 1, 3, 4, 8, 9, 10, 12, 13, 15, 16, 17, 18, 19, 2, 5, 11, 14, 6, 7] [20, 21, 22, 23] (.alt 20 (.free 21 (.free 22 (.one 23 (.one 24 .done)))) (.alt 23 (.one 20 (.one 21 (.one 22 (.one 24 .done)))) .none))) (by kernel_rfl) (by kernel_rfl) (fun _ _ h => h) fun k hk => ?_; simp only [WOT, List.map_cons, List.map_nil, List.getD_cons_zero, List.getD_cons_succ]; simp -implicitDefEqProofs only [evr, id, reduceCtorEq, reduceIte, Nat.reduceMul, Nat.reduceAdd, Nat.reduceLT, Nat.reduceLeDiff, Nat.reduceEqDiff, Int.reduceLT, Int.reduceBEq, Int.reduceBNe, Nat.reduceBEq, ptr, res_one, List.append_nil, Int.toNat_zero, Nat.sub_self, Int.reduceToNat, resRow, net_one, rlEnv, rlOwn, numCs, rlCs, rlBox, WOT])
        simp -implicitDefEqProofs only [evr, id, reduceCtorEq, reduceIte, Nat.reduceMul, Nat.reduceAdd, Nat.reduceLT, Nat.reduceLeDiff, Nat.reduceEqDiff, Int.reduceLT, Int.reduceBEq, Int.reduceBNe, Nat.reduceBEq, ptr, res_one, List.append_nil, Int.toNat_zero, Nat.sub_self, Int.reduceToNat, resRow, net_one, rlEnv, rlOwn, numCs, rlCs, rlBox, e5]
        refine ⟨by omega, ?_, ?_⟩
        · skip
          refine wcall_plain (nextC cb ((pq.p.length : Int) + 1) (by omega) (by omega)) rfl (by rintro _ ⟨x, rfl, _⟩; exact ok_plain rfl) ?_
          rintro r ⟨x3, rfl, g0, g1⟩
          have e6 : IntKind.i64.wrap (1 + x3) = 1 + x3 := w64 (by omega)
          simp -implicitDefEqProofs only [evr, id, reduceCtorEq, reduceIte, Nat.reduceMul, Nat.reduceAdd, Nat.reduceLT, Nat.reduceLeDiff, Nat.reduceEqDiff, Int.reduceLT, Int.reduceBEq, Int.reduceBNe, Nat.reduceBEq, ptr, res_one, List.append_nil, Int.toNat_zero, Nat.sub_self, Int.reduceToNat, resRow, net_one, rlEnv, rlOwn, numCs, rlCs, rlBox, e6]
          intro b17
          refine hk _ ?_
          simp only [thenK]
          refine ⟨(n1, 1 + x3, b17), ⟨⟨by simp only; omega, by simp only; omega⟩, .inr ⟨trivial, rfl⟩⟩, ?_⟩
          simp -implicitDefEqProofs only [evr, id, reduceCtorEq, reduceIte, Nat.reduceMul, Nat.reduceAdd, Nat.reduceLT, Nat.reduceLeDiff, Nat.reduceEqDiff, Int.reduceLT, Int.reduceBEq, Int.reduceBNe, Nat.reduceBEq, ptr, res_one, List.append_nil, Int.toNat_zero, Nat.sub_self, Int.reduceToNat, resRow, net_one, rlEnv, rlOwn, numCs, rlCs, rlBox, evl]
          rw [hv]
        · intro b17
          refine wcall_plain (nextC cb ((pq.p.length : Int) + 1) (by omega) (by omega)) rfl (by rintro _ ⟨x, rfl, _⟩; exact ok_plain rfl) ?_
          rintro r ⟨x3, rfl, g0, g1⟩
          have e6 : IntKind.i64.wrap (1 + x3) = 1 + x3 := w64 (by omega)
          simp -implicitDefEqProofs only [evr, id, reduceCtorEq, reduceIte, Nat.reduceMul, Nat.reduceAdd, Nat.reduceLT, Nat.reduceLeDiff, Nat.reduceEqDiff, Int.reduceLT, Int.reduceBEq, Int.reduceBNe, Nat.reduceBEq, ptr, res_one, List.append_nil, Int.toNat_zero, Nat.sub_self, Int.reduceToNat, resRow, net_one, rlEnv, rlOwn, numCs, rlCs, rlBox, e6]
          refine hk _ ?_
          simp only [thenK]
          refine ⟨(n1, 1 + x3, b17), ⟨⟨by simp only; omega, by simp only; omega⟩, .inr ⟨trivial, rfl⟩⟩, ?_⟩
          simp -implicitDefEqProofs only [evr, id, reduceCtorEq, reduceIte, Nat.reduceMul, Nat.reduceAdd, Nat.reduceLT, Nat.reduceLeDiff, Nat.reduceEqDiff, Int.reduceLT, Int.reduceBEq, Int.reduceBNe, Nat.reduceBEq, ptr, res_one, List.append_nil, Int.toNat_zero, Nat.sub_self, Int.reduceToNat, resRow, net_one, rlEnv, rlOwn, numCs, rlCs, rlBox, evl]
          rw [hv]
    rintro ⟨num, ttl, b17⟩ ⟨httl, hnum⟩
    simp only [thenK, rlEnv, rlOwn, numCs, rlCs, rlBox] at httl hnum ⊢
    (repeat refine Sat.seq ?_)
    refine Sat.atF (ι := Nat × Nat) (fun z => ⟨175, (17, .op 4 b17 0) :: (16, .sl pq.a pq.p.length pq.cap 1 (adRd pq.p)) :: (15, .i .i64 fl) :: (14, .op 3 b14 0) :: rlEnv cb most k1 at2 id2 bn ra rc xs.length na nc zs.length, rlOwn bn na nc zs ra rc xs z.1 z.2 (rlBox b14 b17 n (rlCs n.v num at2 n.d n.pr fl ttl (.b false) (.b false) 0 0 0 0 0 0))⟩)
      (fun z => (n.v = 0 ∧ num = n0 ∧ z.1 = n0 + 1 ∧ z.2 = n1) ∨ (n.v = 1 ∧ num = n1 ∧ z.1 = n0 ∧ z.2 = n1 + 1)) ?_ ?_
    · have e7 : IntKind.i64.wrap ((n0 : Int) + 1) = ((n0 + 1 : Nat) : Int) := by rw [w64 (by omega)]; omega
      have e8 : IntKind.i64.wrap ((n1 : Int) + 1) = ((n1 + 1 : Nat) : Int) := by rw [w64 (by omega)]; omega
      rcases hnum with ⟨hv, hnm⟩ | ⟨hv, hnm⟩
      · simp only [hv]
        (refine Sat.region_k fun k hk => ?_; simp -implicitDefEqProofs only [evr, id, reduceCtorEq, reduceIte, Nat.reduceMul, Nat.reduceAdd, Nat.reduceLT, Nat.reduceLeDiff, Nat.reduceEqDiff, Int.reduceLT, Int.reduceBEq, Int.reduceBNe, Nat.reduceBEq, ptr, res_one, List.append_nil, Int.toNat_zero, Nat.sub_self, Int.reduceToNat, resRow, net_one, rlEnv, rlOwn, numCs, rlCs, rlBox])
        simp only [e7]
        refine ⟨by omega, by omega, hk _ ?_⟩
        simp only [thenK]
        refine ⟨(n0 + 1, n1), .inl ⟨trivial, hnm, rfl, rfl⟩, ?_⟩
        simp -implicitDefEqProofs only [evr, id, reduceCtorEq, reduceIte, Nat.reduceMul, Nat.reduceAdd, Nat.reduceLT, Nat.reduceLeDiff, Nat.reduceEqDiff, Int.reduceLT, Int.reduceBEq, Int.reduceBNe, Nat.reduceBEq, ptr, res_one, List.append_nil, Int.toNat_zero, Nat.sub_self, Int.reduceToNat, resRow, net_one, rlEnv, rlOwn, numCs, rlCs, rlBox, evl]
        simp only [hv]
      · simp only [hv]
        (refine Sat.region_k fun k hk => ?_; simp -implicitDefEqProofs only [evr, id, reduceCtorEq, reduceIte, Nat.reduceMul, Nat.reduceAdd, Nat.reduceLT, Nat.reduceLeDiff, Nat.reduceEqDiff, Int.reduceLT, Int.reduceBEq, Int.reduceBNe, Nat.reduceBEq, ptr, res_one, List.append_nil, Int.toNat_zero, Nat.sub_self, Int.reduceToNat, resRow, net_one, rlEnv, rlOwn, numCs, rlCs, rlBox])
        simp only [e8]
        refine ⟨by omega, by omega, hk _ ?_⟩
        simp only [thenK]
        refine ⟨(n0, n1 + 1), .inr ⟨trivial, hnm, rfl, rfl⟩, ?_⟩
        simp -implicitDefEqProofs only [evr, id, reduceCtorEq, reduceIte, Nat.reduceMul, Nat.reduceAdd, Nat.reduceLT, Nat.reduceLeDiff, Nat.reduceEqDiff, Int.reduceLT, Int.reduceBEq, Int.reduceBNe, Nat.reduceBEq, ptr, res_one, List.append_nil, Int.toNat_zero, Nat.sub_self, Int.reduceToNat, resRow, net_one, rlEnv, rlOwn, numCs, rlCs, rlBox, evl]
        simp only [hv]
    rintro ⟨m0, m1⟩ hnew
    simp only [thenK, rlEnv, rlOwn, numCs, rlCs, rlBox] at hnew ⊢
    (repeat refine Sat.seq ?_)
    refine Sat.atF (ι := Int) (fun z => ⟨175, (17, .op 4 b17 0) :: (16, .sl pq.a pq.p.length pq.cap 1 (adRd pq.p)) :: (15, .i .i64 fl) :: (14, .op 3 b14 0) :: rlEnv cb most k1 at2 id2 bn ra rc xs.length na nc zs.length, rlOwn bn na nc zs ra rc xs m0 m1 (rlBox b14 b17 n (rlCs n.v num at2 n.d n.pr fl ttl (.b false) (.b false) z 0 0 0 0 0))⟩) (fun _ => True) ?_ ?_
    · (refine Sat.region_tree (.keep [0, 2, 6, 1, 3, 4, 5] [7] (.one 7 (.one 8 (.one 9 (.one 10 .done))))) (by kernel_rfl) (by kernel_rfl) (fun _ _ h => h) fun k hk => ?_; simp only [WOT, List.map_cons, List.map_nil, List.getD_cons_zero, List.getD_cons_succ]; simp -implicitDefEqProofs only [evr, id, reduceCtorEq, reduceIte, Nat.reduceMul, Nat.reduceAdd, Nat.reduceLT, Nat.reduceLeDiff, Nat.reduceEqDiff, Int.reduceLT, Int.reduceBEq, Int.reduceBNe, Nat.reduceBEq, ptr, res_one, List.append_nil, Int.toNat_zero, Nat.sub_self, Int.reduceToNat, resRow, net_one, rlEnv, rlOwn, numCs, rlCs, rlBox, WOT])
      refine wcall_plain (nextC cb 4 (by omega) (by omega)) rfl (by rintro _ ⟨x, rfl, _⟩; exact ok_plain rfl) ?_
      rintro r ⟨x4, rfl, _, _⟩
      simp -implicitDefEqProofs only [evr, id, reduceCtorEq, reduceIte, Nat.reduceMul, Nat.reduceAdd, Nat.reduceLT, Nat.reduceLeDiff, Nat.reduceEqDiff, Int.reduceLT, Int.reduceBEq, Int.reduceBNe, Nat.reduceBEq, ptr, res_one, List.append_nil, Int.toNat_zero, Nat.sub_self, Int.reduceToNat, resRow, net_one, rlEnv, rlOwn, numCs, rlCs, rlBox]
      refine hk _ ?_
      simp only [thenK]
      refine ⟨IntKind.i64.wrap (IntKind.i64.wrap (at2 + IntKind.i64.wrap (5 * ttl)) + x4), trivial, ?_⟩
      simp -implicitDefEqProofs only [evr, id, reduceCtorEq, reduceIte, Nat.reduceMul, Nat.reduceAdd, Nat.reduceLT, Nat.reduceLeDiff, Nat.reduceEqDiff, Int.reduceLT, Int.reduceBEq, Int.reduceBNe, Nat.reduceBEq, ptr, res_one, List.append_nil, Int.toNat_zero, Nat.sub_self, Int.reduceToNat, resRow, net_one, rlEnv, rlOwn, numCs, rlCs, rlBox, evl]
    intro back _
    simp only [thenK, rlEnv, rlOwn, numCs, rlCs, rlBox]
    (repeat refine Sat.seq ?_)
    (refine Sat.region_k fun k hk => ?_; simp -implicitDefEqProofs only [evr, id, reduceCtorEq, reduceIte, Nat.reduceMul, Nat.reduceAdd, Nat.reduceLT, Nat.reduceLeDiff, Nat.reduceEqDiff, Int.reduceLT, Int.reduceBEq, Int.reduceBNe, Nat.reduceBEq, ptr, res_one, List.append_nil, Int.toNat_zero, Nat.sub_self, Int.reduceToNat, resRow, net_one, rlEnv, rlOwn, numCs, rlCs, rlBox])
    refine wcall_plain (nextC cb 5 (by omega) (by omega)) rfl (by rintro _ ⟨x, rfl, _⟩; exact ok_plain rfl) ?_
    rintro r ⟨x5, rfl, _, _⟩
    simp -implicitDefEqProofs only [evr, id, reduceCtorEq, reduceIte, Nat.reduceMul, Nat.reduceAdd, Nat.reduceLT, Nat.reduceLeDiff, Nat.reduceEqDiff, Int.reduceLT, Int.reduceBEq, Int.reduceBNe, Nat.reduceBEq, ptr, res_one, List.append_nil, Int.toNat_zero, Nat.sub_self, Int.reduceToNat, resRow, net_one, rlEnv, rlOwn, numCs, rlCs, rlBox]
    generalize IntKind.i64.wrap (id2 + IntKind.i64.wrap (1 + x5)) = id3
    (refine hk _ ?_; clear hk k; try show Sat _ _ _ _ _)
    (repeat refine Sat.seq ?_)
    (refine Sat.region_k fun k hk => ?_; simp -implicitDefEqProofs only [evr, id, reduceCtorEq, reduceIte, Nat.reduceMul, Nat.reduceAdd, Nat.reduceLT, Nat.reduceLeDiff, Nat.reduceEqDiff, Int.reduceLT, Int.reduceBEq, Int.reduceBNe, Nat.reduceBEq, ptr, res_one, List.append_nil, Int.toNat_zero, Nat.sub_self, Int.reduceToNat, resRow, net_one, rlEnv, rlOwn, numCs, rlCs, rlBox]; refine hk _ ?_; clear hk k; try show Sat _ _ _ _ _)
    (repeat refine Sat.seq ?_)
    (refine Sat.region_k fun k hk => ?_; simp -implicitDefEqProofs only [evr, id, reduceCtorEq, reduceIte, Nat.reduceMul, Nat.reduceAdd, Nat.reduceLT, Nat.reduceLeDiff, Nat.reduceEqDiff, Int.reduceLT, Int.reduceBEq, Int.reduceBNe, Nat.reduceBEq, ptr, res_one, List.append_nil, Int.toNat_zero, Nat.sub_self, Int.reduceToNat, resRow, net_one, rlEnv, rlOwn, numCs, rlCs, rlBox]; refine hk _ ?_; clear hk k; try show Sat _ _ _ _ _)
    (repeat refine Sat.seq ?_)
    refine Sat.atF (ι := Int) (fun z => ⟨175, (18, .i .u32 z) :: (17, .op 4 b17 0) :: (16, .sl pq.a pq.p.length pq.cap 1 (adRd pq.p)) :: (15, .i .i64 fl) :: (14, .op 3 b14 0) :: rlEnv cb most k1 at2 id3 bn ra rc xs.length na nc zs.length, rlOwn bn na nc zs ra rc xs m0 m1 (rlBox b14 b17 n (rlCs n.v num at2 n.d n.pr fl ttl (.b false) (.b false) back 0 0 0 0 0))⟩) InA ?_ ?_
    · refine Sat.cond_b rfl (fun h => ?_) (fun h => ?_)
      · have h3 : ttl ≤ pq.p.length := by simpa using h
        have e9 : IntKind.i64.wrap (ttl - 1) = ttl - 1 := w64 (by omega)
        (refine Sat.region_k fun k hk => ?_; simp -implicitDefEqProofs only [evr, id, reduceCtorEq, reduceIte, Nat.reduceMul, Nat.reduceAdd, Nat.reduceLT, Nat.reduceLeDiff, Nat.reduceEqDiff, Int.reduceLT, Int.reduceBEq, Int.reduceBNe, Nat.reduceBEq, ptr, res_one, List.append_nil, Int.toNat_zero, Nat.sub_self, Int.reduceToNat, resRow, net_one, rlEnv, rlOwn, numCs, rlCs, rlBox])
        simp only [e9]
        refine ⟨by omega, hk _ ?_⟩
        simp only [thenK]
        refine ⟨pq.p.getD (ttl - 1).toNat 0, hpok.2 _ (getD_mem (by omega)), ?_⟩
        simp -implicitDefEqProofs only [evr, id, reduceCtorEq, reduceIte, Nat.reduceMul, Nat.reduceAdd, Nat.reduceLT, Nat.reduceLeDiff, Nat.reduceEqDiff, Int.reduceLT, Int.reduceBEq, Int.reduceBNe, Nat.reduceBEq, ptr, res_one, List.append_nil, Int.toNat_zero, Nat.sub_self, Int.reduceToNat, resRow, net_one, rlEnv, rlOwn, numCs, rlCs, rlBox, evl]
        rfl
      · refine Sat.skip ?_
        simp only [thenK]
        refine ⟨n.last, hnk.last, ?_⟩
        simp -implicitDefEqProofs only [evr, id, reduceCtorEq, reduceIte, Nat.reduceMul, Nat.reduceAdd, Nat.reduceLT, Nat.reduceLeDiff, Nat.reduceEqDiff, Int.reduceLT, Int.reduceBEq, Int.reduceBNe, Nat.reduceBEq, ptr, res_one, List.append_nil, Int.toNat_zero, Nat.sub_self, Int.reduceToNat, resRow, net_one, rlEnv, rlOwn, numCs, rlCs, rlBox, evl]
    intro fr hfr
    simp only [thenK, rlEnv, rlOwn, numCs, rlCs, rlBox]
    (repeat refine Sat.seq ?_)
    refine Sat.atF (ι := Bool) (fun z => ⟨175, (142, .b z) :: (18, .i .u32 fr) :: (17, .op 4 b17 0) :: (16, .sl pq.a pq.p.length pq.cap 1 (adRd pq.p)) :: (15, .i .i64 fl) :: (14, .op 3 b14 0) :: rlEnv cb most k1 at2 id3 bn ra rc xs.length na nc zs.length, rlOwn bn na nc zs ra rc xs m0 m1 (rlBox b14 b17 n (rlCs n.v num at2 n.d n.pr fl ttl (.b false) (.b false) back 0 0 0 0 0))⟩) (fun _ => True) ?_ ?_
    · (refine Sat.region_k fun k hk => ?_; simp -implicitDefEqProofs only [evr, id, reduceCtorEq, reduceIte, Nat.reduceMul, Nat.reduceAdd, Nat.reduceLT, Nat.reduceLeDiff, Nat.reduceEqDiff, Int.reduceLT, Int.reduceBEq, Int.reduceBNe, Nat.reduceBEq, ptr, res_one, List.append_nil, Int.toNat_zero, Nat.sub_self, Int.reduceToNat, resRow, net_one, rlEnv, rlOwn, numCs, rlCs, rlBox])
      refine ⟨fun g1 => ?_, fun g1 => hk _ ?_⟩
      · refine wcall_plain (boolC cb 5 (by decide) (by decide)) rfl plain_bool ?_
        rintro r ⟨q5, rfl⟩
        simp -implicitDefEqProofs only [evr, id, reduceCtorEq, reduceIte, Nat.reduceMul, Nat.reduceAdd, Nat.reduceLT, Nat.reduceLeDiff, Nat.reduceEqDiff, Int.reduceLT, Int.reduceBEq, Int.reduceBNe, Nat.reduceBEq, ptr, res_one, List.append_nil, Int.toNat_zero, Nat.sub_self, Int.reduceToNat, resRow, net_one, rlEnv, rlOwn, numCs, rlCs, rlBox]
        refine hk _ ?_
        simp only [thenK]
        refine ⟨!q5, trivial, ?_⟩
        simp -implicitDefEqProofs only [evr, id, reduceCtorEq, reduceIte, Nat.reduceMul, Nat.reduceAdd, Nat.reduceLT, Nat.reduceLeDiff, Nat.reduceEqDiff, Int.reduceLT, Int.reduceBEq, Int.reduceBNe, Nat.reduceBEq, ptr, res_one, List.append_nil, Int.toNat_zero, Nat.sub_self, Int.reduceToNat, resRow, net_one, rlEnv, rlOwn, numCs, rlCs, rlBox, evl]
      · simp only [thenK]
        refine ⟨false, trivial, ?_⟩
        simp -implicitDefEqProofs only [evr, id, reduceCtorEq, reduceIte, Nat.reduceMul, Nat.reduceAdd, Nat.reduceLT, Nat.reduceLeDiff, Nat.reduceEqDiff, Int.reduceLT, Int.reduceBEq, Int.reduceBNe, Nat.reduceBEq, ptr, res_one, List.append_nil, Int.toNat_zero, Nat.sub_self, Int.reduceToNat, resRow, net_one, rlEnv, rlOwn, numCs, rlCs, rlBox, evl]
    intro ba _
    simp only [thenK, rlEnv, rlOwn, numCs, rlCs, rlBox]
    (repeat refine Sat.seq ?_)
    refine Sat.atF (ι := SV × SV × Int × Int × Int × Int × Int) (fun z => ⟨175, (17, .op 4 b17 0) :: (16, .sl pq.a pq.p.length pq.cap 1 (adRd pq.p)) :: (15, .i .i64 fl) :: (14, .op 3 b14 0) :: rlEnv cb most k1 at2 id3 bn ra rc xs.length na nc zs.length, rlOwn bn na nc zs ra rc xs m0 m1 (rlBox b14 b17 n (rlCs n.v num at2 n.d n.pr fl ttl (z.1) (z.2.1) back z.2.2.1 z.2.2.2.1 z.2.2.2.2.1 z.2.2.2.2.2.1 z.2.2.2.2.2.2))⟩) (fun z => (∃ b, sim z.1 (.b b)) ∧ (∃ b, sim z.2.1 (.b b)) ∧ oneS z.1 = true ∧ oneS z.2.1 = true ∧ InA z.2.2.1) ?_ ?_
    · refine Sat.cond_b rfl (fun h => ?_) (fun h => ?_)
      · (repeat refine Sat.seq ?_)
        (refine Sat.region_k fun k hk => ?_; simp -implicitDefEqProofs only [evr, id, reduceCtorEq, reduceIte, Nat.reduceMul, Nat.reduceAdd, Nat.reduceLT, Nat.reduceLeDiff, Nat.reduceEqDiff, Int.reduceLT, Int.reduceBEq, Int.reduceBNe, Nat.reduceBEq, ptr, res_one, List.append_nil, Int.toNat_zero, Nat.sub_self, Int.reduceToNat, resRow, net_one, rlEnv, rlOwn, numCs, rlCs, rlBox])
        refine wcall_plain (boolC cb 30 (by decide) (by decide)) rfl plain_bool ?_
        rintro r ⟨q30, rfl⟩
        simp -implicitDefEqProofs only [evr, id, reduceCtorEq, reduceIte, Nat.reduceMul, Nat.reduceAdd, Nat.reduceLT, Nat.reduceLeDiff, Nat.reduceEqDiff, Int.reduceLT, Int.reduceBEq, Int.reduceBNe, Nat.reduceBEq, ptr, res_one, List.append_nil, Int.toNat_zero, Nat.sub_self, Int.reduceToNat, resRow, net_one, rlEnv, rlOwn, numCs, rlCs, rlBox]
        (refine hk _ ?_; clear hk k; try show Sat _ _ _ _ _)
        (repeat refine Sat.seq ?_)
        (refine Sat.region_k fun k hk => ?_; simp -implicitDefEqProofs only [evr, id, reduceCtorEq, reduceIte, Nat.reduceMul, Nat.reduceAdd, Nat.reduceLT, Nat.reduceLeDiff, Nat.reduceEqDiff, Int.reduceLT, Int.reduceBEq, Int.reduceBNe, Nat.reduceBEq, ptr, res_one, List.append_nil, Int.toNat_zero, Nat.sub_self, Int.reduceToNat, resRow, net_one, rlEnv, rlOwn, numCs, rlCs, rlBox])
        generalize id3.tmod 65536 = id4
        refine ⟨by decide, ?_⟩
        (refine hk _ ?_; clear hk k; try show Sat _ _ _ _ _)
        (repeat refine Sat.seq ?_)
        (refine Sat.region_k fun k hk => ?_; simp -implicitDefEqProofs only [evr, id, reduceCtorEq, reduceIte, Nat.reduceMul, Nat.reduceAdd, Nat.reduceLT, Nat.reduceLeDiff, Nat.reduceEqDiff, Int.reduceLT, Int.reduceBEq, Int.reduceBNe, Nat.reduceBEq, ptr, res_one, List.append_nil, Int.toNat_zero, Nat.sub_self, Int.reduceToNat, resRow, net_one, rlEnv, rlOwn, numCs, rlCs, rlBox]; refine hk _ ?_; clear hk k; try show Sat _ _ _ _ _)
        (repeat refine Sat.seq ?_)
        refine Sat.atF (ι := Int) (fun z => ⟨175, (17, .op 4 b17 0) :: (16, .sl pq.a pq.p.length pq.cap 1 (adRd pq.p)) :: (15, .i .i64 fl) :: (14, .op 3 b14 0) :: rlEnv cb most k1 at2 id3 bn ra rc xs.length na nc zs.length, rlOwn bn na nc zs ra rc xs m0 m1 (rlBox b14 b17 n (rlCs n.v num at2 n.d n.pr fl ttl (.tt) (.b q30) back fr z 60 id4 1))⟩) (fun _ => True) ?_ ?_
        · refine Sat.cond_b rfl (fun h => ?_) (fun h => ?_)
          · (refine Sat.region_k fun k hk => ?_; simp -implicitDefEqProofs only [evr, id, reduceCtorEq, reduceIte, Nat.reduceMul, Nat.reduceAdd, Nat.reduceLT, Nat.reduceLeDiff, Nat.reduceEqDiff, Int.reduceLT, Int.reduceBEq, Int.reduceBNe, Nat.reduceBEq, ptr, res_one, List.append_nil, Int.toNat_zero, Nat.sub_self, Int.reduceToNat, resRow, net_one, rlEnv, rlOwn, numCs, rlCs, rlBox])
            intro bp
            refine wcall_plain (pickI cb bp [3, 3, 2] (fun _ => True) (by decide) (by decide) (by simp)) (by simp -implicitDefEqProofs only [evr, id, reduceCtorEq, reduceIte, Nat.reduceMul, Nat.reduceAdd, Nat.reduceLT, Nat.reduceLeDiff, Nat.reduceEqDiff, Int.reduceLT, Int.reduceBEq, Int.reduceBNe, Nat.reduceBEq, ptr, res_one, List.append_nil, Int.toNat_zero, Nat.sub_self, Int.reduceToNat, resRow, net_one, rlEnv, rlOwn, numCs, rlCs, rlBox]) plain_pick ?_
            rintro r ⟨x, rfl, _⟩
            simp -implicitDefEqProofs only [evr, id, reduceCtorEq, reduceIte, Nat.reduceMul, Nat.reduceAdd, Nat.reduceLT, Nat.reduceLeDiff, Nat.reduceEqDiff, Int.reduceLT, Int.reduceBEq, Int.reduceBNe, Nat.reduceBEq, ptr, res_one, List.append_nil, Int.toNat_zero, Nat.sub_self, Int.reduceToNat, resRow, net_one, rlEnv, rlOwn, numCs, rlCs, rlBox]
            refine hk _ ?_
            simp only [thenK]
            refine ⟨x, trivial, ?_⟩
            simp -implicitDefEqProofs only [evr, id, reduceCtorEq, reduceIte, Nat.reduceMul, Nat.reduceAdd, Nat.reduceLT, Nat.reduceLeDiff, Nat.reduceEqDiff, Int.reduceLT, Int.reduceBEq, Int.reduceBNe, Nat.reduceBEq, ptr, res_one, List.append_nil, Int.toNat_zero, Nat.sub_self, Int.reduceToNat, resRow, net_one, rlEnv, rlOwn, numCs, rlCs, rlBox, evl]
          · refine Sat.skip ?_
            simp only [thenK]
            refine ⟨1, trivial, ?_⟩
            simp -implicitDefEqProofs only [evr, id, reduceCtorEq, reduceIte, Nat.reduceMul, Nat.reduceAdd, Nat.reduceLT, Nat.reduceLeDiff, Nat.reduceEqDiff, Int.reduceLT, Int.reduceBEq, Int.reduceBNe, Nat.reduceBEq, ptr, res_one, List.append_nil, Int.toNat_zero, Nat.sub_self, Int.reduceToNat, resRow, net_one, rlEnv, rlOwn, numCs, rlCs, rlBox, evl]
        intro kind _
        simp only [thenK, rlEnv, rlOwn, numCs, rlCs, rlBox]
        (repeat refine Sat.seq ?_)
        (refine Sat.region_k fun k hk => ?_; simp -implicitDefEqProofs only [evr, id, reduceCtorEq, reduceIte, Nat.reduceMul, Nat.reduceAdd, Nat.reduceLT, Nat.reduceLeDiff, Nat.reduceEqDiff, Int.reduceLT, Int.reduceBEq, Int.reduceBNe, Nat.reduceBEq, ptr, res_one, List.append_nil, Int.toNat_zero, Nat.sub_self, Int.reduceToNat, resRow, net_one, rlEnv, rlOwn, numCs, rlCs, rlBox])
        refine wcall_plain (boolC cb 5 (by decide) (by decide)) rfl plain_bool ?_
        rintro r ⟨q6, rfl⟩
        simp -implicitDefEqProofs only [evr, id, reduceCtorEq, reduceIte, Nat.reduceMul, Nat.reduceAdd, Nat.reduceLT, Nat.reduceLeDiff, Nat.reduceEqDiff, Int.reduceLT, Int.reduceBEq, Int.reduceBNe, Nat.reduceBEq, ptr, res_one, List.append_nil, Int.toNat_zero, Nat.sub_self, Int.reduceToNat, resRow, net_one, rlEnv, rlOwn, numCs, rlCs, rlBox]
        (refine hk _ ?_; clear hk k; try show Sat _ _ _ _ _)
        refine Sat.cond_b rfl (fun h => ?_) (fun h => ?_)
        · (refine Sat.region_k fun k hk => ?_; simp -implicitDefEqProofs only [evr, id, reduceCtorEq, reduceIte, Nat.reduceMul, Nat.reduceAdd, Nat.reduceLT, Nat.reduceLeDiff, Nat.reduceEqDiff, Int.reduceLT, Int.reduceBEq, Int.reduceBNe, Nat.reduceBEq, ptr, res_one, List.append_nil, Int.toNat_zero, Nat.sub_self, Int.reduceToNat, resRow, net_one, rlEnv, rlOwn, numCs, rlCs, rlBox])
          refine wcall_plain (nextC cb 65536 (by omega) (by omega)) rfl (by rintro _ ⟨x, rfl, _⟩; exact ok_plain rfl) ?_
          rintro r ⟨x6, rfl, _, _⟩
          simp -implicitDefEqProofs only [evr, id, reduceCtorEq, reduceIte, Nat.reduceMul, Nat.reduceAdd, Nat.reduceLT, Nat.reduceLeDiff, Nat.reduceEqDiff, Int.reduceLT, Int.reduceBEq, Int.reduceBNe, Nat.reduceBEq, ptr, res_one, List.append_nil, Int.toNat_zero, Nat.sub_self, Int.reduceToNat, resRow, net_one, rlEnv, rlOwn, numCs, rlCs, rlBox]
          refine hk _ ?_
          simp only [thenK]
          refine ⟨(.tt, .b q30, fr, kind, 60, x6, 1), ⟨⟨_, sim_tt⟩, ⟨_, sim_refl _⟩, rfl, rfl, hfr⟩, ?_⟩
          simp -implicitDefEqProofs only [evr, id, reduceCtorEq, reduceIte, Nat.reduceMul, Nat.reduceAdd, Nat.reduceLT, Nat.reduceLeDiff, Nat.reduceEqDiff, Int.reduceLT, Int.reduceBEq, Int.reduceBNe, Nat.reduceBEq, ptr, res_one, List.append_nil, Int.toNat_zero, Nat.sub_self, Int.reduceToNat, resRow, net_one, rlEnv, rlOwn, numCs, rlCs, rlBox, evl]
        · refine Sat.skip ?_
          simp only [thenK]
          refine ⟨(.tt, .b q30, fr, kind, 60, id4, 1), ⟨⟨_, sim_tt⟩, ⟨_, sim_refl _⟩, rfl, rfl, hfr⟩, ?_⟩
          simp -implicitDefEqProofs only [evr, id, reduceCtorEq, reduceIte, Nat.reduceMul, Nat.reduceAdd, Nat.reduceLT, Nat.reduceLeDiff, Nat.reduceEqDiff, Int.reduceLT, Int.reduceBEq, Int.reduceBNe, Nat.reduceBEq, ptr, res_one, List.append_nil, Int.toNat_zero, Nat.sub_self, Int.reduceToNat, resRow, net_one, rlEnv, rlOwn, numCs, rlCs, rlBox, evl]
      · refine Sat.skip ?_
        simp only [thenK]
        refine ⟨(.b false, .b false, 0, 0, 0, 0, 0), ⟨⟨_, sim_refl _⟩, ⟨_, sim_refl _⟩, rfl, rfl, by decide, by decide⟩, ?_⟩
        simp -implicitDefEqProofs only [evr, id, reduceCtorEq, reduceIte, Nat.reduceMul, Nat.reduceAdd, Nat.reduceLT, Nat.reduceLeDiff, Nat.reduceEqDiff, Int.reduceLT, Int.reduceBEq, Int.reduceBNe, Nat.reduceBEq, ptr, res_one, List.append_nil, Int.toNat_zero, Nat.sub_self, Int.reduceToNat, resRow, net_one, rlEnv, rlOwn, numCs, rlCs, rlBox, evl]
    rintro ⟨s8, s9, fr2, kind, left, idv, quo⟩ ⟨⟨b8, hs8⟩, ⟨b9, hs9⟩, ho8, ho9, hfr2⟩
    simp only [thenK, rlEnv, rlOwn, numCs, rlCs, rlBox] at hs8 hs9 ho8 ho9 hfr2 ⊢
    (repeat refine Sat.seq ?_)
    (refine Sat.region_k fun k hk => ?_; simp -implicitDefEqProofs only [evr, id, reduceCtorEq, reduceIte, Nat.reduceMul, Nat.reduceAdd, Nat.reduceLT, Nat.reduceLeDiff, Nat.reduceEqDiff, Int.reduceLT, Int.reduceBEq, Int.reduceBNe, Nat.reduceBEq, ptr, res_one, List.append_nil, Int.toNat_zero, Nat.sub_self, Int.reduceToNat, resRow, net_one, rlEnv, rlOwn, numCs, rlCs, rlBox]; refine hk _ ?_; clear hk k; try show Sat _ _ _ _ _)
    (repeat refine Sat.seq ?_)
    (refine Sat.region_k fun k hk => ?_; simp -implicitDefEqProofs only [evr, id, reduceCtorEq, reduceIte, Nat.reduceMul, Nat.reduceAdd, Nat.reduceLT, Nat.reduceLeDiff, Nat.reduceEqDiff, Int.reduceLT, Int.reduceBEq, Int.reduceBNe, Nat.reduceBEq, ptr, res_one, List.append_nil, Int.toNat_zero, Nat.sub_self, Int.reduceToNat, resRow, net_one, rlEnv, rlOwn, numCs, rlCs, rlBox])
    simp -implicitDefEqProofs only [evr, id, reduceCtorEq, reduceIte, Nat.reduceMul, Nat.reduceAdd, Nat.reduceLT, Nat.reduceLeDiff, Nat.reduceEqDiff, Int.reduceLT, Int.reduceBEq, Int.reduceBNe, Nat.reduceBEq, ptr, res_one, List.append_nil, Int.toNat_zero, Nat.sub_self, Int.reduceToNat, resRow, net_one, rlEnv, rlOwn, numCs, rlCs, rlBox, ho8, ho9]
    intro b18
    refine ⟨⟨by unfold maxLen; omega, by omega⟩, fun a2 cap2 => ?_⟩
    (refine hk _ ?_; clear hk k; try show Sat _ _ _ _ _)
    obtain ⟨r, hr⟩ : ∃ r : Res, r = ⟨n.v, 0, num, at2, n.d, n.pr, fl, ttl, b8, b9, back, fr2, kind, 0, left, idv, quo⟩ := ⟨_, rfl⟩
    refine Sat.reread 2 (resRd (xs ++ [r]).toArray) rfl ?_ ?_
    · refine res_appS ?_
      subst hr
      simp only [Res.cs, simA]
      refine ⟨?_, ?_, ?_, ?_, ?_, ?_, ?_, ?_, ?_, ?_, ?_, ?_, ?_, ?_, ?_, ?_, ?_, trivial⟩ <;> first | exact sim_refl _ | exact hs8 | exact hs9
    simp -implicitDefEqProofs only [evr, id, reduceCtorEq, reduceIte, Nat.reduceMul, Nat.reduceAdd, Nat.reduceLT, Nat.reduceLeDiff, Nat.reduceEqDiff, Int.reduceLT, Int.reduceBEq, Int.reduceBNe, Nat.reduceBEq, ptr, res_one, List.append_nil, Int.toNat_zero, Nat.sub_self, Int.reduceToNat, resRow, net_one, rlEnv, rlOwn, numCs, rlCs, rlBox]
    refine Sat.region_k fun k hk => ?_
    simp -implicitDefEqProofs only [evr, id, reduceCtorEq, reduceIte, Nat.reduceMul, Nat.reduceAdd, Nat.reduceLT, Nat.reduceLeDiff, Nat.reduceEqDiff, Int.reduceLT, Int.reduceBEq, Int.reduceBNe, Nat.reduceBEq, ptr, res_one, List.append_nil, Int.toNat_zero, Nat.sub_self, Int.reduceToNat, resRow, net_one, rlEnv, rlOwn, numCs, rlCs, rlBox, e2]
    refine hk _ ?_
    simp only [thenK, blockK]
    have hrg : RgR r := by subst hr; exact ⟨w64_inA hnk.d, w64_inA hfr2⟩
    have hI2 : RltI (xs ++ [r]) m0 m1 := by
      rcases hnew with ⟨g1, g2, g3, g4⟩ | ⟨g1, g2, g3, g4⟩
      · rw [g3, g4]; exact hI.snoc0 hrg (by subst hr; exact g1) (by subst hr; exact g2)
      · rw [g3, g4]; exact hI.snoc1 hrg (by subst hr; exact g1) (by subst hr; exact g2)
    refine ⟨⟨k1 - 1, back, id3, na, nc, zs, a2, cap2, xs ++ [r], m0, m1⟩, ⟨by simp; omega, hnl, hzok, hI2, by simp; omega, by simp; omega⟩, by simp only; omega, ?_⟩
    simp only [List.length_append, List.length_singleton]
    simp -implicitDefEqProofs only [evr, id, reduceCtorEq, reduceIte, Nat.reduceMul, Nat.reduceAdd, Nat.reduceLT, Nat.reduceLeDiff, Nat.reduceEqDiff, Int.reduceLT, Int.reduceBEq, Int.reduceBNe, Nat.reduceBEq, ptr, res_one, List.append_nil, Int.toNat_zero, Nat.sub_self, Int.reduceToNat, resRow, net_one, rlEnv, rlOwn, numCs, rlCs, rlBox, evl]
  · have h0 : k1 = 0 := by simp only [decide_eq_false_iff_not] at h; omega
    refine Sat.exit ?_
    simp only [thenK, blockK, reduceIte]
    (repeat refine Sat.seq ?_)
    (refine Sat.region_k fun k hk => ?_; simp -implicitDefEqProofs only [evr, id, reduceCtorEq, reduceIte, Nat.reduceMul, Nat.reduceAdd, Nat.reduceLT, Nat.reduceLeDiff, Nat.reduceEqDiff, Int.reduceLT, Int.reduceBEq, Int.reduceBNe, Nat.reduceBEq, ptr, res_one, List.append_nil, Int.toNat_zero, Nat.sub_self, Int.reduceToNat, resRow, net_one, rlEnv, rlOwn, numCs, rlCs, rlBox]; refine hk _ ?_; clear hk k; try show Sat _ _ _ _ _)
    refine Sat.ret ?_
    simp only [Try.results21, evr, id, reduceCtorEq, reduceIte, Nat.reduceMul, Nat.reduceAdd, Nat.reduceLT, Nat.reduceLeDiff, Nat.reduceEqDiff, Int.reduceLT, Int.reduceBEq, Int.reduceBNe, Nat.reduceBEq, ptr, res_one, List.append_nil, Int.toNat_zero, Nat.sub_self, Int.reduceToNat, resRow, net_one, rlEnv, rlOwn, numCs, rlCs, rlBox, retN, retNK, newRow]
    exact ⟨⟨rfl, rfl, rfl⟩, ra, rc, xs, n0, n1, hI, by omega, rfl⟩
end Go.Proofs.Ytkpmihaaijiihaa

/- Inserting into a row by append, copy and store (readers alone); the reference's order of results (no program in sight). -/
set_option linter.unusedSimpArgs false
set_option linter.unusedVariables false
namespace Go.Proofs.Ytkpmihaaijiihaa
open Eng
def insL {α : Type} (ys : List α) (k : Nat) (r : α) : List α := ys.take k ++ r :: ys.drop k
theorem insL_len {α : Type} {ys : List α} {k : Nat} {r : α} (h : k ≤ ys.length) : (insL ys k r).length = ys.length + 1 := by
  unfold insL
  rw [List.length_append, List.length_cons, List.length_take, List.length_drop]; omega
theorem insL_mem {α : Type} {ys : List α} {k : Nat} {r x : α} : x ∈ insL ys k r ↔ x ∈ ys ∨ x = r := by
  unfold insL
  have h : x ∈ ys ↔ x ∈ ys.take k ∨ x ∈ ys.drop k := by rw [← List.mem_append, List.take_append_drop]
  rw [List.mem_append, List.mem_cons, h]
  constructor
  · rintro (h | h | h)
    · exact .inl (.inl h)
    · exact .inr h
    · exact .inl (.inr h)
  · rintro ((h | h) | h)
    · exact .inl h
    · exact .inr (.inr h)
    · exact .inr (.inl h)
theorem insL_get {α : Type} [Inhabited α] {ys : List α} {k : Nat} {r : α} (hk : k ≤ ys.length) (i : Nat) : (insL ys k r).toArray[i]! = if i < k then ys.toArray[i]! else if i = k then r else ys.toArray[i - 1]! := by
  have hl : (ys.take k).length = k := by rw [List.length_take]; omega
  unfold insL
  simp only [getElem!_def, List.getElem?_toArray, List.getElem?_append, hl]
  by_cases h : i < k
  · simp [h, List.getElem?_take]
  · rw [if_neg h, if_neg h]
    by_cases e : i = k
    · subst e; simp
    · obtain ⟨q, rfl⟩ : ∃ q, i = k + 1 + q := ⟨i - k - 1, by omega⟩
      rw [if_neg e, show k + 1 + q - k = q + 1 by omega, List.getElem?_cons_succ, List.getElem?_drop, show k + 1 + q - 1 = k + q by omega]
theorem ins_rd {α : Type} [Inhabited α] (cs : α → List SV) (sz : Nat) (hcs : ∀ x, (cs x).length = sz) {ys : List α} {k n : Nat} {r r0 : α} (hk : k ≤ ys.length) (hn : n = ys.length - k) :
    rdEq (ys.length + 1) sz (rdSet (rdMove (k + 1) k n (rdCat ys.length (fun i j => (cs ys.toArray[i]!).getD j default) (rdL (cs r0) sz))) k 0 (cs r)) (fun i j => (cs (insL ys k r).toArray[i]!).getD j default) := by
  intro i j hi hj
  show _ = (cs (insL ys k r).toArray[i]!).getD j default
  rw [insL_get hk]
  unfold rdSet rdMove rdCat rdOff
  subst hn
  by_cases e : i = k
  · subst e
    rw [if_pos ⟨rfl, Nat.zero_le _, by rw [hcs]; omega⟩, if_neg (Nat.lt_irrefl _), if_pos rfl]
    rfl
  · rw [if_neg (fun h => e h.1), if_neg e]
    by_cases h : i < k
    · rw [if_pos (show i < k + 1 by omega), if_pos (show i < ys.length by omega), if_pos h]
    · rw [if_neg (show ¬ i < k + 1 by omega), if_pos (show i - (k + 1) < ys.length - k by omega), if_neg h]
      show (if k + (i - (k + 1)) < ys.length then (cs ys.toArray[k + (i - (k + 1))]!).getD j default else _) = _
      rw [if_pos (show k + (i - (k + 1)) < ys.length by omega)]
      rw [show k + (i - (k + 1)) = i - 1 by omega]
theorem ord_ins {xs ys : List Res} {i k : Nat} {r : Res} (ho : OrdOf (xs.take i) ys) (hi : i < xs.length) (hr : xs[i] = r) (hv : validR r = true) (hk : k ≤ ys.length)
    (h1 : ∀ q, q < k → pthLt ys.toArray[q]! r = true) (h2 : ∀ q, k ≤ q → q < ys.length → pthLt r ys.toArray[q]! = true) : OrdOf (xs.take (i + 1)) (insL ys k r) := by
  refine ⟨?_, fun x => ?_⟩
  · unfold insL
    have ha : (ys.take k ++ ys.drop k).Pairwise fun a b => pthLt a b = true := by rw [List.take_append_drop]; exact ho.1
    obtain ⟨p1, p2, p3⟩ := List.pairwise_append.1 ha
    have m1 : ∀ x ∈ ys.take k, pthLt x r = true := by
      intro x hx
      obtain ⟨q, hq, rfl⟩ := List.getElem_of_mem hx
      rw [List.length_take] at hq
      have := h1 q (by omega)
      rw [getB (by omega)] at this
      rw [List.getElem_take]; exact this
    have m2 : ∀ x ∈ ys.drop k, pthLt r x = true := by
      intro x hx
      obtain ⟨q, hq, rfl⟩ := List.getElem_of_mem hx
      rw [List.length_drop] at hq
      have := h2 (k + q) (by omega) (by omega)
      rw [getB (by omega)] at this
      rw [List.getElem_drop]; exact this
    refine List.pairwise_append.2 ⟨p1, List.pairwise_cons.2 ⟨m2, p2⟩, fun x hx y hy => ?_⟩
    rcases List.mem_cons.1 hy with rfl | hy
    · exact m1 x hx
    · exact p3 x hx y hy
  · rw [insL_mem, ho.2 x, List.take_succ_eq_append_getElem hi, List.mem_append, List.mem_singleton, hr]
    constructor
    · rintro (⟨a, b⟩ | rfl)
      · exact ⟨.inl a, b⟩
      · exact ⟨.inr rfl, hv⟩
    · rintro ⟨a | a, b⟩
      · exact .inl ⟨a, b⟩
      · exact .inr a
theorem ord_skip {xs ys : List Res} {i : Nat} {r : Res} (ho : OrdOf (xs.take i) ys) (hi : i < xs.length) (hr : xs[i] = r) (hm : validR r = true → r ∈ ys) : OrdOf (xs.take (i + 1)) ys := by
  refine ⟨ho.1, fun x => ?_⟩
  rw [ho.2 x, List.take_succ_eq_append_getElem hi, List.mem_append, List.mem_singleton, hr]
  constructor
  · rintro ⟨a, b⟩; exact ⟨.inl a, b⟩
  · rintro ⟨a | a, b⟩
    · exact ⟨a, b⟩
    · subst a; exact (ho.2 x).1 (hm b)
theorem wCompare_in {a b : Res} (h1 : RgR a) (h2 : RgR b) : wCompare a b = pthCompare a b := by
  unfold wCompare pthCompare
  rw [wkeys_in h1.1 h1.2, wkeys_in h2.1 h2.2]
theorem pthCompare_pos {a b : Res} : 0 < pthCompare a b ↔ pthLt b a = true := by
  unfold pthLt
  rw [pthCompare_neg a b]
  simp
theorem asc_lt {ys : List Res} (h : Asc ys) {p q : Nat} (hpq : p < q) (hq : q < ys.length) : pthLt ys.toArray[p]! ys.toArray[q]! = true := by
  rw [getB hq, getB (show p < ys.length by omega)]
  exact List.pairwise_iff_getElem.1 h p q (by omega) hq hpq
end Go.Proofs.Ytkpmihaaijiihaa

/- The reference of paths, by the evaluator: Valid, TraceOf, Identity, less, Compare. -/
set_option linter.unusedSimpArgs false
set_option linter.unusedVariables false
namespace Go.Proofs.Ytkpmihaaijiihaa
open Go.Sort Eng
set_option maxRecDepth 100000 in
theorem validG (F : Frm) (x : Res) : Contract F Try.prog 37 [resAg x] (fun r => r = .b (validR x)) := by
  refine contract_of Try.func37 rfl (by kernel_rfl) ?_
  simp only [Try.ntmps37, argEnv, resAg, Res.cs]
  (repeat refine Sat.seq ?_)
  (refine Sat.region_k fun k hk => ?_; simp -implicitDefEqProofs only [evr, id, reduceCtorEq, reduceIte, Nat.reduceMul, Nat.reduceAdd, Nat.reduceLT, Nat.reduceLeDiff, Nat.reduceEqDiff, Int.reduceLT, Int.reduceBEq, Int.reduceBNe, Nat.reduceBEq, res_one, List.append_nil, Int.toNat_zero, Nat.sub_self, Int.reduceToNat])
  intro blk1
  (refine hk _ ?_; clear hk k; try show Sat _ _ _ _ _)
  (repeat refine Sat.seq ?_)
  refine Sat.at ⟨22, [(2, .b (validR x))], []⟩ ?_ ?_
  · (refine Sat.region_k fun k hk => ?_; simp -implicitDefEqProofs only [evr, id, reduceCtorEq, reduceIte, Nat.reduceMul, Nat.reduceAdd, Nat.reduceLT, Nat.reduceLeDiff, Nat.reduceEqDiff, Int.reduceLT, Int.reduceBEq, Int.reduceBNe, Nat.reduceBEq, res_one, List.append_nil, Int.toNat_zero, Nat.sub_self, Int.reduceToNat])
    refine wcall_plain (checkG F x) rfl (by rintro _ rfl; exact ok_plain rfl) ?_
    rintro r rfl
    simp -implicitDefEqProofs only [evr, id, reduceCtorEq, reduceIte, Nat.reduceMul, Nat.reduceAdd, Nat.reduceLT, Nat.reduceLeDiff, Nat.reduceEqDiff, Int.reduceLT, Int.reduceBEq, Int.reduceBNe, Nat.reduceBEq, res_one, List.append_nil, Int.toNat_zero, Nat.sub_self, Int.reduceToNat]
    refine ⟨fun h1 => ⟨fun h2 => ⟨fun h3 => hk _ ?_, fun h3 => hk _ ?_⟩, fun h2 => hk _ ?_⟩, fun h1 => hk _ ?_⟩
    · have e : validR x = true := by simp only [validR, h1, h2, h3]; rfl
      simp only [thenK, e]
      simp -implicitDefEqProofs only [evr, id, reduceCtorEq, reduceIte, Nat.reduceMul, Nat.reduceAdd, Nat.reduceLT, Nat.reduceLeDiff, Nat.reduceEqDiff, Int.reduceLT, Int.reduceBEq, Int.reduceBNe, Nat.reduceBEq, res_one, List.append_nil, Int.toNat_zero, Nat.sub_self, Int.reduceToNat, evl]
    · have e : validR x = (x.from_ != 0) := by simp only [validR, h1, h2, h3]; rfl
      simp only [thenK, e]
      simp -implicitDefEqProofs only [evr, id, reduceCtorEq, reduceIte, Nat.reduceMul, Nat.reduceAdd, Nat.reduceLT, Nat.reduceLeDiff, Nat.reduceEqDiff, Int.reduceLT, Int.reduceBEq, Int.reduceBNe, Nat.reduceBEq, res_one, List.append_nil, Int.toNat_zero, Nat.sub_self, Int.reduceToNat, evl]
    · have e : validR x = false := by simp only [validR, h1, h2]; rfl
      simp only [thenK, e]
      simp -implicitDefEqProofs only [evr, id, reduceCtorEq, reduceIte, Nat.reduceMul, Nat.reduceAdd, Nat.reduceLT, Nat.reduceLeDiff, Nat.reduceEqDiff, Int.reduceLT, Int.reduceBEq, Int.reduceBNe, Nat.reduceBEq, res_one, List.append_nil, Int.toNat_zero, Nat.sub_self, Int.reduceToNat, evl]
    · have e : validR x = false := by simp only [validR, h1]; rfl
      simp only [thenK, e]
      simp -implicitDefEqProofs only [evr, id, reduceCtorEq, reduceIte, Nat.reduceMul, Nat.reduceAdd, Nat.reduceLT, Nat.reduceLeDiff, Nat.reduceEqDiff, Int.reduceLT, Int.reduceBEq, Int.reduceBNe, Nat.reduceBEq, res_one, List.append_nil, Int.toNat_zero, Nat.sub_self, Int.reduceToNat, evl]
  simp only [thenK, blockK]
  refine Sat.ret ?_
  simp only [Try.results37, evr, id, reduceCtorEq, reduceIte, Nat.reduceMul, Nat.reduceAdd, Nat.reduceLT, Nat.reduceLeDiff, Nat.reduceEqDiff, Int.reduceLT, Int.reduceBEq, Int.reduceBNe, Nat.reduceBEq, res_one, List.append_nil, Int.toNat_zero, Nat.sub_self, Int.reduceToNat]
set_option maxRecDepth 100000 in
theorem traceOfG (F : Frm) (x : Res) : Contract F Try.prog 38 [resAg x] (fun r => r = trcAg x) := by
  refine contract_of Try.func38 rfl (by kernel_rfl) ?_
  simp only [Try.ntmps38, argEnv, resAg, Res.cs]
  (repeat refine Sat.seq ?_)
  (refine Sat.region_k fun k hk => ?_; simp -implicitDefEqProofs only [evr, id, reduceCtorEq, reduceIte, Nat.reduceMul, Nat.reduceAdd, Nat.reduceLT, Nat.reduceLeDiff, Nat.reduceEqDiff, Int.reduceLT, Int.reduceBEq, Int.reduceBNe, Nat.reduceBEq, res_one, List.append_nil, Int.toNat_zero, Nat.sub_self, Int.reduceToNat])
  intro blk1 blk2
  (refine hk _ ?_; clear hk k; try show Sat _ _ _ _ _)
  (repeat refine Sat.seq ?_)
  (refine Sat.region_k fun k hk => ?_; simp -implicitDefEqProofs only [evr, id, reduceCtorEq, reduceIte, Nat.reduceMul, Nat.reduceAdd, Nat.reduceLT, Nat.reduceLeDiff, Nat.reduceEqDiff, Int.reduceLT, Int.reduceBEq, Int.reduceBNe, Nat.reduceBEq, res_one, List.append_nil, Int.toNat_zero, Nat.sub_self, Int.reduceToNat]; refine hk _ ?_; clear hk k; try show Sat _ _ _ _ _)
  refine Sat.ret ?_
  simp only [Try.results38, evr, id, reduceCtorEq, reduceIte, Nat.reduceMul, Nat.reduceAdd, Nat.reduceLT, Nat.reduceLeDiff, Nat.reduceEqDiff, Int.reduceLT, Int.reduceBEq, Int.reduceBNe, Nat.reduceBEq, res_one, List.append_nil, Int.toNat_zero, Nat.sub_self, Int.reduceToNat]
  rfl
set_option maxRecDepth 100000 in
theorem identG (F : Frm) (x : Res) : Contract F Try.prog 12 [resAg x] (fun r => r = idAg x) := by
  refine contract_of Try.func12 rfl (by kernel_rfl) ?_
  simp only [Try.ntmps12, argEnv, resAg, Res.cs]
  (repeat refine Sat.seq ?_)
  (refine Sat.region_k fun k hk => ?_; simp -implicitDefEqProofs only [evr, id, reduceCtorEq, reduceIte, Nat.reduceMul, Nat.reduceAdd, Nat.reduceLT, Nat.reduceLeDiff, Nat.reduceEqDiff, Int.reduceLT, Int.reduceBEq, Int.reduceBNe, Nat.reduceBEq, res_one, List.append_nil, Int.toNat_zero, Nat.sub_self, Int.reduceToNat])
  intro blk1 blk2
  (refine hk _ ?_; clear hk k; try show Sat _ _ _ _ _)
  (repeat refine Sat.seq ?_)
  (refine Sat.region_k fun k hk => ?_; simp -implicitDefEqProofs only [evr, id, reduceCtorEq, reduceIte, Nat.reduceMul, Nat.reduceAdd, Nat.reduceLT, Nat.reduceLeDiff, Nat.reduceEqDiff, Int.reduceLT, Int.reduceBEq, Int.reduceBNe, Nat.reduceBEq, res_one, List.append_nil, Int.toNat_zero, Nat.sub_self, Int.reduceToNat]; refine hk _ ?_; clear hk k; try show Sat _ _ _ _ _)
  refine Sat.ret ?_
  simp only [Try.results12, evr, id, reduceCtorEq, reduceIte, Nat.reduceMul, Nat.reduceAdd, Nat.reduceLT, Nat.reduceLeDiff, Nat.reduceEqDiff, Int.reduceLT, Int.reduceBEq, Int.reduceBNe, Nat.reduceBEq, res_one, List.append_nil, Int.toNat_zero, Nat.sub_self, Int.reduceToNat]
  rfl
set_option maxRecDepth 100000 in
theorem bitG (F : Frm) (b : Bool) : Contract F Try.prog 71 [.b b] (fun r => r = .i .i64 (b2i b)) := by
  refine contract_of Try.func71 rfl (by kernel_rfl) ?_
  simp only [Try.ntmps71, argEnv]
  (repeat refine Sat.seq ?_)
  (refine Sat.region_k fun k hk => ?_; simp -implicitDefEqProofs only [evr, id, reduceCtorEq, reduceIte, Nat.reduceMul, Nat.reduceAdd, Nat.reduceLT, Nat.reduceLeDiff, Nat.reduceEqDiff, Int.reduceLT, Int.reduceBEq, Int.reduceBNe, Nat.reduceBEq, res_one, List.append_nil, Int.toNat_zero, Nat.sub_self, Int.reduceToNat]; refine hk _ ?_; clear hk k; try show Sat _ _ _ _ _)
  (repeat refine Sat.seq ?_)
  (refine Sat.region_k fun k hk => ?_; simp -implicitDefEqProofs only [evr, id, reduceCtorEq, reduceIte, Nat.reduceMul, Nat.reduceAdd, Nat.reduceLT, Nat.reduceLeDiff, Nat.reduceEqDiff, Int.reduceLT, Int.reduceBEq, Int.reduceBNe, Nat.reduceBEq, res_one, List.append_nil, Int.toNat_zero, Nat.sub_self, Int.reduceToNat]; refine hk _ ?_; clear hk k; try show Sat _ _ _ _ _)
  (repeat refine Sat.seq ?_)
  refine Sat.cond_b rfl (fun h => ?_) (fun h => ?_)
  · subst h
    (repeat refine Sat.seq ?_)
    (refine Sat.region_k fun k hk => ?_; simp -implicitDefEqProofs only [evr, id, reduceCtorEq, reduceIte, Nat.reduceMul, Nat.reduceAdd, Nat.reduceLT, Nat.reduceLeDiff, Nat.reduceEqDiff, Int.reduceLT, Int.reduceBEq, Int.reduceBNe, Nat.reduceBEq, res_one, List.append_nil, Int.toNat_zero, Nat.sub_self, Int.reduceToNat]; refine hk _ ?_; clear hk k; try show Sat _ _ _ _ _)
    refine Sat.ret ?_
    simp only [Try.results71, evr, id, reduceCtorEq, reduceIte, Nat.reduceMul, Nat.reduceAdd, Nat.reduceLT, Nat.reduceLeDiff, Nat.reduceEqDiff, Int.reduceLT, Int.reduceBEq, Int.reduceBNe, Nat.reduceBEq, res_one, List.append_nil, Int.toNat_zero, Nat.sub_self, Int.reduceToNat]
    rfl
  · subst h
    refine Sat.skip ?_
    simp only [thenK]
    (repeat refine Sat.seq ?_)
    (refine Sat.region_k fun k hk => ?_; simp -implicitDefEqProofs only [evr, id, reduceCtorEq, reduceIte, Nat.reduceMul, Nat.reduceAdd, Nat.reduceLT, Nat.reduceLeDiff, Nat.reduceEqDiff, Int.reduceLT, Int.reduceBEq, Int.reduceBNe, Nat.reduceBEq, res_one, List.append_nil, Int.toNat_zero, Nat.sub_self, Int.reduceToNat]; refine hk _ ?_; clear hk k; try show Sat _ _ _ _ _)
    refine Sat.ret ?_
    simp only [Try.results71, evr, id, reduceCtorEq, reduceIte, Nat.reduceMul, Nat.reduceAdd, Nat.reduceLT, Nat.reduceLeDiff, Nat.reduceEqDiff, Int.reduceLT, Int.reduceBEq, Int.reduceBNe, Nat.reduceBEq, res_one, List.append_nil, Int.toNat_zero, Nat.sub_self, Int.reduceToNat]
    rfl
set_option maxRecDepth 100000 in
theorem lessG (F : Frm) (a b : Int) : Contract F Try.prog 57 [.i .i64 a, .i .i64 b] (fun r => r = .i .i64 (ordI a b)) := by
  refine contract_of Try.func57 rfl (by kernel_rfl) ?_
  simp only [Try.ntmps57, argEnv]
  (repeat refine Sat.seq ?_)
  (refine Sat.region_k fun k hk => ?_; simp -implicitDefEqProofs only [evr, id, reduceCtorEq, reduceIte, Nat.reduceMul, Nat.reduceAdd, Nat.reduceLT, Nat.reduceLeDiff, Nat.reduceEqDiff, Int.reduceLT, Int.reduceBEq, Int.reduceBNe, Nat.reduceBEq, res_one, List.append_nil, Int.toNat_zero, Nat.sub_self, Int.reduceToNat]; refine hk _ ?_; clear hk k; try show Sat _ _ _ _ _)
  refine Sat.seq ?_
  refine Sat.block ?_
  (repeat refine Sat.seq ?_)
  (refine Sat.region_k fun k hk => ?_; simp -implicitDefEqProofs only [evr, id, reduceCtorEq, reduceIte, Nat.reduceMul, Nat.reduceAdd, Nat.reduceLT, Nat.reduceLeDiff, Nat.reduceEqDiff, Int.reduceLT, Int.reduceBEq, Int.reduceBNe, Nat.reduceBEq, res_one, List.append_nil, Int.toNat_zero, Nat.sub_self, Int.reduceToNat]; refine hk _ ?_; clear hk k; try show Sat _ _ _ _ _)
  refine Sat.cond_b rfl (fun h => ?_) (fun h => ?_)
  · have h1 : a < b := by simpa using h
    (repeat refine Sat.seq ?_)
    (refine Sat.region_k fun k hk => ?_; simp -implicitDefEqProofs only [evr, id, reduceCtorEq, reduceIte, Nat.reduceMul, Nat.reduceAdd, Nat.reduceLT, Nat.reduceLeDiff, Nat.reduceEqDiff, Int.reduceLT, Int.reduceBEq, Int.reduceBNe, Nat.reduceBEq, res_one, List.append_nil, Int.toNat_zero, Nat.sub_self, Int.reduceToNat]; refine hk _ ?_; clear hk k; try show Sat _ _ _ _ _)
    refine Sat.ret ?_
    simp only [blockK, thenK, Try.results57, evr, id, reduceCtorEq, reduceIte, Nat.reduceMul, Nat.reduceAdd, Nat.reduceLT, Nat.reduceLeDiff, Nat.reduceEqDiff, Int.reduceLT, Int.reduceBEq, Int.reduceBNe, Nat.reduceBEq, res_one, List.append_nil, Int.toNat_zero, Nat.sub_self, Int.reduceToNat]
    unfold ordI
    rw [if_pos h1]
  · have h1 : ¬ a < b := by simpa using h
    (repeat refine Sat.seq ?_)
    (refine Sat.region_k fun k hk => ?_; simp -implicitDefEqProofs only [evr, id, reduceCtorEq, reduceIte, Nat.reduceMul, Nat.reduceAdd, Nat.reduceLT, Nat.reduceLeDiff, Nat.reduceEqDiff, Int.reduceLT, Int.reduceBEq, Int.reduceBNe, Nat.reduceBEq, res_one, List.append_nil, Int.toNat_zero, Nat.sub_self, Int.reduceToNat]; refine hk _ ?_; clear hk k; try show Sat _ _ _ _ _)
    refine Sat.cond_b rfl (fun h => ?_) (fun h => ?_)
    · have h2 : b < a := by simpa using h
      (repeat refine Sat.seq ?_)
      (refine Sat.region_k fun k hk => ?_; simp -implicitDefEqProofs only [evr, id, reduceCtorEq, reduceIte, Nat.reduceMul, Nat.reduceAdd, Nat.reduceLT, Nat.reduceLeDiff, Nat.reduceEqDiff, Int.reduceLT, Int.reduceBEq, Int.reduceBNe, Nat.reduceBEq, res_one, List.append_nil, Int.toNat_zero, Nat.sub_self, Int.reduceToNat]; refine hk _ ?_; clear hk k; try show Sat _ _ _ _ _)
      refine Sat.ret ?_
      simp only [blockK, thenK, Try.results57, evr, id, reduceCtorEq, reduceIte, Nat.reduceMul, Nat.reduceAdd, Nat.reduceLT, Nat.reduceLeDiff, Nat.reduceEqDiff, Int.reduceLT, Int.reduceBEq, Int.reduceBNe, Nat.reduceBEq, res_one, List.append_nil, Int.toNat_zero, Nat.sub_self, Int.reduceToNat]
      unfold ordI
      rw [if_neg h1, if_pos h2]
    · have h2 : ¬ b < a := by simpa using h
      refine Sat.skip ?_
      simp only [blockK, thenK]
      (repeat refine Sat.seq ?_)
      (refine Sat.region_k fun k hk => ?_; simp -implicitDefEqProofs only [evr, id, reduceCtorEq, reduceIte, Nat.reduceMul, Nat.reduceAdd, Nat.reduceLT, Nat.reduceLeDiff, Nat.reduceEqDiff, Int.reduceLT, Int.reduceBEq, Int.reduceBNe, Nat.reduceBEq, res_one, List.append_nil, Int.toNat_zero, Nat.sub_self, Int.reduceToNat]; refine hk _ ?_; clear hk k; try show Sat _ _ _ _ _)
      refine Sat.ret ?_
      simp only [blockK, thenK, Try.results57, evr, id, reduceCtorEq, reduceIte, Nat.reduceMul, Nat.reduceAdd, Nat.reduceLT, Nat.reduceLeDiff, Nat.reduceEqDiff, Int.reduceLT, Int.reduceBEq, Int.reduceBNe, Nat.reduceBEq, res_one, List.append_nil, Int.toNat_zero, Nat.sub_self, Int.reduceToNat]
      unfold ordI
      rw [if_neg h1, if_neg h2]
def pairC2 (x y : Res) : List SV := [.i .i64 x.at_, .i .i64 y.at_, .i .i64 x.vantage, .i .i64 y.vantage, .i .i64 x.run, .i .i64 y.run, .i .i64 x.number, .i .i64 y.number, .i .i64 (w64i x.dst), .i .i64 (w64i y.dst), .i .i64 x.proto, .i .i64 y.proto, .i .i64 x.flow, .i .i64 y.flow, .i .i64 x.ttl, .i .i64 y.ttl,
  .i .i64 (b2i x.answered), .i .i64 (b2i y.answered), .i .i64 (b2i x.doubled), .i .i64 (b2i y.doubled), .i .i64 x.back, .i .i64 y.back, .i .i64 (w64i x.from_), .i .i64 (w64i y.from_), .i .i64 x.kind, .i .i64 y.kind, .i .i64 x.code, .i .i64 y.code, .i .i64 x.left, .i .i64 y.left, .i .i64 x.id, .i .i64 y.id]
def pairR2 (x y : Res) : Nat → SV := fun j => (pairC2 x y).getD j default
theorem pair_get2 (x y : Res) (i : Nat) (h : i < 16) : pairR2 x y (i * 2) = .i .i64 (x.wkeys.getD i 0) ∧ pairR2 x y (i * 2 + 1) = .i .i64 (y.wkeys.getD i 0) := by
  rcases (show i = 0 ∨ i = 1 ∨ i = 2 ∨ i = 3 ∨ i = 4 ∨ i = 5 ∨ i = 6 ∨ i = 7 ∨ i = 8 ∨ i = 9 ∨ i = 10 ∨ i = 11 ∨ i = 12 ∨ i = 13 ∨ i = 14 ∨ i = 15 by omega) with rfl | rfl | rfl | rfl | rfl | rfl | rfl | rfl | rfl | rfl | rfl | rfl | rfl | rfl | rfl | rfl <;> exact ⟨rfl, rfl⟩
set_option maxRecDepth 100000 in
set_option maxHeartbeats 4000000 in
theorem compareG (F : Frm) (x y : Res) : Contract F Try.prog 58 [resAg x, resAg y] (fun r => r = .i .i64 (wCompare x y)) := by
  refine contract_of Try.func58 rfl (by kernel_rfl) ?_
  simp only [Try.ntmps58, argEnv, resAg, Res.cs]
  (repeat refine Sat.seq ?_)
  (refine Sat.region_k fun k hk => ?_; simp -implicitDefEqProofs only [evr, id, reduceCtorEq, reduceIte, Nat.reduceMul, Nat.reduceAdd, Nat.reduceLT, Nat.reduceLeDiff, Nat.reduceEqDiff, Int.reduceLT, Int.reduceBEq, Int.reduceBNe, Nat.reduceBEq, res_one, List.append_nil, Int.toNat_zero, Nat.sub_self, Int.reduceToNat])
  intro blk1 blk2
  (refine hk _ ?_; clear hk k; try show Sat _ _ _ _ _)
  (repeat refine Sat.seq ?_)
  refine Sat.at ⟨127, [(106, .i .i64 0), (105, .agg 32 (pairR2 x y)), (3, .op 1 blk2 0), (2, .op 0 blk1 0), (4, .i .i64 0)], [.box blk1 39 (Res.cs x), .box blk2 39 (Res.cs y)]⟩ ?_ ?_
  · simp only [List.append_eq, List.cons_append, List.nil_append]
    (refine Sat.region_bt [⟨0, 8, 4, 0⟩, ⟨1, 9, 128, 1⟩, ⟨0, 10, 8, 0⟩, ⟨4, 11, 512, 1⟩, ⟨10, 12, 1280, 0⟩, ⟨0, 13, 4, 0⟩, ⟨32, 14, 4096, 1⟩, ⟨0, 15, 8, 0⟩, ⟨128, 16, 16384, 1⟩, ⟨320, 17, 40960, 0⟩, ⟨0, 18, 4, 0⟩, ⟨1024, 19, 131072, 1⟩, ⟨0, 20, 8, 0⟩, ⟨4096, 21, 524288, 1⟩, ⟨10240, 22, 1310720, 0⟩, ⟨0, 23, 4, 0⟩, ⟨32768, 24, 4194304, 1⟩, ⟨0, 25, 8, 0⟩, ⟨131072, 26, 16777216, 1⟩, ⟨327680, 27, 41943040, 0⟩, ⟨0, 28, 4, 0⟩, ⟨1048576, 29, 134217728, 1⟩, ⟨2097152, 30, 268435456, 1⟩, ⟨0, 31, 8, 0⟩, ⟨8388608, 32, 1073741824, 1⟩, ⟨16777216, 33, 2147483648, 1⟩, ⟨37748736, 34, 4831838208, 0⟩, ⟨0, 35, 4, 0⟩, ⟨134217728, 36, 17179869184, 1⟩, ⟨0, 37, 8, 0⟩, ⟨536870912, 38, 68719476736, 1⟩, ⟨1342177280, 39, 171798691840, 0⟩, ⟨0, 40, 4, 0⟩, ⟨4294967296, 41, 549755813888, 1⟩, ⟨0, 42, 8, 0⟩, ⟨17179869184, 43, 2199023255552, 1⟩, ⟨42949672960, 44, 5497558138880, 0⟩, ⟨0, 45, 4, 0⟩, ⟨137438953472, 46, 17592186044416, 1⟩, ⟨0, 47, 8, 0⟩, ⟨549755813888, 48, 70368744177664, 1⟩, ⟨1374389534720, 49, 175921860444160, 0⟩, ⟨0, 50, 4, 0⟩, ⟨4398046511104, 51, 562949953421312, 1⟩, ⟨8796093022208, 52, 1125899906842624, 2⟩, ⟨0, 53, 8, 0⟩, ⟨35184372088832, 54, 4503599627370496, 1⟩, ⟨87960930222080, 55, 9007199254740992, 2⟩, ⟨158329674399744, 56, 20266198323167232, 0⟩, ⟨0, 57, 4, 0⟩, ⟨562949953421312, 58, 72057594037927936, 1⟩, ⟨1266637395197952, 59, 144115188075855872, 2⟩, ⟨0, 60, 8, 0⟩, ⟨4503599627370496, 61, 576460752303423488, 1⟩, ⟨11258999068426240, 62, 1152921504606846976, 2⟩, ⟨20266198323167232, 63, 2594073385365405696, 0⟩, ⟨0, 64, 4, 0⟩, ⟨72057594037927936, 65, 9223372036854775808, 1⟩, ⟨0, 66, 8, 0⟩, ⟨288230376151711744, 67, 36893488147419103232, 1⟩, ⟨720575940379279360, 68, 92233720368547758080, 0⟩, ⟨0, 69, 4, 0⟩, ⟨2305843009213693952, 70, 295147905179352825856, 0⟩, ⟨4611686018427387904, 71, 590295810358705651712, 1⟩, ⟨9223372036854775808, 72, 1180591620717411303424, 1⟩, ⟨0, 73, 8, 0⟩, ⟨36893488147419103232, 74, 4722366482869645213696, 0⟩, ⟨73786976294838206464, 75, 9444732965739290427392, 1⟩, ⟨147573952589676412928, 76, 18889465931478580854784, 1⟩, ⟨313594649253062377472, 77, 40140115104391984316416, 0⟩, ⟨0, 78, 4, 0⟩, ⟨1180591620717411303424, 79, 151115727451828646838272, 0⟩, ⟨2361183241434822606848, 80, 302231454903657293676544, 1⟩, ⟨0, 81, 8, 0⟩, ⟨9444732965739290427392, 82, 1208925819614629174706176, 0⟩, ⟨18889465931478580854784, 83, 2417851639229258349412352, 1⟩, ⟨42501298345826806923264, 84, 5440166188265831286177792, 0⟩, ⟨0, 85, 4, 0⟩, ⟨151115727451828646838272, 86, 19342813113834066795298816, 0⟩, ⟨302231454903657293676544, 87, 38685626227668133590597632, 1⟩, ⟨0, 88, 8, 0⟩, ⟨1208925819614629174706176, 89, 154742504910672534362390528, 0⟩, ⟨2417851639229258349412352, 90, 309485009821345068724781056, 1⟩, ⟨5440166188265831286177792, 91, 696341272098026404630757376, 0⟩, ⟨0, 92, 4, 0⟩, ⟨19342813113834066795298816, 93, 2475880078570760549798248448, 0⟩, ⟨38685626227668133590597632, 94, 4951760157141521099596496896, 1⟩, ⟨0, 95, 8, 0⟩, ⟨154742504910672534362390528, 96, 19807040628566084398385987584, 0⟩, ⟨309485009821345068724781056, 97, 39614081257132168796771975168, 1⟩, ⟨696341272098026404630757376, 98, 89131682828547379792736944128, 0⟩, ⟨0, 99, 4, 0⟩, ⟨2475880078570760549798248448, 100, 316912650057057350374175801344, 0⟩, ⟨4951760157141521099596496896, 101, 633825300114114700748351602688, 1⟩, ⟨0, 102, 8, 0⟩, ⟨19807040628566084398385987584, 103, 2535301200456458802993406410752, 0⟩, ⟨39614081257132168796771975168, 104, 5070602400912917605986812821504, 1⟩, ⟨89131682828547379792736944128, 105, 11408855402054064613470328848384, 0⟩, ⟨159704012623719742814974132752, 106, 20442113615836127080316688992256, 0⟩, ⟨0, 107, 0, 0⟩] [0, 2, 5, 7, 10, 12, 15, 17, 20, 23, 27, 29, 32, 34, 37, 39, 42, 45, 49, 52, 56, 58, 61, 62, 65, 66, 70, 71, 73, 74, 77, 78, 80, 81, 84, 85, 87, 88, 91, 92, 94, 95, 99, 1, 3, 6, 8, 11, 13, 16, 18, 21, 22, 24, 25, 28, 30, 33, 35, 38, 40, 43, 46, 50, 53, 57, 59, 63, 64, 67, 68, 72, 75, 79, 82, 86, 89, 93, 96, 4, 9, 14, 19, 26, 31, 36, 41, 60, 69, 76, 83, 90, 97] (.one 44 (.one 47 (.free 48 (.one 51 (.one 54 (.one 55 (.one 98 .done))))))) 7 [44, 47, 48, 51, 54, 55] (by kernel_rfl) (by kernel_rfl) (fun _ _ h => h) fun k hk => ?_; simp only [List.map_cons, List.map_nil, List.getD_cons_zero, List.getD_cons_succ]; simp -implicitDefEqProofs only [evr, id, reduceCtorEq, reduceIte, Nat.reduceMul, Nat.reduceAdd, Nat.reduceLT, Nat.reduceLeDiff, Nat.reduceEqDiff, Int.reduceLT, Int.reduceBEq, Int.reduceBNe, Nat.reduceBEq, res_one, List.append_nil, Int.toNat_zero, Nat.sub_self, Int.reduceToNat])
    repeat' (first
      | (with_reducible refine And.intro ?_ ?_)
      | (with_reducible refine hk _ ?_
         clear hk
         simp only [thenK, Res.cs]
         simp -implicitDefEqProofs only [evr, id, reduceCtorEq, reduceIte, Nat.reduceMul, Nat.reduceAdd, Nat.reduceLT, Nat.reduceLeDiff, Nat.reduceEqDiff, Int.reduceLT, Int.reduceBEq, Int.reduceBNe, Nat.reduceBEq, res_one, List.append_nil, Int.toNat_zero, Nat.sub_self, Int.reduceToNat, evl]
         rfl)
      | (refine wcall_plain (bitG F _) rfl (by rintro _ rfl; exact ok_plain rfl) ?_; rintro r rfl; simp -implicitDefEqProofs only [evr, id, reduceCtorEq, reduceIte, Nat.reduceMul, Nat.reduceAdd, Nat.reduceLT, Nat.reduceLeDiff, Nat.reduceEqDiff, Int.reduceLT, Int.reduceBEq, Int.reduceBNe, Nat.reduceBEq, res_one, List.append_nil, Int.toNat_zero, Nat.sub_self, Int.reduceToNat]))
  simp only [thenK]
  (repeat refine Sat.seq ?_)
  refine Sat.block ?_
  refine Sat.loop (ι := Nat) (fun i => ⟨127, [(106, .i .i64 i), (105, .agg 32 (pairR2 x y)), (3, .op 1 blk2 0), (2, .op 0 blk1 0), (4, .i .i64 0)], [.box blk1 39 (Res.cs x), .box blk2 39 (Res.cs y)]⟩)
    (fun i => i ≤ 16 ∧ cmpL (x.wkeys.drop i) (y.wkeys.drop i) = wCompare x y) (fun i => 16 - i) 0 ⟨Nat.zero_le _, rfl⟩ (by simp -implicitDefEqProofs only [evr, id, reduceCtorEq, reduceIte, Nat.reduceMul, Nat.reduceAdd, Nat.reduceLT, Nat.reduceLeDiff, Nat.reduceEqDiff, Int.reduceLT, Int.reduceBEq, Int.reduceBNe, Nat.reduceBEq, res_one, List.append_nil, Int.toNat_zero, Nat.sub_self, Int.reduceToNat, evl]; rfl) ?_
  rintro i ⟨hi, ho⟩
  (repeat refine Sat.seq ?_)
  (refine Sat.region_k fun k hk => ?_; simp -implicitDefEqProofs only [evr, id, reduceCtorEq, reduceIte, Nat.reduceMul, Nat.reduceAdd, Nat.reduceLT, Nat.reduceLeDiff, Nat.reduceEqDiff, Int.reduceLT, Int.reduceBEq, Int.reduceBNe, Nat.reduceBEq, res_one, List.append_nil, Int.toNat_zero, Nat.sub_self, Int.reduceToNat]; refine hk _ ?_; clear hk k; try show Sat _ _ _ _ _)
  (repeat refine Sat.seq ?_)
  refine Sat.cond_b rfl (fun h => ?_) (fun h => ?_)
  · have h1 : i < 16 := by simp only [decide_eq_true_eq] at h; omega
    obtain ⟨e0, e1⟩ := pair_get2 x y i h1
    have e2 : IntKind.i64.wrap ((i : Int) + 1) = ((i + 1 : Nat) : Int) := by rw [w64 (by omega)]; omega
    have hl1 : i < x.wkeys.length := by show i < 17; omega
    have hl2 : i < y.wkeys.length := by show i < 17; omega
    refine Sat.skip ?_
    simp only [thenK]
    (repeat refine Sat.seq ?_)
    refine Sat.block ?_
    (repeat refine Sat.seq ?_)
    refine Sat.region_k fun k hk => ?_
    simp -implicitDefEqProofs only [evr, id, reduceCtorEq, reduceIte, Nat.reduceMul, Nat.reduceAdd, Nat.reduceLT, Nat.reduceLeDiff, Nat.reduceEqDiff, Int.reduceLT, Int.reduceBEq, Int.reduceBNe, Nat.reduceBEq, res_one, List.append_nil, Int.toNat_zero, Nat.sub_self, Int.reduceToNat, e0, e1]
    refine ⟨by omega, by omega, fun b4 => ?_⟩
    (refine hk _ ?_; clear hk k; try show Sat _ _ _ _ _)
    (repeat refine Sat.seq ?_)
    (refine Sat.region_k fun k hk => ?_; simp -implicitDefEqProofs only [evr, id, reduceCtorEq, reduceIte, Nat.reduceMul, Nat.reduceAdd, Nat.reduceLT, Nat.reduceLeDiff, Nat.reduceEqDiff, Int.reduceLT, Int.reduceBEq, Int.reduceBNe, Nat.reduceBEq, res_one, List.append_nil, Int.toNat_zero, Nat.sub_self, Int.reduceToNat])
    refine ⟨by omega, by omega, ?_⟩
    (refine hk _ ?_; clear hk k; try show Sat _ _ _ _ _)
    (repeat refine Sat.seq ?_)
    refine Sat.cond_b rfl (fun h2 => ?_) (fun h2 => ?_)
    · have h3 : ordI (x.wkeys.getD i 0) (y.wkeys.getD i 0) ≠ 0 := fun h => by
        rw [ordI_zero] at h
        simp only [bne_iff_ne, ne_eq] at h2
        exact h2 h
      (repeat refine Sat.seq ?_)
      (refine Sat.region_k fun k hk => ?_; simp -implicitDefEqProofs only [evr, id, reduceCtorEq, reduceIte, Nat.reduceMul, Nat.reduceAdd, Nat.reduceLT, Nat.reduceLeDiff, Nat.reduceEqDiff, Int.reduceLT, Int.reduceBEq, Int.reduceBNe, Nat.reduceBEq, res_one, List.append_nil, Int.toNat_zero, Nat.sub_self, Int.reduceToNat])
      refine ⟨by omega, by omega, ?_⟩
      refine wcall_plain (lessG F (x.wkeys.getD i 0) (y.wkeys.getD i 0)) rfl (by rintro _ rfl; exact ok_plain rfl) ?_
      rintro r rfl
      simp -implicitDefEqProofs only [evr, id, reduceCtorEq, reduceIte, Nat.reduceMul, Nat.reduceAdd, Nat.reduceLT, Nat.reduceLeDiff, Nat.reduceEqDiff, Int.reduceLT, Int.reduceBEq, Int.reduceBNe, Nat.reduceBEq, res_one, List.append_nil, Int.toNat_zero, Nat.sub_self, Int.reduceToNat]
      (refine hk _ ?_; clear hk k; try show Sat _ _ _ _ _)
      refine Sat.ret ?_
      simp only [Try.results58, evr, id, reduceCtorEq, reduceIte, Nat.reduceMul, Nat.reduceAdd, Nat.reduceLT, Nat.reduceLeDiff, Nat.reduceEqDiff, Int.reduceLT, Int.reduceBEq, Int.reduceBNe, Nat.reduceBEq, res_one, List.append_nil, Int.toNat_zero, Nat.sub_self, Int.reduceToNat]
      rw [← ho, cmpL_drop _ _ i hl1 hl2, if_pos h3]
    · have h3 : ordI (x.wkeys.getD i 0) (y.wkeys.getD i 0) = 0 := by
        rw [ordI_zero]
        simpa using h2
      refine Sat.skip ?_
      simp only [thenK, blockK]
      refine Sat.region_k fun k hk => ?_
      simp -implicitDefEqProofs only [evr, id, reduceCtorEq, reduceIte, Nat.reduceMul, Nat.reduceAdd, Nat.reduceLT, Nat.reduceLeDiff, Nat.reduceEqDiff, Int.reduceLT, Int.reduceBEq, Int.reduceBNe, Nat.reduceBEq, res_one, List.append_nil, Int.toNat_zero, Nat.sub_self, Int.reduceToNat, e2]
      refine hk _ ?_
      simp only [thenK, blockK]
      refine ⟨i + 1, ⟨by omega, ?_⟩, by omega, ?_⟩
      · rw [← ho, cmpL_drop _ _ i hl1 hl2, if_neg (by rw [h3]; decide)]
      · simp -implicitDefEqProofs only [evr, id, reduceCtorEq, reduceIte, Nat.reduceMul, Nat.reduceAdd, Nat.reduceLT, Nat.reduceLeDiff, Nat.reduceEqDiff, Int.reduceLT, Int.reduceBEq, Int.reduceBNe, Nat.reduceBEq, res_one, List.append_nil, Int.toNat_zero, Nat.sub_self, Int.reduceToNat, evl]
  · have h1 : i = 16 := by simp only [decide_eq_false_iff_not] at h; omega
    subst h1
    refine Sat.exit ?_
    simp only [thenK, blockK, reduceIte]
    (repeat refine Sat.seq ?_)
    simp only [Res.cs]
    (refine Sat.region_k fun k hk => ?_; simp -implicitDefEqProofs only [evr, id, reduceCtorEq, reduceIte, Nat.reduceMul, Nat.reduceAdd, Nat.reduceLT, Nat.reduceLeDiff, Nat.reduceEqDiff, Int.reduceLT, Int.reduceBEq, Int.reduceBNe, Nat.reduceBEq, res_one, List.append_nil, Int.toNat_zero, Nat.sub_self, Int.reduceToNat])
    refine wcall_plain (lessG F x.quoted y.quoted) rfl (by rintro _ rfl; exact ok_plain rfl) ?_
    rintro r rfl
    simp -implicitDefEqProofs only [evr, id, reduceCtorEq, reduceIte, Nat.reduceMul, Nat.reduceAdd, Nat.reduceLT, Nat.reduceLeDiff, Nat.reduceEqDiff, Int.reduceLT, Int.reduceBEq, Int.reduceBNe, Nat.reduceBEq, res_one, List.append_nil, Int.toNat_zero, Nat.sub_self, Int.reduceToNat]
    (refine hk _ ?_; clear hk k; try show Sat _ _ _ _ _)
    refine Sat.ret ?_
    simp only [Try.results58, evr, id, reduceCtorEq, reduceIte, Nat.reduceMul, Nat.reduceAdd, Nat.reduceLT, Nat.reduceLeDiff, Nat.reduceEqDiff, Int.reduceLT, Int.reduceBEq, Int.reduceBNe, Nat.reduceBEq, res_one, List.append_nil, Int.toNat_zero, Nat.sub_self, Int.reduceToNat]
    rw [← ho, show x.wkeys.drop 16 = [x.quoted] from rfl, show y.wkeys.drop 16 = [y.quoted] from rfl, cmpL_cons]
    by_cases h : x.quoted = y.quoted
    · rw [if_pos h, ordI_zero.2 h]; rfl
    · rw [if_neg h]
end Go.Proofs.Ytkpmihaaijiihaa

/- The reference's order of results, by the evaluator: routescoperef24.Order. -/
set_option linter.unusedSimpArgs false
set_option linter.unusedVariables false
namespace Go.Proofs.Ytkpmihaaijiihaa
open Go.Sort Eng
set_option maxRecDepth 100000 in
theorem orderG (F : Frm) (ad : Option Addr) (cap : Nat) (xs : List Res) (hl : xs.length ≤ 1000000000) (hin : ∀ r ∈ xs, RgR r) :
    ContractN F Try.prog 40 [.sl ad xs.length cap 17 (resRd xs.toArray)] (fun o => ∃ a cap ys, OrdOf xs ys ∧ ys.length ≤ xs.length ∧ o = resRow a ys.length cap ys.toArray) := by
  refine contractN_of Try.func40 rfl (by kernel_rfl) ?_
  simp only [Try.ntmps40, argEnv]
  (repeat refine Sat.seq ?_)
  (refine Sat.region_k fun k hk => ?_; simp -implicitDefEqProofs only [evr, id, reduceCtorEq, reduceIte, Nat.reduceMul, Nat.reduceAdd, Nat.reduceLT, Nat.reduceLeDiff, Nat.reduceEqDiff, Int.reduceLT, Int.reduceBEq, Int.reduceBNe, Nat.reduceBEq, res_one, List.append_nil, Int.toNat_zero, Nat.sub_self, Int.reduceToNat, resRow, res_ro]; refine hk _ ?_; clear hk k; try show Sat _ _ _ _ _)
  (repeat refine Sat.seq ?_)
  (refine Sat.region_k fun k hk => ?_; simp -implicitDefEqProofs only [evr, id, reduceCtorEq, reduceIte, Nat.reduceMul, Nat.reduceAdd, Nat.reduceLT, Nat.reduceLeDiff, Nat.reduceEqDiff, Int.reduceLT, Int.reduceBEq, Int.reduceBNe, Nat.reduceBEq, res_one, List.append_nil, Int.toNat_zero, Nat.sub_self, Int.reduceToNat, resRow, res_ro]; refine hk _ ?_; clear hk k; try show Sat _ _ _ _ _)
  (repeat refine Sat.seq ?_)
  (refine Sat.region_k fun k hk => ?_; simp -implicitDefEqProofs only [evr, id, reduceCtorEq, reduceIte, Nat.reduceMul, Nat.reduceAdd, Nat.reduceLT, Nat.reduceLeDiff, Nat.reduceEqDiff, Int.reduceLT, Int.reduceBEq, Int.reduceBNe, Nat.reduceBEq, res_one, List.append_nil, Int.toNat_zero, Nat.sub_self, Int.reduceToNat, resRow, res_ro]; refine hk _ ?_; clear hk k; try show Sat _ _ _ _ _)
  refine Sat.adopt 3 39 17 (resRd #[]) rfl ?_
  (repeat refine Sat.seq ?_)
  refine Sat.block ?_
  refine Sat.loop (ι := Nat × Option Addr × Nat × List Res) (fun z => ⟨75, [(4, .i .i64 z.1), (0, .sl ad xs.length cap 17 (resRd xs.toArray)), (3, .os 0 z.2.1 z.2.2.2.length z.2.2.1)], [resRow z.2.1 z.2.2.2.length z.2.2.1 z.2.2.2.toArray]⟩)
    (fun z => z.1 ≤ xs.length ∧ OrdOf (xs.take z.1) z.2.2.2 ∧ z.2.2.2.length ≤ z.1) (fun z => xs.length - z.1) (0, none, 0, []) ⟨Nat.zero_le _, ⟨List.Pairwise.nil, fun r => by simp⟩, Nat.le_refl _⟩ (by simp -implicitDefEqProofs only [evr, id, reduceCtorEq, reduceIte, Nat.reduceMul, Nat.reduceAdd, Nat.reduceLT, Nat.reduceLeDiff, Nat.reduceEqDiff, Int.reduceLT, Int.reduceBEq, Int.reduceBNe, Nat.reduceBEq, res_one, List.append_nil, Int.toNat_zero, Nat.sub_self, Int.reduceToNat, resRow, res_ro, evl]; first | rfl | trace_state) ?_
  rintro ⟨i, a, c, ys⟩ ⟨hi, ho, hyl⟩
  simp only [resRow] at hi ho hyl ⊢
  (repeat refine Sat.seq ?_)
  (refine Sat.region_k fun k hk => ?_; simp -implicitDefEqProofs only [evr, id, reduceCtorEq, reduceIte, Nat.reduceMul, Nat.reduceAdd, Nat.reduceLT, Nat.reduceLeDiff, Nat.reduceEqDiff, Int.reduceLT, Int.reduceBEq, Int.reduceBNe, Nat.reduceBEq, res_one, List.append_nil, Int.toNat_zero, Nat.sub_self, Int.reduceToNat, resRow, res_ro]; refine hk _ ?_; clear hk k; try show Sat _ _ _ _ _)
  (repeat refine Sat.seq ?_)
  refine Sat.cond_b rfl (fun h => ?_) (fun h => ?_)
  · have h1 : i < xs.length := by simp only [decide_eq_true_eq] at h; omega
    have e2 : IntKind.i64.wrap ((i : Int) + 1) = ((i + 1 : Nat) : Int) := by rw [w64 (by omega)]; omega
    obtain ⟨r, hr⟩ : ∃ r, xs.toArray[i]! = r := ⟨_, rfl⟩
    have hr' : xs[i] = r := by rw [← hr, getB h1]
    have hrg : RgR r := hin r (by rw [← hr']; exact List.getElem_mem h1)
    have hyin : ∀ q, q < ys.length → RgR ys.toArray[q]! := fun q hq => by
      rw [getB hq]
      exact hin _ (List.mem_of_mem_take ((ho.2 _).1 (List.getElem_mem hq)).1)
    refine Sat.skip ?_
    simp only [thenK]
    (repeat refine Sat.seq ?_)
    refine Sat.block ?_
    (repeat refine Sat.seq ?_)
    (refine Sat.region_k fun k hk => ?_; simp -implicitDefEqProofs only [evr, id, reduceCtorEq, reduceIte, Nat.reduceMul, Nat.reduceAdd, Nat.reduceLT, Nat.reduceLeDiff, Nat.reduceEqDiff, Int.reduceLT, Int.reduceBEq, Int.reduceBNe, Nat.reduceBEq, res_one, List.append_nil, Int.toNat_zero, Nat.sub_self, Int.reduceToNat, resRow, res_ro])
    refine ⟨by omega, ?_⟩
    refine wcall_plain (validG F xs.toArray[i]!) rfl (by rintro _ rfl; exact ok_plain rfl) ?_
    rintro r0 rfl
    simp -implicitDefEqProofs only [evr, id, reduceCtorEq, reduceIte, Nat.reduceMul, Nat.reduceAdd, Nat.reduceLT, Nat.reduceLeDiff, Nat.reduceEqDiff, Int.reduceLT, Int.reduceBEq, Int.reduceBNe, Nat.reduceBEq, res_one, List.append_nil, Int.toNat_zero, Nat.sub_self, Int.reduceToNat, resRow, res_ro]
    (refine hk _ ?_; clear hk k; try show Sat _ _ _ _ _)
    (repeat refine Sat.seq ?_)
    refine Sat.cond_b rfl (fun h2 => ?_) (fun h2 => ?_)
    · refine Sat.exit ?_
      simp only [blockK, thenK, reduceIte]
      refine Sat.region_k fun k hk => ?_
      simp -implicitDefEqProofs only [evr, id, reduceCtorEq, reduceIte, Nat.reduceMul, Nat.reduceAdd, Nat.reduceLT, Nat.reduceLeDiff, Nat.reduceEqDiff, Int.reduceLT, Int.reduceBEq, Int.reduceBNe, Nat.reduceBEq, res_one, List.append_nil, Int.toNat_zero, Nat.sub_self, Int.reduceToNat, resRow, res_ro, e2]
      refine hk _ ?_
      simp only [thenK, blockK]
      refine ⟨(i + 1, a, c, ys), ⟨by simp only; omega, ord_skip ho h1 hr' (fun hv => ?_), by simp only; omega⟩, by simp only; omega, ?_⟩
      · rw [hr, hv] at h2; cases h2
      · simp -implicitDefEqProofs only [evr, id, reduceCtorEq, reduceIte, Nat.reduceMul, Nat.reduceAdd, Nat.reduceLT, Nat.reduceLeDiff, Nat.reduceEqDiff, Int.reduceLT, Int.reduceBEq, Int.reduceBNe, Nat.reduceBEq, res_one, List.append_nil, Int.toNat_zero, Nat.sub_self, Int.reduceToNat, resRow, res_ro, evl]
    have hv : validR r = true := by rw [hr] at h2; simpa using h2
    refine Sat.skip ?_
    simp only [thenK]
    (repeat refine Sat.seq ?_)
    (refine Sat.region_k fun k hk => ?_; simp -implicitDefEqProofs only [evr, id, reduceCtorEq, reduceIte, Nat.reduceMul, Nat.reduceAdd, Nat.reduceLT, Nat.reduceLeDiff, Nat.reduceEqDiff, Int.reduceLT, Int.reduceBEq, Int.reduceBNe, Nat.reduceBEq, res_one, List.append_nil, Int.toNat_zero, Nat.sub_self, Int.reduceToNat, resRow, res_ro]; refine hk _ ?_; clear hk k; try show Sat _ _ _ _ _)
    (repeat refine Sat.seq ?_)
    refine Sat.block ?_
    refine Sat.loop (ι := Nat) (fun k => ⟨75, [(5, .i .i64 k), (4, .i .i64 i), (0, .sl ad xs.length cap 17 (resRd xs.toArray)), (3, .os 0 a ys.length c)], [resRow a ys.length c ys.toArray]⟩)
      (fun k => k ≤ ys.length ∧ ∀ q, k ≤ q → q < ys.length → pthLt r ys.toArray[q]! = true) (fun k => k) ys.length ⟨Nat.le_refl _, fun q h3 h4 => by omega⟩ (by simp -implicitDefEqProofs only [evr, id, reduceCtorEq, reduceIte, Nat.reduceMul, Nat.reduceAdd, Nat.reduceLT, Nat.reduceLeDiff, Nat.reduceEqDiff, Int.reduceLT, Int.reduceBEq, Int.reduceBNe, Nat.reduceBEq, res_one, List.append_nil, Int.toNat_zero, Nat.sub_self, Int.reduceToNat, resRow, res_ro, evl]; try exact ⟨rfl, rfl⟩) ?_
    rintro k0 ⟨hk0, hgt⟩
    simp only [resRow]
    have e4 : IntKind.i64.wrap ((k0 : Int) - 1) = (k0 : Int) - 1 := w64 (by omega)
    have e5 : ((k0 : Int) - 1).toNat = k0 - 1 := by omega
    (repeat refine Sat.seq ?_)
    refine Sat.at ⟨75, [(34, .b (decide (0 < k0) && decide (0 < wCompare ys.toArray[k0 - 1]! r))), (5, .i .i64 k0), (4, .i .i64 i), (0, .sl ad xs.length cap 17 (resRd xs.toArray)), (3, .os 0 a ys.length c)], [resRow a ys.length c ys.toArray]⟩ ?_ ?_
    · (refine Sat.region_qk (by kernel_rfl) (by kernel_rfl) fun k hk => ?_; simp -implicitDefEqProofs only [evr, id, reduceCtorEq, reduceIte, Nat.reduceMul, Nat.reduceAdd, Nat.reduceLT, Nat.reduceLeDiff, Nat.reduceEqDiff, Int.reduceLT, Int.reduceBEq, Int.reduceBNe, Nat.reduceBEq, res_one, List.append_nil, Int.toNat_zero, Nat.sub_self, Int.reduceToNat, resRow, res_ro])
      simp only [e4, e5]
      refine ⟨fun h3 => ⟨by omega, by omega, by omega, ?_⟩, fun h3 => hk _ ?_⟩
      · refine qcall (compareG Frm.nil ys.toArray[k0 - 1]! xs.toArray[i]!) rfl (ok_plain rfl) ?_
        simp -implicitDefEqProofs only [evr, id, reduceCtorEq, reduceIte, Nat.reduceMul, Nat.reduceAdd, Nat.reduceLT, Nat.reduceLeDiff, Nat.reduceEqDiff, Int.reduceLT, Int.reduceBEq, Int.reduceBNe, Nat.reduceBEq, res_one, List.append_nil, Int.toNat_zero, Nat.sub_self, Int.reduceToNat, resRow, res_ro]
        refine hk _ ?_
        have e : decide (0 < k0) = true := decide_eq_true (by omega)
        simp only [thenK, e, Bool.true_and, hr, resRow]
        simp -implicitDefEqProofs only [evr, id, reduceCtorEq, reduceIte, Nat.reduceMul, Nat.reduceAdd, Nat.reduceLT, Nat.reduceLeDiff, Nat.reduceEqDiff, Int.reduceLT, Int.reduceBEq, Int.reduceBNe, Nat.reduceBEq, res_one, List.append_nil, Int.toNat_zero, Nat.sub_self, Int.reduceToNat, resRow, res_ro, evl]
      · have e : decide (0 < k0) = false := decide_eq_false (by omega)
        simp only [thenK, e, Bool.false_and, resRow]
        simp -implicitDefEqProofs only [evr, id, reduceCtorEq, reduceIte, Nat.reduceMul, Nat.reduceAdd, Nat.reduceLT, Nat.reduceLeDiff, Nat.reduceEqDiff, Int.reduceLT, Int.reduceBEq, Int.reduceBNe, Nat.reduceBEq, res_one, List.append_nil, Int.toNat_zero, Nat.sub_self, Int.reduceToNat, resRow, res_ro, evl]
    simp only [thenK, resRow]
    refine Sat.cond_b rfl (fun h3 => ?_) (fun h3 => ?_)
    · simp only [Bool.and_eq_true, decide_eq_true_eq] at h3
      have hk1 : k0 - 1 < ys.length := by omega
      refine Sat.skip ?_
      simp only [thenK]
      (repeat refine Sat.seq ?_)
      refine Sat.block ?_
      refine Sat.region_k fun k hk => ?_
      simp -implicitDefEqProofs only [evr, id, reduceCtorEq, reduceIte, Nat.reduceMul, Nat.reduceAdd, Nat.reduceLT, Nat.reduceLeDiff, Nat.reduceEqDiff, Int.reduceLT, Int.reduceBEq, Int.reduceBNe, Nat.reduceBEq, res_one, List.append_nil, Int.toNat_zero, Nat.sub_self, Int.reduceToNat, resRow, res_ro, e4]
      refine hk _ ?_
      simp only [thenK, blockK]
      refine ⟨k0 - 1, ⟨by omega, fun q g1 g2 => ?_⟩, by omega, ?_⟩
      · have hpos : pthLt r ys.toArray[k0 - 1]! = true := by
          have := h3.2
          rw [wCompare_in (hyin _ hk1) hrg] at this
          exact pthCompare_pos.1 this
        rcases (show q = k0 - 1 ∨ k0 ≤ q by omega) with rfl | g3
        · exact hpos
        · exact hgt q g3 g2
      · simp -implicitDefEqProofs only [evr, id, reduceCtorEq, reduceIte, Nat.reduceMul, Nat.reduceAdd, Nat.reduceLT, Nat.reduceLeDiff, Nat.reduceEqDiff, Int.reduceLT, Int.reduceBEq, Int.reduceBNe, Nat.reduceBEq, res_one, List.append_nil, Int.toNat_zero, Nat.sub_self, Int.reduceToNat, resRow, res_ro, evl]
        omega
    have hstop : ¬ (0 < k0 ∧ 0 < wCompare ys.toArray[k0 - 1]! r) := fun hh => by
      rw [decide_eq_true hh.1, decide_eq_true hh.2] at h3; cases h3
    refine Sat.exit ?_
    simp only [thenK, blockK, reduceIte]
    (repeat refine Sat.seq ?_)
    refine Sat.at ⟨75, [(51, .b (decide (0 < k0) && decide (wCompare ys.toArray[k0 - 1]! r = 0))), (5, .i .i64 k0), (4, .i .i64 i), (0, .sl ad xs.length cap 17 (resRd xs.toArray)), (3, .os 0 a ys.length c)], [resRow a ys.length c ys.toArray]⟩ ?_ ?_
    · (refine Sat.region_qk (by kernel_rfl) (by kernel_rfl) fun k hk => ?_; simp -implicitDefEqProofs only [evr, id, reduceCtorEq, reduceIte, Nat.reduceMul, Nat.reduceAdd, Nat.reduceLT, Nat.reduceLeDiff, Nat.reduceEqDiff, Int.reduceLT, Int.reduceBEq, Int.reduceBNe, Nat.reduceBEq, res_one, List.append_nil, Int.toNat_zero, Nat.sub_self, Int.reduceToNat, resRow, res_ro])
      simp only [e4, e5]
      refine ⟨fun h3 => ⟨by omega, by omega, by omega, ?_⟩, fun h3 => hk _ ?_⟩
      · refine qcall (compareG Frm.nil ys.toArray[k0 - 1]! xs.toArray[i]!) rfl (ok_plain rfl) ?_
        simp -implicitDefEqProofs only [evr, id, reduceCtorEq, reduceIte, Nat.reduceMul, Nat.reduceAdd, Nat.reduceLT, Nat.reduceLeDiff, Nat.reduceEqDiff, Int.reduceLT, Int.reduceBEq, Int.reduceBNe, Nat.reduceBEq, res_one, List.append_nil, Int.toNat_zero, Nat.sub_self, Int.reduceToNat, resRow, res_ro]
        refine hk _ ?_
        have e : decide (0 < k0) = true := decide_eq_true (by omega)
        simp only [thenK, e, Bool.true_and, hr, resRow]
        simp -implicitDefEqProofs only [evr, id, reduceCtorEq, reduceIte, Nat.reduceMul, Nat.reduceAdd, Nat.reduceLT, Nat.reduceLeDiff, Nat.reduceEqDiff, Int.reduceLT, Int.reduceBEq, Int.reduceBNe, Nat.reduceBEq, res_one, List.append_nil, Int.toNat_zero, Nat.sub_self, Int.reduceToNat, resRow, res_ro, evl]
        exact .inl (Bool.eq_iff_iff.2 (by simp))
      · have e : decide (0 < k0) = false := decide_eq_false (by omega)
        simp only [thenK, e, Bool.false_and, resRow]
        simp -implicitDefEqProofs only [evr, id, reduceCtorEq, reduceIte, Nat.reduceMul, Nat.reduceAdd, Nat.reduceLT, Nat.reduceLeDiff, Nat.reduceEqDiff, Int.reduceLT, Int.reduceBEq, Int.reduceBNe, Nat.reduceBEq, res_one, List.append_nil, Int.toNat_zero, Nat.sub_self, Int.reduceToNat, resRow, res_ro, evl]
    simp only [thenK, resRow]
    refine Sat.cond_b rfl (fun h3 => ?_) (fun h3 => ?_)
    · simp only [Bool.and_eq_true, decide_eq_true_eq] at h3
      have hk1 : k0 - 1 < ys.length := by omega
      refine Sat.exit ?_
      simp only [blockK, thenK, reduceIte]
      refine Sat.region_k fun k hk => ?_
      simp -implicitDefEqProofs only [evr, id, reduceCtorEq, reduceIte, Nat.reduceMul, Nat.reduceAdd, Nat.reduceLT, Nat.reduceLeDiff, Nat.reduceEqDiff, Int.reduceLT, Int.reduceBEq, Int.reduceBNe, Nat.reduceBEq, res_one, List.append_nil, Int.toNat_zero, Nat.sub_self, Int.reduceToNat, resRow, res_ro, e2]
      refine hk _ ?_
      simp only [thenK, blockK]
      refine ⟨(i + 1, a, c, ys), ⟨by simp only; omega, ord_skip ho h1 hr' (fun _ => ?_), by simp only; omega⟩, by simp only; omega, ?_⟩
      · have h4 := h3.2
        rw [wCompare_in (hyin _ hk1) hrg, pthCompare_zero] at h4
        rw [← h4, getB hk1]
        exact List.getElem_mem hk1
      · simp -implicitDefEqProofs only [evr, id, reduceCtorEq, reduceIte, Nat.reduceMul, Nat.reduceAdd, Nat.reduceLT, Nat.reduceLeDiff, Nat.reduceEqDiff, Int.reduceLT, Int.reduceBEq, Int.reduceBNe, Nat.reduceBEq, res_one, List.append_nil, Int.toNat_zero, Nat.sub_self, Int.reduceToNat, resRow, res_ro, evl]
    have hne : ¬ (0 < k0 ∧ wCompare ys.toArray[k0 - 1]! r = 0) := fun hh => by
      rw [decide_eq_true hh.1, decide_eq_true hh.2] at h3; cases h3
    have hlt : ∀ q, q < k0 → pthLt ys.toArray[q]! r = true := by
      intro q hq
      have hk1 : k0 - 1 < ys.length := by omega
      have h5 : pthLt ys.toArray[k0 - 1]! r = true := by
        have g1 : ¬ 0 < wCompare ys.toArray[k0 - 1]! r := fun hh => hstop ⟨by omega, hh⟩
        have g2 : wCompare ys.toArray[k0 - 1]! r ≠ 0 := fun hh => hne ⟨by omega, hh⟩
        rw [wCompare_in (hyin _ hk1) hrg] at g1 g2
        unfold pthLt
        exact decide_eq_true (by omega)
      rcases (show q = k0 - 1 ∨ q < k0 - 1 by omega) with rfl | g3
      · exact h5
      · exact pthLt_trans _ _ _ (asc_lt ho.1 g3 hk1) h5
    refine Sat.skip ?_
    simp only [thenK]
    (repeat refine Sat.seq ?_)
    (refine Sat.region_k fun k hk => ?_; simp -implicitDefEqProofs only [evr, id, reduceCtorEq, reduceIte, Nat.reduceMul, Nat.reduceAdd, Nat.reduceLT, Nat.reduceLeDiff, Nat.reduceEqDiff, Int.reduceLT, Int.reduceBEq, Int.reduceBNe, Nat.reduceBEq, res_one, List.append_nil, Int.toNat_zero, Nat.sub_self, Int.reduceToNat, resRow, res_ro])
    refine ⟨by omega, fun b3 => ⟨⟨by unfold maxLen; omega, by omega⟩, fun a2 cap2 => ?_⟩⟩
    (refine hk _ ?_; clear hk k; try show Sat _ _ _ _ _)
    refine Sat.know_row 0 rfl fun hcap => ?_
    have e6 : IntKind.i64.wrap ((k0 : Int) + 1) = ((k0 + 1 : Nat) : Int) := by rw [w64 (by omega)]; omega
    (repeat refine Sat.seq ?_)
    refine Sat.at ⟨75, [(5, .i .i64 k0), (4, .i .i64 i), (0, .sl ad xs.length cap 17 (resRd xs.toArray)), (3, .os 0 a2 (ys.length + 1) cap2)],
      [.row a2 39 (ys.length + 1) cap2 17 (rdMove (k0 + 1) k0 (ys.length - k0) (rdCat ys.length (resRd ys.toArray) (rdL (Res.cs r) 17)))]⟩ ?_ ?_
    · (refine Sat.region_tree (.keep [0, 1, 2, 4, 5] [] (.alt 3 (.one 6 (.one 7 .done)) (.alt 6 (.one 3 (.one 7 .done)) .none))) (by kernel_rfl) (by kernel_rfl) (fun _ _ h => h) fun k hk => ?_; simp only [WOT, List.map_cons, List.map_nil, List.getD_cons_zero, List.getD_cons_succ]; simp -implicitDefEqProofs only [evr, id, reduceCtorEq, reduceIte, Nat.reduceMul, Nat.reduceAdd, Nat.reduceLT, Nat.reduceLeDiff, Nat.reduceEqDiff, Int.reduceLT, Int.reduceBEq, Int.reduceBNe, Nat.reduceBEq, res_one, List.append_nil, Int.toNat_zero, Nat.sub_self, Int.reduceToNat, resRow, res_ro, WOT])
      simp -implicitDefEqProofs only [evr, id, reduceCtorEq, reduceIte, Nat.reduceMul, Nat.reduceAdd, Nat.reduceLT, Nat.reduceLeDiff, Nat.reduceEqDiff, Int.reduceLT, Int.reduceBEq, Int.reduceBNe, Nat.reduceBEq, res_one, List.append_nil, Int.toNat_zero, Nat.sub_self, Int.reduceToNat, resRow, res_ro, e6]
      repeat' (with_reducible refine And.intro ?_ ?_)
      all_goals first | omega | skip
      all_goals
        refine hk _ ?_
        simp only [thenK, show min (ys.length + 1 - k0) (ys.length + 1 - (k0 + 1)) = ys.length - k0 by omega, ← hr]
        simp -implicitDefEqProofs only [evr, id, reduceCtorEq, reduceIte, Nat.reduceMul, Nat.reduceAdd, Nat.reduceLT, Nat.reduceLeDiff, Nat.reduceEqDiff, Int.reduceLT, Int.reduceBEq, Int.reduceBNe, Nat.reduceBEq, res_one, List.append_nil, Int.toNat_zero, Nat.sub_self, Int.reduceToNat, resRow, res_ro, evl]
        exact fun _ _ _ _ => rfl
    simp only [thenK]
    (refine Sat.region_k fun k hk => ?_; simp -implicitDefEqProofs only [evr, id, reduceCtorEq, reduceIte, Nat.reduceMul, Nat.reduceAdd, Nat.reduceLT, Nat.reduceLeDiff, Nat.reduceEqDiff, Int.reduceLT, Int.reduceBEq, Int.reduceBNe, Nat.reduceBEq, res_one, List.append_nil, Int.toNat_zero, Nat.sub_self, Int.reduceToNat, resRow, res_ro])
    refine ⟨by omega, by omega, by omega, ?_⟩
    (refine hk _ ?_; clear hk k; try show Sat _ _ _ _ _)
    refine Sat.region_k fun k hk => ?_
    simp -implicitDefEqProofs only [evr, id, reduceCtorEq, reduceIte, Nat.reduceMul, Nat.reduceAdd, Nat.reduceLT, Nat.reduceLeDiff, Nat.reduceEqDiff, Int.reduceLT, Int.reduceBEq, Int.reduceBNe, Nat.reduceBEq, res_one, List.append_nil, Int.toNat_zero, Nat.sub_self, Int.reduceToNat, resRow, res_ro, e2]
    refine hk _ ?_
    simp only [thenK, blockK]
    have hil := insL_len (ys := ys) (r := r) hk0
    refine ⟨(i + 1, a2, cap2, insL ys k0 r), ⟨by simp only; omega, ord_ins ho h1 hr' hv hk0 hlt hgt, by simp only; omega⟩, by simp only; omega, ?_⟩
    simp only [hil]
    simp -implicitDefEqProofs only [evr, id, reduceCtorEq, reduceIte, Nat.reduceMul, Nat.reduceAdd, Nat.reduceLT, Nat.reduceLeDiff, Nat.reduceEqDiff, Int.reduceLT, Int.reduceBEq, Int.reduceBNe, Nat.reduceBEq, res_one, List.append_nil, Int.toNat_zero, Nat.sub_self, Int.reduceToNat, resRow, res_ro, evl]
    subst hr
    exact ins_rd Res.cs 17 (fun _ => rfl) hk0 rfl
  · have h1 : i = xs.length := by simp only [decide_eq_false_iff_not] at h; omega
    subst h1
    refine Sat.exit ?_
    simp only [thenK, blockK, reduceIte]
    (repeat refine Sat.seq ?_)
    (refine Sat.region_k fun k hk => ?_; simp -implicitDefEqProofs only [evr, id, reduceCtorEq, reduceIte, Nat.reduceMul, Nat.reduceAdd, Nat.reduceLT, Nat.reduceLeDiff, Nat.reduceEqDiff, Int.reduceLT, Int.reduceBEq, Int.reduceBNe, Nat.reduceBEq, res_one, List.append_nil, Int.toNat_zero, Nat.sub_self, Int.reduceToNat, resRow, res_ro]; refine hk _ ?_; clear hk k; try show Sat _ _ _ _ _)
    refine Sat.ret ?_
    simp only [Try.results40, evr, id, reduceCtorEq, reduceIte, Nat.reduceMul, Nat.reduceAdd, Nat.reduceLT, Nat.reduceLeDiff, Nat.reduceEqDiff, Int.reduceLT, Int.reduceBEq, Int.reduceBNe, Nat.reduceBEq, res_one, List.append_nil, Int.toNat_zero, Nat.sub_self, Int.reduceToNat, resRow, res_ro, retN, retNK, newRow]
    rw [List.take_length] at ho
    exact ⟨⟨rfl, rfl, rfl⟩, a, c, ys, ho, hyl, rfl⟩
end Go.Proofs.Ytkpmihaaijiihaa

/- The reference's traces and results of a trace, by the evaluator: CompareTrace, Traces (any traces), Of. -/
set_option linter.unusedSimpArgs false
set_option linter.unusedVariables false
namespace Go.Proofs.Ytkpmihaaijiihaa
open Go.Sort Eng
def pairC3 (x y : Tre) : List SV := [.i .i64 x.van, .i .i64 y.van, .i .i64 (w64i x.dst), .i .i64 (w64i y.dst), .i .i64 x.pro, .i .i64 y.pro]
def pairR3 (x y : Tre) : Nat → SV := fun j => (pairC3 x y).getD j default
def Tre.wk (t : Tre) : List Int := [t.van, w64i t.dst, t.pro]
def ctI (x y : Tre) : Int := cmpL x.wk y.wk
theorem pair_get3 (x y : Tre) (i : Nat) (h : i < 3) : pairR3 x y (i * 2) = .i .i64 (x.wk.getD i 0) ∧ pairR3 x y (i * 2 + 1) = .i .i64 (y.wk.getD i 0) := by
  rcases (show i = 0 ∨ i = 1 ∨ i = 2 by omega) with rfl | rfl | rfl <;> exact ⟨rfl, rfl⟩
set_option maxRecDepth 100000 in
theorem ctraceG (F : Frm) (x y : Tre) : Contract F Try.prog 39 [treAg x, treAg y] (fun r => r = .i .i64 (ctI x y)) := by
  refine contract_of Try.func39 rfl (by kernel_rfl) ?_
  simp only [Try.ntmps39, argEnv, treAg, Tre.cs]
  (repeat refine Sat.seq ?_)
  (refine Sat.region_k fun k hk => ?_; simp -implicitDefEqProofs only [evr, id, reduceCtorEq, reduceIte, Nat.reduceMul, Nat.reduceAdd, Nat.reduceLT, Nat.reduceLeDiff, Nat.reduceEqDiff, Int.reduceLT, Int.reduceBEq, Int.reduceBNe, Nat.reduceBEq, res_one, List.append_nil, Int.toNat_zero, Nat.sub_self, Int.reduceToNat, resRow, res_ro, treRow, tre_one, tre_ro, tre_eqr])
  intro blk1 blk2
  (refine hk _ ?_; clear hk k; try show Sat _ _ _ _ _)
  (repeat refine Sat.seq ?_)
  (refine Sat.region_k fun k hk => ?_; simp -implicitDefEqProofs only [evr, id, reduceCtorEq, reduceIte, Nat.reduceMul, Nat.reduceAdd, Nat.reduceLT, Nat.reduceLeDiff, Nat.reduceEqDiff, Int.reduceLT, Int.reduceBEq, Int.reduceBNe, Nat.reduceBEq, res_one, List.append_nil, Int.toNat_zero, Nat.sub_self, Int.reduceToNat, resRow, res_ro, treRow, tre_one, tre_ro, tre_eqr]; refine hk _ ?_; clear hk k; try show Sat _ _ _ _ _)
  (repeat refine Sat.seq ?_)
  refine Sat.block ?_
  refine Sat.loop (ι := Nat) (fun i => ⟨39, [(25, .i .i64 i), (24, .agg 6 (pairR3 x y)), (4, .i .i64 0)], []⟩)
    (fun i => i ≤ 3 ∧ cmpL (x.wk.drop i) (y.wk.drop i) = ctI x y) (fun i => 3 - i) 0 ⟨Nat.zero_le _, rfl⟩ (by simp -implicitDefEqProofs only [evr, id, reduceCtorEq, reduceIte, Nat.reduceMul, Nat.reduceAdd, Nat.reduceLT, Nat.reduceLeDiff, Nat.reduceEqDiff, Int.reduceLT, Int.reduceBEq, Int.reduceBNe, Nat.reduceBEq, res_one, List.append_nil, Int.toNat_zero, Nat.sub_self, Int.reduceToNat, resRow, res_ro, treRow, tre_one, tre_ro, tre_eqr, evl]; exact ⟨rfl, rfl⟩) ?_
  rintro i ⟨hi, ho⟩
  (repeat refine Sat.seq ?_)
  (refine Sat.region_k fun k hk => ?_; simp -implicitDefEqProofs only [evr, id, reduceCtorEq, reduceIte, Nat.reduceMul, Nat.reduceAdd, Nat.reduceLT, Nat.reduceLeDiff, Nat.reduceEqDiff, Int.reduceLT, Int.reduceBEq, Int.reduceBNe, Nat.reduceBEq, res_one, List.append_nil, Int.toNat_zero, Nat.sub_self, Int.reduceToNat, resRow, res_ro, treRow, tre_one, tre_ro, tre_eqr]; refine hk _ ?_; clear hk k; try show Sat _ _ _ _ _)
  (repeat refine Sat.seq ?_)
  refine Sat.cond_b rfl (fun h => ?_) (fun h => ?_)
  · have h1 : i < 3 := by simp only [decide_eq_true_eq] at h; omega
    obtain ⟨e0, e1⟩ := pair_get3 x y i h1
    have e2 : IntKind.i64.wrap ((i : Int) + 1) = ((i + 1 : Nat) : Int) := by rw [w64 (by omega)]; omega
    refine Sat.skip ?_
    simp only [thenK]
    (repeat refine Sat.seq ?_)
    refine Sat.block ?_
    (repeat refine Sat.seq ?_)
    refine Sat.region_k fun k hk => ?_
    simp -implicitDefEqProofs only [evr, id, reduceCtorEq, reduceIte, Nat.reduceMul, Nat.reduceAdd, Nat.reduceLT, Nat.reduceLeDiff, Nat.reduceEqDiff, Int.reduceLT, Int.reduceBEq, Int.reduceBNe, Nat.reduceBEq, res_one, List.append_nil, Int.toNat_zero, Nat.sub_self, Int.reduceToNat, resRow, res_ro, treRow, tre_one, tre_ro, tre_eqr, e0, e1]
    refine ⟨by omega, by omega, fun b4 => ?_⟩
    (refine hk _ ?_; clear hk k; try show Sat _ _ _ _ _)
    (repeat refine Sat.seq ?_)
    (refine Sat.region_k fun k hk => ?_; simp -implicitDefEqProofs only [evr, id, reduceCtorEq, reduceIte, Nat.reduceMul, Nat.reduceAdd, Nat.reduceLT, Nat.reduceLeDiff, Nat.reduceEqDiff, Int.reduceLT, Int.reduceBEq, Int.reduceBNe, Nat.reduceBEq, res_one, List.append_nil, Int.toNat_zero, Nat.sub_self, Int.reduceToNat, resRow, res_ro, treRow, tre_one, tre_ro, tre_eqr])
    refine ⟨by omega, by omega, ?_⟩
    (refine hk _ ?_; clear hk k; try show Sat _ _ _ _ _)
    (repeat refine Sat.seq ?_)
    refine Sat.cond_b rfl (fun h2 => ?_) (fun h2 => ?_)
    · have h3 : ordI (x.wk.getD i 0) (y.wk.getD i 0) ≠ 0 := fun h => by
        rw [ordI_zero] at h
        simp only [bne_iff_ne, ne_eq] at h2
        exact h2 h
      (repeat refine Sat.seq ?_)
      (refine Sat.region_k fun k hk => ?_; simp -implicitDefEqProofs only [evr, id, reduceCtorEq, reduceIte, Nat.reduceMul, Nat.reduceAdd, Nat.reduceLT, Nat.reduceLeDiff, Nat.reduceEqDiff, Int.reduceLT, Int.reduceBEq, Int.reduceBNe, Nat.reduceBEq, res_one, List.append_nil, Int.toNat_zero, Nat.sub_self, Int.reduceToNat, resRow, res_ro, treRow, tre_one, tre_ro, tre_eqr])
      refine ⟨by omega, by omega, ?_⟩
      refine wcall_plain (lessG F (x.wk.getD i 0) (y.wk.getD i 0)) rfl (by rintro _ rfl; exact ok_plain rfl) ?_
      rintro r rfl
      simp -implicitDefEqProofs only [evr, id, reduceCtorEq, reduceIte, Nat.reduceMul, Nat.reduceAdd, Nat.reduceLT, Nat.reduceLeDiff, Nat.reduceEqDiff, Int.reduceLT, Int.reduceBEq, Int.reduceBNe, Nat.reduceBEq, res_one, List.append_nil, Int.toNat_zero, Nat.sub_self, Int.reduceToNat, resRow, res_ro, treRow, tre_one, tre_ro, tre_eqr]
      (refine hk _ ?_; clear hk k; try show Sat _ _ _ _ _)
      refine Sat.ret ?_
      simp only [Try.results39, evr, id, reduceCtorEq, reduceIte, Nat.reduceMul, Nat.reduceAdd, Nat.reduceLT, Nat.reduceLeDiff, Nat.reduceEqDiff, Int.reduceLT, Int.reduceBEq, Int.reduceBNe, Nat.reduceBEq, res_one, List.append_nil, Int.toNat_zero, Nat.sub_self, Int.reduceToNat, resRow, res_ro, treRow, tre_one, tre_ro, tre_eqr]
      rw [← ho, cmpL_drop _ _ i (by exact h1) (by exact h1), if_pos h3]
    · have h3 : ordI (x.wk.getD i 0) (y.wk.getD i 0) = 0 := by
        rw [ordI_zero]
        simpa using h2
      refine Sat.skip ?_
      simp only [thenK, blockK]
      refine Sat.region_k fun k hk => ?_
      simp -implicitDefEqProofs only [evr, id, reduceCtorEq, reduceIte, Nat.reduceMul, Nat.reduceAdd, Nat.reduceLT, Nat.reduceLeDiff, Nat.reduceEqDiff, Int.reduceLT, Int.reduceBEq, Int.reduceBNe, Nat.reduceBEq, res_one, List.append_nil, Int.toNat_zero, Nat.sub_self, Int.reduceToNat, resRow, res_ro, treRow, tre_one, tre_ro, tre_eqr, e2]
      refine hk _ ?_
      simp only [thenK, blockK]
      refine ⟨i + 1, ⟨by omega, ?_⟩, by omega, ?_⟩
      · rw [← ho, cmpL_drop _ _ i (by exact h1) (by exact h1), if_neg (by rw [h3]; decide)]
      · simp -implicitDefEqProofs only [evr, id, reduceCtorEq, reduceIte, Nat.reduceMul, Nat.reduceAdd, Nat.reduceLT, Nat.reduceLeDiff, Nat.reduceEqDiff, Int.reduceLT, Int.reduceBEq, Int.reduceBNe, Nat.reduceBEq, res_one, List.append_nil, Int.toNat_zero, Nat.sub_self, Int.reduceToNat, resRow, res_ro, treRow, tre_one, tre_ro, tre_eqr, evl]
  · have h1 : i = 3 := by simp only [decide_eq_false_iff_not] at h; omega
    subst h1
    refine Sat.exit ?_
    simp only [thenK, blockK, reduceIte]
    (repeat refine Sat.seq ?_)
    (refine Sat.region_k fun k hk => ?_; simp -implicitDefEqProofs only [evr, id, reduceCtorEq, reduceIte, Nat.reduceMul, Nat.reduceAdd, Nat.reduceLT, Nat.reduceLeDiff, Nat.reduceEqDiff, Int.reduceLT, Int.reduceBEq, Int.reduceBNe, Nat.reduceBEq, res_one, List.append_nil, Int.toNat_zero, Nat.sub_self, Int.reduceToNat, resRow, res_ro, treRow, tre_one, tre_ro, tre_eqr]; refine hk _ ?_; clear hk k; try show Sat _ _ _ _ _)
    refine Sat.ret ?_
    simp only [Try.results39, evr, id, reduceCtorEq, reduceIte, Nat.reduceMul, Nat.reduceAdd, Nat.reduceLT, Nat.reduceLeDiff, Nat.reduceEqDiff, Int.reduceLT, Int.reduceBEq, Int.reduceBNe, Nat.reduceBEq, res_one, List.append_nil, Int.toNat_zero, Nat.sub_self, Int.reduceToNat, resRow, res_ro, treRow, tre_one, tre_ro, tre_eqr]
    rw [← ho]; rfl
theorem tre_eqb (d : Array Tre) (i : Nat) (a b c : Int) : aggEq Try.prog 64 3 (fun q => treRd d i q) 3 (fun j => [SV.i .i64 a, SV.i .u32 b, SV.i .i64 c].getD j default) = some (decide (d[i]! = ⟨a, b, c⟩)) := tre_eq d[i]! ⟨a, b, c⟩
set_option maxRecDepth 100000 in
theorem tracesG (F : Frm) (ad : Option Addr) (cap : Nat) (xs : List Res) (hl : xs.length ≤ 1000000000) :
    ContractN F Try.prog 22 [.sl ad xs.length cap 17 (resRd xs.toArray)] (fun o => ∃ (a : Option Addr) (cap : Nat) (ts : List Tre), ts.length ≤ xs.length ∧ o = treRow a ts.length cap ts.toArray) := by
  refine contractN_of Try.func22 rfl (by kernel_rfl) ?_
  simp only [Try.ntmps22, argEnv]
  (repeat refine Sat.seq ?_)
  (refine Sat.region_k fun k hk => ?_; simp -implicitDefEqProofs only [evr, id, reduceCtorEq, reduceIte, Nat.reduceMul, Nat.reduceAdd, Nat.reduceLT, Nat.reduceLeDiff, Nat.reduceEqDiff, Int.reduceLT, Int.reduceBEq, Int.reduceBNe, Nat.reduceBEq, res_one, List.append_nil, Int.toNat_zero, Nat.sub_self, Int.reduceToNat, resRow, res_ro, treRow, tre_one, tre_ro, tre_eqr]; refine hk _ ?_; clear hk k; try show Sat _ _ _ _ _)
  (repeat refine Sat.seq ?_)
  (refine Sat.region_k fun k hk => ?_; simp -implicitDefEqProofs only [evr, id, reduceCtorEq, reduceIte, Nat.reduceMul, Nat.reduceAdd, Nat.reduceLT, Nat.reduceLeDiff, Nat.reduceEqDiff, Int.reduceLT, Int.reduceBEq, Int.reduceBNe, Nat.reduceBEq, res_one, List.append_nil, Int.toNat_zero, Nat.sub_self, Int.reduceToNat, resRow, res_ro, treRow, tre_one, tre_ro, tre_eqr]; refine hk _ ?_; clear hk k; try show Sat _ _ _ _ _)
  (repeat refine Sat.seq ?_)
  (refine Sat.region_k fun k hk => ?_; simp -implicitDefEqProofs only [evr, id, reduceCtorEq, reduceIte, Nat.reduceMul, Nat.reduceAdd, Nat.reduceLT, Nat.reduceLeDiff, Nat.reduceEqDiff, Int.reduceLT, Int.reduceBEq, Int.reduceBNe, Nat.reduceBEq, res_one, List.append_nil, Int.toNat_zero, Nat.sub_self, Int.reduceToNat, resRow, res_ro, treRow, tre_one, tre_ro, tre_eqr]; refine hk _ ?_; clear hk k; try show Sat _ _ _ _ _)
  refine Sat.adopt 3 64 3 (treRd #[]) rfl ?_
  (repeat refine Sat.seq ?_)
  refine Sat.block ?_
  refine Sat.loop (ι := Nat × Option Addr × Nat × List Tre) (fun z => ⟨68, [(4, .i .i64 z.1), (0, .sl ad xs.length cap 17 (resRd xs.toArray)), (3, .os 0 z.2.1 z.2.2.2.length z.2.2.1)], [treRow z.2.1 z.2.2.2.length z.2.2.1 z.2.2.2.toArray]⟩)
    (fun z => z.1 ≤ xs.length ∧ z.2.2.2.length ≤ z.1) (fun z => xs.length - z.1) (0, none, 0, []) ⟨Nat.zero_le _, Nat.le_refl _⟩ (by simp -implicitDefEqProofs only [evr, id, reduceCtorEq, reduceIte, Nat.reduceMul, Nat.reduceAdd, Nat.reduceLT, Nat.reduceLeDiff, Nat.reduceEqDiff, Int.reduceLT, Int.reduceBEq, Int.reduceBNe, Nat.reduceBEq, res_one, List.append_nil, Int.toNat_zero, Nat.sub_self, Int.reduceToNat, resRow, res_ro, treRow, tre_one, tre_ro, tre_eqr, evl]; first | rfl | trace_state) ?_
  rintro ⟨i, a, c, ts⟩ ⟨hi, hyl⟩
  simp only [treRow] at hi hyl ⊢
  (repeat refine Sat.seq ?_)
  (refine Sat.region_k fun k hk => ?_; simp -implicitDefEqProofs only [evr, id, reduceCtorEq, reduceIte, Nat.reduceMul, Nat.reduceAdd, Nat.reduceLT, Nat.reduceLeDiff, Nat.reduceEqDiff, Int.reduceLT, Int.reduceBEq, Int.reduceBNe, Nat.reduceBEq, res_one, List.append_nil, Int.toNat_zero, Nat.sub_self, Int.reduceToNat, resRow, res_ro, treRow, tre_one, tre_ro, tre_eqr]; refine hk _ ?_; clear hk k; try show Sat _ _ _ _ _)
  (repeat refine Sat.seq ?_)
  refine Sat.cond_b rfl (fun h => ?_) (fun h => ?_)
  · have h1 : i < xs.length := by simp only [decide_eq_true_eq] at h; omega
    have e2 : IntKind.i64.wrap ((i : Int) + 1) = ((i + 1 : Nat) : Int) := by rw [w64 (by omega)]; omega
    obtain ⟨t, ht⟩ : ∃ t, t = (xs.toArray[i]!).tre := ⟨_, rfl⟩
    refine Sat.skip ?_
    simp only [thenK]
    (repeat refine Sat.seq ?_)
    refine Sat.block ?_
    (repeat refine Sat.seq ?_)
    (refine Sat.region_k fun k hk => ?_; simp -implicitDefEqProofs only [evr, id, reduceCtorEq, reduceIte, Nat.reduceMul, Nat.reduceAdd, Nat.reduceLT, Nat.reduceLeDiff, Nat.reduceEqDiff, Int.reduceLT, Int.reduceBEq, Int.reduceBNe, Nat.reduceBEq, res_one, List.append_nil, Int.toNat_zero, Nat.sub_self, Int.reduceToNat, resRow, res_ro, treRow, tre_one, tre_ro, tre_eqr])
    refine ⟨by omega, ?_⟩
    refine wcall_plain (validG F xs.toArray[i]!) rfl (by rintro _ rfl; exact ok_plain rfl) ?_
    rintro r0 rfl
    simp -implicitDefEqProofs only [evr, id, reduceCtorEq, reduceIte, Nat.reduceMul, Nat.reduceAdd, Nat.reduceLT, Nat.reduceLeDiff, Nat.reduceEqDiff, Int.reduceLT, Int.reduceBEq, Int.reduceBNe, Nat.reduceBEq, res_one, List.append_nil, Int.toNat_zero, Nat.sub_self, Int.reduceToNat, resRow, res_ro, treRow, tre_one, tre_ro, tre_eqr]
    (refine hk _ ?_; clear hk k; try show Sat _ _ _ _ _)
    (repeat refine Sat.seq ?_)
    refine Sat.cond_b rfl (fun h2 => ?_) (fun h2 => ?_)
    · refine Sat.exit ?_
      simp only [blockK, thenK, reduceIte]
      refine Sat.region_k fun k hk => ?_
      simp -implicitDefEqProofs only [evr, id, reduceCtorEq, reduceIte, Nat.reduceMul, Nat.reduceAdd, Nat.reduceLT, Nat.reduceLeDiff, Nat.reduceEqDiff, Int.reduceLT, Int.reduceBEq, Int.reduceBNe, Nat.reduceBEq, res_one, List.append_nil, Int.toNat_zero, Nat.sub_self, Int.reduceToNat, resRow, res_ro, treRow, tre_one, tre_ro, tre_eqr, e2]
      refine hk _ ?_
      simp only [thenK, blockK]
      refine ⟨(i + 1, a, c, ts), ⟨by simp only; omega, by simp only; omega⟩, by simp only; omega, ?_⟩
      simp -implicitDefEqProofs only [evr, id, reduceCtorEq, reduceIte, Nat.reduceMul, Nat.reduceAdd, Nat.reduceLT, Nat.reduceLeDiff, Nat.reduceEqDiff, Int.reduceLT, Int.reduceBEq, Int.reduceBNe, Nat.reduceBEq, res_one, List.append_nil, Int.toNat_zero, Nat.sub_self, Int.reduceToNat, resRow, res_ro, treRow, tre_one, tre_ro, tre_eqr, evl]
    refine Sat.skip ?_
    simp only [thenK]
    (repeat refine Sat.seq ?_)
    (refine Sat.region_k fun k hk => ?_; simp -implicitDefEqProofs only [evr, id, reduceCtorEq, reduceIte, Nat.reduceMul, Nat.reduceAdd, Nat.reduceLT, Nat.reduceLeDiff, Nat.reduceEqDiff, Int.reduceLT, Int.reduceBEq, Int.reduceBNe, Nat.reduceBEq, res_one, List.append_nil, Int.toNat_zero, Nat.sub_self, Int.reduceToNat, resRow, res_ro, treRow, tre_one, tre_ro, tre_eqr])
    refine ⟨by omega, ?_⟩
    refine wcall_plain (traceOfG F xs.toArray[i]!) rfl (by rintro _ rfl; exact trcAg_ok _) ?_
    rintro r0 rfl
    simp only [trcAg, evr, id, reduceCtorEq, reduceIte, Nat.reduceMul, Nat.reduceAdd, Nat.reduceLT, Nat.reduceLeDiff, Nat.reduceEqDiff, Int.reduceLT, Int.reduceBEq, Int.reduceBNe, Nat.reduceBEq, res_one, List.append_nil, Int.toNat_zero, Nat.sub_self, Int.reduceToNat, resRow, res_ro, treRow, tre_one, tre_ro, tre_eqr]
    intro b5
    (refine hk _ ?_; clear hk k; try show Sat _ _ _ _ _)
    (repeat refine Sat.seq ?_)
    (refine Sat.region_k fun k hk => ?_; simp -implicitDefEqProofs only [evr, id, reduceCtorEq, reduceIte, Nat.reduceMul, Nat.reduceAdd, Nat.reduceLT, Nat.reduceLeDiff, Nat.reduceEqDiff, Int.reduceLT, Int.reduceBEq, Int.reduceBNe, Nat.reduceBEq, res_one, List.append_nil, Int.toNat_zero, Nat.sub_self, Int.reduceToNat, resRow, res_ro, treRow, tre_one, tre_ro, tre_eqr]; refine hk _ ?_; clear hk k; try show Sat _ _ _ _ _)
    (repeat refine Sat.seq ?_)
    refine Sat.block ?_
    refine Sat.loop (ι := Nat) (fun k => ⟨68, [(6, .i .i64 k), (5, .op 1 b5 0), (4, .i .i64 i), (0, .sl ad xs.length cap 17 (resRd xs.toArray)), (3, .os 0 a ts.length c)], [treRow a ts.length c ts.toArray, .box b5 64 (Tre.cs t)]⟩)
      (fun k => k ≤ ts.length) (fun k => ts.length - k) 0 (Nat.zero_le _) (by subst ht; simp -implicitDefEqProofs only [evr, id, reduceCtorEq, reduceIte, Nat.reduceMul, Nat.reduceAdd, Nat.reduceLT, Nat.reduceLeDiff, Nat.reduceEqDiff, Int.reduceLT, Int.reduceBEq, Int.reduceBNe, Nat.reduceBEq, res_one, List.append_nil, Int.toNat_zero, Nat.sub_self, Int.reduceToNat, resRow, res_ro, treRow, tre_one, tre_ro, tre_eqr, evl]; first | exact ⟨rfl, rfl⟩ | rfl | trace_state) ?_
    rintro k0 hk0
    simp only [treRow, Tre.cs]
    (repeat refine Sat.seq ?_)
    refine Sat.atF (ι := Bool) (fun b => ⟨68, [(36, .b b), (6, .i .i64 k0), (5, .op 1 b5 0), (4, .i .i64 i), (0, .sl ad xs.length cap 17 (resRd xs.toArray)), (3, .os 0 a ts.length c)], [treRow a ts.length c ts.toArray, .box b5 64 (Tre.cs t)]⟩) (fun b => b = true → k0 < ts.length) ?_ ?_
    · (refine Sat.region_qk (by kernel_rfl) (by kernel_rfl) fun k hk => ?_; simp -implicitDefEqProofs only [evr, id, reduceCtorEq, reduceIte, Nat.reduceMul, Nat.reduceAdd, Nat.reduceLT, Nat.reduceLeDiff, Nat.reduceEqDiff, Int.reduceLT, Int.reduceBEq, Int.reduceBNe, Nat.reduceBEq, res_one, List.append_nil, Int.toNat_zero, Nat.sub_self, Int.reduceToNat, resRow, res_ro, treRow, tre_one, tre_ro, tre_eqr])
      refine ⟨fun h3 => ⟨by omega, by omega, ?_⟩, fun h3 => hk _ ?_⟩
      · refine qcall (ctraceG Frm.nil ts.toArray[k0]! t) rfl (ok_plain rfl) ?_
        simp -implicitDefEqProofs only [evr, id, reduceCtorEq, reduceIte, Nat.reduceMul, Nat.reduceAdd, Nat.reduceLT, Nat.reduceLeDiff, Nat.reduceEqDiff, Int.reduceLT, Int.reduceBEq, Int.reduceBNe, Nat.reduceBEq, res_one, List.append_nil, Int.toNat_zero, Nat.sub_self, Int.reduceToNat, resRow, res_ro, treRow, tre_one, tre_ro, tre_eqr]
        refine hk _ ?_
        simp only [thenK, treRow, Tre.cs]
        refine ⟨decide (ctI ts.toArray[k0]! t < 0), fun _ => by omega, ?_⟩
        simp -implicitDefEqProofs only [evr, id, reduceCtorEq, reduceIte, Nat.reduceMul, Nat.reduceAdd, Nat.reduceLT, Nat.reduceLeDiff, Nat.reduceEqDiff, Int.reduceLT, Int.reduceBEq, Int.reduceBNe, Nat.reduceBEq, res_one, List.append_nil, Int.toNat_zero, Nat.sub_self, Int.reduceToNat, resRow, res_ro, treRow, tre_one, tre_ro, tre_eqr, evl]
      · simp only [thenK, treRow, Tre.cs]
        refine ⟨false, fun h => (by cases h), ?_⟩
        simp -implicitDefEqProofs only [evr, id, reduceCtorEq, reduceIte, Nat.reduceMul, Nat.reduceAdd, Nat.reduceLT, Nat.reduceLeDiff, Nat.reduceEqDiff, Int.reduceLT, Int.reduceBEq, Int.reduceBNe, Nat.reduceBEq, res_one, List.append_nil, Int.toNat_zero, Nat.sub_self, Int.reduceToNat, resRow, res_ro, treRow, tre_one, tre_ro, tre_eqr, evl]
    rintro b hb
    simp only [thenK, treRow, Tre.cs]
    refine Sat.cond_b rfl (fun h3 => ?_) (fun h3 => ?_)
    · have hk1 := hb h3
      have e3 : IntKind.i64.wrap ((k0 : Int) + 1) = ((k0 + 1 : Nat) : Int) := by rw [w64 (by omega)]; omega
      refine Sat.skip ?_
      simp only [thenK]
      (repeat refine Sat.seq ?_)
      refine Sat.block ?_
      refine Sat.region_k fun k hk => ?_
      simp -implicitDefEqProofs only [evr, id, reduceCtorEq, reduceIte, Nat.reduceMul, Nat.reduceAdd, Nat.reduceLT, Nat.reduceLeDiff, Nat.reduceEqDiff, Int.reduceLT, Int.reduceBEq, Int.reduceBNe, Nat.reduceBEq, res_one, List.append_nil, Int.toNat_zero, Nat.sub_self, Int.reduceToNat, resRow, res_ro, treRow, tre_one, tre_ro, tre_eqr, e3]
      refine hk _ ?_
      simp only [thenK, blockK]
      refine ⟨k0 + 1, by omega, by omega, ?_⟩
      simp -implicitDefEqProofs only [evr, id, reduceCtorEq, reduceIte, Nat.reduceMul, Nat.reduceAdd, Nat.reduceLT, Nat.reduceLeDiff, Nat.reduceEqDiff, Int.reduceLT, Int.reduceBEq, Int.reduceBNe, Nat.reduceBEq, res_one, List.append_nil, Int.toNat_zero, Nat.sub_self, Int.reduceToNat, resRow, res_ro, treRow, tre_one, tre_ro, tre_eqr, evl]
    refine Sat.exit ?_
    simp only [thenK, blockK, reduceIte]
    (repeat refine Sat.seq ?_)
    refine Sat.atF (ι := Bool) (fun b => ⟨68, [(50, .b b), (6, .i .i64 k0), (5, .op 1 b5 0), (4, .i .i64 i), (0, .sl ad xs.length cap 17 (resRd xs.toArray)), (3, .os 0 a ts.length c)], [treRow a ts.length c ts.toArray, .box b5 64 (Tre.cs t)]⟩) (fun _ => True) ?_ ?_
    · (refine Sat.region_qk (by kernel_rfl) (by kernel_rfl) fun k hk => ?_; simp -implicitDefEqProofs only [evr, id, reduceCtorEq, reduceIte, Nat.reduceMul, Nat.reduceAdd, Nat.reduceLT, Nat.reduceLeDiff, Nat.reduceEqDiff, Int.reduceLT, Int.reduceBEq, Int.reduceBNe, Nat.reduceBEq, res_one, List.append_nil, Int.toNat_zero, Nat.sub_self, Int.reduceToNat, resRow, res_ro, treRow, tre_one, tre_ro, tre_eqr])
      simp -implicitDefEqProofs only [evr, id, reduceCtorEq, reduceIte, Nat.reduceMul, Nat.reduceAdd, Nat.reduceLT, Nat.reduceLeDiff, Nat.reduceEqDiff, Int.reduceLT, Int.reduceBEq, Int.reduceBNe, Nat.reduceBEq, res_one, List.append_nil, Int.toNat_zero, Nat.sub_self, Int.reduceToNat, resRow, res_ro, treRow, tre_one, tre_ro, tre_eqr, tre_eqb]
      refine ⟨fun h3 => ⟨by omega, by omega, hk _ ?_⟩, fun h3 => hk _ ?_⟩
      · simp only [thenK, treRow, Tre.cs]
        refine ⟨decide (ts.toArray[k0]! = (⟨t.van, t.dst, t.pro⟩ : Tre)), trivial, ?_⟩
        simp -implicitDefEqProofs only [evr, id, reduceCtorEq, reduceIte, Nat.reduceMul, Nat.reduceAdd, Nat.reduceLT, Nat.reduceLeDiff, Nat.reduceEqDiff, Int.reduceLT, Int.reduceBEq, Int.reduceBNe, Nat.reduceBEq, res_one, List.append_nil, Int.toNat_zero, Nat.sub_self, Int.reduceToNat, resRow, res_ro, treRow, tre_one, tre_ro, tre_eqr, evl]
      · simp only [thenK, treRow, Tre.cs]
        refine ⟨false, trivial, ?_⟩
        simp -implicitDefEqProofs only [evr, id, reduceCtorEq, reduceIte, Nat.reduceMul, Nat.reduceAdd, Nat.reduceLT, Nat.reduceLeDiff, Nat.reduceEqDiff, Int.reduceLT, Int.reduceBEq, Int.reduceBNe, Nat.reduceBEq, res_one, List.append_nil, Int.toNat_zero, Nat.sub_self, Int.reduceToNat, resRow, res_ro, treRow, tre_one, tre_ro, tre_eqr, evl]
    rintro b4 _
    simp only [thenK, treRow, Tre.cs]
    refine Sat.cond_b rfl (fun h3 => ?_) (fun h3 => ?_)
    · refine Sat.exit ?_
      simp only [blockK, thenK, reduceIte]
      refine Sat.region_k fun k hk => ?_
      simp -implicitDefEqProofs only [evr, id, reduceCtorEq, reduceIte, Nat.reduceMul, Nat.reduceAdd, Nat.reduceLT, Nat.reduceLeDiff, Nat.reduceEqDiff, Int.reduceLT, Int.reduceBEq, Int.reduceBNe, Nat.reduceBEq, res_one, List.append_nil, Int.toNat_zero, Nat.sub_self, Int.reduceToNat, resRow, res_ro, treRow, tre_one, tre_ro, tre_eqr, e2]
      refine hk _ ?_
      simp only [thenK, blockK]
      refine ⟨(i + 1, a, c, ts), ⟨by simp only; omega, by simp only; omega⟩, by simp only; omega, ?_⟩
      simp -implicitDefEqProofs only [evr, id, reduceCtorEq, reduceIte, Nat.reduceMul, Nat.reduceAdd, Nat.reduceLT, Nat.reduceLeDiff, Nat.reduceEqDiff, Int.reduceLT, Int.reduceBEq, Int.reduceBNe, Nat.reduceBEq, res_one, List.append_nil, Int.toNat_zero, Nat.sub_self, Int.reduceToNat, resRow, res_ro, treRow, tre_one, tre_ro, tre_eqr, evl]
    refine Sat.skip ?_
    simp only [thenK]
    (repeat refine Sat.seq ?_)
    (refine Sat.region_k fun k hk => ?_; simp -implicitDefEqProofs only [evr, id, reduceCtorEq, reduceIte, Nat.reduceMul, Nat.reduceAdd, Nat.reduceLT, Nat.reduceLeDiff, Nat.reduceEqDiff, Int.reduceLT, Int.reduceBEq, Int.reduceBNe, Nat.reduceBEq, res_one, List.append_nil, Int.toNat_zero, Nat.sub_self, Int.reduceToNat, resRow, res_ro, treRow, tre_one, tre_ro, tre_eqr])
    intro b6
    refine ⟨⟨by unfold maxLen; omega, by omega⟩, fun a2 cap2 => ?_⟩
    (refine hk _ ?_; clear hk k; try show Sat _ _ _ _ _)
    refine Sat.know_row 0 rfl fun hcap => ?_
    have e6 : IntKind.i64.wrap ((k0 : Int) + 1) = ((k0 + 1 : Nat) : Int) := by rw [w64 (by omega)]; omega
    (repeat refine Sat.seq ?_)
    refine Sat.at ⟨68, [(6, .i .i64 k0), (5, .op 1 b5 0), (4, .i .i64 i), (0, .sl ad xs.length cap 17 (resRd xs.toArray)), (3, .os 0 a2 (ts.length + 1) cap2)],
      [.row a2 64 (ts.length + 1) cap2 3 (rdMove (k0 + 1) k0 (ts.length - k0) (rdCat ts.length (treRd ts.toArray) (rdL (Tre.cs t) 3))), .box b5 64 (Tre.cs t)]⟩ ?_ ?_
    · (refine Sat.region_tree (.keep [0, 1, 2, 4, 5] [] (.alt 3 (.one 6 (.one 7 .done)) (.alt 6 (.one 3 (.one 7 .done)) .none))) (by kernel_rfl) (by kernel_rfl) (fun _ _ h => h) fun k hk => ?_; simp only [WOT, List.map_cons, List.map_nil, List.getD_cons_zero, List.getD_cons_succ]; simp -implicitDefEqProofs only [evr, id, reduceCtorEq, reduceIte, Nat.reduceMul, Nat.reduceAdd, Nat.reduceLT, Nat.reduceLeDiff, Nat.reduceEqDiff, Int.reduceLT, Int.reduceBEq, Int.reduceBNe, Nat.reduceBEq, res_one, List.append_nil, Int.toNat_zero, Nat.sub_self, Int.reduceToNat, resRow, res_ro, treRow, tre_one, tre_ro, tre_eqr, WOT])
      simp -implicitDefEqProofs only [evr, id, reduceCtorEq, reduceIte, Nat.reduceMul, Nat.reduceAdd, Nat.reduceLT, Nat.reduceLeDiff, Nat.reduceEqDiff, Int.reduceLT, Int.reduceBEq, Int.reduceBNe, Nat.reduceBEq, res_one, List.append_nil, Int.toNat_zero, Nat.sub_self, Int.reduceToNat, resRow, res_ro, treRow, tre_one, tre_ro, tre_eqr, e6]
      repeat' (with_reducible refine And.intro ?_ ?_)
      all_goals first | omega | skip
      all_goals
        refine hk _ ?_
        simp only [thenK, show min (ts.length + 1 - k0) (ts.length + 1 - (k0 + 1)) = ts.length - k0 by omega, Tre.cs]
        simp -implicitDefEqProofs only [evr, id, reduceCtorEq, reduceIte, Nat.reduceMul, Nat.reduceAdd, Nat.reduceLT, Nat.reduceLeDiff, Nat.reduceEqDiff, Int.reduceLT, Int.reduceBEq, Int.reduceBNe, Nat.reduceBEq, res_one, List.append_nil, Int.toNat_zero, Nat.sub_self, Int.reduceToNat, resRow, res_ro, treRow, tre_one, tre_ro, tre_eqr, evl]
    simp only [thenK, Tre.cs]
    (refine Sat.region_k fun k hk => ?_; simp -implicitDefEqProofs only [evr, id, reduceCtorEq, reduceIte, Nat.reduceMul, Nat.reduceAdd, Nat.reduceLT, Nat.reduceLeDiff, Nat.reduceEqDiff, Int.reduceLT, Int.reduceBEq, Int.reduceBNe, Nat.reduceBEq, res_one, List.append_nil, Int.toNat_zero, Nat.sub_self, Int.reduceToNat, resRow, res_ro, treRow, tre_one, tre_ro, tre_eqr])
    refine ⟨by omega, by omega, ?_⟩
    (refine hk _ ?_; clear hk k; try show Sat _ _ _ _ _)
    refine Sat.region_k fun k hk => ?_
    simp -implicitDefEqProofs only [evr, id, reduceCtorEq, reduceIte, Nat.reduceMul, Nat.reduceAdd, Nat.reduceLT, Nat.reduceLeDiff, Nat.reduceEqDiff, Int.reduceLT, Int.reduceBEq, Int.reduceBNe, Nat.reduceBEq, res_one, List.append_nil, Int.toNat_zero, Nat.sub_self, Int.reduceToNat, resRow, res_ro, treRow, tre_one, tre_ro, tre_eqr, e2]
    refine hk _ ?_
    simp only [thenK, blockK]
    have hil := insL_len (ys := ts) (r := t) hk0
    refine ⟨(i + 1, a2, cap2, insL ts k0 t), ⟨by simp only; omega, by simp only; omega⟩, by simp only; omega, ?_⟩
    simp only [hil]
    simp -implicitDefEqProofs only [evr, id, reduceCtorEq, reduceIte, Nat.reduceMul, Nat.reduceAdd, Nat.reduceLT, Nat.reduceLeDiff, Nat.reduceEqDiff, Int.reduceLT, Int.reduceBEq, Int.reduceBNe, Nat.reduceBEq, res_one, List.append_nil, Int.toNat_zero, Nat.sub_self, Int.reduceToNat, resRow, res_ro, treRow, tre_one, tre_ro, tre_eqr, evl]
    exact ins_rd Tre.cs 3 (fun _ => rfl) hk0 rfl
  · have h1 : i = xs.length := by simp only [decide_eq_false_iff_not] at h; omega
    subst h1
    refine Sat.exit ?_
    simp only [thenK, blockK, reduceIte]
    (repeat refine Sat.seq ?_)
    (refine Sat.region_k fun k hk => ?_; simp -implicitDefEqProofs only [evr, id, reduceCtorEq, reduceIte, Nat.reduceMul, Nat.reduceAdd, Nat.reduceLT, Nat.reduceLeDiff, Nat.reduceEqDiff, Int.reduceLT, Int.reduceBEq, Int.reduceBNe, Nat.reduceBEq, res_one, List.append_nil, Int.toNat_zero, Nat.sub_self, Int.reduceToNat, resRow, res_ro, treRow, tre_one, tre_ro, tre_eqr]; refine hk _ ?_; clear hk k; try show Sat _ _ _ _ _)
    refine Sat.ret ?_
    simp only [Try.results22, evr, id, reduceCtorEq, reduceIte, Nat.reduceMul, Nat.reduceAdd, Nat.reduceLT, Nat.reduceLeDiff, Nat.reduceEqDiff, Int.reduceLT, Int.reduceBEq, Int.reduceBNe, Nat.reduceBEq, res_one, List.append_nil, Int.toNat_zero, Nat.sub_self, Int.reduceToNat, resRow, res_ro, treRow, tre_one, tre_ro, tre_eqr, retN, retNK, newRow]
    exact ⟨⟨rfl, rfl, rfl⟩, a, c, ts, hyl, rfl⟩
end Go.Proofs.Ytkpmihaaijiihaa

/- The reference's results of a trace, by the evaluator: Of. -/
set_option linter.unusedSimpArgs false
set_option linter.unusedVariables false
namespace Go.Proofs.Ytkpmihaaijiihaa
open Go.Sort Eng
theorem tre_eql (a b c d e f : Int) : aggEq Try.prog 64 3 (fun j => [SV.i .i64 a, SV.i .u32 b, SV.i .i64 c].getD j default) 3 (fun j => [SV.i .i64 d, SV.i .u32 e, SV.i .i64 f].getD j default) = some (decide ((⟨a, b, c⟩ : Tre) = ⟨d, e, f⟩)) := tre_eq ⟨a, b, c⟩ ⟨d, e, f⟩
def isTre (t : Tre) (r : Res) : Bool := decide (r.tre = t)
set_option maxRecDepth 100000 in
theorem ofG (F : Frm) (ad : Option Addr) (cap : Nat) (xs : List Res) (t : Tre) (hl : xs.length ≤ 1000000000) (hin : ∀ r ∈ xs, RgR r) :
    ContractN F Try.prog 23 [.sl ad xs.length cap 17 (resRd xs.toArray), treAg t] (fun o => ∃ (a : Option Addr) (cap : Nat) (ys : List Res), OrdOf xs ys ∧ ys.length ≤ xs.length ∧ o = resRow a (ys.filter (isTre t)).length cap (ys.filter (isTre t)).toArray) := by
  refine contractN_of Try.func23 rfl (by kernel_rfl) ?_
  simp only [Try.ntmps23, argEnv, treAg, Tre.cs]
  (repeat refine Sat.seq ?_)
  (refine Sat.region_k fun k hk => ?_; simp -implicitDefEqProofs only [evr, id, seval, res_one, List.append_nil, Int.toNat_zero, Nat.sub_self, Int.reduceToNat, resRow, res_ro, tre_eql])
  intro b1
  (refine hk _ ?_; clear hk k; try show Sat _ _ _ _ _)
  (repeat refine Sat.seq ?_)
  (refine Sat.region_k fun k hk => ?_; simp -implicitDefEqProofs only [evr, id, seval, res_one, List.append_nil, Int.toNat_zero, Nat.sub_self, Int.reduceToNat, resRow, res_ro, tre_eql])
  refine wcall_new (orderG F ad cap xs hl hin) rfl rfl ?_
  rintro ra ty len rc sz rrd ⟨a, c, ys, ho, hyl, e⟩
  simp only [resRow, Own.row.injEq] at e
  obtain ⟨rfl, rfl, rfl, rfl, rfl, rfl⟩ := e
  simp -implicitDefEqProofs only [evr, id, seval, res_one, List.append_nil, Int.toNat_zero, Nat.sub_self, Int.reduceToNat, resRow, res_ro, tre_eql]
  (refine hk _ ?_; clear hk k; try show Sat _ _ _ _ _)
  refine Sat.settle2 5 rfl rfl ?_
  simp -implicitDefEqProofs only [evr, id, seval, res_one, List.append_nil, Int.toNat_zero, Nat.sub_self, Int.reduceToNat, resRow, res_ro, tre_eql]
  (repeat refine Sat.seq ?_)
  (refine Sat.region_k fun k hk => ?_; simp -implicitDefEqProofs only [evr, id, seval, res_one, List.append_nil, Int.toNat_zero, Nat.sub_self, Int.reduceToNat, resRow, res_ro, tre_eql]; refine hk _ ?_; clear hk k; try show Sat _ _ _ _ _)
  (repeat refine Sat.seq ?_)
  (refine Sat.region_k fun k hk => ?_; simp -implicitDefEqProofs only [evr, id, seval, res_one, List.append_nil, Int.toNat_zero, Nat.sub_self, Int.reduceToNat, resRow, res_ro, tre_eql]; refine hk _ ?_; clear hk k; try show Sat _ _ _ _ _)
  refine Sat.adopt 6 39 17 (resRd #[]) rfl ?_
  (repeat refine Sat.seq ?_)
  refine Sat.block ?_
  refine Sat.loop (ι := Nat × Option Addr × Nat × List Res) (fun z => ⟨31, [(7, .i .i64 z.1), (6, .os 2 z.2.1 z.2.2.2.length z.2.2.1), (5, .sl ra ys.length rc 17 (resRd ys.toArray)), (3, .op 0 b1 0)], [.box b1 64 (Tre.cs t), .gone, resRow z.2.1 z.2.2.2.length z.2.2.1 z.2.2.2.toArray]⟩)
    (fun z => z.1 ≤ ys.length ∧ z.2.2.2 = (ys.take z.1).filter (isTre t)) (fun z => ys.length - z.1) (0, none, 0, []) ⟨Nat.zero_le _, rfl⟩ (by simp only [Tre.cs]; simp -implicitDefEqProofs only [evr, id, seval, res_one, List.append_nil, Int.toNat_zero, Nat.sub_self, Int.reduceToNat, resRow, res_ro, tre_eql, evl]; first | rfl | trace_state) ?_
  rintro ⟨i, a, c, zs⟩ ⟨hi, hy⟩
  simp only [resRow, Tre.cs] at hi hy ⊢
  have hzl : zs.length ≤ i := by rw [hy]; exact filter_take_len
  (repeat refine Sat.seq ?_)
  (refine Sat.region_k fun k hk => ?_; simp -implicitDefEqProofs only [evr, id, seval, res_one, List.append_nil, Int.toNat_zero, Nat.sub_self, Int.reduceToNat, resRow, res_ro, tre_eql]; refine hk _ ?_; clear hk k; try show Sat _ _ _ _ _)
  (repeat refine Sat.seq ?_)
  refine Sat.cond_b rfl (fun h => ?_) (fun h => ?_)
  · have h1 : i < ys.length := by simp only [decide_eq_true_eq] at h; omega
    have e2 : IntKind.i64.wrap ((i : Int) + 1) = ((i + 1 : Nat) : Int) := by rw [w64 (by omega)]; omega
    have hstep := filter_take_succ (p := isTre t) h1
    refine Sat.skip ?_
    simp only [thenK]
    (repeat refine Sat.seq ?_)
    refine Sat.block ?_
    (repeat refine Sat.seq ?_)
    (refine Sat.region_qk (by kernel_rfl) (by kernel_rfl) fun k hk => ?_; simp -implicitDefEqProofs only [evr, id, seval, res_one, List.append_nil, Int.toNat_zero, Nat.sub_self, Int.reduceToNat, resRow, res_ro, tre_eql])
    refine ⟨by omega, ?_⟩
    refine qcall (traceOfG Frm.nil ys.toArray[i]!) rfl (trcAg_ok _) ?_
    simp only [trcAg, evr, id, seval, res_one, List.append_nil, Int.toNat_zero, Nat.sub_self, Int.reduceToNat, resRow, res_ro, tre_eql]
    (refine hk _ ?_; clear hk k; try show Sat _ _ _ _ _)
    (repeat refine Sat.seq ?_)
    refine Sat.cond_b rfl (fun h2 => ?_) (fun h2 => ?_)
    · (repeat refine Sat.seq ?_)
      (refine Sat.region_k fun k hk => ?_; simp -implicitDefEqProofs only [evr, id, seval, res_one, List.append_nil, Int.toNat_zero, Nat.sub_self, Int.reduceToNat, resRow, res_ro, tre_eql])
      refine ⟨by omega, fun b3 => ⟨⟨by unfold maxLen; omega, by omega⟩, fun a2 cap2 => ?_⟩⟩
      (refine hk _ ?_; clear hk k; try show Sat _ _ _ _ _)
      refine Sat.region_k fun k hk => ?_
      simp -implicitDefEqProofs only [evr, id, seval, res_one, List.append_nil, Int.toNat_zero, Nat.sub_self, Int.reduceToNat, resRow, res_ro, tre_eql, e2]
      refine hk _ ?_
      simp only [thenK, blockK]
      have e3 : zs ++ [ys[i]] = (ys.take (i + 1)).filter (isTre t) := by
        rw [getB h1] at h2
        rw [hstep, ← hy, if_pos (by exact h2)]
      refine ⟨(i + 1, a2, cap2, zs ++ [ys[i]]), ⟨by simp only; omega, e3⟩, by simp only; omega, ?_⟩
      simp only [List.length_append, List.length_singleton]
      simp -implicitDefEqProofs only [evr, id, seval, res_one, List.append_nil, Int.toNat_zero, Nat.sub_self, Int.reduceToNat, resRow, res_ro, tre_eql, evl]
      exact res_app (res_cs h1)
    · refine Sat.skip ?_
      simp only [thenK, blockK]
      refine Sat.region_k fun k hk => ?_
      simp -implicitDefEqProofs only [evr, id, seval, res_one, List.append_nil, Int.toNat_zero, Nat.sub_self, Int.reduceToNat, resRow, res_ro, tre_eql, e2]
      refine hk _ ?_
      simp only [thenK, blockK]
      refine ⟨(i + 1, a, c, zs), ⟨by simp only; omega, ?_⟩, by simp only; omega, ?_⟩
      · rw [getB h1] at h2
        simp only
        rw [hstep, ← hy, if_neg (by intro hh; rw [show isTre t ys[i] = false from h2] at hh; cases hh), List.append_nil]
      · simp -implicitDefEqProofs only [evr, id, seval, res_one, List.append_nil, Int.toNat_zero, Nat.sub_self, Int.reduceToNat, resRow, res_ro, tre_eql, evl]
  · have h1 : i = ys.length := by simp only [decide_eq_false_iff_not] at h; omega
    have hzs : zs = ys.filter (isTre t) := by rw [hy, h1, List.take_length]
    refine Sat.exit ?_
    simp only [thenK, blockK, reduceIte]
    (repeat refine Sat.seq ?_)
    (refine Sat.region_k fun k hk => ?_; simp -implicitDefEqProofs only [evr, id, seval, res_one, List.append_nil, Int.toNat_zero, Nat.sub_self, Int.reduceToNat, resRow, res_ro, tre_eql]; refine hk _ ?_; clear hk k; try show Sat _ _ _ _ _)
    refine Sat.ret ?_
    simp only [Try.results23, evr, id, seval, res_one, List.append_nil, Int.toNat_zero, Nat.sub_self, Int.reduceToNat, resRow, res_ro, tre_eql, retN, retNK, newRow]
    exact ⟨⟨rfl, rfl, rfl⟩, a, c, ys, ho, hyl, by rw [hzs]⟩
end Go.Proofs.Ytkpmihaaijiihaa

/- Results of one trace, by the evaluator: dice.One. -/
set_option linter.unusedSimpArgs false
set_option linter.unusedVariables false
namespace Go.Proofs.Ytkpmihaaijiihaa
open Go.Sort Eng
structure OneOk (ys : List Res) : Prop where
  asc : Asc ys
  valid : ∀ r ∈ ys, validR r = true
  inr : ∀ r ∈ ys, RgR r
  one : oneT ys
  own : ∀ r ∈ ys, ∀ s ∈ ys, r.vantage = s.vantage → r.number = s.number → r = s
theorem OneOk.nil : OneOk [] := ⟨List.Pairwise.nil, fun r h => (by cases h), fun r h => (by cases h), fun r h => (by cases h), fun r h => (by cases h)⟩
theorem OneOk.of {xs ys : List Res} {n0 n1 : Nat} {t : Tre} (h : RltI xs n0 n1) (ho : OrdOf xs ys) : OneOk (ys.filter (isTre t)) := by
  have hm : ∀ r ∈ ys.filter (isTre t), r ∈ xs ∧ validR r = true ∧ r.tre = t := fun r hr => by
    obtain ⟨h1, h2⟩ := List.mem_filter.1 hr
    obtain ⟨h3, h4⟩ := (ho.2 r).1 h1
    exact ⟨h3, h4, by simpa [isTre] using h2⟩
  refine ⟨?_, fun r hr => (hm r hr).2.1, fun r hr => h.inr r (hm r hr).1, fun r hr s hs => (hm r hr).2.2.trans (hm s hs).2.2.symm, fun r hr s hs => h.own r (hm r hr).1 s (hm s hs).1⟩
  exact List.Pairwise.sublist List.filter_sublist ho.1
theorem OneOk.ord {ys : List Res} (h : OneOk ys) : OrdOf ys ys := .self h.asc h.valid
theorem OneOk.sub {ys zs : List Res} (h : OneOk ys) (hs : zs.Sublist ys) : OneOk zs :=
  ⟨List.Pairwise.sublist hs h.asc, fun r hr => h.valid r (hs.subset hr), fun r hr => h.inr r (hs.subset hr), fun r hr s hs' => h.one r (hs.subset hr) s (hs.subset hs'), fun r hr s hs' => h.own r (hs.subset hr) s (hs.subset hs')⟩
theorem sim_f : sim (.b false) .ff := ⟨rfl, fun _ _ _ => trivial⟩
set_option maxRecDepth 100000 in
theorem oneC0 (cb : Nat) (most : Nat) (hm : most ≤ 1000) :
    ContractN (Frm.codes cb) Try.prog 9 [ptr cb, .i .i64 most, .ff] (fun o => ∃ (a : Option Addr) (cap : Nat) (ys : List Res), OneOk ys ∧ ys.length ≤ most ∧ o = resRow a ys.length cap ys.toArray) := by
  refine contractN_of Try.func9 rfl (by kernel_rfl) ?_
  simp only [Try.ntmps9, argEnv, ptr]
  (repeat refine Sat.seq ?_)
  (refine Sat.region_k fun k hk => ?_; simp -implicitDefEqProofs only [evr, id, seval, ptr, res_one, List.append_nil, Int.toNat_zero, Nat.sub_self, Int.reduceToNat, resRow, treRow, tre_one, tre_ro, res_ro]; refine hk _ ?_; clear hk k; try show Sat _ _ _ _ _)
  (repeat refine Sat.seq ?_)
  (refine Sat.region_k fun k hk => ?_; simp -implicitDefEqProofs only [evr, id, seval, ptr, res_one, List.append_nil, Int.toNat_zero, Nat.sub_self, Int.reduceToNat, resRow, treRow, tre_one, tre_ro, res_ro])
  refine wcall_new (ContractN.of_sim (args := [ptr cb, .i .i64 most, .b false]) (resultsC cb most hm) ⟨sim_refl _, sim_refl _, sim_f, trivial⟩) rfl (by simp -implicitDefEqProofs only [evr, id, seval, ptr, res_one, List.append_nil, Int.toNat_zero, Nat.sub_self, Int.reduceToNat, resRow, treRow, tre_one, tre_ro, res_ro]) ?_
  rintro ra ty len rc sz rrd ⟨a, c, xs, n0, n1, hI, hxl, e⟩
  simp only [resRow, Own.row.injEq] at e
  obtain ⟨rfl, rfl, rfl, rfl, rfl, rfl⟩ := e
  simp -implicitDefEqProofs only [evr, id, seval, ptr, res_one, List.append_nil, Int.toNat_zero, Nat.sub_self, Int.reduceToNat, resRow, treRow, tre_one, tre_ro, res_ro]
  (refine hk _ ?_; clear hk k; try show Sat _ _ _ _ _)
  refine Sat.settle2 7 rfl rfl ?_
  simp -implicitDefEqProofs only [evr, id, seval, ptr, res_one, List.append_nil, Int.toNat_zero, Nat.sub_self, Int.reduceToNat, resRow, treRow, tre_one, tre_ro, res_ro]
  (repeat refine Sat.seq ?_)
  (refine Sat.region_k fun k hk => ?_; simp -implicitDefEqProofs only [evr, id, seval, ptr, res_one, List.append_nil, Int.toNat_zero, Nat.sub_self, Int.reduceToNat, resRow, treRow, tre_one, tre_ro, res_ro])
  refine wcall_new (tracesG (Frm.codes cb) ra rc xs (by omega)) rfl rfl ?_
  rintro ta ty len tc sz rrd ⟨a, c, ts, htl, e⟩
  simp only [treRow, Own.row.injEq] at e
  obtain ⟨rfl, rfl, rfl, rfl, rfl, rfl⟩ := e
  simp -implicitDefEqProofs only [evr, id, seval, ptr, res_one, List.append_nil, Int.toNat_zero, Nat.sub_self, Int.reduceToNat, resRow, treRow, tre_one, tre_ro, res_ro]
  (refine hk _ ?_; clear hk k; try show Sat _ _ _ _ _)
  refine Sat.settle2 8 rfl rfl ?_
  simp -implicitDefEqProofs only [evr, id, seval, ptr, res_one, List.append_nil, Int.toNat_zero, Nat.sub_self, Int.reduceToNat, resRow, treRow, tre_one, tre_ro, res_ro]
  (repeat refine Sat.seq ?_)
  (refine Sat.region_k fun k hk => ?_; simp -implicitDefEqProofs only [evr, id, seval, ptr, res_one, List.append_nil, Int.toNat_zero, Nat.sub_self, Int.reduceToNat, resRow, treRow, tre_one, tre_ro, res_ro]; refine hk _ ?_; clear hk k; try show Sat _ _ _ _ _)
  (repeat refine Sat.seq ?_)
  refine Sat.cond_b rfl (fun h => ?_) (fun h => ?_)
  · (repeat refine Sat.seq ?_)
    (refine Sat.region_k fun k hk => ?_; simp -implicitDefEqProofs only [evr, id, seval, ptr, res_one, List.append_nil, Int.toNat_zero, Nat.sub_self, Int.reduceToNat, resRow, treRow, tre_one, tre_ro, res_ro]; refine hk _ ?_; clear hk k; try show Sat _ _ _ _ _)
    refine Sat.adopt 6 39 17 (resRd #[]) rfl ?_
    refine Sat.ret ?_
    simp only [Try.results9, evr, id, seval, ptr, res_one, List.append_nil, Int.toNat_zero, Nat.sub_self, Int.reduceToNat, resRow, treRow, tre_one, tre_ro, res_ro, retN, retNK, newRow]
    exact ⟨⟨rfl, rfl, rfl⟩, none, 0, [], .nil, by simp, rfl⟩
  have ht0 : 0 < ts.length := by
    have : ¬ ((ts.length : Int) = 0) := by simpa using h
    omega
  refine Sat.skip ?_
  simp only [thenK]
  (repeat refine Sat.seq ?_)
  (refine Sat.region_k fun k hk => ?_; simp -implicitDefEqProofs only [evr, id, seval, ptr, res_one, List.append_nil, Int.toNat_zero, Nat.sub_self, Int.reduceToNat, resRow, treRow, tre_one, tre_ro, res_ro])
  refine wcall_plain (nextC cb ts.length (by omega) (by omega)) (by simp -implicitDefEqProofs only [evr, id, seval, ptr, res_one, List.append_nil, Int.toNat_zero, Nat.sub_self, Int.reduceToNat, resRow, treRow, tre_one, tre_ro, res_ro]) (by rintro _ ⟨x, rfl, _⟩; exact ok_plain rfl) ?_
  rintro r ⟨x, rfl, hx0, hx1⟩
  obtain ⟨i, rfl⟩ := Int.eq_ofNat_of_zero_le hx0
  have hi : i < ts.length := by omega
  simp -implicitDefEqProofs only [evr, id, seval, ptr, res_one, List.append_nil, Int.toNat_zero, Nat.sub_self, Int.reduceToNat, resRow, treRow, tre_one, tre_ro, res_ro]
  refine ⟨by omega, ?_⟩
  refine wcall_new (ofG (Frm.codes cb) ra rc xs ts.toArray[i]! (by omega) hI.inr) rfl (by simp -implicitDefEqProofs only [evr, id, seval, ptr, res_one, List.append_nil, Int.toNat_zero, Nat.sub_self, Int.reduceToNat, resRow, treRow, tre_one, tre_ro, res_ro]; rfl) ?_
  rintro ya ty len yc sz rrd ⟨a, c, ys, ho, hyl, e⟩
  simp only [resRow, Own.row.injEq] at e
  obtain ⟨rfl, rfl, rfl, rfl, rfl, rfl⟩ := e
  simp -implicitDefEqProofs only [evr, id, seval, ptr, res_one, List.append_nil, Int.toNat_zero, Nat.sub_self, Int.reduceToNat, resRow, treRow, tre_one, tre_ro, res_ro]
  (refine hk _ ?_; clear hk k; try show Sat _ _ _ _ _)
  (repeat refine Sat.seq ?_)
  (refine Sat.region_k fun k hk => ?_; simp -implicitDefEqProofs only [evr, id, seval, ptr, res_one, List.append_nil, Int.toNat_zero, Nat.sub_self, Int.reduceToNat, resRow, treRow, tre_one, tre_ro, res_ro]; refine hk _ ?_; clear hk k; try show Sat _ _ _ _ _)
  refine Sat.cond_tt rfl ?_
  (repeat refine Sat.seq ?_)
  (refine Sat.region_k fun k hk => ?_; simp -implicitDefEqProofs only [evr, id, seval, ptr, res_one, List.append_nil, Int.toNat_zero, Nat.sub_self, Int.reduceToNat, resRow, treRow, tre_one, tre_ro, res_ro]; refine hk _ ?_; clear hk k; try show Sat _ _ _ _ _)
  refine Sat.ret ?_
  simp only [Try.results9, evr, id, seval, ptr, res_one, List.append_nil, Int.toNat_zero, Nat.sub_self, Int.reduceToNat, resRow, treRow, tre_one, tre_ro, res_ro, retN, retNK, newRow]
  exact ⟨⟨rfl, rfl, rfl⟩, ya, yc, _, .of hI ho, Nat.le_trans (List.length_filter_le _ _) (by omega), rfl⟩
theorem oneC (cb : Nat) (most : Nat) (hm : most ≤ 1000) :
    ContractN (Frm.codes cb) Try.prog 9 [ptr cb, .i .i64 most, .b false] (fun o => ∃ (a : Option Addr) (cap : Nat) (ys : List Res), OneOk ys ∧ ys.length ≤ most ∧ o = resRow a ys.length cap ys.toArray) :=
  ContractN.of_sim (oneC0 cb most hm) ⟨sim_refl _, sim_refl _, sim_f, trivial⟩
end Go.Proofs.Ytkpmihaaijiihaa

/- Results of one trace: parts of them, and whether they contradict. -/
set_option linter.unusedSimpArgs false
set_option linter.unusedVariables false
namespace Go.Proofs.Ytkpmihaaijiihaa
open Go.Sort Eng
def gOf (ys : List Res) : Nat → Res := fun i => ys.toArray[i]!
theorem part_get {ys : List Res} {a b i : Nat} (hb : b ≤ ys.length) (hi : i < b - a) : ((ys.take b).drop a).toArray[i]! = ys.toArray[a + i]! := by
  have h3 : i < ((ys.take b).drop a).length := by rw [List.length_drop, List.length_take]; omega
  rw [getB h3, getB (show a + i < ys.length by omega), List.getElem_drop, List.getElem_take]
theorem part_len {ys : List Res} {a b : Nat} (hb : b ≤ ys.length) : ((ys.take b).drop a).length = b - a := by rw [List.length_drop, List.length_take]; omega
theorem part_sub (ys : List Res) (a b : Nat) : ((ys.take b).drop a).Sublist ys := (List.drop_sublist _ _).trans (List.take_sublist _ _)
theorem Seg.congr2 {g g' : Nat → Res} {a b : Nat} (e : ∀ i, i < b → g i = g' i) : Seg g a b ↔ Seg g' a b := by
  have h : ∀ {g g' : Nat → Res}, (∀ i, i < b → g i = g' i) → Seg g a b → Seg g' a b := by
    intro g g' e h k h1 h2 ⟨i, h3, h4, h5⟩
    refine h k h1 h2 ⟨i, h3, h4, ?_⟩
    rw [e i (by omega), e k h2]
    exact h5
  exact ⟨h e, h fun i hi => (e i hi).symm⟩
theorem part_cons {ys : List Res} {a b : Nat} (hab : a ≤ b) (hb : b ≤ ys.length) : consR ((ys.take b).drop a) ↔ Seg (gOf ys) a b := by
  unfold consR
  rw [part_len hb]
  have h1 : Seg (fun i => ((ys.take b).drop a).toArray[i]!) 0 (b - a) ↔ Seg (fun j => gOf ys (a + j)) 0 (b - a) := Seg.congr2 fun i hi => part_get hb hi
  rw [h1, Seg.shift, show a + (b - a) = b by omega]
theorem cons_ord {ys zs : List Res} {v : Bool} (h : OneOk ys) (ho : OrdOf ys zs) (hv : v = true ↔ consR zs) : v = true ↔ Seg (gOf ys) 0 ys.length := by
  rw [ho.unique h.ord] at hv
  exact hv
theorem winC (F : Frm) {ys : List Res} (h : OneOk ys) (hl : ys.length ≤ 1000) {a b : Nat} (hab : a ≤ b) (hb : b ≤ ys.length) (ad : Option Addr) (cap : Nat) {m : Nat} {rd : Nat → Nat → SV} (hm : m = b - a) (hr : rdEq m 17 rd (fun i j => resRd ys.toArray (a + i) j)) :
    Contract F Try.prog 11 [.sl ad m cap 17 rd] (fun r => ∃ v, (v = true ↔ Seg (gOf ys) a b) ∧ r = .b v) := by
  subst hm
  have hs := h.sub (part_sub ys a b)
  have hlen := part_len (a := a) hb
  have hc := consistentC F ad cap ((ys.take b).drop a) (by omega) hs.inr
  rw [hlen] at hc
  refine (Contract.of_sim (args := [SV.sl ad (b - a) cap 17 rd]) hc ⟨sim_sl fun i j hi hj => ?_, trivial⟩).mono ?_
  · rw [hr i j hi hj]
    show (Res.cs ys.toArray[a + i]!).getD j default = (Res.cs ((ys.take b).drop a).toArray[i]!).getD j default
    rw [part_get hb hi]
  · rintro r ⟨zs, v, ho, hv, rfl⟩
    refine ⟨v, ?_, rfl⟩
    rw [ho.unique hs.ord] at hv
    exact hv.trans (part_cons hab hb)
theorem one_cut {ys : List Res} (h : OneOk ys) (hl : ys.length ≤ 512) {l : List (Nat × Nat)} {e : Int} (hc : CutRes ys l e) : e = 0 ∧ Cuts (gOf ys) ys.length l := by
  rcases hc with ⟨_, _, x, hx, hv⟩ | ⟨_, zs, ho, hc⟩
  · rw [h.valid x hx] at hv; cases hv
  · rw [ho.unique h.ord] at hc
    rcases hc with ⟨_, _, h5⟩ | ⟨_, _, _, h5⟩ | ⟨h5, _, _, h6⟩
    · omega
    · exact absurd h.one h5
    · exact ⟨h5, h6⟩
theorem slB_bytes1 (a : Option Addr) (cap : Nat) (z : List Int) (hz : ∀ n ∈ z, (Lit.int .u8 n).wf = true) : isBytes (slB a cap z) :=
  ⟨a, z.length, cap, _, rfl, fun i hi => ⟨z.getD i 0, by have := bounds_u8 (hz _ (getD_mem (d := 0) hi)); omega, by have := bounds_u8 (hz _ (getD_mem (d := 0) hi)); omega, rfl⟩⟩
end Go.Proofs.Ytkpmihaaijiihaa

/- The frame of the proof of 'Rows.EpisodeWitnessSaid': from the walk of the Go function to the given statement. Written by a program (wip/shell.py). -/
namespace Go.Proofs.Ytkpmihaaijiihaa.episodeWitness
open Go.ChangeShapes Go.WideShapes Go.ChangeAt Go.RowKit
open Go.ChangeMaps (open_string shut_string)
set_option linter.unusedVariables false
theorem own : ownKnob Try.prog.godebug = none := by kernel_rfl
theorem laidOut : laidOutB Try.prog = true := by kernel_rfl
def Walk : Prop := ∀ (a0 : Value) (z0 : List Int) (w : World), (Rd .u8 w a0 z0 ∧ ∀ n ∈ z0, (Lit.int .u8 n).wf = true) →
    Calls Try.prog 3 #[a0] w fun e w' => e = .returned (.bool true) ∧ Below w.heap.size w w'
set_option maxRecDepth 100000 in
theorem lifted (walk : Walk) (os : Os) (started : os.Started) (H : Type) (enc : TypeId × Value → H) :
    ReturnsInHanded {} Try.checked os 3 .any (Rows.episodeWitnessSpec.pre6 enc Try.prog Try.f3 Rows.episodeWitnessRow.domain false) (Rows.episodeWitnessSpec.post enc Try.prog Try.f3 false true false false) := by
  refine returnsInHanded_of_change (C := Try.checked) own started (by kernel_rfl) Try.func3
    (ChangeSpec.witness6 (enc := enc) (C := Try.checked) false ⟨#[], #[.slice none 0 0], []⟩ 8 (by kernel_rfl) (by kernel_rfl) (by kernel_rfl) (by kernel_rfl)) ?_
  intro W base args ds gs before hval0 hW hcnd _
  have hval : ∀ (j : Nat) t v, Try.f3.params[j]? = some t → args[j]? = some v → Value.okWide Try.prog W .any base t v := hval0
  have hW' := hW
  obtain ⟨p, q, hA0, hV, rfl, hfz, hnd⟩ := hW
  have hA : DataW.TrodAll enc Try.prog W 0 (fun _ => true) true Try.f3.params.toList args.toList ds p := hA0
  rw [Try.params3] at hA hval
  obtain ⟨v0, vs0, d0, ds0, p0, q0, hargs, rfl, rfl, h0, r0⟩ := trodAll_cons hA
  obtain ⟨rfl, rfl, rfl⟩ := trodAll_nil r0
  obtain rfl : args = #[v0] := by cases args; simp_all
  obtain ⟨rfl, rfl⟩ := trodVars_none hV
  obtain ⟨ad0, len0, cap0, rfl⟩ := okWide_slice Try.underlying22 (hval 0 22 v0 rfl rfl)
  have k0 := h0
  have lt0 : ∀ x ∈ p0, x.block < W.heap.size := by obtain ⟨m, hm⟩ := k0; exact DataW.trod_lt m _ _ _ hm
  obtain ⟨z0, w0⟩ : ∃ zs, Rd .u8 W (.slice ad0 len0 cap0) zs ∧ ∀ n ∈ zs, (Lit.int .u8 n).wf = true := by
    obtain ⟨fuel, hf⟩ := h0
    rcases open_ints Try.underlying22 Try.underlying5 (by kernel_rfl) hf with ⟨hcs, _⟩ | ⟨x, l, c, zs, hcs, _, hl, hm, hz, _, hcell, hwz⟩
    · simp [Value.cells] at hcs
      obtain ⟨rfl, rfl, rfl⟩ := hcs
      exact ⟨[], Rd.nil _ _, by simp⟩
    · simp [Value.cells] at hcs
      obtain ⟨rfl, rfl, rfl⟩ := hcs
      exact ⟨zs.take len0, rd_of_ints hl hm hz hcell, fun n hn => hwz n (List.mem_of_mem_take hn)⟩
  clear hA0 hval0
  refine (walk _ z0 W w0).mono fun e W' ⟨he, bel⟩ => ?_
  subst he
  exact ⟨_, rfl, _, _, _, [], _, [], hW', trodAll_mk1 (shut_bool Try.underlying4 _), (trodAll_cons_mk (Below.trod laidOut (by kernel_rfl) (of_decide_eq_true (by kernel_rfl)) k0 bel lt0) trodAll_mk0), rfl, bel.frame _, fun h => by cases h⟩
theorem of_walk (walk : Walk) : Rows.EpisodeWitnessSaid :=
  OpenClaim.holds_of_wide 3 Try.f3 rfl rfl rfl rfl rfl rfl rfl ⟨rfl, rfl, rfl, rfl, rfl⟩ rfl rfl rfl rfl rfl (by kernel_rfl) Try.func3 (by kernel_rfl)
    (of_decide_eq_true (by kernel_rfl)) (by unfold Func.isWrapper; first | (rw [if_pos (by decide +kernel)]; kernel_rfl) | (rw [if_neg (by decide +kernel)]; exact ⟨rfl, rfl⟩))
    (fun os started H enc _ => lifted walk os started H enc)
end Go.Proofs.Ytkpmihaaijiihaa.episodeWitness
