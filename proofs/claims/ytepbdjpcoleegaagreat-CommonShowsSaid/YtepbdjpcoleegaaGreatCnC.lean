import Derived.Test.YtepbdjpcoleegaaGreatCnB

/- The reference of law 28, by the evaluator: Pairs. -/
set_option linter.unusedSimpArgs false
set_option linter.unusedVariables false
namespace Go.Proofs.YtepbdjpcoleegaaGreat
open Go.Sort Eng
namespace Eng
variable {P : Program} {F : Frm} {n : Nat} {env : List (Nat × SV)} {c : Code} {K : Exit → St → Prop}
theorem Sat.insTail {g m r : Own} {T : List Own} (k : Nat) (hk : k ≤ T.length) (h : Sat P F c ⟨n, env, g :: m :: insL T k r⟩ K) : Sat P F c ⟨n, env, g :: m :: (T ++ [r])⟩ K := by
 have hg : ∀ j o, (insL T k r)[j]? = some o → (T ++ [r])[if j < k then j else if j = k then T.length else j - 1]? = some o := fun j o ho => by
  unfold insL at ho
  rw [List.getElem?_append] at ho
  simp only [List.length_take, Nat.min_eq_left hk] at ho
  split at ho
  ·rename_i hj
   rw [if_pos hj, List.getElem?_append_left (by omega)]
   rwa [List.getElem?_take_of_lt hj] at ho
  ·rename_i hj
   rw [if_neg hj]
   by_cases e : j = k
   ·subst e
    rw [if_pos rfl]
    simp only [Nat.sub_self, List.getElem?_cons_zero] at ho
    simpa using ho
   ·rw [if_neg e]
    obtain ⟨q, rfl⟩ : ∃ q, j = k + 1 + q := ⟨j - k - 1, by omega⟩
    rw [show k + 1 + q - k = q + 1 by omega, List.getElem?_cons_succ, List.getElem?_drop] at ho
    have hlt := (List.getElem?_eq_some_iff.1 ho).1
    rw [show k + 1 + q - 1 = k + q by omega, List.getElem?_append_left hlt]
    exact ho
 have hlen : (insL T k r).length = T.length + 1 := insL_len hk
 refine Sat.reown (fun j => if j < 2 then j else (if j - 2 < k then j - 2 else if j - 2 = k then T.length else j - 2 - 1) + 2) (fun j o ho => ?_) (fun i j o o' hij ho ho' _ _ e => ?_) h
 ·match j, ho with
  | 0, ho => exact .inr (by simpa using ho)
  | 1, ho => exact .inr (by simpa using ho)
  | j + 2, ho =>
   refine .inr ?_
   simp only [List.getElem?_cons_succ] at ho
   have := hg j o ho
   simp only [show ¬ j + 2 < 2 by omega, if_false, Nat.add_sub_cancel, List.getElem?_cons_succ]
   exact this
 ·have hi := (List.getElem?_eq_some_iff.1 ho).1
  have hj := (List.getElem?_eq_some_iff.1 ho').1
  simp only [List.length_cons, hlen] at hi hj
  split at e <;> split at e <;> (try split at e) <;> (try split at e) <;> (try split at e) <;> (try split at e) <;> omega
theorem setA_rest (ids : List Nat) (os : List Own) (i : Nat) (h : ∀ j ∈ ids, j < i) (hl : os.length ≤ ids.length) : ∀ l : List Own, setA ids os i l = l := by
 intro l
 induction l generalizing i with
 | nil => simp only [setA]; exact List.drop_eq_nil_of_le hl
 | cons o l ih =>
  have hn : idx ids i = none := by
   cases hx : idx ids i with
   | none => rfl
   | some k => have := h i (List.mem_of_getElem? (idx_some hx)); omega
  simp only [setA, hn]
  rw [ih (i + 1) fun j hj => by have := h j hj; omega]
theorem argL_id (own : List Own) (ids : List Nat) (v r m : Int) : argL own ids (.agg 3 fun j => [SV.i .i64 v, .i .i64 r, .i .i64 m].getD j default) = .agg 3 fun j => [SV.i .i64 v, .i .i64 r, .i .i64 m].getD j default := by
 simp only [argL]
 congr 1
 funext j
 match j with
 | 0 => rfl
 | 1 => rfl
 | 2 => rfl
 | n + 3 => rfl
theorem argL_ev (g m : Own) (T : List Own) (x y z : Int) (b : Option Addr) (l c : Nat) (a0 : Option Addr) (e0 l0 c0 s0 : Nat) (r0 : Nat → Nat → SV) : argL (g :: m :: (T ++ [.row a0 e0 l0 c0 s0 r0])) [1] (.agg 4 fun j => [SV.i .i64 x, .i .u32 y, .i .u32 z, .os (T.length + 1 + 1) b l c].getD j default) = .agg 4 fun j => [SV.i .i64 x, .i .u32 y, .i .u32 z, .os (T.length + 1 + 1) b l c].getD j default := by
 simp only [argL]
 congr 1
 funext j
 match j with
 | 0 => rfl
 | 1 => rfl
 | 2 => rfl
 | 3 =>
  show argL1 _ [1] (.os (T.length + 1 + 1) b l c) = .os (T.length + 1 + 1) b l c
  have h1 : idx [1] (T.length + 1 + 1) = none := by simp [idx]
  simp [argL1, h1, lf]
 | n + 4 => rfl
theorem renI_one (id m : Nat) (a : Option Addr) (l c : Nat) : renI (toC [id] m) (.os 0 a l c) = .os id a l c := rfl
theorem renO_row (f : Nat → Nat) (a : Option Addr) (e l c s : Nat) (r : Nat → Nat → SV) : renO f (.row a e l c s r) = .row a e l c s r := rfl
theorem ownLe_snoc {o o' : Own} (h : o.le o') : ∀ T : List Own, ownLe (T ++ [o]) (T ++ [o'])
 | [] => ⟨h, trivial⟩
 | t :: T => ⟨own_refl t, ownLe_snoc h T⟩
theorem setA_0 (o1 o : Own) (l : List Own) : setA [0] [o1] 0 (o :: l) = o1 :: l := by
 show o1 :: setA [0] [o1] 1 l = _
 rw [setA_rest [0] [o1] 1 (fun j hj => by rw [List.mem_singleton.1 hj]; omega) (Nat.le_refl _)]
theorem setA_1 (g o1 o : Own) (l : List Own) : setA [1] [o1] 0 (g :: o :: l) = g :: o1 :: l := by
 show g :: o1 :: setA [1] [o1] 2 l = _
 rw [setA_rest [1] [o1] 2 (fun j hj => by rw [List.mem_singleton.1 hj]; omega) (Nat.le_refl _)]
end Eng
def Evd.tl (e : Evd) : Eng.Own := .row e.ad 30 e.ids.length e.cap 3 (idnRd e.ids.toArray)
theorem insL_map {α β : Type} (f : α → β) (l : List α) (k : Nat) (x : α) : (insL l k x).map f = insL (l.map f) k (f x) := by
 unfold insL
 rw [List.map_append, List.map_take, List.map_cons, List.map_drop]
set_option maxHeartbeats 2000000 in
set_option maxRecDepth 100000 in
theorem refPairsC (F : Frm) (ad : Option Addr) (cap : Nat) (xs : List Res) (hl : xs.length ≤ 512) (hin : ∀ r ∈ xs, RgR r) :
  Contract F Tryz.prog 12 [.sl ad xs.length cap 17 (resRd xs.toArray)] (fun r => (xs.any (fun x => !validR x) = true ∧ ∃ rd, r = tupL [.sl none 0 0 0 rd, .i .i64 1]) ∨
   (xs.any (fun x => !validR x) = false ∧ ∃ a cap es, PairsOf xs es ∧ r = tupL [.sl a es.length cap 4 (evRd es), .i .i64 0])) := by
 refine contract_of Tryz.func12 rfl (by kernel_rfl) ?_
 simp only [Tryz.ntmps12, argEnv]
 (repeat refine Sat.seq ?_)
 (refine Sat.region_k fun k hk => ?_; simp -implicitDefEqProofs only [evr, id, seval, res_one, par_one, idn_one, idn_0, idn_1, idn_2, resRow, res_ro, rExtract_tup, par_eq, tl_get, tl_set, evn]; refine hk _ ?_; clear hk k; try show Sat _ _ _ _ _)
 (repeat refine Sat.seq ?_)
 (refine Sat.region_k fun k hk => ?_; simp -implicitDefEqProofs only [evr, id, seval, res_one, par_one, idn_one, idn_0, idn_1, idn_2, resRow, res_ro, rExtract_tup, par_eq, tl_get, tl_set, evn])
 refine wcall_plain (refLimitedC F ad cap xs hl hin) rfl (by rintro _ rfl; exact ok_plain rfl) ?_
 rintro _ rfl
 simp -implicitDefEqProofs only [evr, id, seval, res_one, par_one, idn_one, idn_0, idn_1, idn_2, resRow, res_ro, rExtract_tup, par_eq, tl_get, tl_set, evn]
 (refine hk _ ?_; clear hk k; try show Sat _ _ _ _ _)
 (repeat refine Sat.seq ?_)
 (refine Sat.region_k fun k hk => ?_; simp -implicitDefEqProofs only [evr, id, seval, res_one, par_one, idn_one, idn_0, idn_1, idn_2, resRow, res_ro, rExtract_tup, par_eq, tl_get, tl_set, evn]; refine hk _ ?_; clear hk k; try show Sat _ _ _ _ _)
 (repeat refine Sat.seq ?_)
 refine Sat.cond_b rfl (fun h => ?_) (fun h => ?_)
 ·have hb : xs.any (fun x => !validR x) = true := by
   cases hx : xs.any (fun x => !validR x) with
   | true => rfl
   | false => rw [hx] at h; cases h
  rw [hb]
  (repeat refine Sat.seq ?_)
  (refine Sat.region_k fun k hk => ?_; simp -implicitDefEqProofs only [evr, id, seval, res_one, par_one, idn_one, idn_0, idn_1, idn_2, resRow, res_ro, rExtract_tup, par_eq, tl_get, tl_set, evn]; refine hk _ ?_; clear hk k; try show Sat _ _ _ _ _)
  refine Sat.ret ?_
  simp only [Tryz.results12, evr, id, seval, res_one, par_one, idn_one, idn_0, idn_1, idn_2, List.append_nil, Int.toNat_zero, Nat.sub_self, Int.reduceToNat, resRow, res_ro, rExtract_tup, par_eq, tl_get, tl_set]
  exact .inl ⟨_, rfl⟩
 have hb : xs.any (fun x => !validR x) = false := by
  cases hx : xs.any (fun x => !validR x) with
  | false => rfl
  | true => rw [hx] at h; cases h
 refine Sat.skip ?_
 simp only [thenK]
 (repeat refine Sat.seq ?_)
 (refine Sat.region_k fun k hk => ?_; simp -implicitDefEqProofs only [evr, id, seval, res_one, par_one, idn_one, idn_0, idn_1, idn_2, resRow, res_ro, rExtract_tup, par_eq, tl_get, tl_set, evn]; refine hk _ ?_; clear hk k; try show Sat _ _ _ _ _)
 (repeat refine Sat.seq ?_)
 (refine Sat.region_k fun k hk => ?_; simp -implicitDefEqProofs only [evr, id, seval, res_one, par_one, idn_one, idn_0, idn_1, idn_2, resRow, res_ro, rExtract_tup, par_eq, tl_get, tl_set, evn]; refine hk _ ?_; clear hk k; try show Sat _ _ _ _ _)
 refine Sat.adopt 5 28 4 (evvRd []) rfl ?_
 simp -implicitDefEqProofs only [evr, id, seval, res_one, par_one, idn_one, idn_0, idn_1, idn_2, resRow, res_ro, rExtract_tup, par_eq, tl_get, tl_set, evn]
 refine Sat.reown (own' := [.gone, .row none 28 0 0 4 (evvRd [])]) (fun j => j - 1) (fun j o ho => ?_) (fun i j o o' hij ho ho' g1 g2 => ?_) ?_
 ·match j, ho with
  | 0, ho => exact .inl (by simpa using ho.symm)
  | 1, ho => exact .inr (by simpa using ho)
  | j + 2, ho => simp at ho
 ·match i, j, ho, ho' with
  | 0, _, ho, _ => exact absurd (by simpa using ho.symm) g1
  | _, 0, _, ho' => exact absurd (by simpa using ho'.symm) g2
  | 1, 1, _, _ => omega
  | i + 2, _, ho, _ => simp at ho
  | _, j + 2, _, ho' => simp at ho'
 refine Sat.redo 5 (.os 1 none 0 0) rfl rfl (fun _ _ => trivial) ?_
 (repeat refine Sat.seq ?_)
 refine Sat.block ?_
 refine Sat.loop (ι := Nat × List Evd × Option Addr × Nat) (fun z => ⟨68, [(6, .i .i64 z.1), (5, .os 1 z.2.2.1 z.2.1.length z.2.2.2), (0, .sl ad xs.length cap 17 (resRd xs.toArray))],
   .gone :: .row z.2.2.1 28 z.2.1.length z.2.2.2 4 (evvRd z.2.1) :: z.2.1.map Evd.tl⟩)
  (fun z => z.1 ≤ xs.length ∧ PairsOf (xs.take z.1) z.2.1 ∧ ∀ e ∈ z.2.1, e.ids.length ≤ z.1) (fun z => xs.length - z.1) (0, [], none, 0) ⟨Nat.zero_le _, pairs_nil, fun e he => (by cases he)⟩ (by simp -implicitDefEqProofs only [evr, id, seval, res_one, par_one, idn_one, idn_0, idn_1, idn_2, resRow, res_ro, rExtract_tup, par_eq, tl_get, tl_set, evl, evn]; try rfl) ?_
 rintro ⟨i, es, a, c⟩ ⟨hi, hP, hlen⟩
 simp only at hi hP hlen ⊢
 obtain ⟨T, hTd⟩ : ∃ T, T = es.map Evd.tl := ⟨_, rfl⟩
 rw [← hTd]
 have hTl : T.length = es.length := by rw [hTd, List.length_map]
 have hel : es.length ≤ i := by have := hP.len; rw [List.length_take] at this; omega
 (repeat refine Sat.seq ?_)
 (refine Sat.region_k fun k hk => ?_; simp -implicitDefEqProofs only [evr, id, seval, res_one, par_one, idn_one, idn_0, idn_1, idn_2, resRow, res_ro, rExtract_tup, par_eq, tl_get, tl_set, evn]; refine hk _ ?_; clear hk k; try show Sat _ _ _ _ _)
 (repeat refine Sat.seq ?_)
 refine Sat.cond_b rfl (fun h => ?_) (fun h => ?_)
 ·have h1 : i < xs.length := by simp only [decide_eq_true_eq] at h; omega
  have e1 : IntKind.i64.wrap ((i : Int) + 1) = ((i + 1 : Nat) : Int) := by rw [w64 (by omega)]; omega
  obtain ⟨x, hx⟩ : ∃ x, x = xs.toArray[i]! := ⟨_, rfl⟩
  have htk : xs.take (i + 1) = xs.take i ++ [x] := by
   rw [List.take_succ_eq_append_getElem h1, hx]; simp [getElem!_def, h1]
  refine Sat.skip ?_
  simp only [thenK]
  (repeat refine Sat.seq ?_)
  refine Sat.block ?_
  (repeat refine Sat.seq ?_)
  (refine Sat.region_k fun k hk => ?_; simp -implicitDefEqProofs only [evr, id, seval, res_one, par_one, idn_one, idn_0, idn_1, idn_2, resRow, res_ro, rExtract_tup, par_eq, tl_get, tl_set, evn])
  refine ⟨by omega, ?_⟩
  refine wcall_plain (refShowC F xs.toArray[i]!) rfl (by rintro _ rfl; exact showS_ok _) ?_
  rintro _ rfl
  rw [← hx]
  cases hs : showR x with
  | none =>
   simp only [showS, tupL, parAg, Par.cs, evr, id, seval, res_one, par_one, idn_one, idn_0, idn_1, idn_2, List.append_nil, Int.toNat_zero, Nat.sub_self, Int.reduceToNat, resRow, res_ro, rExtract_tup, par_eq, tl_get, tl_set]
   intro b7
   (refine hk _ ?_; clear hk k; try show Sat _ _ _ _ _)
   refine Sat.settleLast (.gone :: .row a 28 es.length c 4 (evvRd es) :: T) 7 rfl ?_
   simp only [List.length_cons, List.length_nil]
   (repeat refine Sat.seq ?_)
   (refine Sat.region_k fun k hk => ?_; simp -implicitDefEqProofs only [evr, id, seval, res_one, par_one, idn_one, idn_0, idn_1, idn_2, resRow, res_ro, rExtract_tup, par_eq, tl_get, tl_set, evn]; refine hk _ ?_; clear hk k; try show Sat _ _ _ _ _)
   (repeat refine Sat.seq ?_)
   refine Sat.cond_b rfl (fun _ => ?_) (fun h => absurd h (by decide))
   refine Sat.exit ?_
   simp only [thenK, blockK, reduceIte]
   refine Sat.region_k fun k hk => ?_
   simp -implicitDefEqProofs only [evr, id, seval, res_one, par_one, idn_one, idn_0, idn_1, idn_2, resRow, res_ro, rExtract_tup, par_eq, tl_get, tl_set, e1, evn]
   refine hk _ ?_
   simp only [thenK, blockK]
   refine ⟨(i + 1, es, a, c), ⟨by simp only; omega, by simp only; rw [htk]; exact pairs_none hP hs, fun e he => by have := hlen e he; simp only; omega⟩, by simp only; omega, ?_⟩
   simp only
   rw [hTd]
   simp -implicitDefEqProofs only [evr, id, seval, res_one, par_one, idn_one, idn_0, idn_1, idn_2, resRow, res_ro, rExtract_tup, par_eq, tl_get, tl_set, evl, evn]
   exact ownLe_refl _
  | some p =>
   simp only [showS, tupL, parAg, Par.cs, evr, id, seval, res_one, par_one, idn_one, idn_0, idn_1, idn_2, List.append_nil, Int.toNat_zero, Nat.sub_self, Int.reduceToNat, resRow, res_ro, rExtract_tup, par_eq, tl_get, tl_set]
   intro b7
   (refine hk _ ?_; clear hk k; try show Sat _ _ _ _ _)
   refine Sat.settleLast (.gone :: .row a 28 es.length c 4 (evvRd es) :: T) 7 rfl ?_
   simp only [List.length_cons, List.length_nil]
   (repeat refine Sat.seq ?_)
   (refine Sat.region_k fun k hk => ?_; simp -implicitDefEqProofs only [evr, id, seval, res_one, par_one, idn_one, idn_0, idn_1, idn_2, resRow, res_ro, rExtract_tup, par_eq, tl_get, tl_set, evn]; refine hk _ ?_; clear hk k; try show Sat _ _ _ _ _)
   (repeat refine Sat.seq ?_)
   refine Sat.cond_b rfl (fun h => absurd h (by decide)) (fun _ => ?_)
   refine Sat.skip ?_
   simp only [thenK]
   (repeat refine Sat.seq ?_)
   (refine Sat.region_k fun k hk => ?_; simp -implicitDefEqProofs only [evr, id, seval, res_one, par_one, idn_one, idn_0, idn_1, idn_2, resRow, res_ro, rExtract_tup, par_eq, tl_get, tl_set, evn])
   refine wcall_plain (atC F a c es p (by omega)) (by simp -implicitDefEqProofs only [evr, id, seval, res_one, par_one, idn_one, idn_0, idn_1, idn_2, resRow, res_ro, rExtract_tup, par_eq, tl_get, tl_set, evn]; try rfl) (by rintro _ (⟨rfl, _⟩ | ⟨_, _, _, rfl⟩) <;> exact ok_plain rfl) ?_
   rintro r (⟨rfl, hno⟩ | ⟨j, hj, hjp, rfl⟩)
   ·simp -implicitDefEqProofs only [evr, id, seval, res_one, par_one, idn_one, idn_0, idn_1, idn_2, resRow, res_ro, rExtract_tup, par_eq, tl_get, tl_set, evn]
    (refine hk _ ?_; clear hk k; try show Sat _ _ _ _ _)
    (repeat refine Sat.seq ?_)
    (refine Sat.region_k fun k hk => ?_; simp -implicitDefEqProofs only [evr, id, seval, res_one, par_one, idn_one, idn_0, idn_1, idn_2, resRow, res_ro, rExtract_tup, par_eq, tl_get, tl_set, evn]; refine hk _ ?_; clear hk k; try show Sat _ _ _ _ _)
    (repeat refine Sat.seq ?_)
    refine Sat.cond_b rfl (fun h => absurd h (by decide)) (fun _ => ?_)
    (repeat refine Sat.seq ?_)
    (refine Sat.region_tree (.keep [0, 1, 3, 5, 6, 7, 2, 4, 8] [9, 10] (.one 9 (.one 10 (.one 11 (.one 12 (.one 13 .done)))))) (by kernel_rfl) (by kernel_rfl) (fun _ _ h => h) fun k hk => ?_; simp only [WOT, List.map_cons, List.map_nil, List.getD_cons_zero, List.getD_cons_succ]; simp -implicitDefEqProofs only [evr, id, seval, res_one, par_one, idn_one, idn_0, idn_1, idn_2, resRow, res_ro, rExtract_tup, par_eq, tl_get, tl_set, WOT, evn])
    refine ⟨by omega, ?_⟩
    refine wcall_plain (identG F xs.toArray[i]!) rfl (by rintro _ rfl; intro R w q hq; rcases (show q = 0 ∨ q = 1 ∨ q = 2 by omega) with rfl | rfl | rfl <;> trivial) ?_
    rintro _ rfl
    rw [← hx]
    simp only [idAg, evr, id, seval, res_one, par_one, idn_one, idn_0, idn_1, idn_2, List.append_nil, Int.toNat_zero, Nat.sub_self, Int.reduceToNat, resRow, res_ro, rExtract_tup, par_eq, tl_get, tl_set]
    refine ⟨by rw [List.take_length], fun bs => ⟨by rw [List.take_left], ?_⟩⟩
    refine wcall_multi [] [1] (putEvC F a c es ⟨1, p.a, p.b, [x.idn], some ⟨bs, 0, none⟩, 1⟩ (.os (T.length + 1 + 1) (some ⟨bs, 0, none⟩) 1 1) rfl (by omega)) rfl (by decide) (by simp -implicitDefEqProofs only [evr, id, seval, res_one, par_one, idn_one, idn_0, idn_1, idn_2, resRow, res_ro, rExtract_tup, par_eq, tl_get, tl_set, renO, evn]) (by simp only [Eng.frz, List.foldl_nil, List.map_cons, List.map_nil, argL_ev]; rfl) ?_
    rintro r os1 ⟨a', c', k', hk', hlt', hge', rfl, rfl⟩
    simp only [Eng.frz, List.foldl_nil, List.map_cons, List.map_nil, renI_one, renO_row, setA_1]
    simp -implicitDefEqProofs only [evr, id, seval, res_one, par_one, idn_one, idn_0, idn_1, idn_2, resRow, res_ro, rExtract_tup, par_eq, tl_get, tl_set, evn]
    (refine hk _ ?_; clear hk k; try show Sat _ _ _ _ _)
    obtain ⟨e', he'⟩ : ∃ e' : Evd, e' = ⟨1, p.a, p.b, [x.idn], some ⟨bs, 0, none⟩, 1⟩ := ⟨_, rfl⟩
    rw [← he'] at hlt' hge' ⊢
    have hpr : e'.pr = p := by rw [he']; cases p; rfl
    refine Sat.leOwn (own' := .gone :: .row a' 28 (insL es k' e').length c' 4 (evvRd (insL es k' e')) :: (T ++ [e'.tl])) ⟨own_refl _, own_refl _, ownLe_snoc (by
     subst he'
     exact ⟨rfl, rfl, rfl, rfl, rfl, fun q r hq hr => by
      obtain rfl : q = 0 := by omega
      rcases (show r = 0 ∨ r = 1 ∨ r = 2 by omega) with rfl | rfl | rfl <;> rfl⟩) _⟩ ?_
    refine Sat.insTail k' (by omega) ?_
    rw [hTd, ← insL_map]
    have hP2 : PairsOf (xs.take (i + 1)) (insL es k' e') := by
     rw [htk]
     refine pairs_ins hP hk' hs (fun f hf => ?_) (fun q hq => by rw [← hpr]; exact hlt' q hq) (fun hq => by rw [← hpr]; exact hge' hq) hpr (by rw [he']) (by rw [he'])
     obtain ⟨q, hq, rfl⟩ := List.getElem_of_mem hf
     have := hno q hq
     rwa [getD_at hq] at this
    have hl2 : ∀ f ∈ insL es k' e', f.ids.length ≤ i + 1 := fun f hf => by
     rcases insL_mem.1 hf with hf | rfl
     ·have := hlen f hf; omega
     ·rw [he']; simp
    generalize insL es k' e' = fs at hP2 hl2
    refine Sat.region_k fun k hk => ?_
    simp -implicitDefEqProofs only [evr, id, seval, res_one, par_one, idn_one, idn_0, idn_1, idn_2, resRow, res_ro, rExtract_tup, par_eq, tl_get, tl_set, e1, evn]
    refine hk _ ?_
    simp only [thenK, blockK]
    refine ⟨(i + 1, fs, a', c'), ⟨by simp only; omega, hP2, hl2⟩, by simp only; omega, ?_⟩
    simp -implicitDefEqProofs only [evr, id, seval, res_one, par_one, idn_one, idn_0, idn_1, idn_2, resRow, res_ro, rExtract_tup, par_eq, tl_get, tl_set, evl, evn]
    exact ownLe_refl _
   ·simp -implicitDefEqProofs only [evr, id, seval, res_one, par_one, idn_one, idn_0, idn_1, idn_2, resRow, res_ro, rExtract_tup, par_eq, tl_get, tl_set, evn]
    (refine hk _ ?_; clear hk k; try show Sat _ _ _ _ _)
    (repeat refine Sat.seq ?_)
    (refine Sat.region_k fun k hk => ?_; simp -implicitDefEqProofs only [evr, id, seval, res_one, par_one, idn_one, idn_0, idn_1, idn_2, resRow, res_ro, rExtract_tup, par_eq, tl_get, tl_set, evn]; refine hk _ ?_; clear hk k; try show Sat _ _ _ _ _)
    (repeat refine Sat.seq ?_)
    refine Sat.cond_b rfl (fun _ => ?_) (fun h => absurd h (by simp))
    obtain ⟨e, he⟩ : ∃ e, e = es.getD j default := ⟨_, rfl⟩
    have hTj : T[j]? = some e.tl := by rw [hTd, List.getElem?_map, List.getElem?_eq_getElem hj, he, List.getD_eq_getElem?_getD, List.getElem?_eq_getElem hj]; rfl
    refine Sat.pull j hTj ?_
    obtain ⟨T1, hT1⟩ : ∃ T1, T1 = T.set j Eng.Own.gone := ⟨_, rfl⟩
    rw [← hT1]
    simp only [Evd.tl]
    have q3 : evvRd es j 3 = .v (.slice e.ad e.ids.length e.cap) := by rw [evv_3, evvAt hj, ← he]
    (repeat refine Sat.seq ?_)
    (refine Sat.region_rows [⟨0, 40, 32, 0⟩, ⟨0, 41, 512, 0⟩, ⟨0, 42, 32, 0⟩, ⟨0, 43, 512, 0⟩, ⟨12, 44, 6597069766656, 0⟩, ⟨16, 45, 8796093022208, 0⟩, ⟨32, 46, 17592186044416, 1⟩, ⟨0, 47, 1, 0⟩, ⟨0, 48, 64, 0⟩, ⟨384, 49, 211106232532992, 0⟩, ⟨512, 50, 281474976710656, 1⟩, ⟨1024, 51, 562949953421312, 2⟩, ⟨2112, 52, 1161084278931456, 2⟩, ⟨8191, 53, 1649267441664, 0⟩, ⟨16383, 54, 4503599627370496, 0⟩, ⟨24575, 0, 11258999068426240, 2⟩] [0, 1, 2, 3, 4, 5, 7, 8, 9, 6, 10] [(11, false), (12, false), (13, false), (14, false), (15, false)] [11] (by kernel_rfl) (by kernel_rfl) (fun _ _ h => h) fun k hk => ?_; simp only [List.map_cons, List.map_nil, List.getD_cons_zero, List.getD_cons_succ, btseq_cons, btseq_free, btseq_nil]; simp -implicitDefEqProofs only [evr, id, seval, res_one, par_one, idn_one, idn_0, idn_1, idn_2, resRow, res_ro, rExtract_tup, par_eq, tl_get, tl_set, evn])
    refine ⟨by omega, by omega, by omega, ?_⟩
    have hem : e ∈ es := by rw [he]; exact getD_mem hj
    have hle := hlen e hem
    refine wcall_plain (identG F xs.toArray[i]!) rfl (by rintro _ rfl; intro R w q hq; rcases (show q = 0 ∨ q = 1 ∨ q = 2 by omega) with rfl | rfl | rfl <;> trivial) ?_
    rintro _ rfl
    rw [← hx]
    simp only [idAg, q3, evr, id, seval, res_one, par_one, idn_one, idn_0, idn_1, idn_2, List.append_nil, Int.toNat_zero, Nat.sub_self, Int.reduceToNat, resRow, res_ro, rExtract_tup, par_eq, tl_get, tl_set]
    refine ⟨by rw [List.take_length], ?_⟩
    refine wcall_multi [] [0] (putIdC F e.ad e.cap e.ids x.idn (by omega)) rfl (by decide) (by simp -implicitDefEqProofs only [evr, id, seval, res_one, par_one, idn_one, idn_0, idn_1, idn_2, resRow, res_ro, rExtract_tup, par_eq, tl_get, tl_set, renO, evn]) (by simp only [List.map_cons, List.map_nil, argL_id]; rfl) ?_
    rintro r os1 ⟨a', c', ids', hput, rfl, rfl⟩
    simp only [Eng.frz, List.foldl_nil, List.map_cons, List.map_nil, renI_one, renO_row, setA_0]
    simp -implicitDefEqProofs only [evr, id, seval, res_one, par_one, idn_one, idn_0, idn_1, idn_2, resRow, res_ro, rExtract_tup, par_eq, tl_get, tl_set, evn]
    refine ⟨by omega, by omega, hk _ ?_⟩
    clear hk k
    simp only [thenK, blockK]
    obtain ⟨e', he'⟩ : ∃ e' : Evd, e' = ⟨e.kind, e.a, e.b, ids', a', c'⟩ := ⟨_, rfl⟩
    have hsl : (es.set j e').length = es.length := List.length_set
    have hsg : ∀ q, q < es.length → (es.set j e').toArray[q]! = if q = j then e' else es.toArray[q]! := fun q hq => by
     rw [evvAt (by omega), evvAt hq, List.getD_eq_getElem?_getD, List.getElem?_set, List.getD_eq_getElem?_getD]
     by_cases h9 : q = j
     ·subst h9; simp [hq]
     ·simp [h9, Ne.symm h9]
    refine Sat.reread 1 (evvRd (es.set j e')) rfl (fun q r hq hr => ?_) ?_
    ·unfold rdSet
     by_cases h9 : q = j
     ·subst h9
      have h8 : evvRd (es.set q e') q r = (Evd.csv e').getD r default := by unfold evvRd; rw [hsg q hq, if_pos rfl]
      rw [h8, he']
      rcases (show r = 0 ∨ r = 1 ∨ r = 2 ∨ r = 3 by omega) with rfl | rfl | rfl | rfl
      ·rw [if_neg (by simp), evv_0, evvAt hq, ← he]; exact sim_refl _
      ·rw [if_neg (by simp), evv_1, evvAt hq, ← he]; exact sim_refl _
      ·rw [if_neg (by simp), evv_2, evvAt hq, ← he]; exact sim_refl _
      ·rw [if_pos (by simp)]
       exact ⟨rfl, fun _ _ _ => trivial⟩
     ·rw [if_neg (fun h8 => h9 h8.1)]
      have h8 : evvRd (es.set j e') q r = evvRd es q r := by unfold evvRd; rw [hsg q hq, if_neg h9]
      rw [h8]
      exact sim_refl _
    simp -implicitDefEqProofs only [evr, id, seval, res_one, par_one, idn_one, idn_0, idn_1, idn_2, resRow, res_ro, rExtract_tup, par_eq, tl_get, tl_set, evn]
    refine Sat.push j (by rw [hT1, List.getElem?_set_self (by omega)]) ?_
    have hTn : T1.set j (.row a' 30 ids'.length c' 3 (idnRd ids'.toArray)) = (es.set j e').map Evd.tl := by
     rw [hT1, List.set_set, hTd, List.map_set]
     rw [show e'.tl = .row a' 30 ids'.length c' 3 (idnRd ids'.toArray) by rw [he']; rfl]
    rw [hTn]
    have hpl := (putR_law (hP.each e hem).2.1 hput).2.2.1
    have hP2 : PairsOf (xs.take (i + 1)) (es.set j e') := by
     rw [htk]
     refine pairs_set (p := p) hP hj hs hjp ?_ ?_ ?_ ?_
     ·rw [he', ← hjp, ← he]; rfl
     ·rw [he']; exact (hP.each e hem).1
     ·rw [he', ← he]; exact hput
     ·rw [he']; show ids'.length ≤ 512; omega
    have hl2 : ∀ f ∈ es.set j e', f.ids.length ≤ i + 1 := fun f hf => by
     rcases List.mem_or_eq_of_mem_set hf with hf | rfl
     ·have := hlen f hf; omega
     ·rw [he']; show ids'.length ≤ i + 1; omega
    rw [← hsl]
    clear hsg hTn
    generalize es.set j e' = fs at hP2 hl2 hsl
    refine Sat.region_k fun k hk => ?_
    simp -implicitDefEqProofs only [evr, id, seval, res_one, par_one, idn_one, idn_0, idn_1, idn_2, resRow, res_ro, rExtract_tup, par_eq, tl_get, tl_set, e1, evn]
    refine hk _ ?_
    simp only [thenK, blockK]
    refine ⟨(i + 1, fs, a, c), ⟨by simp only; omega, hP2, hl2⟩, by simp only; omega, ?_⟩
    simp -implicitDefEqProofs only [evr, id, seval, res_one, par_one, idn_one, idn_0, idn_1, idn_2, resRow, res_ro, rExtract_tup, par_eq, tl_get, tl_set, evl, evn]
    exact ownLe_refl _
 have h1 : i = xs.length := by simp only [decide_eq_false_iff_not] at h; omega
 subst h1
 rw [List.take_length] at hP
 refine Sat.exit ?_
 simp only [thenK, blockK, reduceIte]
 refine Sat.reown (own' := .row a 28 es.length c 4 (evvRd es) :: T) (fun j => j + 1) (fun j o ho => .inr (by simpa using ho)) (fun i j _ _ hij _ _ _ _ e => hij (by omega)) ?_
 refine Sat.redo 5 (.os 0 a es.length c) rfl rfl (fun _ _ => trivial) ?_
 refine Sat.settleTail (o' := .row a 28 es.length c 4 (evRd es)) (fun b hb => by cases a <;> exact hb) (fun R R' B w hRR hT hTb hno ho => ?_) ?_
 ·obtain ⟨h2, h3, h4⟩ := ho
  have hden : ∀ q r, q < es.length → r < 4 → (evvRd es q r).den = (evRd es q r).den := fun q r hq hr => by
   rcases (show r = 0 ∨ r = 1 ∨ r = 2 ∨ r = 3 by omega) with rfl | rfl | rfl | rfl
   ·rw [evv_0, evvAt hq, ev_0]
   ·rw [evv_1, evvAt hq, ev_1]
   ·rw [evv_2, evvAt hq, ev_2]
   ·rw [evv_3, evvAt hq, ev_3]; rfl
  refine ⟨?_, fun g hg => hno _ (by rw [hg]; rfl), fun q r hq hr => ⟨?_, ?_⟩⟩
  ·have e2 : cellsOf es.length 4 (evRd es) = cellsOf es.length 4 (evvRd es) := by
    unfold cellsOf
    refine List.map_congr_left fun t ht => ?_
    have ht2 : t < es.length * 4 := by simpa using ht
    exact (hden _ _ (by omega) (by omega)).symm
   rw [e2]
   exact h2
  ·rw [← hden q r hq hr]; exact (h4 q r hq hr).1
  ·rcases (show r = 0 ∨ r = 1 ∨ r = 2 ∨ r = 3 by omega) with rfl | rfl | rfl | rfl
   ·trivial
   ·trivial
   ·trivial
   ·rw [ev_3]
    have htm : (es.getD q default).tl ∈ T := by rw [hTd]; exact List.mem_map.2 ⟨_, getD_mem hq, rfl⟩
    exact row_sl (hT _ htm) hRR (fun b hb => hTb _ htm b hb)
 refine Sat.settle2 5 rfl rfl ?_
 simp -implicitDefEqProofs only [evr, id, seval, res_one, par_one, idn_one, idn_0, idn_1, idn_2, resRow, res_ro, rExtract_tup, par_eq, tl_get, tl_set, evn]
 (repeat refine Sat.seq ?_)
 (refine Sat.region_k fun k hk => ?_; simp -implicitDefEqProofs only [evr, id, seval, res_one, par_one, idn_one, idn_0, idn_1, idn_2, resRow, res_ro, rExtract_tup, par_eq, tl_get, tl_set, evn]; refine hk _ ?_; clear hk k; try show Sat _ _ _ _ _)
 refine Sat.ret ?_
 simp only [Tryz.results12, evr, id, seval, res_one, par_one, idn_one, idn_0, idn_1, idn_2, List.append_nil, Int.toNat_zero, Nat.sub_self, Int.reduceToNat, resRow, res_ro, rExtract_tup, par_eq, tl_get, tl_set]
 first | exact .inr ⟨hb, a, c, es, hP, rfl⟩ | exact ⟨hb, a, c, es, hP, rfl⟩ | exact ⟨a, c, es, hP, rfl⟩ | trace_state
end Go.Proofs.YtepbdjpcoleegaaGreat
