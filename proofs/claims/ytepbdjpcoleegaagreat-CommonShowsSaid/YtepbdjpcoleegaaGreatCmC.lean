import Derived.Test.YtepbdjpcoleegaaGreatCmM
import Derived.Test.YtepbdjpcoleegaaGreatCmB
import Derived.Test.YtepbdjpcoleegaaGreatPk3
import Derived.Test.YtepbdjpcoleegaaGreatIdnSrt7

/- common.Pairs, by the evaluator. -/
set_option linter.unusedSimpArgs false
set_option linter.unusedVariables false
namespace Go.Proofs.YtepbdjpcoleegaaGreat
open Go.Sort Eng
theorem par_0 (d : Array Par) (i : Nat) : parRd d i 0 = .i .u32 d[i]!.a := rfl
theorem par_1 (d : Array Par) (i : Nat) : parRd d i 1 = .i .u32 d[i]!.b := rfl
theorem tl_get (T : List Eng.Own) (x : Eng.Own) : (T ++ [x])[T.length]? = some x := List.getElem?_concat_length
theorem tl_set (T : List Eng.Own) (x y : Eng.Own) : (T ++ [x]).set T.length y = T ++ [y] := by rw [List.set_append_right _ _ (Nat.le_refl _), Nat.sub_self]; rfl
theorem idn_app {ys : List Idn} {x : Idn} {cs : List SV} (h : cs = Idn.cs x) : rdEq (ys.length + 1) 3 (rdCat ys.length (idnRd ys.toArray) (rdL cs 3)) (idnRd (ys ++ [x]).toArray) := by
  subst h
  refine rdEq_snoc (fun i j hi hj => ?_) (fun j hj => ?_)
  · unfold idnRd
    simp [getElem!_def, List.getElem?_append, hi]
  · unfold idnRd
    simp [getElem!_def]
structure Grp where
  p : Par
  ids : List Idn
  a : Option Addr
  cap : Nat
instance : Inhabited Grp := ⟨⟨default, [], none, 0⟩⟩
def Grp.row (g : Grp) : Eng.Own := idnRow g.a g.ids.length g.cap g.ids.toArray
def Grp.val (g : Grp) : SV := .os 0 g.a g.ids.length g.cap
def Grp.pair (g : Grp) : Par × List Idn := (g.p, g.ids)
def gKey (X : List Grp) (i : Nat) : List Int := (X.getD i default).p.keys
def gVal (X : List Grp) (i : Nat) : SV := (X.getD i default).val
theorem gKey_inj {X : List Grp} (h : ((X.map Grp.pair).map (·.1)).Nodup) {i j : Nat} (hi : i < X.length) (hj : j < X.length) (he : (X.getD i default).p = (X.getD j default).p) : i = j := by
  have g : ∀ k, k < X.length → ((X.map Grp.pair).map (·.1))[k]? = some (X.getD k default).p := fun k hk => by
    simp [List.getD, hk, Grp.pair]
  have hl : ((X.map Grp.pair).map (·.1)).length = X.length := by simp
  have h1 := g i hi
  have h2 := g j hj
  rw [he, ← h2] at h1
  exact (List.getElem?_inj (by omega) h).1 h1
structure Evd where
  kind : Int
  a : Int
  b : Int
  ids : List Idn
  ad : Option Addr
  cap : Nat
instance : Inhabited Evd := ⟨⟨0, 0, 0, [], none, 0⟩⟩
def Evd.cs (e : Evd) : List SV := [.i .i64 e.kind, .i .u32 e.a, .i .u32 e.b, .sl e.ad e.ids.length e.cap 3 (idnRd e.ids.toArray)]
def evRd (es : List Evd) : Nat → Nat → SV := fun i j => (Evd.cs (es.getD i default)).getD j default
theorem idn_sorted {L : List Idn} {d' : Array Idn} (hd : d'.size = L.length) (hp : PermIn 0 L.length L.toArray d') (hs : SortedIn idnLt 0 L.length d') : d'.toList.Perm L ∧ d'.toList.Pairwise fun a b => idnLt b a = false := by
  have h := hp.2.2
  have e1 : (d'.extract 0 L.length) = d' := by rw [← hd]; simp
  have e2 : (L.toArray.extract 0 L.length) = L.toArray := by simp
  rw [e1, e2] at h
  refine ⟨by simpa using h, ?_⟩
  rw [List.pairwise_iff_getElem]
  intro i j hi hj hij
  have hi' : i < d'.size := by simpa using hi
  have hj' : j < d'.size := by simpa using hj
  have := hs i j (Nat.zero_le _) hij (by omega)
  simpa [getElem!_def, hi', hj'] using this
theorem nodup_fst {G : List (Par × List Idn)} (h : (G.map (·.1)).Nodup) {p : Par} {l m : List Idn} (h1 : (p, l) ∈ G) (h2 : (p, m) ∈ G) : l = m := by
  induction G with
  | nil => cases h1
  | cons g G ih =>
    simp only [List.map_cons, List.nodup_cons] at h
    rcases List.mem_cons.1 h1 with e1 | e1 <;> rcases List.mem_cons.1 h2 with e2 | e2
    · rw [← e1] at e2; exact (Prod.mk.injEq .. ▸ e2).2.symm
    · exact absurd (List.mem_map.2 ⟨_, e2, by rw [← e1]⟩) h.1
    · exact absurd (List.mem_map.2 ⟨_, e1, by rw [← e2]⟩) h.1
    · exact ih h.2 e1 e2
def evOk (G : List (Par × List Idn)) (p : Par) (e : Evd) : Prop := e.kind = 1 ∧ e.a = p.a ∧ e.b = p.b ∧ (e.ids.Pairwise fun x y => idnLt x y = true) ∧ (∀ d, d ∈ e.ids ↔ ∃ l, (p, l) ∈ G ∧ d ∈ l) ∧ e.ids.length ≤ 512
def leftT (X : List Grp) (V : List Par) : List Eng.Own := X.map fun g => if g.p ∈ V then .gone else g.row
def Evd.pr (e : Evd) : Par := ⟨e.a, e.b⟩
theorem showR_valid {r : Res} {p : Par} (h : showR r = some p) : validR r = true := by
  unfold showR at h
  split at h
  · rename_i hc
    have := hc.2.2.2
    simp only [usableR, Bool.and_eq_true] at this
    exact this.2
  · cases h
structure PairsOf (xs : List Res) (es : List Evd) : Prop where
  asc : es.Pairwise fun x y => parLt x.pr y.pr = true
  each : ∀ e ∈ es, e.kind = 1 ∧ (e.ids.Pairwise fun x y => idnLt x y = true) ∧ e.ids ≠ [] ∧ e.ids.length ≤ 512
  mem : ∀ p d, (∃ e ∈ es, e.pr = p ∧ d ∈ e.ids) ↔ ∃ r ∈ xs, showR r = some p ∧ r.idn = d
  len : es.length ≤ xs.length
theorem pairsOf_mk {xs ys : List Res} {X : List Grp} {L : List Par} {es : List Evd} (hord : OrdOf xs ys) (hyl : ys.length ≤ xs.length) (hG : GrpOk ys (X.map Grp.pair)) (hL : ParSorted (X.map Grp.p) L) (hlen : es.length = L.length)
    (hes : ∀ q, q < L.length → evOk (X.map Grp.pair) (L.getD q default) (es.getD q default)) : PairsOf xs es := by
  have hpn : (X.map Grp.p).Nodup := by have := hG.nodup; rwa [List.map_map] at this
  have hLn : L.Nodup := hL.1.nodup_iff.2 hpn
  have at_ : ∀ q, (h : q < es.length) → evOk (X.map Grp.pair) (L[q]'(by omega)) es[q] := fun q h => by
    have := hes q (by omega)
    rwa [List.getD_eq_getElem?_getD, List.getElem?_eq_getElem (show q < L.length by omega), List.getD_eq_getElem?_getD, List.getElem?_eq_getElem h] at this
  have pr_ : ∀ q, (h : q < es.length) → es[q].pr = L[q]'(by omega) := fun q h => by
    obtain ⟨_, h1, h2, _⟩ := at_ q h
    unfold Evd.pr
    rw [h1, h2]
  have key : ∀ p, p ∈ L → ∃ l, (p, l) ∈ X.map Grp.pair ∧ l ≠ [] := fun p hp => by
    obtain ⟨g, hg, rfl⟩ := List.mem_map.1 (hL.1.mem_iff.1 hp)
    have hm : g.pair ∈ X.map Grp.pair := List.mem_map.2 ⟨g, hg, rfl⟩
    exact ⟨g.ids, hm, hG.ne _ hm⟩
  refine ⟨?_, ?_, fun p d => ⟨?_, ?_⟩, ?_⟩
  · rw [List.pairwise_iff_getElem]
    intro i j hi hj hij
    rw [pr_ i hi, pr_ j hj]
    have h1 := List.pairwise_iff_getElem.1 hL.2 i j (by omega) (by omega) hij
    rcases parLt_total (L[i]'(by omega)) (L[j]'(by omega)) with h | h | h
    · exact h
    · have := (List.getElem?_inj (j := j) (show i < L.length by omega) hLn).1 (by rw [List.getElem?_eq_getElem (by omega), List.getElem?_eq_getElem (by omega), h])
      omega
    · rw [h1] at h; cases h
  · intro e he
    obtain ⟨q, hq, rfl⟩ := List.getElem_of_mem he
    obtain ⟨h1, _, _, h2, h3, h4⟩ := at_ q hq
    refine ⟨h1, h2, fun e0 => ?_, h4⟩
    obtain ⟨l, hl, hne⟩ := key _ (List.getElem_mem (show q < L.length by omega))
    obtain ⟨d, hd⟩ := List.exists_mem_of_ne_nil l hne
    have := (h3 d).2 ⟨l, hl, hd⟩
    rw [e0] at this
    cases this
  · rintro ⟨e, he, rfl, hd⟩
    obtain ⟨q, hq, rfl⟩ := List.getElem_of_mem he
    obtain ⟨_, _, _, _, h3, _⟩ := at_ q hq
    obtain ⟨r, hr, h5⟩ := (hG.mem _ _).1 ((h3 d).1 hd)
    rw [pr_ q hq]
    exact ⟨r, ((hord.2 r).1 hr).1, h5⟩
  · rintro ⟨r, hr, hs, hd⟩
    have hry : r ∈ ys := (hord.2 r).2 ⟨hr, showR_valid hs⟩
    obtain ⟨l, hl, hdl⟩ := (hG.mem p d).2 ⟨r, hry, hs, hd⟩
    obtain ⟨g, hg, hgp⟩ := List.mem_map.1 hl
    have hpL : p ∈ L := hL.1.mem_iff.2 (List.mem_map.2 ⟨g, hg, (Prod.mk.injEq .. ▸ hgp).1⟩)
    obtain ⟨q, hq, hqp⟩ := List.getElem_of_mem hpL
    have hqe : q < es.length := by omega
    obtain ⟨_, _, _, _, h3, _⟩ := at_ q hqe
    exact ⟨es[q], List.getElem_mem _, (pr_ q hqe).trans hqp, (h3 d).2 ⟨l, by rw [hqp]; exact hl, hdl⟩⟩
  · have h1 := hL.1.length_eq
    have h2 := hG.len
    simp only [List.length_map] at h1 h2
    omega
set_option maxHeartbeats 2000000 in
set_option maxRecDepth 100000 in
theorem pairsC (F : Frm) (ad : Option Addr) (cap : Nat) (xs : List Res) (hl : xs.length ≤ 512) (hin : ∀ r ∈ xs, RgR r) :
    Contract F Tryz.prog 11 [.sl ad xs.length cap 17 (resRd xs.toArray)] (fun r => (xs.any (fun x => !validR x) = true ∧ ∃ rd, r = tupL [.sl none 0 0 0 rd, .i .i64 1]) ∨
      (xs.any (fun x => !validR x) = false ∧ ∃ a cap es, PairsOf xs es ∧ r = tupL [.sl a es.length cap 4 (evRd es), .i .i64 0])) := by
  refine contract_of Tryz.func11 rfl (by kernel_rfl) ?_
  simp only [Tryz.ntmps11, argEnv]
  (repeat refine Sat.seq ?_)
  (refine Sat.region_k fun k hk => ?_; simp -implicitDefEqProofs only [evr, id, seval, res_one, par_one, idn_one, par_0, par_1, resRow, res_ro, tl_get, tl_set, rExtract_tup, evn]; refine hk _ ?_; clear hk k; try show Sat _ _ _ _ _)
  (repeat refine Sat.seq ?_)
  (refine Sat.region_k fun k hk => ?_; simp -implicitDefEqProofs only [evr, id, seval, res_one, par_one, idn_one, par_0, par_1, resRow, res_ro, tl_get, tl_set, rExtract_tup, evn])
  refine wcall_plain (containsFuncC F _ _ _ pairsFnC ad cap xs (by omega)) (by simp -implicitDefEqProofs only [evr, id, seval, res_one, par_one, idn_one, par_0, par_1, resRow, res_ro, tl_get, tl_set, rExtract_tup, evn]; try rfl) (by rintro _ rfl; exact ok_plain rfl) ?_
  rintro r rfl
  simp -implicitDefEqProofs only [evr, id, seval, res_one, par_one, idn_one, par_0, par_1, resRow, res_ro, tl_get, tl_set, rExtract_tup, evn]
  (refine hk _ ?_; clear hk k; try show Sat _ _ _ _ _)
  (repeat refine Sat.seq ?_)
  refine Sat.cond_b rfl (fun h => ?_) (fun h => ?_)
  · (repeat refine Sat.seq ?_)
    (refine Sat.region_k fun k hk => ?_; simp -implicitDefEqProofs only [evr, id, seval, res_one, par_one, idn_one, par_0, par_1, resRow, res_ro, tl_get, tl_set, rExtract_tup, evn]; refine hk _ ?_; clear hk k; try show Sat _ _ _ _ _)
    refine Sat.ret ?_
    simp only [Tryz.results11, evr, id, seval, res_one, par_one, idn_one, par_0, par_1, List.append_nil, Int.toNat_zero, Nat.sub_self, Int.reduceToNat, resRow, res_ro, tl_get, tl_set, rExtract_tup]
    exact .inl ⟨h, _, rfl⟩
  refine Sat.skip ?_
  simp only [thenK]
  (repeat refine Sat.seq ?_)
  (refine Sat.region_k fun k hk => ?_; simp -implicitDefEqProofs only [evr, id, seval, res_one, par_one, idn_one, par_0, par_1, resRow, res_ro, tl_get, tl_set, rExtract_tup, evn])
  refine wcall_new (orderC F ad cap xs (by omega) hin) rfl (by simp -implicitDefEqProofs only [evr, id, seval, res_one, par_one, idn_one, par_0, par_1, resRow, res_ro, tl_get, tl_set, rExtract_tup, evn]; try rfl) ?_
  rintro a ty len cap2 sz rd2 ⟨ya, yc, ys, hord, hyl, e⟩
  simp only [resRow, Eng.Own.row.injEq] at e
  obtain ⟨rfl, rfl, rfl, rfl, rfl, rfl⟩ := e
  simp -implicitDefEqProofs only [evr, id, seval, res_one, par_one, idn_one, par_0, par_1, resRow, res_ro, tl_get, tl_set, rExtract_tup, evn]
  (refine hk _ ?_; clear hk k; try show Sat _ _ _ _ _)
  (repeat refine Sat.seq ?_)
  (refine Sat.region_k fun k hk => ?_; simp -implicitDefEqProofs only [evr, id, seval, res_one, par_one, idn_one, par_0, par_1, resRow, res_ro, tl_get, tl_set, rExtract_tup, evn]; refine hk _ ?_; clear hk k; try show Sat _ _ _ _ _)
  (repeat refine Sat.seq ?_)
  refine Sat.cond_b rfl (fun h2 => ?_) (fun h2 => ?_)
  · simp only [decide_eq_true_eq] at h2
    omega
  refine Sat.skip ?_
  simp only [thenK]
  refine Sat.settle2 4 rfl rfl ?_
  (repeat refine Sat.seq ?_)
  have hT : mqT Tryz.prog 82 = some (false, [.u32, .u32], 26) := by kernel_rfl
  (refine Sat.region_k fun k hk => ?_; simp -implicitDefEqProofs only [evr, id, seval, res_one, par_one, idn_one, par_0, par_1, resRow, res_ro, tl_get, tl_set, rExtract_tup, evn])
  refine makeMq hT (show 22 < 71 by decide) fun mb => ?_
  simp -implicitDefEqProofs only [evr, id, seval, res_one, par_one, idn_one, par_0, par_1, resRow, res_ro, tl_get, tl_set, rExtract_tup, evn]
  (refine hk _ ?_; clear hk k; try show Sat _ _ _ _ _)
  (repeat refine Sat.seq ?_)
  (refine Sat.region_k fun k hk => ?_; simp -implicitDefEqProofs only [evr, id, seval, res_one, par_one, idn_one, par_0, par_1, resRow, res_ro, tl_get, tl_set, rExtract_tup, evn]; refine hk _ ?_; clear hk k; try show Sat _ _ _ _ _)
  (repeat refine Sat.seq ?_)
  refine Sat.block ?_
  refine Sat.loop (ι := Nat × List Grp) (fun z => ⟨71, [(25, .i .i64 z.1), (24, .i .i64 ys.length), (23, .sl a ys.length cap2 17 (resRd ys.toArray)), (5, .mp 1 mb)], .gone :: .mq mb false [.u32, .u32] z.2.length (gKey z.2) (gVal z.2) :: z.2.map Grp.row⟩)
    (fun z => z.1 ≤ ys.length ∧ z.2.map Grp.pair = grpOf (ys.take z.1)) (fun z => ys.length - z.1) (0, []) ⟨Nat.zero_le _, rfl⟩ (by
      simp only [List.map_nil, List.length_nil]
      simp -implicitDefEqProofs only [evr, id, seval, res_one, par_one, idn_one, par_0, par_1, resRow, res_ro, tl_get, tl_set, rExtract_tup, evl, evn]
      first | exact ⟨rfl, fun i hi => absurd hi (Nat.not_lt_zero _)⟩ | exact fun i hi => absurd hi (Nat.not_lt_zero _)) ?_
  rintro ⟨i, X⟩ ⟨hi, hX⟩
  simp only at hi hX ⊢
  have hG := grpOk_take ys i hi
  rw [← hX] at hG
  have hXl : X.length ≤ 512 := by
    have := hG.len
    simp only [List.length_map, List.length_take] at this
    omega
  (repeat refine Sat.seq ?_)
  (refine Sat.region_k fun k hk => ?_; simp -implicitDefEqProofs only [evr, id, seval, res_one, par_one, idn_one, par_0, par_1, resRow, res_ro, tl_get, tl_set, rExtract_tup, evn]; refine hk _ ?_; clear hk k; try show Sat _ _ _ _ _)
  (repeat refine Sat.seq ?_)
  refine Sat.cond_b rfl (fun h3 => ?_) (fun h3 => ?_)
  · have hlt : i < ys.length := by simp only [decide_eq_true_eq] at h3; omega
    have e1 : IntKind.i64.wrap ((i : Int) + 1) = ((i + 1 : Nat) : Int) := by rw [w64 (by omega)]; omega
    have hstep := grpOf_take ys i hlt
    rw [← hX] at hstep
    have hyi : ys.toArray[i]! = ys[i] := by simp [getElem!_def, hlt]
    refine Sat.skip ?_
    simp only [thenK]
    (repeat refine Sat.seq ?_)
    refine Sat.block ?_
    (repeat refine Sat.seq ?_)
    obtain ⟨T, hTd⟩ : ∃ T, T = X.map Grp.row := ⟨_, rfl⟩
    rw [← hTd]
    have hTl : T.length = X.length := by rw [hTd, List.length_map]
    (refine Sat.region_k fun k hk => ?_; simp -implicitDefEqProofs only [evr, id, seval, res_one, par_one, idn_one, par_0, par_1, resRow, res_ro, tl_get, tl_set, rExtract_tup, evn])
    refine ⟨by omega, fun b7 => ?_⟩
    (refine hk _ ?_; clear hk k; try show Sat _ _ _ _ _)
    refine Sat.settleLast (.gone :: .mq mb false [.u32, .u32] X.length (gKey X) (gVal X) :: T) 7 rfl ?_
    simp only [List.length_cons, List.length_nil]
    (repeat refine Sat.seq ?_)
    (refine Sat.region_k fun k hk => ?_; simp -implicitDefEqProofs only [evr, id, seval, res_one, par_one, idn_one, par_0, par_1, resRow, res_ro, tl_get, tl_set, rExtract_tup, evn])
    refine wcall_plain (showC F ys.toArray[i]!) rfl (by rintro _ rfl; exact showS_ok _) ?_
    rintro _ rfl
    obtain ⟨r, hr⟩ : ∃ r, r = ys.toArray[i]! := ⟨_, rfl⟩
    rw [← hyi, ← hr] at hstep
    rw [← hr]
    unfold grpStep at hstep
    cases hs : showR r with
    | none =>
      rw [hs] at hstep
      simp only at hstep
      simp only [showS, tupL, parAg, Par.cs, evr, id, seval, res_one, par_one, idn_one, par_0, par_1, List.append_nil, Int.toNat_zero, Nat.sub_self, Int.reduceToNat, resRow, res_ro, tl_get, tl_set, rExtract_tup]
      intro b8
      (refine hk _ ?_; clear hk k; try show Sat _ _ _ _ _)
      refine Sat.settleLast (.gone :: .mq mb false [.u32, .u32] X.length (gKey X) (gVal X) :: T) 8 rfl ?_
      simp only [List.length_cons, List.length_nil]
      (repeat refine Sat.seq ?_)
      (refine Sat.region_k fun k hk => ?_; simp -implicitDefEqProofs only [evr, id, seval, res_one, par_one, idn_one, par_0, par_1, resRow, res_ro, tl_get, tl_set, rExtract_tup, evn]; refine hk _ ?_; clear hk k; try show Sat _ _ _ _ _)
      (repeat refine Sat.seq ?_)
      refine Sat.cond_b rfl (fun h => absurd h (by decide)) (fun _ => ?_)
      refine Sat.skip ?_
      simp only [thenK, blockK, reduceIte]
      refine Sat.region_k fun k hk => ?_
      simp -implicitDefEqProofs only [evr, id, seval, res_one, par_one, idn_one, par_0, par_1, resRow, res_ro, tl_get, tl_set, rExtract_tup, e1, evn]
      refine hk _ ?_
      simp only [thenK, blockK]
      refine ⟨(i + 1, X), ⟨by simp only; omega, hstep.symm⟩, by simp only; omega, ?_⟩
      rw [hTd]
      simp -implicitDefEqProofs only [evr, id, seval, res_one, par_one, idn_one, par_0, par_1, resRow, res_ro, tl_get, tl_set, rExtract_tup, evl, evn]
      exact ownLe_refl _
    | some p =>
      rw [hs] at hstep
      simp only at hstep
      simp only [showS, tupL, parAg, Par.cs, evr, id, seval, res_one, par_one, idn_one, par_0, par_1, List.append_nil, Int.toNat_zero, Nat.sub_self, Int.reduceToNat, resRow, res_ro, tl_get, tl_set, rExtract_tup]
      intro b8
      (refine hk _ ?_; clear hk k; try show Sat _ _ _ _ _)
      refine Sat.settleLast (.gone :: .mq mb false [.u32, .u32] X.length (gKey X) (gVal X) :: T) 8 rfl ?_
      simp only [List.length_cons, List.length_nil]
      (repeat refine Sat.seq ?_)
      (refine Sat.region_k fun k hk => ?_; simp -implicitDefEqProofs only [evr, id, seval, res_one, par_one, idn_one, par_0, par_1, resRow, res_ro, tl_get, tl_set, rExtract_tup, evn]; refine hk _ ?_; clear hk k; try show Sat _ _ _ _ _)
      (repeat refine Sat.seq ?_)
      refine Sat.cond_b rfl (fun _ => ?_) (fun h => absurd h (by decide))
      rcases Classical.em (∃ j, j < X.length ∧ (X.getD j default).p = p) with ⟨j, hj, hjp⟩ | hno
      · obtain ⟨g, hg⟩ : ∃ g, g = X.getD j default := ⟨_, rfl⟩
        have hXj : X[j]? = some g := by rw [hg, List.getD_eq_getElem?_getD, List.getElem?_eq_getElem hj]; rfl
        have hTj : T[j]? = some g.row := by rw [hTd, List.getElem?_map, hXj]; rfl
        refine Sat.pull j hTj ?_
        obtain ⟨T1, hT1⟩ : ∃ T1, T1 = T.set j Eng.Own.gone := ⟨_, rfl⟩
        rw [← hT1]
        simp only [Grp.row, idnRow]
        (repeat refine Sat.seq ?_)
        (refine Sat.region_rows [⟨0, 36, 32, 0⟩, ⟨0, 37, 256, 1⟩, ⟨0, 39, 128, 1⟩, ⟨4, 40, 274877906944, 2⟩, ⟨8, 41, 549755813888, 2⟩, ⟨31, 42, 103079215104, 2⟩, ⟨32, 38, 2199023255552, 0⟩, ⟨112, 43, 1236950581248, 2⟩, ⟨32, 44, 2199023255552, 0⟩, ⟨511, 0, 13228499271680, 2⟩] [0, 1, 2] [(3, false), (4, false), (5, false), (6, true), (8, true), (7, false), (9, false)] [3, 4] (by kernel_rfl) (by kernel_rfl) (fun _ _ h => h) fun k hk => ?_; simp only [List.map_cons, List.map_nil, List.getD_cons_zero, List.getD_cons_succ, btseq_cons, btseq_free, btseq_nil]; simp -implicitDefEqProofs only [evr, id, seval, res_one, par_one, idn_one, par_0, par_1, resRow, res_ro, tl_get, tl_set, rExtract_tup, evn])
        refine wcall_plain (identC F ys.toArray[i]!) rfl (by rintro _ rfl; intro R w q hq; rcases (show q = 0 ∨ q = 1 ∨ q = 2 by omega) with rfl | rfl | rfl <;> trivial) ?_
        rintro _ rfl
        rw [← hr]
        simp only [idAg, evr, id, seval, res_one, par_one, idn_one, par_0, par_1, List.append_nil, Int.toNat_zero, Nat.sub_self, Int.reduceToNat, resRow, res_ro, tl_get, tl_set, rExtract_tup]
        refine ⟨by rw [List.take_length], fun bs => ⟨by rw [List.take_left], ?_⟩⟩
        refine entryMq (id := 1) (l := p.keys) hT rfl rfl rfl rfl (.sl none 0 0 0 fun _ _ => .v undef) (by kernel_rfl) (fun R w => ⟨Nat.le_refl _, Nat.zero_le _, .inl rfl⟩) (show 41 < 71 by decide) (fun j2 hj2 hk2 => ?_) (fun hno => ?_)
        · obtain rfl : j2 = j := gKey_inj hG.nodup hj2 hj (by rw [hjp]; exact parKeys_inj hk2)
          have hgv : gVal X j2 = .os 0 g.a g.ids.length g.cap := by unfold gVal Grp.val; rw [← hg]
          rw [hgv]
          have hgm : g.pair ∈ X.map Grp.pair := List.mem_map.2 ⟨g, List.mem_of_getElem? hXj, rfl⟩
          have hgl : g.ids.length ≤ 512 := by
            have := hG.lens _ hgm
            rw [List.length_take] at this
            have h9 : g.pair.2 = g.ids := rfl
            rw [h9] at this
            omega
          simp -implicitDefEqProofs only [evr, id, seval, res_one, par_one, idn_one, par_0, par_1, resRow, res_ro, tl_get, tl_set, rExtract_tup, evn]
          refine ⟨⟨by unfold maxLen; omega, by omega⟩, fun a3 c3 => ?_⟩
          refine storeMq (id := 1) rfl rfl rfl hj rfl trivial ?_
          simp -implicitDefEqProofs only [evr, id, seval, res_one, par_one, idn_one, par_0, par_1, resRow, res_ro, tl_get, tl_set, rExtract_tup, evn]
          refine hk _ ?_
          clear hk k
          simp only [thenK, blockK]
          refine Sat.cutOwn (.row a3 30 (g.ids.length + 1) c3 3 (rdCat g.ids.length (idnRd g.ids.toArray) (rdL [SV.i .i64 r.vantage, SV.i .i64 r.run, SV.i .i64 r.number] 3)) :: .mq mb false [.u32, .u32] X.length (gKey X) (fun q => if q = j2 then .os 0 a3 (g.ids.length + 1) c3 else gVal X q) :: T1) ?_
          obtain ⟨X2, hX2d⟩ : ∃ X2, X2 = X.set j2 ⟨p, g.ids ++ [r.idn], a3, c3⟩ := ⟨_, rfl⟩
          have hX2l : X2.length = X.length := by rw [hX2d, List.length_set]
          have hX2g : ∀ q, q < X.length → X2.getD q default = if q = j2 then ⟨p, g.ids ++ [r.idn], a3, c3⟩ else X.getD q default := fun q hq => by
            rw [hX2d, List.getD_eq_getElem?_getD, List.getElem?_set, List.getD_eq_getElem?_getD]
            by_cases e : q = j2
            · subst e; simp [hq]
            · simp [e, Ne.symm e]
          have hX2 : X2.map Grp.pair = grpOf (ys.take (i + 1)) := by
            rw [hstep, grpAdd_hit (l := g.ids) hG.nodup (by rw [List.getElem?_map, hXj, Option.map_some]; show some (g.p, g.ids) = _; rw [hg, hjp]), hX2d, List.map_set]
            rfl
          refine Sat.leOwn (own' := Grp.row ⟨p, g.ids ++ [r.idn], a3, c3⟩ :: .mq mb false [.u32, .u32] X2.length (gKey X2) (gVal X2) :: T1) ⟨⟨rfl, rfl, by simp, rfl, rfl, idn_app rfl⟩, ⟨rfl, rfl, rfl, hX2l.symm, fun q hq => ?_⟩, ownLe_refl _⟩ ?_
          · unfold gKey gVal
            rw [hX2g q hq]
            by_cases e : q = j2
            · subst e
              simp only [if_true]
              exact ⟨by rw [hjp], by simp [Grp.val]⟩
            · simp only [e, if_false]
              exact ⟨trivial, trivial⟩
          refine Sat.push j2 (by rw [hT1, List.getElem?_set_self (by rw [hTl]; exact hj)]) ?_
          have hT2 : T1.set j2 (Grp.row ⟨p, g.ids ++ [r.idn], a3, c3⟩) = X2.map Grp.row := by rw [hT1, List.set_set, hTd, hX2d, List.map_set]
          rw [hT2]
          refine Sat.region_k fun k hk => ?_
          simp -implicitDefEqProofs only [evr, id, seval, res_one, par_one, idn_one, par_0, par_1, resRow, res_ro, tl_get, tl_set, rExtract_tup, e1, evn]
          refine hk _ ?_
          simp only [thenK, blockK]
          refine ⟨(i + 1, X2), ⟨by simp only; omega, hX2⟩, by simp only; omega, ?_⟩
          simp -implicitDefEqProofs only [evr, id, seval, res_one, par_one, idn_one, par_0, par_1, resRow, res_ro, tl_get, tl_set, rExtract_tup, evl, evn]
          exact ownLe_refl _
        · exact absurd (by unfold gKey; rw [hjp]) (hno j hj)
      · refine Sat.nilAt 0 30 3 (idnRd #[]) rfl ?_
        simp only [List.set_cons_zero]
        (repeat refine Sat.seq ?_)
        (refine Sat.region_rows [⟨0, 36, 32, 0⟩, ⟨0, 37, 256, 1⟩, ⟨0, 39, 128, 1⟩, ⟨4, 40, 274877906944, 2⟩, ⟨8, 41, 549755813888, 2⟩, ⟨31, 42, 103079215104, 2⟩, ⟨32, 38, 2199023255552, 0⟩, ⟨112, 43, 1236950581248, 2⟩, ⟨32, 44, 2199023255552, 0⟩, ⟨511, 0, 13228499271680, 2⟩] [0, 1, 2] [(3, false), (4, false), (5, false), (6, true), (8, true), (7, false), (9, false)] [3, 4] (by kernel_rfl) (by kernel_rfl) (fun _ _ h => h) fun k hk => ?_; simp only [List.map_cons, List.map_nil, List.getD_cons_zero, List.getD_cons_succ, btseq_cons, btseq_free, btseq_nil]; simp -implicitDefEqProofs only [evr, id, seval, res_one, par_one, idn_one, par_0, par_1, resRow, res_ro, tl_get, tl_set, rExtract_tup, evn])
        refine wcall_plain (identC F ys.toArray[i]!) rfl (by rintro _ rfl; intro R w q hq; rcases (show q = 0 ∨ q = 1 ∨ q = 2 by omega) with rfl | rfl | rfl <;> trivial) ?_
        rintro _ rfl
        rw [← hr]
        simp only [idAg, evr, id, seval, res_one, par_one, idn_one, par_0, par_1, List.append_nil, Int.toNat_zero, Nat.sub_self, Int.reduceToNat, resRow, res_ro, tl_get, tl_set, rExtract_tup]
        refine ⟨by rw [List.take_length], fun bs => ⟨by rw [List.take_left], ?_⟩⟩
        refine entryMq (id := 1) (l := p.keys) hT rfl rfl rfl rfl (.os 0 none 0 0) (by kernel_rfl) (fun R w => trivial) (show 41 < 71 by decide) (fun j2 hj2 hk2 => ?_) (fun hno2 => ?_)
        · exact absurd ⟨j2, hj2, parKeys_inj hk2⟩ hno
        · simp -implicitDefEqProofs only [evr, id, seval, res_one, par_one, idn_one, par_0, par_1, resRow, res_ro, tl_get, tl_set, rExtract_tup, evn]
          refine ⟨by unfold maxLen; omega, fun a3 c3 => ?_⟩
          refine storeMq (id := 1) rfl rfl rfl (Nat.lt_succ_self _) rfl trivial ?_
          simp -implicitDefEqProofs only [evr, id, seval, res_one, par_one, idn_one, par_0, par_1, resRow, res_ro, tl_get, tl_set, rExtract_tup, evn]
          refine hk _ ?_
          clear hk k
          simp only [thenK, blockK]
          refine Sat.cutOwn (.row a3 30 1 c3 3 (rdCat 0 (idnRd #[]) (rdL [SV.i .i64 r.vantage, SV.i .i64 r.run, SV.i .i64 r.number] 3)) :: .mq mb false [.u32, .u32] (X.length + 1) (fun q => if q = X.length then p.keys else gKey X q) (fun q => if q = X.length then .os 0 a3 1 c3 else if q = X.length then .os 0 none 0 0 else gVal X q) :: T) ?_
          obtain ⟨X2, hX2d⟩ : ∃ X2, X2 = X ++ [⟨p, [r.idn], a3, c3⟩] := ⟨_, rfl⟩
          have hX2l : X2.length = X.length + 1 := by rw [hX2d, List.length_append]; rfl
          have hX2g : ∀ q, q < X.length → X2.getD q default = X.getD q default := fun q hq => by
            rw [hX2d, List.getD_eq_getElem?_getD, List.getElem?_append_left hq, List.getD_eq_getElem?_getD]
          have hX2n : X2.getD X.length default = ⟨p, [r.idn], a3, c3⟩ := by
            rw [hX2d, List.getD_eq_getElem?_getD, List.getElem?_concat_length]; rfl
          have hX2 : X2.map Grp.pair = grpOf (ys.take (i + 1)) := by
            rw [hstep, grpAdd_miss (fun x hx => by
              obtain ⟨y, hy, rfl⟩ := List.mem_map.1 hx
              obtain ⟨q, hq, rfl⟩ := List.getElem_of_mem hy
              exact fun e => hno ⟨q, hq, by rw [List.getD_eq_getElem?_getD, List.getElem?_eq_getElem hq]; exact e⟩), hX2d, List.map_append]
            rfl
          refine Sat.leOwn (own' := Grp.row ⟨p, [r.idn], a3, c3⟩ :: .mq mb false [.u32, .u32] X2.length (gKey X2) (gVal X2) :: T) ⟨⟨rfl, rfl, rfl, rfl, rfl, idn_app (ys := []) rfl⟩, ⟨rfl, rfl, rfl, hX2l.symm, fun q hq => ?_⟩, ownLe_refl _⟩ ?_
          · unfold gKey gVal
            by_cases e : q = X.length
            · subst e
              rw [hX2n]
              simp [Grp.val]
            · rw [hX2g q (by omega)]
              simp only [e, if_false]
              exact ⟨trivial, trivial⟩
          refine Sat.pushNew ?_
          have hT2 : T ++ [Grp.row ⟨p, [r.idn], a3, c3⟩] = X2.map Grp.row := by rw [hTd, hX2d, List.map_append]; rfl
          rw [hT2]
          refine Sat.region_k fun k hk => ?_
          simp -implicitDefEqProofs only [evr, id, seval, res_one, par_one, idn_one, par_0, par_1, resRow, res_ro, tl_get, tl_set, rExtract_tup, e1, evn]
          refine hk _ ?_
          simp only [thenK, blockK]
          refine ⟨(i + 1, X2), ⟨by simp only; omega, hX2⟩, by simp only; omega, ?_⟩
          simp -implicitDefEqProofs only [evr, id, seval, res_one, par_one, idn_one, par_0, par_1, resRow, res_ro, tl_get, tl_set, rExtract_tup, evl, evn]
          exact ownLe_refl _
  refine Sat.exit ?_
  simp only [thenK, blockK, reduceIte]
  have hif : i = ys.length := by simp only [decide_eq_false_iff_not] at h3; omega
  subst hif
  rw [List.take_length] at hX hG
  obtain ⟨ps, hps⟩ : ∃ ps, ps = X.map Grp.p := ⟨_, rfl⟩
  have hpl : ps.length = X.length := by rw [hps, List.length_map]
  have hpg : ∀ q, q < X.length → ps.getD q default = (X.getD q default).p := fun q hq => by
    rw [hps]; simp [List.getD, hq]
  refine Sat.leOwn (own' := .gone :: .mq mb false [.u32, .u32] ps.length (fun i => (ps.getD i default).keys) (gVal X) :: X.map Grp.row) ⟨trivial, ⟨rfl, rfl, rfl, hpl.symm, fun q hq => ⟨by show _ = (ps.getD q default).keys; unfold gKey; rw [hpg q hq], rfl⟩⟩, ownLe_refl _⟩ ?_
  refine Sat.settleMap 5 rfl rfl ?_
  simp only [List.set_cons_succ, List.set_cons_zero]
  obtain ⟨T, hTd⟩ : ∃ T, T = X.map Grp.row := ⟨_, rfl⟩
  rw [← hTd]
  have hTl : T.length = X.length := by rw [hTd, List.length_map]
  (repeat refine Sat.seq ?_)
  (refine Sat.region_k fun k hk => ?_; simp -implicitDefEqProofs only [evr, id, seval, res_one, par_one, idn_one, par_0, par_1, resRow, res_ro, tl_get, tl_set, rExtract_tup, evn])
  refine wcall_slice (keysC F mb ps (gVal X)) rfl (by simp only [pmS, evr, id, seval, res_one, par_one, idn_one, par_0, par_1, List.append_nil, Int.toNat_zero, Nat.sub_self, Int.reduceToNat, resRow, res_ro, tl_get, tl_set, rExtract_tup]; try rfl) ?_
  rintro _ ⟨bx, rdk, rfl, hrdk⟩
  simp -implicitDefEqProofs only [evr, id, seval, res_one, par_one, idn_one, par_0, par_1, resRow, res_ro, tl_get, tl_set, rExtract_tup, evn]
  refine wcall_new (sortedKC F mb bx ps (gVal X) rdk _ hrdk (by omega)) rfl (by simp -implicitDefEqProofs only [evr, id, seval, res_one, par_one, idn_one, par_0, par_1, resRow, res_ro, tl_get, tl_set, rExtract_tup, evn]; try rfl) ?_
  rintro pa ty len cap4 sz rd4 ⟨pa2, pc, L, hL, e⟩
  simp only [parRow, Eng.Own.row.injEq] at e
  obtain ⟨rfl, rfl, rfl, rfl, rfl, rfl⟩ := e
  simp -implicitDefEqProofs only [evr, id, seval, res_one, par_one, idn_one, par_0, par_1, resRow, res_ro, tl_get, tl_set, rExtract_tup, evn]
  (refine hk _ ?_; clear hk k; try show Sat _ _ _ _ _)
  refine Sat.settleLastRow (.gone :: .gone :: T) 10 rfl ?_
  (repeat refine Sat.seq ?_)
  (refine Sat.region_k fun k hk => ?_; simp -implicitDefEqProofs only [evr, id, seval, res_one, par_one, idn_one, par_0, par_1, resRow, res_ro, tl_get, tl_set, rExtract_tup, evn]; refine hk _ ?_; clear hk k; try show Sat _ _ _ _ _)
  refine Sat.nilAt 1 28 4 (evRd []) rfl ?_
  refine Sat.redo 11 (.os 1 none 0 0) rfl rfl (fun _ _ => trivial) ?_
  simp only [List.set_cons_succ, List.set_cons_zero]
  have hLps := hL.1
  have hpn : ps.Nodup := by
    have := hG.nodup
    rw [List.map_map] at this
    rw [hps]
    exact this
  have hLn : L.Nodup := hLps.nodup_iff.2 hpn
  have hLl : L.length = ps.length := hLps.length_eq
  (repeat refine Sat.seq ?_)
  (refine Sat.region_k fun k hk => ?_; simp -implicitDefEqProofs only [evr, id, seval, res_one, par_one, idn_one, par_0, par_1, resRow, res_ro, tl_get, tl_set, rExtract_tup, evn]; refine hk _ ?_; clear hk k; try show Sat _ _ _ _ _)
  (repeat refine Sat.seq ?_)
  refine Sat.block ?_
  refine Sat.loop (ι := Nat × List Evd × Option Addr × Nat) (fun z => ⟨71, [(50, .i .i64 z.1), (11, .os 1 z.2.2.1 z.2.1.length z.2.2.2), (49, .i .i64 L.length), (48, .sl pa L.length cap4 2 (parRd L.toArray)), (5, .rm mb false [.u32, .u32] ps.length (fun i => (ps.getD i default).keys) (gVal X))], .gone :: .row z.2.2.1 28 z.2.1.length z.2.2.2 4 (evRd z.2.1) :: leftT X (L.take z.1)⟩)
    (fun z => z.1 ≤ L.length ∧ z.2.1.length = z.1 ∧ ∀ q, q < z.1 → evOk (X.map Grp.pair) (L.getD q default) (z.2.1.getD q default)) (fun z => L.length - z.1) (0, [], none, 0) ⟨Nat.zero_le _, rfl, fun q hq => absurd hq (Nat.not_lt_zero _)⟩ (by
      simp only [List.length_nil, List.take_zero]
      simp -implicitDefEqProofs only [evr, id, seval, res_one, par_one, idn_one, par_0, par_1, resRow, res_ro, tl_get, tl_set, rExtract_tup, evl, evn]
      try refine ⟨rfl, ?_⟩
      rw [hTd]
      have e0 : leftT X [] = X.map Grp.row := List.map_congr_left fun g _ => if_neg (by simp)
      rw [e0]
      exact ownLe_refl _) ?_
  rintro ⟨v, es, ea, ec⟩ ⟨hv, hel, hes⟩
  simp only at hv hel hes ⊢
  (repeat refine Sat.seq ?_)
  (refine Sat.region_k fun k hk => ?_; simp -implicitDefEqProofs only [evr, id, seval, res_one, par_one, idn_one, par_0, par_1, resRow, res_ro, tl_get, tl_set, rExtract_tup, evn]; refine hk _ ?_; clear hk k; try show Sat _ _ _ _ _)
  (repeat refine Sat.seq ?_)
  refine Sat.cond_b rfl (fun h4 => ?_) (fun h4 => ?_)
  · have hlt : v < L.length := by simp only [decide_eq_true_eq] at h4; omega
    have e1 : IntKind.i64.wrap ((v : Int) + 1) = ((v + 1 : Nat) : Int) := by rw [w64 (by omega)]; omega
    have hLv : L.toArray[v]! = L[v] := by simp [getElem!_def, hlt]
    refine Sat.skip ?_
    simp only [thenK]
    (repeat refine Sat.seq ?_)
    refine Sat.block ?_
    (repeat refine Sat.seq ?_)
    obtain ⟨T, hTd⟩ : ∃ T, T = leftT X (L.take v) := ⟨_, rfl⟩
    rw [← hTd]
    have hTl : T.length = X.length := by rw [hTd, leftT, List.length_map]
    (refine Sat.region_k fun k hk => ?_; simp -implicitDefEqProofs only [evr, id, seval, res_one, par_one, idn_one, par_0, par_1, resRow, res_ro, tl_get, tl_set, rExtract_tup, evn])
    refine ⟨by omega, fun b13 => ?_⟩
    (refine hk _ ?_; clear hk k; try show Sat _ _ _ _ _)
    refine Sat.settleLast (.gone :: .row ea 28 es.length ec 4 (evRd es) :: T) 13 rfl ?_
    simp only [List.length_cons]
    (repeat refine Sat.seq ?_)
    (refine Sat.region_k fun k hk => ?_; simp -implicitDefEqProofs only [evr, id, seval, res_one, par_one, idn_one, par_0, par_1, resRow, res_ro, tl_get, tl_set, rExtract_tup, evn])
    obtain ⟨p, hp⟩ : ∃ p, p = L.toArray[v]! := ⟨_, rfl⟩
    have hpL : p ∈ L := by rw [hp, hLv]; exact List.getElem_mem _
    have hpX : p ∈ X.map Grp.p := by rw [← hps]; exact hLps.mem_iff.1 hpL
    obtain ⟨g, hgX, hgp⟩ := List.mem_map.1 hpX
    obtain ⟨j, hj, hXj⟩ := List.getElem_of_mem hgX
    refine lookMq (l := p.keys) hT (mqIn_rm (m := .tmp 54) rfl) rfl (by rw [hp]; rfl) (.os 0 none 0 0) (by kernel_rfl) (fun R w => trivial) (show 56 < 71 by decide) (fun j2 hj2 hk2 => ?_) (fun hno => (hno j (by omega) (by
      show (ps.getD j default).keys = p.keys
      rw [hpg j hj, ← hgp, List.getD_eq_getElem?_getD, List.getElem?_eq_getElem hj, hXj]
      rfl)).elim)
    have hXg : X.getD j2 default = g := by
      have h8 : (ps.getD j2 default) = p := parKeys_inj hk2
      rw [hpg j2 (by omega)] at h8
      have h9 : (X.getD j default).p = p := by rw [List.getD_eq_getElem?_getD, List.getElem?_eq_getElem hj, hXj]; exact hgp
      obtain rfl := gKey_inj hG.nodup (i := j2) (j := j) (by omega) hj (by rw [h8, h9])
      rw [List.getD_eq_getElem?_getD, List.getElem?_eq_getElem hj, hXj]
      rfl
    have hj2X : j2 < X.length := by omega
    have hX2 : X[j2]? = some g := by rw [← hXg, List.getD_eq_getElem?_getD, List.getElem?_eq_getElem hj2X]; rfl
    have hpV : ¬ g.p ∈ L.take v := by
      rw [hgp, hp, hLv]
      intro hm
      obtain ⟨q, hq, he⟩ := List.getElem_of_mem hm
      rw [List.length_take] at hq
      rw [List.getElem_take] at he
      have hqL : q < L.length := by omega
      have := (List.getElem?_inj (j := v) hqL hLn).1 (by rw [List.getElem?_eq_getElem hqL, he, List.getElem?_eq_getElem hlt])
      omega
    have hTj : T[j2]? = some g.row := by rw [hTd, leftT, List.getElem?_map, hX2, Option.map_some, if_neg hpV]
    have hgv : gVal X j2 = .os 0 g.a g.ids.length g.cap := by unfold gVal Grp.val; rw [hXg]
    rw [hgv]
    simp -implicitDefEqProofs only [evr, id, seval, res_one, par_one, idn_one, par_0, par_1, resRow, res_ro, tl_get, tl_set, rExtract_tup, evn]
    (refine hk _ ?_; clear hk k; try show Sat _ _ _ _ _)
    refine Sat.pull j2 hTj ?_
    obtain ⟨T1, hT1⟩ : ∃ T1, T1 = T.set j2 Eng.Own.gone := ⟨_, rfl⟩
    rw [← hT1]
    simp only [Grp.row]
    have hgl : g.ids.length ≤ 512 := by
      have := hG.lens g.pair (List.mem_map.2 ⟨g, hgX, rfl⟩)
      have h9 : g.pair.2 = g.ids := rfl
      rw [h9] at this
      omega
    (repeat refine Sat.seq ?_)
    (refine Sat.region_k fun k hk => ?_; simp -implicitDefEqProofs only [evr, id, seval, res_one, par_one, idn_one, par_0, par_1, resRow, res_ro, tl_get, tl_set, rExtract_tup, evn])
    refine wcall_mut 0 (idnSortC F idnLt_swo idnCmp1 g.a g.cap g.ids.length (by omega) g.ids.toArray (by simp)) rfl rfl ?_
    rintro r o1 ⟨rfl, d', hd', ⟨hperm, hsort⟩, rfl⟩
    simp -implicitDefEqProofs only [evr, id, seval, res_one, par_one, idn_one, par_0, par_1, resRow, res_ro, tl_get, tl_set, rExtract_tup, evn]
    (refine hk _ ?_; clear hk k; try show Sat _ _ _ _ _)
    (repeat refine Sat.seq ?_)
    have hcl : (compactN d'.toList).length ≤ 512 := by
      have := compactN_le d'.toList
      simp only [Array.length_toList] at this
      omega
    have hpv : L.toArray[v]! = p := hp.symm
    refine Sat.atF (ι := Option Addr × Nat) (fun z => ⟨71, [(50, .i .i64 v), (11, .os 1 z.1 (es.length + 1) z.2), (49, .i .i64 L.length), (48, .sl pa L.length cap4 2 (parRd L.toArray)), (5, .rm mb false [.u32, .u32] ps.length (fun i => (ps.getD i default).keys) (gVal X))], .row g.a 30 (compactN d'.toList).length g.cap 3 (idnRd (compactN d'.toList).toArray) :: .row z.1 28 (es.length + 1) z.2 4 (rdCat es.length (evRd es) (rdL [.i .i64 1, .i .u32 p.a, .i .u32 p.b, .os 0 g.a (compactN d'.toList).length g.cap] 4)) :: T1⟩) (fun _ => True) ?_ ?_
    · (refine Sat.region_tree (.keep [0, 1, 3, 5] [] (.alt 2 (.alt 4 (.one 6 (.one 7 (.one 8 (.one 9 (.one 10 .done))))) (.alt 6 (.one 4 (.one 7 (.one 8 (.one 9 (.one 10 .done))))) .none)) (.alt 4 (.alt 2 (.one 6 (.one 7 (.one 8 (.one 9 (.one 10 .done))))) (.alt 6 (.one 2 (.one 7 (.one 8 (.one 9 (.one 10 .done))))) .none)) (.alt 6 (.alt 2 (.one 4 (.one 7 (.one 8 (.one 9 (.one 10 .done))))) (.alt 4 (.one 2 (.one 7 (.one 8 (.one 9 (.one 10 .done))))) .none)) .none)))) (by kernel_rfl) (by kernel_rfl) (fun _ _ h => h) fun k hk => ?_; simp only [WOT, List.map_cons, List.map_nil, List.getD_cons_zero, List.getD_cons_succ]; simp -implicitDefEqProofs only [evr, id, seval, res_one, par_one, idn_one, par_0, par_1, resRow, res_ro, tl_get, tl_set, rExtract_tup, WOT, evn])
      repeat' (first
        | (with_reducible refine And.intro ?_ ?_)
        | omega
        | (refine wcall_mut 0 (compactNC F g.a g.cap g.ids.length (by omega) d' hd') rfl rfl ?_
           rintro r o1 ⟨rfl, rfl⟩
           simp only [idnRow, hpv, evr, id, seval, res_one, par_one, idn_one, par_0, par_1, List.append_nil, Int.toNat_zero, Nat.sub_self, Int.reduceToNat, resRow, res_ro, tl_get, tl_set, rExtract_tup])
        | (unfold maxLen; omega)
        | (refine fun (a3 : Option Addr) (c3 : Nat) => hk _ ?_
           simp only [thenK]
           refine ⟨(a3, c3), trivial, ?_⟩
           simp -implicitDefEqProofs only [evr, id, seval, res_one, par_one, idn_one, par_0, par_1, resRow, res_ro, tl_get, tl_set, rExtract_tup, evl, evn]
           exact ownLe_app _ _)
        | (with_reducible intro _))
    rintro ⟨a3, c3⟩ -
    simp only [thenK, blockK, reduceIte]
    obtain ⟨e, he⟩ : ∃ e : Evd, e = ⟨1, p.a, p.b, compactN d'.toList, g.a, g.cap⟩ := ⟨_, rfl⟩
    have hev1 : ∀ q, q < es.length → (es ++ [e]).getD q default = es.getD q default := fun q hq => by
      rw [List.getD_eq_getElem?_getD, List.getElem?_append_left hq, List.getD_eq_getElem?_getD]
    have hev2 : (es ++ [e]).getD es.length default = e := by rw [List.getD_eq_getElem?_getD, List.getElem?_concat_length]; rfl
    refine Sat.settleCell 1 0 (evRd (es ++ [e])) rfl rfl (by decide) (fun i j hi hj => ?_) ?_
    · by_cases hlt2 : i < es.length
      · left
        have e9 : rdCat es.length (evRd es) (rdL [.i .i64 1, .i .u32 p.a, .i .u32 p.b, .os 0 g.a (compactN d'.toList).length g.cap] 4) i j = evRd es i j := by unfold rdCat; rw [if_pos hlt2]
        rw [e9]
        unfold evRd
        rw [hev1 i hlt2]
        exact sim_refl _
      · obtain rfl : i = es.length := by omega
        have e9 : rdCat es.length (evRd es) (rdL [.i .i64 1, .i .u32 p.a, .i .u32 p.b, .os 0 g.a (compactN d'.toList).length g.cap] 4) es.length j = [.i .i64 1, .i .u32 p.a, .i .u32 p.b, .os 0 g.a (compactN d'.toList).length g.cap].getD j default := by
          unfold rdCat
          rw [if_neg (Nat.lt_irrefl _), Nat.sub_self]
          unfold rdL
          rw [Nat.zero_mul, Nat.zero_add]
        rw [e9]
        unfold evRd
        rw [hev2, he]
        rcases (show j = 0 ∨ j = 1 ∨ j = 2 ∨ j = 3 by omega) with rfl | rfl | rfl | rfl
        · exact .inl (sim_refl _)
        · exact .inl (sim_refl _)
        · exact .inl (sim_refl _)
        · exact .inr ⟨rfl, rfl⟩
    simp only [List.set_cons_succ, List.set_cons_zero]
    have hLvp : L[v] = p := by rw [← hLv, hpv]
    have htk : L.take (v + 1) = L.take v ++ [p] := by rw [List.take_succ_eq_append_getElem hlt, hLvp]
    have hT2 : T1 = leftT X (L.take (v + 1)) := by
      rw [hT1, hTd, htk]
      apply List.ext_getElem?
      intro q
      unfold leftT
      rw [List.getElem?_set, List.getElem?_map, List.getElem?_map, List.length_map]
      by_cases hq : j2 = q
      · subst hq
        rw [if_pos rfl, if_pos hj2X, hX2, Option.map_some, if_pos (by rw [hgp]; simp)]
      · rw [if_neg hq]
        cases hXq : X[q]? with
        | none => rfl
        | some x =>
          have hqX := (List.getElem?_eq_some_iff.1 hXq).1
          have hne : x.p ≠ p := fun e9 => hq (gKey_inj hG.nodup hj2X hqX (by
            rw [hXg, List.getD_eq_getElem?_getD, hXq]
            show g.p = x.p
            rw [hgp, e9]))
          simp only [Option.map_some, List.mem_append, List.mem_singleton, hne, or_false]
    refine Sat.leOwn (own' := .gone :: .row a3 28 (es ++ [e]).length c3 4 (evRd (es ++ [e])) :: leftT X (L.take (v + 1))) ⟨trivial, ⟨rfl, rfl, by simp, rfl, rfl, fun _ _ _ _ => rfl⟩, by rw [← hT2]; exact ownLe_refl _⟩ ?_
    refine Sat.region_k fun k hk => ?_
    simp -implicitDefEqProofs only [evr, id, seval, res_one, par_one, idn_one, par_0, par_1, resRow, res_ro, tl_get, tl_set, rExtract_tup, e1, evn]
    refine hk _ ?_
    simp only [thenK, blockK]
    refine ⟨(v + 1, es ++ [e], a3, c3), ⟨by simp only; omega, by simp only [List.length_append, List.length_singleton]; omega, fun q hq => ?_⟩, by simp only; omega, ?_⟩
    · by_cases hq2 : q < v
      · simp only
        rw [hev1 q (by omega)]
        exact hes q hq2
      · obtain rfl : q = v := by simp only at hq; omega
        simp only
        have h8 : (es ++ [e]).getD q default = e := by rw [← hel]; exact hev2
        have h9 : L.getD q default = p := by rw [List.getD_eq_getElem?_getD, List.getElem?_eq_getElem hlt, hLvp]; rfl
        rw [h8, h9, he]
        obtain ⟨s1, s2⟩ := idn_sorted hd' hperm hsort
        refine ⟨rfl, rfl, rfl, compactN_asc _ s2, fun d => (compactN_mem _ d).trans ((s1.mem_iff).trans ?_), hcl⟩
        have hgG : (p, g.ids) ∈ X.map Grp.pair := List.mem_map.2 ⟨g, hgX, by unfold Grp.pair; rw [hgp]⟩
        exact ⟨fun hd9 => ⟨_, hgG, hd9⟩, fun ⟨l, hl9, hd9⟩ => by rw [nodup_fst hG.nodup hgG hl9]; exact hd9⟩
    · have e7 : (es ++ [e]).length = es.length + 1 := by simp
      simp only [e7]
      simp -implicitDefEqProofs only [evr, id, seval, res_one, par_one, idn_one, par_0, par_1, resRow, res_ro, tl_get, tl_set, rExtract_tup, evl, evn]
      exact ownLe_refl _
  refine Sat.exit ?_
  simp only [thenK, blockK, reduceIte]
  (repeat refine Sat.seq ?_)
  (refine Sat.region_k fun k hk => ?_; simp -implicitDefEqProofs only [evr, id, seval, res_one, par_one, idn_one, par_0, par_1, resRow, res_ro, tl_get, tl_set, rExtract_tup, evn]; refine hk _ ?_; clear hk k; try show Sat _ _ _ _ _)
  refine Sat.ret ?_
  simp only [Tryz.results11, evr, id, seval, res_one, par_one, idn_one, par_0, par_1, List.append_nil, Int.toNat_zero, Nat.sub_self, Int.reduceToNat, resRow, res_ro, tl_get, tl_set, rExtract_tup]
  obtain rfl : v = L.length := by simp only [decide_eq_false_iff_not] at h4; omega
  refine .inr ⟨h, _, _, es, pairsOf_mk hord hyl hG (by rw [← hps]; exact hL) hel hes, rfl⟩
end Go.Proofs.YtepbdjpcoleegaaGreat
